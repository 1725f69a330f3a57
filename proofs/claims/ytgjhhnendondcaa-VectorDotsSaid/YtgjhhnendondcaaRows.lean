/-
  No cell of these rows narrows 'for every input' (looked for: loops, veiled, ifaces, maps, wideKeys, modest, calm, conditions, laid).
  DERIVED. THE GIVEN ROWS OF THIS SEAT. 8 by the template 'for every input the law returns true; each argument reads behind the call as it read before'; 0 by the template 'total and deterministic' (their statements: YtgjhhnendondcaaTotals.lean).
  GIVEN WITH THE SEED: the statements are not yours to turn. If you find one false, say at which input.
  Laid BY PROGRAM, IN A SANDBOX (cutbox-rows.mjs): the forced cells as the released guide's own fill.sh prints them over the translation 5b676c0fd9ba5a0b… (all of the seat's roots in one cut). By AI agents, Wed Nov 11 2026. No macro, syntax, notation, axiom, sorry.
-/
import Derived.Test.YtgjhhnendondcaaChecked
import GoSem.Claim
import GoSem.ClaimJoined
import GoSem.ClaimMapViews
import Derived.JoinedTies
import Derived.KernelRfl
namespace Go.Proofs.Ytgjhhnendondcaa
/- THE CELL 'sum', in the pinned program and in every row, IS THE sha256 OF THE DUMP (.gsa) THAT YtgjhhnendondcaaProg.lean LOADS. Nothing in Lean hashes anything: it is a label: what it is worth is what the hold of that sum in a sandbox is worth. -/
noncomputable def Try.pinned : Pinned := { name := "ytgjhhnendondcaa", sum := "5b676c0fd9ba5a0b4ce346579764ae21ba9c301dea08aeb39f6f02f9fc695889", checked := Try.checked }
namespace Rows
def none {H : Type} : Left H := { results := [], args := [] }

/-- 'homesteadlaw05.VectorAsks': WHATEVER THE INPUT: true; the input reads as it did. -/
def vectorAsksSpec : ChangeSpec := { name := "vectorAsks", fn := fun _ => fun
  | [d1, d2, d3] => { results := [.lit (.bool true)], args := [d1, d2, d3] }
  | _ => none }
def vectorAsksRow : OpenClaim := { program := "ytgjhhnendondcaa", sum := "5b676c0fd9ba5a0b4ce346579764ae21ba9c301dea08aeb39f6f02f9fc695889", func := "homestead/homesteadlaw05.VectorAsks", spec := "vectorAsks", unfollowed := true, recurses := true, apart := false }
def VectorAsksSaid : Prop := vectorAsksRow.holds Try.pinned (OpenSpec.ofChange vectorAsksSpec)

/-- ITS FALSE NEIGHBOUR: 'it returns false'. Refute it at one input. -/
def vectorAsksWrong : ChangeSpec := { name := "vectorAsks", fn := fun _ => fun
  | [d1, d2, d3] => { results := [.lit (.bool false)], args := [d1, d2, d3] }
  | _ => none }
def VectorAsksWrongFalsely : Prop := vectorAsksRow.holds Try.pinned (OpenSpec.ofChange vectorAsksWrong)

/-- 'homesteadlaw05.VectorMakes': WHATEVER THE INPUT: true; the input reads as it did. -/
def vectorMakesSpec : ChangeSpec := { name := "vectorMakes", fn := fun _ => fun
  | [d1, d2, d3] => { results := [.lit (.bool true)], args := [d1, d2, d3] }
  | _ => none }
def vectorMakesRow : OpenClaim := { program := "ytgjhhnendondcaa", sum := "5b676c0fd9ba5a0b4ce346579764ae21ba9c301dea08aeb39f6f02f9fc695889", func := "homestead/homesteadlaw05.VectorMakes", spec := "vectorMakes", unfollowed := true, recurses := true, apart := false }
def VectorMakesSaid : Prop := vectorMakesRow.holds Try.pinned (OpenSpec.ofChange vectorMakesSpec)

/-- ITS FALSE NEIGHBOUR: 'it returns false'. Refute it at one input. -/
def vectorMakesWrong : ChangeSpec := { name := "vectorMakes", fn := fun _ => fun
  | [d1, d2, d3] => { results := [.lit (.bool false)], args := [d1, d2, d3] }
  | _ => none }
def VectorMakesWrongFalsely : Prop := vectorMakesRow.holds Try.pinned (OpenSpec.ofChange vectorMakesWrong)

/-- 'homesteadlaw05.VectorLacks': WHATEVER THE INPUT: true; the input reads as it did. -/
def vectorLacksSpec : ChangeSpec := { name := "vectorLacks", fn := fun _ => fun
  | [d1, d2] => { results := [.lit (.bool true)], args := [d1, d2] }
  | _ => none }
def vectorLacksRow : OpenClaim := { program := "ytgjhhnendondcaa", sum := "5b676c0fd9ba5a0b4ce346579764ae21ba9c301dea08aeb39f6f02f9fc695889", func := "homestead/homesteadlaw05.VectorLacks", spec := "vectorLacks", unfollowed := true, recurses := true, apart := false }
def VectorLacksSaid : Prop := vectorLacksRow.holds Try.pinned (OpenSpec.ofChange vectorLacksSpec)

/-- ITS FALSE NEIGHBOUR: 'it returns false'. Refute it at one input. -/
def vectorLacksWrong : ChangeSpec := { name := "vectorLacks", fn := fun _ => fun
  | [d1, d2] => { results := [.lit (.bool false)], args := [d1, d2] }
  | _ => none }
def VectorLacksWrongFalsely : Prop := vectorLacksRow.holds Try.pinned (OpenSpec.ofChange vectorLacksWrong)

/-- 'homesteadlaw05.VectorLattice': WHATEVER THE INPUT: true; the input reads as it did. -/
def vectorLatticeSpec : ChangeSpec := { name := "vectorLattice", fn := fun _ => fun
  | [d1, d2, d3] => { results := [.lit (.bool true)], args := [d1, d2, d3] }
  | _ => none }
def vectorLatticeRow : OpenClaim := { program := "ytgjhhnendondcaa", sum := "5b676c0fd9ba5a0b4ce346579764ae21ba9c301dea08aeb39f6f02f9fc695889", func := "homestead/homesteadlaw05.VectorLattice", spec := "vectorLattice", unfollowed := true, recurses := true, apart := false }
def VectorLatticeSaid : Prop := vectorLatticeRow.holds Try.pinned (OpenSpec.ofChange vectorLatticeSpec)

/-- ITS FALSE NEIGHBOUR: 'it returns false'. Refute it at one input. -/
def vectorLatticeWrong : ChangeSpec := { name := "vectorLattice", fn := fun _ => fun
  | [d1, d2, d3] => { results := [.lit (.bool false)], args := [d1, d2, d3] }
  | _ => none }
def VectorLatticeWrongFalsely : Prop := vectorLatticeRow.holds Try.pinned (OpenSpec.ofChange vectorLatticeWrong)

/-- 'homesteadlaw05.VectorOrder': WHATEVER THE INPUT: true; the input reads as it did. -/
def vectorOrderSpec : ChangeSpec := { name := "vectorOrder", fn := fun _ => fun
  | [d1, d2, d3] => { results := [.lit (.bool true)], args := [d1, d2, d3] }
  | _ => none }
def vectorOrderRow : OpenClaim := { program := "ytgjhhnendondcaa", sum := "5b676c0fd9ba5a0b4ce346579764ae21ba9c301dea08aeb39f6f02f9fc695889", func := "homestead/homesteadlaw05.VectorOrder", spec := "vectorOrder", unfollowed := true, recurses := true, apart := false }
def VectorOrderSaid : Prop := vectorOrderRow.holds Try.pinned (OpenSpec.ofChange vectorOrderSpec)

/-- ITS FALSE NEIGHBOUR: 'it returns false'. Refute it at one input. -/
def vectorOrderWrong : ChangeSpec := { name := "vectorOrder", fn := fun _ => fun
  | [d1, d2, d3] => { results := [.lit (.bool false)], args := [d1, d2, d3] }
  | _ => none }
def VectorOrderWrongFalsely : Prop := vectorOrderRow.holds Try.pinned (OpenSpec.ofChange vectorOrderWrong)

/-- 'homesteadlaw05.VectorDots': WHATEVER THE INPUT: true; the input reads as it did. -/
def vectorDotsSpec : ChangeSpec := { name := "vectorDots", fn := fun _ => fun
  | [d1, d2, d3] => { results := [.lit (.bool true)], args := [d1, d2, d3] }
  | _ => none }
def vectorDotsRow : OpenClaim := { program := "ytgjhhnendondcaa", sum := "5b676c0fd9ba5a0b4ce346579764ae21ba9c301dea08aeb39f6f02f9fc695889", func := "homestead/homesteadlaw05.VectorDots", spec := "vectorDots", unfollowed := true, recurses := true, apart := false }
def VectorDotsSaid : Prop := vectorDotsRow.holds Try.pinned (OpenSpec.ofChange vectorDotsSpec)

/-- ITS FALSE NEIGHBOUR: 'it returns false'. Refute it at one input. -/
def vectorDotsWrong : ChangeSpec := { name := "vectorDots", fn := fun _ => fun
  | [d1, d2, d3] => { results := [.lit (.bool false)], args := [d1, d2, d3] }
  | _ => none }
def VectorDotsWrongFalsely : Prop := vectorDotsRow.holds Try.pinned (OpenSpec.ofChange vectorDotsWrong)

/-- 'homesteadlaw05.VectorAll': WHATEVER THE INPUT: true; the input reads as it did. -/
def vectorAllSpec : ChangeSpec := { name := "vectorAll", fn := fun _ => fun
  | [d1, d2] => { results := [.lit (.bool true)], args := [d1, d2] }
  | _ => none }
def vectorAllRow : OpenClaim := { program := "ytgjhhnendondcaa", sum := "5b676c0fd9ba5a0b4ce346579764ae21ba9c301dea08aeb39f6f02f9fc695889", func := "homestead/homesteadlaw05.VectorAll", spec := "vectorAll", unfollowed := true, recurses := true, apart := false }
def VectorAllSaid : Prop := vectorAllRow.holds Try.pinned (OpenSpec.ofChange vectorAllSpec)

/-- ITS FALSE NEIGHBOUR: 'it returns false'. Refute it at one input. -/
def vectorAllWrong : ChangeSpec := { name := "vectorAll", fn := fun _ => fun
  | [d1, d2] => { results := [.lit (.bool false)], args := [d1, d2] }
  | _ => none }
def VectorAllWrongFalsely : Prop := vectorAllRow.holds Try.pinned (OpenSpec.ofChange vectorAllWrong)

/-- 'homesteadlaw05.VectorSets': WHATEVER THE INPUT: true; the input reads as it did. -/
def vectorSetsSpec : ChangeSpec := { name := "vectorSets", fn := fun _ => fun
  | [d1, d2, d3] => { results := [.lit (.bool true)], args := [d1, d2, d3] }
  | _ => none }
def vectorSetsRow : OpenClaim := { program := "ytgjhhnendondcaa", sum := "5b676c0fd9ba5a0b4ce346579764ae21ba9c301dea08aeb39f6f02f9fc695889", func := "homestead/homesteadlaw05.VectorSets", spec := "vectorSets", unfollowed := true, recurses := true, apart := false }
def VectorSetsSaid : Prop := vectorSetsRow.holds Try.pinned (OpenSpec.ofChange vectorSetsSpec)

/-- ITS FALSE NEIGHBOUR: 'it returns false'. Refute it at one input. -/
def vectorSetsWrong : ChangeSpec := { name := "vectorSets", fn := fun _ => fun
  | [d1, d2, d3] => { results := [.lit (.bool false)], args := [d1, d2, d3] }
  | _ => none }
def VectorSetsWrongFalsely : Prop := vectorSetsRow.holds Try.pinned (OpenSpec.ofChange vectorSetsWrong)

/- THE SECOND FORM. 'bulk': how many values and letters a reading holds, each counted each time it is reached (what is shared counts as often as it is met; a slice's spare places count too). A statement '..UptoSaid' is the law's where the arguments, and the package variables that the reading takes, are together of bulk at most 1048576: NARROWER than '..Said'. Prove '..Said' where nothing that the law and all that it calls make is longer than what came in: it says more and counts as full. Else prove '..UptoSaid'. A law counts once. -/
mutual
def uptoBulk {H : Type} : DataW H → Nat
  | .lit (.string bytes) => bytes.length + 1
  | .lit _ => 1
  | .nil => 1
  | .ptr d => uptoBulk d + 1
  | .slice elems spare => uptoBulkAll elems + uptoBulkAll spare + 1
  | .agg parts => uptoBulkAll parts + 1
  | .iface _ d => uptoBulk d + 1
  | .map entries => uptoBulkEntries entries + 1
  | .held _ => 1
def uptoBulkAll {H : Type} : List (DataW H) → Nat
  | [] => 0
  | d :: r => uptoBulk d + uptoBulkAll r
def uptoBulkEntries {H : Type} : List (Lit × DataW H) → Nat
  | [] => 0
  | x :: r => uptoBulkEntry x + uptoBulkEntries r
def uptoBulkEntry {H : Type} : Lit × DataW H → Nat
  | (.string bytes, d) => bytes.length + uptoBulk d + 1
  | (_, d) => uptoBulk d + 1
 end
def uptoSmall : (H : Type) → List (DataW H) → Bool := fun _ ds => decide (uptoBulkAll ds ≤ 1048576)
def OpenSpec.upto (s : _root_.Go.ChangeSpec) : _root_.Go.OpenSpec := { _root_.Go.OpenSpec.ofChange s with cond := some uptoSmall }

/-- 'homesteadlaw05.VectorAsks', WHERE WHAT IT READS IS OF BULK AT MOST 1048576: true; the input reads as it did. -/
def vectorAsksUptoRow : OpenClaim := { program := "ytgjhhnendondcaa", sum := "5b676c0fd9ba5a0b4ce346579764ae21ba9c301dea08aeb39f6f02f9fc695889", func := "homestead/homesteadlaw05.VectorAsks", spec := "vectorAsks", unfollowed := true, recurses := true, apart := false, narrowed := true }
def VectorAsksUptoSaid : Prop := vectorAsksUptoRow.holds Try.pinned (OpenSpec.upto vectorAsksSpec)

/-- 'homesteadlaw05.VectorMakes', WHERE WHAT IT READS IS OF BULK AT MOST 1048576: true; the input reads as it did. -/
def vectorMakesUptoRow : OpenClaim := { program := "ytgjhhnendondcaa", sum := "5b676c0fd9ba5a0b4ce346579764ae21ba9c301dea08aeb39f6f02f9fc695889", func := "homestead/homesteadlaw05.VectorMakes", spec := "vectorMakes", unfollowed := true, recurses := true, apart := false, narrowed := true }
def VectorMakesUptoSaid : Prop := vectorMakesUptoRow.holds Try.pinned (OpenSpec.upto vectorMakesSpec)

/-- 'homesteadlaw05.VectorLacks', WHERE WHAT IT READS IS OF BULK AT MOST 1048576: true; the input reads as it did. -/
def vectorLacksUptoRow : OpenClaim := { program := "ytgjhhnendondcaa", sum := "5b676c0fd9ba5a0b4ce346579764ae21ba9c301dea08aeb39f6f02f9fc695889", func := "homestead/homesteadlaw05.VectorLacks", spec := "vectorLacks", unfollowed := true, recurses := true, apart := false, narrowed := true }
def VectorLacksUptoSaid : Prop := vectorLacksUptoRow.holds Try.pinned (OpenSpec.upto vectorLacksSpec)

/-- 'homesteadlaw05.VectorLattice', WHERE WHAT IT READS IS OF BULK AT MOST 1048576: true; the input reads as it did. -/
def vectorLatticeUptoRow : OpenClaim := { program := "ytgjhhnendondcaa", sum := "5b676c0fd9ba5a0b4ce346579764ae21ba9c301dea08aeb39f6f02f9fc695889", func := "homestead/homesteadlaw05.VectorLattice", spec := "vectorLattice", unfollowed := true, recurses := true, apart := false, narrowed := true }
def VectorLatticeUptoSaid : Prop := vectorLatticeUptoRow.holds Try.pinned (OpenSpec.upto vectorLatticeSpec)

/-- 'homesteadlaw05.VectorOrder', WHERE WHAT IT READS IS OF BULK AT MOST 1048576: true; the input reads as it did. -/
def vectorOrderUptoRow : OpenClaim := { program := "ytgjhhnendondcaa", sum := "5b676c0fd9ba5a0b4ce346579764ae21ba9c301dea08aeb39f6f02f9fc695889", func := "homestead/homesteadlaw05.VectorOrder", spec := "vectorOrder", unfollowed := true, recurses := true, apart := false, narrowed := true }
def VectorOrderUptoSaid : Prop := vectorOrderUptoRow.holds Try.pinned (OpenSpec.upto vectorOrderSpec)

/-- 'homesteadlaw05.VectorDots', WHERE WHAT IT READS IS OF BULK AT MOST 1048576: true; the input reads as it did. -/
def vectorDotsUptoRow : OpenClaim := { program := "ytgjhhnendondcaa", sum := "5b676c0fd9ba5a0b4ce346579764ae21ba9c301dea08aeb39f6f02f9fc695889", func := "homestead/homesteadlaw05.VectorDots", spec := "vectorDots", unfollowed := true, recurses := true, apart := false, narrowed := true }
def VectorDotsUptoSaid : Prop := vectorDotsUptoRow.holds Try.pinned (OpenSpec.upto vectorDotsSpec)

/-- 'homesteadlaw05.VectorAll', WHERE WHAT IT READS IS OF BULK AT MOST 1048576: true; the input reads as it did. -/
def vectorAllUptoRow : OpenClaim := { program := "ytgjhhnendondcaa", sum := "5b676c0fd9ba5a0b4ce346579764ae21ba9c301dea08aeb39f6f02f9fc695889", func := "homestead/homesteadlaw05.VectorAll", spec := "vectorAll", unfollowed := true, recurses := true, apart := false, narrowed := true }
def VectorAllUptoSaid : Prop := vectorAllUptoRow.holds Try.pinned (OpenSpec.upto vectorAllSpec)

/-- 'homesteadlaw05.VectorSets', WHERE WHAT IT READS IS OF BULK AT MOST 1048576: true; the input reads as it did. -/
def vectorSetsUptoRow : OpenClaim := { program := "ytgjhhnendondcaa", sum := "5b676c0fd9ba5a0b4ce346579764ae21ba9c301dea08aeb39f6f02f9fc695889", func := "homestead/homesteadlaw05.VectorSets", spec := "vectorSets", unfollowed := true, recurses := true, apart := false, narrowed := true }
def VectorSetsUptoSaid : Prop := vectorSetsUptoRow.holds Try.pinned (OpenSpec.upto vectorSetsSpec)

end Rows
end Go.Proofs.Ytgjhhnendondcaa

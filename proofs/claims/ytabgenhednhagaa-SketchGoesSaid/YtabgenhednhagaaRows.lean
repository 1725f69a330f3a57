/-
  No cell of these rows narrows 'for every input' (looked for: loops, veiled, ifaces, maps, wideKeys, modest, calm, conditions, laid).
  DERIVED. THE GIVEN ROWS OF THIS SEAT. 7 by the template 'for every input the law returns true; each argument reads behind the call as it read before'; 0 by the template 'total and deterministic' (their statements: YtabgenhednhagaaTotals.lean).
  GIVEN WITH THE SEED: the statements are not yours to turn. If you find one false, say at which input.
  Laid BY PROGRAM, IN A SANDBOX (cutbox-rows.mjs): the forced cells as the released guide's own fill.sh prints them over the translation e88002e13788b377… (all of the seat's roots in one cut). By AI agents, Wed Nov 11 2026. No macro, syntax, notation, axiom, sorry.
-/
import Derived.Test.YtabgenhednhagaaChecked
import GoSem.Claim
import GoSem.ClaimJoined
import GoSem.ClaimMapViews
import Derived.JoinedTies
import Derived.KernelRfl
namespace Go.Proofs.Ytabgenhednhagaa
/- THE CELL 'sum', in the pinned program and in every row, IS THE sha256 OF THE DUMP (.gsa) THAT YtabgenhednhagaaProg.lean LOADS. Nothing in Lean hashes anything: it is a label: what it is worth is what the hold of that sum in a sandbox is worth. -/
noncomputable def Try.pinned : Pinned := { name := "ytabgenhednhagaa", sum := "e88002e13788b377952785cbfe1f430e040f6a7344022be3c0a9bdc7e96795c3", checked := Try.checked }
namespace Rows
def none {H : Type} : Left H := { results := [], args := [] }

/-- 'homesteadlaw34.SketchTells': WHATEVER THE INPUT: true; the input reads as it did. -/
def sketchTellsSpec : ChangeSpec := { name := "sketchTells", fn := fun _ => fun
  | [d1, d2, d3, d4, d5] => { results := [.lit (.bool true)], args := [d1, d2, d3, d4, d5] }
  | _ => none }
def sketchTellsRow : OpenClaim := { program := "ytabgenhednhagaa", sum := "e88002e13788b377952785cbfe1f430e040f6a7344022be3c0a9bdc7e96795c3", func := "homestead/homesteadlaw34.SketchTells", spec := "sketchTells", unfollowed := true, recurses := true, apart := false }
def SketchTellsSaid : Prop := sketchTellsRow.holds Try.pinned (OpenSpec.ofChange sketchTellsSpec)

/-- ITS FALSE NEIGHBOUR: 'it returns false'. Refute it at one input. -/
def sketchTellsWrong : ChangeSpec := { name := "sketchTells", fn := fun _ => fun
  | [d1, d2, d3, d4, d5] => { results := [.lit (.bool false)], args := [d1, d2, d3, d4, d5] }
  | _ => none }
def SketchTellsWrongFalsely : Prop := sketchTellsRow.holds Try.pinned (OpenSpec.ofChange sketchTellsWrong)

/-- 'homesteadlaw34.SketchGoes': WHATEVER THE INPUT: true; the input reads as it did. -/
def sketchGoesSpec : ChangeSpec := { name := "sketchGoes", fn := fun _ => fun
  | [d1, d2, d3, d4] => { results := [.lit (.bool true)], args := [d1, d2, d3, d4] }
  | _ => none }
def sketchGoesRow : OpenClaim := { program := "ytabgenhednhagaa", sum := "e88002e13788b377952785cbfe1f430e040f6a7344022be3c0a9bdc7e96795c3", func := "homestead/homesteadlaw34.SketchGoes", spec := "sketchGoes", unfollowed := true, recurses := true, apart := false }
def SketchGoesSaid : Prop := sketchGoesRow.holds Try.pinned (OpenSpec.ofChange sketchGoesSpec)

/-- ITS FALSE NEIGHBOUR: 'it returns false'. Refute it at one input. -/
def sketchGoesWrong : ChangeSpec := { name := "sketchGoes", fn := fun _ => fun
  | [d1, d2, d3, d4] => { results := [.lit (.bool false)], args := [d1, d2, d3, d4] }
  | _ => none }
def SketchGoesWrongFalsely : Prop := sketchGoesRow.holds Try.pinned (OpenSpec.ofChange sketchGoesWrong)

/-- 'homesteadlaw34.SketchSums': WHATEVER THE INPUT: true; the input reads as it did. -/
def sketchSumsSpec : ChangeSpec := { name := "sketchSums", fn := fun _ => fun
  | [d] => { results := [.lit (.bool true)], args := [d] }
  | _ => none }
def sketchSumsRow : OpenClaim := { program := "ytabgenhednhagaa", sum := "e88002e13788b377952785cbfe1f430e040f6a7344022be3c0a9bdc7e96795c3", func := "homestead/homesteadlaw34.SketchSums", spec := "sketchSums", unfollowed := true, recurses := true, apart := false }
def SketchSumsSaid : Prop := sketchSumsRow.holds Try.pinned (OpenSpec.ofChange sketchSumsSpec)

/-- ITS FALSE NEIGHBOUR: 'it returns false'. Refute it at one input. -/
def sketchSumsWrong : ChangeSpec := { name := "sketchSums", fn := fun _ => fun
  | [d] => { results := [.lit (.bool false)], args := [d] }
  | _ => none }
def SketchSumsWrongFalsely : Prop := sketchSumsRow.holds Try.pinned (OpenSpec.ofChange sketchSumsWrong)

/-- 'homesteadlaw34.SketchOne': WHATEVER THE INPUT: true; the input reads as it did. -/
def sketchOneSpec : ChangeSpec := { name := "sketchOne", fn := fun _ => fun
  | [d1, d2, d3, d4] => { results := [.lit (.bool true)], args := [d1, d2, d3, d4] }
  | _ => none }
def sketchOneRow : OpenClaim := { program := "ytabgenhednhagaa", sum := "e88002e13788b377952785cbfe1f430e040f6a7344022be3c0a9bdc7e96795c3", func := "homestead/homesteadlaw34.SketchOne", spec := "sketchOne", unfollowed := true, recurses := true, apart := false }
def SketchOneSaid : Prop := sketchOneRow.holds Try.pinned (OpenSpec.ofChange sketchOneSpec)

/-- ITS FALSE NEIGHBOUR: 'it returns false'. Refute it at one input. -/
def sketchOneWrong : ChangeSpec := { name := "sketchOne", fn := fun _ => fun
  | [d1, d2, d3, d4] => { results := [.lit (.bool false)], args := [d1, d2, d3, d4] }
  | _ => none }
def SketchOneWrongFalsely : Prop := sketchOneRow.holds Try.pinned (OpenSpec.ofChange sketchOneWrong)

/-- 'homesteadlaw34.SketchTurned': WHATEVER THE INPUT: true; the input reads as it did. -/
def sketchTurnedSpec : ChangeSpec := { name := "sketchTurned", fn := fun _ => fun
  | [d] => { results := [.lit (.bool true)], args := [d] }
  | _ => none }
def sketchTurnedRow : OpenClaim := { program := "ytabgenhednhagaa", sum := "e88002e13788b377952785cbfe1f430e040f6a7344022be3c0a9bdc7e96795c3", func := "homestead/homesteadlaw34.SketchTurned", spec := "sketchTurned", unfollowed := true, recurses := true, apart := false }
def SketchTurnedSaid : Prop := sketchTurnedRow.holds Try.pinned (OpenSpec.ofChange sketchTurnedSpec)

/-- ITS FALSE NEIGHBOUR: 'it returns false'. Refute it at one input. -/
def sketchTurnedWrong : ChangeSpec := { name := "sketchTurned", fn := fun _ => fun
  | [d] => { results := [.lit (.bool false)], args := [d] }
  | _ => none }
def SketchTurnedWrongFalsely : Prop := sketchTurnedRow.holds Try.pinned (OpenSpec.ofChange sketchTurnedWrong)

/-- 'homesteadlaw34.SketchPeels': WHATEVER THE INPUT: true; the input reads as it did. -/
def sketchPeelsSpec : ChangeSpec := { name := "sketchPeels", fn := fun _ => fun
  | [d1, d2] => { results := [.lit (.bool true)], args := [d1, d2] }
  | _ => none }
def sketchPeelsRow : OpenClaim := { program := "ytabgenhednhagaa", sum := "e88002e13788b377952785cbfe1f430e040f6a7344022be3c0a9bdc7e96795c3", func := "homestead/homesteadlaw34.SketchPeels", spec := "sketchPeels", unfollowed := true, recurses := true, apart := false }
def SketchPeelsSaid : Prop := sketchPeelsRow.holds Try.pinned (OpenSpec.ofChange sketchPeelsSpec)

/-- ITS FALSE NEIGHBOUR: 'it returns false'. Refute it at one input. -/
def sketchPeelsWrong : ChangeSpec := { name := "sketchPeels", fn := fun _ => fun
  | [d1, d2] => { results := [.lit (.bool false)], args := [d1, d2] }
  | _ => none }
def SketchPeelsWrongFalsely : Prop := sketchPeelsRow.holds Try.pinned (OpenSpec.ofChange sketchPeelsWrong)

/-- 'homesteadlaw34.SketchLinear': WHATEVER THE INPUT: true; the input reads as it did. -/
def sketchLinearSpec : ChangeSpec := { name := "sketchLinear", fn := fun _ => fun
  | [d1, d2, d3, d4, d5] => { results := [.lit (.bool true)], args := [d1, d2, d3, d4, d5] }
  | _ => none }
def sketchLinearRow : OpenClaim := { program := "ytabgenhednhagaa", sum := "e88002e13788b377952785cbfe1f430e040f6a7344022be3c0a9bdc7e96795c3", func := "homestead/homesteadlaw34.SketchLinear", spec := "sketchLinear", unfollowed := true, recurses := true, apart := false }
def SketchLinearSaid : Prop := sketchLinearRow.holds Try.pinned (OpenSpec.ofChange sketchLinearSpec)

/-- ITS FALSE NEIGHBOUR: 'it returns false'. Refute it at one input. -/
def sketchLinearWrong : ChangeSpec := { name := "sketchLinear", fn := fun _ => fun
  | [d1, d2, d3, d4, d5] => { results := [.lit (.bool false)], args := [d1, d2, d3, d4, d5] }
  | _ => none }
def SketchLinearWrongFalsely : Prop := sketchLinearRow.holds Try.pinned (OpenSpec.ofChange sketchLinearWrong)

/- THE SECOND FORM. 'bulk': how many values and letters a reading holds, each counted each time it is reached (what is shared counts as often as it is met; a slice's spare places count too). A statement '..UptoSaid' is the law's where the arguments, and the package variables that the reading takes, are together of bulk at most 1048576: NARROWER than '..Said'. Prove '..Said' where nothing that the law and all that it calls make is longer than what came in: it says more and counts as full. Else prove '..UptoSaid'. A law counts once. -/
mutual
def uptoBulk {H : Type} : DataW H → Nat
  | .lit (.string bytes) => bytes.length + 1
  | .lit _ => 1
  | .nil => 1
  | .ptr d => uptoBulk d + 1
  | .slice elems spare => uptoBulkAll elems + uptoBulkAll spare + 1
  | .agg parts => uptoBulkAll parts + 1
  | .iface _ d => uptoBulk d + 1
  | .map entries => uptoBulkEntries entries + 1
  | .held _ => 1
def uptoBulkAll {H : Type} : List (DataW H) → Nat
  | [] => 0
  | d :: r => uptoBulk d + uptoBulkAll r
def uptoBulkEntries {H : Type} : List (Lit × DataW H) → Nat
  | [] => 0
  | x :: r => uptoBulkEntry x + uptoBulkEntries r
def uptoBulkEntry {H : Type} : Lit × DataW H → Nat
  | (.string bytes, d) => bytes.length + uptoBulk d + 1
  | (_, d) => uptoBulk d + 1
 end
def uptoSmall : (H : Type) → List (DataW H) → Bool := fun _ ds => decide (uptoBulkAll ds ≤ 1048576)
def OpenSpec.upto (s : _root_.Go.ChangeSpec) : _root_.Go.OpenSpec := { _root_.Go.OpenSpec.ofChange s with cond := some uptoSmall }

/-- 'homesteadlaw34.SketchTells', WHERE WHAT IT READS IS OF BULK AT MOST 1048576: true; the input reads as it did. -/
def sketchTellsUptoRow : OpenClaim := { program := "ytabgenhednhagaa", sum := "e88002e13788b377952785cbfe1f430e040f6a7344022be3c0a9bdc7e96795c3", func := "homestead/homesteadlaw34.SketchTells", spec := "sketchTells", unfollowed := true, recurses := true, apart := false, narrowed := true }
def SketchTellsUptoSaid : Prop := sketchTellsUptoRow.holds Try.pinned (OpenSpec.upto sketchTellsSpec)

/-- 'homesteadlaw34.SketchGoes', WHERE WHAT IT READS IS OF BULK AT MOST 1048576: true; the input reads as it did. -/
def sketchGoesUptoRow : OpenClaim := { program := "ytabgenhednhagaa", sum := "e88002e13788b377952785cbfe1f430e040f6a7344022be3c0a9bdc7e96795c3", func := "homestead/homesteadlaw34.SketchGoes", spec := "sketchGoes", unfollowed := true, recurses := true, apart := false, narrowed := true }
def SketchGoesUptoSaid : Prop := sketchGoesUptoRow.holds Try.pinned (OpenSpec.upto sketchGoesSpec)

/-- 'homesteadlaw34.SketchSums', WHERE WHAT IT READS IS OF BULK AT MOST 1048576: true; the input reads as it did. -/
def sketchSumsUptoRow : OpenClaim := { program := "ytabgenhednhagaa", sum := "e88002e13788b377952785cbfe1f430e040f6a7344022be3c0a9bdc7e96795c3", func := "homestead/homesteadlaw34.SketchSums", spec := "sketchSums", unfollowed := true, recurses := true, apart := false, narrowed := true }
def SketchSumsUptoSaid : Prop := sketchSumsUptoRow.holds Try.pinned (OpenSpec.upto sketchSumsSpec)

/-- 'homesteadlaw34.SketchOne', WHERE WHAT IT READS IS OF BULK AT MOST 1048576: true; the input reads as it did. -/
def sketchOneUptoRow : OpenClaim := { program := "ytabgenhednhagaa", sum := "e88002e13788b377952785cbfe1f430e040f6a7344022be3c0a9bdc7e96795c3", func := "homestead/homesteadlaw34.SketchOne", spec := "sketchOne", unfollowed := true, recurses := true, apart := false, narrowed := true }
def SketchOneUptoSaid : Prop := sketchOneUptoRow.holds Try.pinned (OpenSpec.upto sketchOneSpec)

/-- 'homesteadlaw34.SketchTurned', WHERE WHAT IT READS IS OF BULK AT MOST 1048576: true; the input reads as it did. -/
def sketchTurnedUptoRow : OpenClaim := { program := "ytabgenhednhagaa", sum := "e88002e13788b377952785cbfe1f430e040f6a7344022be3c0a9bdc7e96795c3", func := "homestead/homesteadlaw34.SketchTurned", spec := "sketchTurned", unfollowed := true, recurses := true, apart := false, narrowed := true }
def SketchTurnedUptoSaid : Prop := sketchTurnedUptoRow.holds Try.pinned (OpenSpec.upto sketchTurnedSpec)

/-- 'homesteadlaw34.SketchPeels', WHERE WHAT IT READS IS OF BULK AT MOST 1048576: true; the input reads as it did. -/
def sketchPeelsUptoRow : OpenClaim := { program := "ytabgenhednhagaa", sum := "e88002e13788b377952785cbfe1f430e040f6a7344022be3c0a9bdc7e96795c3", func := "homestead/homesteadlaw34.SketchPeels", spec := "sketchPeels", unfollowed := true, recurses := true, apart := false, narrowed := true }
def SketchPeelsUptoSaid : Prop := sketchPeelsUptoRow.holds Try.pinned (OpenSpec.upto sketchPeelsSpec)

/-- 'homesteadlaw34.SketchLinear', WHERE WHAT IT READS IS OF BULK AT MOST 1048576: true; the input reads as it did. -/
def sketchLinearUptoRow : OpenClaim := { program := "ytabgenhednhagaa", sum := "e88002e13788b377952785cbfe1f430e040f6a7344022be3c0a9bdc7e96795c3", func := "homestead/homesteadlaw34.SketchLinear", spec := "sketchLinear", unfollowed := true, recurses := true, apart := false, narrowed := true }
def SketchLinearUptoSaid : Prop := sketchLinearUptoRow.holds Try.pinned (OpenSpec.upto sketchLinearSpec)

end Rows
end Go.Proofs.Ytabgenhednhagaa

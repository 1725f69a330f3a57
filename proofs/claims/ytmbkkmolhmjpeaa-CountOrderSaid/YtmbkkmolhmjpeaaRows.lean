/-
  No cell of these rows narrows 'for every input' (looked for: loops, veiled, ifaces, maps, wideKeys, modest, calm, conditions, laid).
  DERIVED. THE GIVEN ROWS OF THIS SEAT. 5 by the template 'for every input the law returns true; each argument reads behind the call as it read before'; 0 by the template 'total and deterministic' (their statements: YtmbkkmolhmjpeaaTotals.lean).
  GIVEN WITH THE SEED: the statements are not yours to turn. If you find one false, say at which input.
  Laid BY PROGRAM, IN A SANDBOX (cutbox-rows.mjs): the forced cells as the released guide's own fill.sh prints them over the translation a6835fe48d8c0d5c… (all of the seat's roots in one cut). By AI agents, Wed Nov 11 2026. No macro, syntax, notation, axiom, sorry.
-/
import Derived.Test.YtmbkkmolhmjpeaaChecked
import GoSem.Claim
import GoSem.ClaimJoined
import GoSem.ClaimMapViews
import Derived.JoinedTies
import Derived.KernelRfl
namespace Go.Proofs.Ytmbkkmolhmjpeaa
/- THE CELL 'sum', in the pinned program and in every row, IS THE sha256 OF THE DUMP (.gsa) THAT YtmbkkmolhmjpeaaProg.lean LOADS. Nothing in Lean hashes anything: it is a label: what it is worth is what the hold of that sum in a sandbox is worth. -/
noncomputable def Try.pinned : Pinned := { name := "ytmbkkmolhmjpeaa", sum := "a6835fe48d8c0d5c9d14a8ee68db5a90506b81e776400018d802d34dacfff7e1", checked := Try.checked }
namespace Rows
def none {H : Type} : Left H := { results := [], args := [] }

/-- 'homesteadlaw08.CountTells': WHATEVER THE INPUT: true; the input reads as it did. -/
def countTellsSpec : ChangeSpec := { name := "countTells", fn := fun _ => fun
  | [d1, d2] => { results := [.lit (.bool true)], args := [d1, d2] }
  | _ => none }
def countTellsRow : OpenClaim := { program := "ytmbkkmolhmjpeaa", sum := "a6835fe48d8c0d5c9d14a8ee68db5a90506b81e776400018d802d34dacfff7e1", func := "homestead/homesteadlaw08.CountTells", spec := "countTells", apart := false }
def CountTellsSaid : Prop := countTellsRow.holds Try.pinned (OpenSpec.ofChange countTellsSpec)

/-- ITS FALSE NEIGHBOUR: 'it returns false'. Refute it at one input. -/
def countTellsWrong : ChangeSpec := { name := "countTells", fn := fun _ => fun
  | [d1, d2] => { results := [.lit (.bool false)], args := [d1, d2] }
  | _ => none }
def CountTellsWrongFalsely : Prop := countTellsRow.holds Try.pinned (OpenSpec.ofChange countTellsWrong)

/-- 'homesteadlaw08.CountMerges': WHATEVER THE INPUT: true; the input reads as it did. -/
def countMergesSpec : ChangeSpec := { name := "countMerges", fn := fun _ => fun
  | [d1, d2, d3] => { results := [.lit (.bool true)], args := [d1, d2, d3] }
  | _ => none }
def countMergesRow : OpenClaim := { program := "ytmbkkmolhmjpeaa", sum := "a6835fe48d8c0d5c9d14a8ee68db5a90506b81e776400018d802d34dacfff7e1", func := "homestead/homesteadlaw08.CountMerges", spec := "countMerges", apart := false }
def CountMergesSaid : Prop := countMergesRow.holds Try.pinned (OpenSpec.ofChange countMergesSpec)

/-- ITS FALSE NEIGHBOUR: 'it returns false'. Refute it at one input. -/
def countMergesWrong : ChangeSpec := { name := "countMerges", fn := fun _ => fun
  | [d1, d2, d3] => { results := [.lit (.bool false)], args := [d1, d2, d3] }
  | _ => none }
def CountMergesWrongFalsely : Prop := countMergesRow.holds Try.pinned (OpenSpec.ofChange countMergesWrong)

/-- 'homesteadlaw08.CountOrder': WHATEVER THE INPUT: true; the input reads as it did. -/
def countOrderSpec : ChangeSpec := { name := "countOrder", fn := fun _ => fun
  | [d] => { results := [.lit (.bool true)], args := [d] }
  | _ => none }
def countOrderRow : OpenClaim := { program := "ytmbkkmolhmjpeaa", sum := "a6835fe48d8c0d5c9d14a8ee68db5a90506b81e776400018d802d34dacfff7e1", func := "homestead/homesteadlaw08.CountOrder", spec := "countOrder", apart := false }
def CountOrderSaid : Prop := countOrderRow.holds Try.pinned (OpenSpec.ofChange countOrderSpec)

/-- ITS FALSE NEIGHBOUR: 'it returns false'. Refute it at one input. -/
def countOrderWrong : ChangeSpec := { name := "countOrder", fn := fun _ => fun
  | [d] => { results := [.lit (.bool false)], args := [d] }
  | _ => none }
def CountOrderWrongFalsely : Prop := countOrderRow.holds Try.pinned (OpenSpec.ofChange countOrderWrong)

/-- 'homesteadlaw08.CountSides': WHATEVER THE INPUT: true; the input reads as it did. -/
def countSidesSpec : ChangeSpec := { name := "countSides", fn := fun _ => fun
  | [d1, d2, d3] => { results := [.lit (.bool true)], args := [d1, d2, d3] }
  | _ => none }
def countSidesRow : OpenClaim := { program := "ytmbkkmolhmjpeaa", sum := "a6835fe48d8c0d5c9d14a8ee68db5a90506b81e776400018d802d34dacfff7e1", func := "homestead/homesteadlaw08.CountSides", spec := "countSides", apart := false }
def CountSidesSaid : Prop := countSidesRow.holds Try.pinned (OpenSpec.ofChange countSidesSpec)

/-- ITS FALSE NEIGHBOUR: 'it returns false'. Refute it at one input. -/
def countSidesWrong : ChangeSpec := { name := "countSides", fn := fun _ => fun
  | [d1, d2, d3] => { results := [.lit (.bool false)], args := [d1, d2, d3] }
  | _ => none }
def CountSidesWrongFalsely : Prop := countSidesRow.holds Try.pinned (OpenSpec.ofChange countSidesWrong)

/-- 'homesteadlaw08.CountBounds': WHATEVER THE INPUT: true; the input reads as it did. -/
def countBoundsSpec : ChangeSpec := { name := "countBounds", fn := fun _ => fun
  | [d1, d2] => { results := [.lit (.bool true)], args := [d1, d2] }
  | _ => none }
def countBoundsRow : OpenClaim := { program := "ytmbkkmolhmjpeaa", sum := "a6835fe48d8c0d5c9d14a8ee68db5a90506b81e776400018d802d34dacfff7e1", func := "homestead/homesteadlaw08.CountBounds", spec := "countBounds", apart := false }
def CountBoundsSaid : Prop := countBoundsRow.holds Try.pinned (OpenSpec.ofChange countBoundsSpec)

/-- ITS FALSE NEIGHBOUR: 'it returns false'. Refute it at one input. -/
def countBoundsWrong : ChangeSpec := { name := "countBounds", fn := fun _ => fun
  | [d1, d2] => { results := [.lit (.bool false)], args := [d1, d2] }
  | _ => none }
def CountBoundsWrongFalsely : Prop := countBoundsRow.holds Try.pinned (OpenSpec.ofChange countBoundsWrong)

/- THE SECOND FORM. 'bulk': how many values and letters a reading holds, each counted each time it is reached (what is shared counts as often as it is met; a slice's spare places count too). A statement '..UptoSaid' is the law's where the arguments, and the package variables that the reading takes, are together of bulk at most 1048576: NARROWER than '..Said'. Prove '..Said' where nothing that the law and all that it calls make is longer than what came in: it says more and counts as full. Else prove '..UptoSaid'. A law counts once. -/
mutual
def uptoBulk {H : Type} : DataW H → Nat
  | .lit (.string bytes) => bytes.length + 1
  | .lit _ => 1
  | .nil => 1
  | .ptr d => uptoBulk d + 1
  | .slice elems spare => uptoBulkAll elems + uptoBulkAll spare + 1
  | .agg parts => uptoBulkAll parts + 1
  | .iface _ d => uptoBulk d + 1
  | .map entries => uptoBulkEntries entries + 1
  | .held _ => 1
def uptoBulkAll {H : Type} : List (DataW H) → Nat
  | [] => 0
  | d :: r => uptoBulk d + uptoBulkAll r
def uptoBulkEntries {H : Type} : List (Lit × DataW H) → Nat
  | [] => 0
  | x :: r => uptoBulkEntry x + uptoBulkEntries r
def uptoBulkEntry {H : Type} : Lit × DataW H → Nat
  | (.string bytes, d) => bytes.length + uptoBulk d + 1
  | (_, d) => uptoBulk d + 1
 end
def uptoSmall : (H : Type) → List (DataW H) → Bool := fun _ ds => decide (uptoBulkAll ds ≤ 1048576)
def OpenSpec.upto (s : _root_.Go.ChangeSpec) : _root_.Go.OpenSpec := { _root_.Go.OpenSpec.ofChange s with cond := some uptoSmall }

/-- 'homesteadlaw08.CountTells', WHERE WHAT IT READS IS OF BULK AT MOST 1048576: true; the input reads as it did. -/
def countTellsUptoRow : OpenClaim := { program := "ytmbkkmolhmjpeaa", sum := "a6835fe48d8c0d5c9d14a8ee68db5a90506b81e776400018d802d34dacfff7e1", func := "homestead/homesteadlaw08.CountTells", spec := "countTells", apart := false, narrowed := true }
def CountTellsUptoSaid : Prop := countTellsUptoRow.holds Try.pinned (OpenSpec.upto countTellsSpec)

/-- 'homesteadlaw08.CountMerges', WHERE WHAT IT READS IS OF BULK AT MOST 1048576: true; the input reads as it did. -/
def countMergesUptoRow : OpenClaim := { program := "ytmbkkmolhmjpeaa", sum := "a6835fe48d8c0d5c9d14a8ee68db5a90506b81e776400018d802d34dacfff7e1", func := "homestead/homesteadlaw08.CountMerges", spec := "countMerges", apart := false, narrowed := true }
def CountMergesUptoSaid : Prop := countMergesUptoRow.holds Try.pinned (OpenSpec.upto countMergesSpec)

/-- 'homesteadlaw08.CountOrder', WHERE WHAT IT READS IS OF BULK AT MOST 1048576: true; the input reads as it did. -/
def countOrderUptoRow : OpenClaim := { program := "ytmbkkmolhmjpeaa", sum := "a6835fe48d8c0d5c9d14a8ee68db5a90506b81e776400018d802d34dacfff7e1", func := "homestead/homesteadlaw08.CountOrder", spec := "countOrder", apart := false, narrowed := true }
def CountOrderUptoSaid : Prop := countOrderUptoRow.holds Try.pinned (OpenSpec.upto countOrderSpec)

/-- 'homesteadlaw08.CountSides', WHERE WHAT IT READS IS OF BULK AT MOST 1048576: true; the input reads as it did. -/
def countSidesUptoRow : OpenClaim := { program := "ytmbkkmolhmjpeaa", sum := "a6835fe48d8c0d5c9d14a8ee68db5a90506b81e776400018d802d34dacfff7e1", func := "homestead/homesteadlaw08.CountSides", spec := "countSides", apart := false, narrowed := true }
def CountSidesUptoSaid : Prop := countSidesUptoRow.holds Try.pinned (OpenSpec.upto countSidesSpec)

/-- 'homesteadlaw08.CountBounds', WHERE WHAT IT READS IS OF BULK AT MOST 1048576: true; the input reads as it did. -/
def countBoundsUptoRow : OpenClaim := { program := "ytmbkkmolhmjpeaa", sum := "a6835fe48d8c0d5c9d14a8ee68db5a90506b81e776400018d802d34dacfff7e1", func := "homestead/homesteadlaw08.CountBounds", spec := "countBounds", apart := false, narrowed := true }
def CountBoundsUptoSaid : Prop := countBoundsUptoRow.holds Try.pinned (OpenSpec.upto countBoundsSpec)

end Rows
end Go.Proofs.Ytmbkkmolhmjpeaa

/-
  No cell of these rows narrows 'for every input' (looked for: loops, veiled, ifaces, maps, wideKeys, modest, calm, conditions, laid).
  DERIVED. THE GIVEN ROWS OF THIS SEAT. 6 by the template 'for every input the law returns true; each argument reads behind the call as it read before'; 0 by the template 'total and deterministic' (their statements: YtfmgmpelgnickaaTotals.lean).
  GIVEN WITH THE SEED: the statements are not yours to turn. If you find one false, say at which input.
  Laid BY PROGRAM, IN A SANDBOX (cutbox-rows.mjs): the forced cells as the released guide's own fill.sh prints them over the translation 04f4a491dc80866e… (all of the seat's roots in one cut). By AI agents, Wed Nov 11 2026. No macro, syntax, notation, axiom, sorry.
-/
import Derived.Test.YtfmgmpelgnickaaChecked
import GoSem.Claim
import GoSem.ClaimJoined
import GoSem.ClaimMapViews
import Derived.JoinedTies
import Derived.KernelRfl
namespace Go.Proofs.Ytfmgmpelgnickaa
/- THE CELL 'sum', in the pinned program and in every row, IS THE sha256 OF THE DUMP (.gsa) THAT YtfmgmpelgnickaaProg.lean LOADS. Nothing in Lean hashes anything: it is a label: what it is worth is what the hold of that sum in a sandbox is worth. -/
noncomputable def Try.pinned : Pinned := { name := "ytfmgmpelgnickaa", sum := "04f4a491dc80866ef183da0b87e033e5dae1e87922850c7f9f313250c6e3b8d5", checked := Try.checked }
namespace Rows
def none {H : Type} : Left H := { results := [], args := [] }

/-- 'homesteadlaw31.PageDoes': WHATEVER THE INPUT: true; the input reads as it did. -/
def pageDoesSpec : ChangeSpec := { name := "pageDoes", fn := fun _ => fun
  | [d1, d2, d3, d4] => { results := [.lit (.bool true)], args := [d1, d2, d3, d4] }
  | _ => none }
def pageDoesRow : OpenClaim := { program := "ytfmgmpelgnickaa", sum := "04f4a491dc80866ef183da0b87e033e5dae1e87922850c7f9f313250c6e3b8d5", func := "homestead/homesteadlaw31.PageDoes", spec := "pageDoes", unfollowed := true, recurses := true, apart := false }
def PageDoesSaid : Prop := pageDoesRow.holds Try.pinned (OpenSpec.ofChange pageDoesSpec)

/-- ITS FALSE NEIGHBOUR: 'it returns false'. Refute it at one input. -/
def pageDoesWrong : ChangeSpec := { name := "pageDoes", fn := fun _ => fun
  | [d1, d2, d3, d4] => { results := [.lit (.bool false)], args := [d1, d2, d3, d4] }
  | _ => none }
def PageDoesWrongFalsely : Prop := pageDoesRow.holds Try.pinned (OpenSpec.ofChange pageDoesWrong)

/-- 'homesteadlaw31.PageCrashes': WHATEVER THE INPUT: true; the input reads as it did. -/
def pageCrashesSpec : ChangeSpec := { name := "pageCrashes", fn := fun _ => fun
  | [d1, d2] => { results := [.lit (.bool true)], args := [d1, d2] }
  | _ => none }
def pageCrashesRow : OpenClaim := { program := "ytfmgmpelgnickaa", sum := "04f4a491dc80866ef183da0b87e033e5dae1e87922850c7f9f313250c6e3b8d5", func := "homestead/homesteadlaw31.PageCrashes", spec := "pageCrashes", unfollowed := true, recurses := true, apart := false }
def PageCrashesSaid : Prop := pageCrashesRow.holds Try.pinned (OpenSpec.ofChange pageCrashesSpec)

/-- ITS FALSE NEIGHBOUR: 'it returns false'. Refute it at one input. -/
def pageCrashesWrong : ChangeSpec := { name := "pageCrashes", fn := fun _ => fun
  | [d1, d2] => { results := [.lit (.bool false)], args := [d1, d2] }
  | _ => none }
def PageCrashesWrongFalsely : Prop := pageCrashesRow.holds Try.pinned (OpenSpec.ofChange pageCrashesWrong)

/-- 'homesteadlaw31.PageReads': WHATEVER THE INPUT: true; the input reads as it did. -/
def pageReadsSpec : ChangeSpec := { name := "pageReads", fn := fun _ => fun
  | [d1, d2, d3, d4] => { results := [.lit (.bool true)], args := [d1, d2, d3, d4] }
  | _ => none }
def pageReadsRow : OpenClaim := { program := "ytfmgmpelgnickaa", sum := "04f4a491dc80866ef183da0b87e033e5dae1e87922850c7f9f313250c6e3b8d5", func := "homestead/homesteadlaw31.PageReads", spec := "pageReads", unfollowed := true, recurses := true, apart := false }
def PageReadsSaid : Prop := pageReadsRow.holds Try.pinned (OpenSpec.ofChange pageReadsSpec)

/-- ITS FALSE NEIGHBOUR: 'it returns false'. Refute it at one input. -/
def pageReadsWrong : ChangeSpec := { name := "pageReads", fn := fun _ => fun
  | [d1, d2, d3, d4] => { results := [.lit (.bool false)], args := [d1, d2, d3, d4] }
  | _ => none }
def PageReadsWrongFalsely : Prop := pageReadsRow.holds Try.pinned (OpenSpec.ofChange pageReadsWrong)

/-- 'homesteadlaw31.PageSynced': WHATEVER THE INPUT: true; the input reads as it did. -/
def pageSyncedSpec : ChangeSpec := { name := "pageSynced", fn := fun _ => fun
  | [d1, d2, d3, d4] => { results := [.lit (.bool true)], args := [d1, d2, d3, d4] }
  | _ => none }
def pageSyncedRow : OpenClaim := { program := "ytfmgmpelgnickaa", sum := "04f4a491dc80866ef183da0b87e033e5dae1e87922850c7f9f313250c6e3b8d5", func := "homestead/homesteadlaw31.PageSynced", spec := "pageSynced", unfollowed := true, recurses := true, apart := false }
def PageSyncedSaid : Prop := pageSyncedRow.holds Try.pinned (OpenSpec.ofChange pageSyncedSpec)

/-- ITS FALSE NEIGHBOUR: 'it returns false'. Refute it at one input. -/
def pageSyncedWrong : ChangeSpec := { name := "pageSynced", fn := fun _ => fun
  | [d1, d2, d3, d4] => { results := [.lit (.bool false)], args := [d1, d2, d3, d4] }
  | _ => none }
def PageSyncedWrongFalsely : Prop := pageSyncedRow.holds Try.pinned (OpenSpec.ofChange pageSyncedWrong)

/-- 'homesteadlaw31.PageBytes': WHATEVER THE INPUT: true; the input reads as it did. -/
def pageBytesSpec : ChangeSpec := { name := "pageBytes", fn := fun _ => fun
  | [d1, d2] => { results := [.lit (.bool true)], args := [d1, d2] }
  | _ => none }
def pageBytesRow : OpenClaim := { program := "ytfmgmpelgnickaa", sum := "04f4a491dc80866ef183da0b87e033e5dae1e87922850c7f9f313250c6e3b8d5", func := "homestead/homesteadlaw31.PageBytes", spec := "pageBytes", unfollowed := true, recurses := true, apart := false }
def PageBytesSaid : Prop := pageBytesRow.holds Try.pinned (OpenSpec.ofChange pageBytesSpec)

/-- ITS FALSE NEIGHBOUR: 'it returns false'. Refute it at one input. -/
def pageBytesWrong : ChangeSpec := { name := "pageBytes", fn := fun _ => fun
  | [d1, d2] => { results := [.lit (.bool false)], args := [d1, d2] }
  | _ => none }
def PageBytesWrongFalsely : Prop := pageBytesRow.holds Try.pinned (OpenSpec.ofChange pageBytesWrong)

/-- 'homesteadlaw31.PageOne': WHATEVER THE INPUT: true; the input reads as it did. -/
def pageOneSpec : ChangeSpec := { name := "pageOne", fn := fun _ => fun
  | [d1, d2, d3, d4] => { results := [.lit (.bool true)], args := [d1, d2, d3, d4] }
  | _ => none }
def pageOneRow : OpenClaim := { program := "ytfmgmpelgnickaa", sum := "04f4a491dc80866ef183da0b87e033e5dae1e87922850c7f9f313250c6e3b8d5", func := "homestead/homesteadlaw31.PageOne", spec := "pageOne", unfollowed := true, recurses := true, apart := false }
def PageOneSaid : Prop := pageOneRow.holds Try.pinned (OpenSpec.ofChange pageOneSpec)

/-- ITS FALSE NEIGHBOUR: 'it returns false'. Refute it at one input. -/
def pageOneWrong : ChangeSpec := { name := "pageOne", fn := fun _ => fun
  | [d1, d2, d3, d4] => { results := [.lit (.bool false)], args := [d1, d2, d3, d4] }
  | _ => none }
def PageOneWrongFalsely : Prop := pageOneRow.holds Try.pinned (OpenSpec.ofChange pageOneWrong)

/- THE SECOND FORM. 'bulk': how many values and letters a reading holds, each counted each time it is reached (what is shared counts as often as it is met; a slice's spare places count too). A statement '..UptoSaid' is the law's where the arguments, and the package variables that the reading takes, are together of bulk at most 1048576: NARROWER than '..Said'. Prove '..Said' where nothing that the law and all that it calls make is longer than what came in: it says more and counts as full. Else prove '..UptoSaid'. A law counts once. -/
mutual
def uptoBulk {H : Type} : DataW H → Nat
  | .lit (.string bytes) => bytes.length + 1
  | .lit _ => 1
  | .nil => 1
  | .ptr d => uptoBulk d + 1
  | .slice elems spare => uptoBulkAll elems + uptoBulkAll spare + 1
  | .agg parts => uptoBulkAll parts + 1
  | .iface _ d => uptoBulk d + 1
  | .map entries => uptoBulkEntries entries + 1
  | .held _ => 1
def uptoBulkAll {H : Type} : List (DataW H) → Nat
  | [] => 0
  | d :: r => uptoBulk d + uptoBulkAll r
def uptoBulkEntries {H : Type} : List (Lit × DataW H) → Nat
  | [] => 0
  | x :: r => uptoBulkEntry x + uptoBulkEntries r
def uptoBulkEntry {H : Type} : Lit × DataW H → Nat
  | (.string bytes, d) => bytes.length + uptoBulk d + 1
  | (_, d) => uptoBulk d + 1
 end
def uptoSmall : (H : Type) → List (DataW H) → Bool := fun _ ds => decide (uptoBulkAll ds ≤ 1048576)
def OpenSpec.upto (s : _root_.Go.ChangeSpec) : _root_.Go.OpenSpec := { _root_.Go.OpenSpec.ofChange s with cond := some uptoSmall }

/-- 'homesteadlaw31.PageDoes', WHERE WHAT IT READS IS OF BULK AT MOST 1048576: true; the input reads as it did. -/
def pageDoesUptoRow : OpenClaim := { program := "ytfmgmpelgnickaa", sum := "04f4a491dc80866ef183da0b87e033e5dae1e87922850c7f9f313250c6e3b8d5", func := "homestead/homesteadlaw31.PageDoes", spec := "pageDoes", unfollowed := true, recurses := true, apart := false, narrowed := true }
def PageDoesUptoSaid : Prop := pageDoesUptoRow.holds Try.pinned (OpenSpec.upto pageDoesSpec)

/-- 'homesteadlaw31.PageCrashes', WHERE WHAT IT READS IS OF BULK AT MOST 1048576: true; the input reads as it did. -/
def pageCrashesUptoRow : OpenClaim := { program := "ytfmgmpelgnickaa", sum := "04f4a491dc80866ef183da0b87e033e5dae1e87922850c7f9f313250c6e3b8d5", func := "homestead/homesteadlaw31.PageCrashes", spec := "pageCrashes", unfollowed := true, recurses := true, apart := false, narrowed := true }
def PageCrashesUptoSaid : Prop := pageCrashesUptoRow.holds Try.pinned (OpenSpec.upto pageCrashesSpec)

/-- 'homesteadlaw31.PageReads', WHERE WHAT IT READS IS OF BULK AT MOST 1048576: true; the input reads as it did. -/
def pageReadsUptoRow : OpenClaim := { program := "ytfmgmpelgnickaa", sum := "04f4a491dc80866ef183da0b87e033e5dae1e87922850c7f9f313250c6e3b8d5", func := "homestead/homesteadlaw31.PageReads", spec := "pageReads", unfollowed := true, recurses := true, apart := false, narrowed := true }
def PageReadsUptoSaid : Prop := pageReadsUptoRow.holds Try.pinned (OpenSpec.upto pageReadsSpec)

/-- 'homesteadlaw31.PageSynced', WHERE WHAT IT READS IS OF BULK AT MOST 1048576: true; the input reads as it did. -/
def pageSyncedUptoRow : OpenClaim := { program := "ytfmgmpelgnickaa", sum := "04f4a491dc80866ef183da0b87e033e5dae1e87922850c7f9f313250c6e3b8d5", func := "homestead/homesteadlaw31.PageSynced", spec := "pageSynced", unfollowed := true, recurses := true, apart := false, narrowed := true }
def PageSyncedUptoSaid : Prop := pageSyncedUptoRow.holds Try.pinned (OpenSpec.upto pageSyncedSpec)

/-- 'homesteadlaw31.PageBytes', WHERE WHAT IT READS IS OF BULK AT MOST 1048576: true; the input reads as it did. -/
def pageBytesUptoRow : OpenClaim := { program := "ytfmgmpelgnickaa", sum := "04f4a491dc80866ef183da0b87e033e5dae1e87922850c7f9f313250c6e3b8d5", func := "homestead/homesteadlaw31.PageBytes", spec := "pageBytes", unfollowed := true, recurses := true, apart := false, narrowed := true }
def PageBytesUptoSaid : Prop := pageBytesUptoRow.holds Try.pinned (OpenSpec.upto pageBytesSpec)

/-- 'homesteadlaw31.PageOne', WHERE WHAT IT READS IS OF BULK AT MOST 1048576: true; the input reads as it did. -/
def pageOneUptoRow : OpenClaim := { program := "ytfmgmpelgnickaa", sum := "04f4a491dc80866ef183da0b87e033e5dae1e87922850c7f9f313250c6e3b8d5", func := "homestead/homesteadlaw31.PageOne", spec := "pageOne", unfollowed := true, recurses := true, apart := false, narrowed := true }
def PageOneUptoSaid : Prop := pageOneUptoRow.holds Try.pinned (OpenSpec.upto pageOneSpec)

end Rows
end Go.Proofs.Ytfmgmpelgnickaa

/-
  Chapter 34: the map in which Peel keeps what was told.
-/
import Derived.Test.YtabgenhednhagaaPeel
import Derived.Maps.OwnSet
import Derived.Deep.AppendLies
namespace Go.Proofs.Ytabgenhednhagaa
open Go.RowKit Plain Go.Maps

def keyL (z : W) : Lit := .int .u64 (z.toNat : Int)
def toldD : List W → DataW Unit
  | [] => .map []
  | z :: T => (toldD T).put (keyL z) (.lit (.bool true))
theorem key_inj {y z : W} : keyL y = keyL z ↔ y = z := by
  constructor
  · intro h; injection h with _ h; exact BitVec.eq_of_toNat_eq (Int.ofNat.inj h)
  · intro h; rw [h]
theorem key_wf (z : W) : (Lit.int .u64 (z.toNat : Int)).wf = true := by
  have := z.isLt
  simp [Lit.wf, IntKind.min, IntKind.max, IntKind.signed, IntKind.bits]; omega
theorem key_is (z : W) : WideAt.IsKeyLit (keyL z) := by trivial
theorem told_tidy : ∀ T : List W, Tidy (toldD T)
  | [] => tidy_empty
  | z :: T => (told_tidy T).put (key_is z) _
theorem told_has (y : W) : ∀ T : List W, has (toldD T) (keyL y) = decide (y ∈ T)
  | [] => rfl
  | z :: T => by
    unfold toldD
    by_cases h : y = z
    · subst h; rw [has_put_same (told_tidy T).isMap (key_is y)]; simp
    · rw [has_put_other (fun e => h (key_inj.1 e)), told_has y T]
      simp [h]
theorem told_at (y : W) : ∀ T : List W, (toldD T).atKey (keyL y) (.lit (.bool false)) = .lit (.bool (decide (y ∈ T)))
  | [] => by rw [atKey_of_not_has (told_has y [])]; simp
  | z :: T => by
    unfold toldD
    by_cases h : y = z
    · subst h; rw [atKey_put_same (told_tidy T).isMap (key_is y)]; simp
    · rw [atKey_put_other (fun e => h (key_inj.1 e)), told_at y T]
      simp [h]
theorem told_size : ∀ T : List W, T.Nodup → size (toldD T) = T.length
  | [], _ => rfl
  | z :: T, h => by
    obtain ⟨h1, h2⟩ := List.nodup_cons.1 h
    unfold toldD
    rw [size_put (told_tidy T), told_has, if_neg (by simpa using h1), told_size T h2]; rfl
theorem keyed22 : Keyed Try.prog 22 := int_keyed Try.underlying22
theorem key_of (z : W) : keyOf Try.prog 22 (.int .u64 (z.toNat : Int)) = some (keyL z) := keyOf_int_mk Try.underlying22 (key_wf z)
theorem zero4 (w : World) : (zeroValue 4).run Try.prog w = .ok (.bool false) w := by kernel_rfl
/-- Block b is the map of what was told. -/
def Told (w : World) (b : Nat) (T : List W) : Prop := w.ownsMap Try.prog 22 (plainElem (H := Unit) Try.prog 4) b T.length (toldD T)
theorem bool_inv {v : Value} {z : DataW Unit × List MemPlace} (h : plainElem Try.prog 4 v = some z) : ∃ b, v = .bool b ∧ z = (.lit (.bool b), []) := by
  unfold plainElem at h
  rw [Try.underlying4] at h
  cases v <;> simp at h
  exact ⟨_, rfl, h.symm⟩
theorem Told.look {w : World} {b : Nat} {T : List W} (h : Told w b T) (z : W) : (Instr.lookup 46 (.map (some b)) (.int .u64 (z.toNat : Int)) false).run Try.prog w = .ok (.bool (decide (z ∈ T))) w := by
  obtain ⟨v, ps, hrun, hR⟩ := World.ownsMap.lookup h keyed22 Try.underlying46 (zero4 w) (plainElem_bool Try.underlying4 false) (key_of z)
  obtain ⟨c, rfl, hc⟩ := bool_inv hR
  rw [told_at] at hc
  have : decide (z ∈ T) = c := by simpa using congrArg Prod.fst hc
  rw [hrun, this]
theorem Told.len {w : World} {b : Nat} {T : List W} (h : Told w b T) (hn : T.Nodup) (ty : TypeId) : (Builtin.len_ #[46] ty #[.map (some b)]).run Try.prog w = .ok (.int .i64 (T.length : Int)) w := by
  rw [World.ownsMap.len h Try.underlying46, told_size T hn]
theorem Told.kept {w w' : World} {b : Nat} {T : List W} {row : Option Nat} (h : Told w b T) (hg : w.grownBy w' row) (hne : some b ≠ row) : Told w' b T := World.ownsMap.kept h hg hne
theorem Told.made (w : World) : Told (w.alloc (.map #[] 0)) w.heap.size [] := World.ownsMap_made w _ _ _
theorem Told.put {w : World} {b : Nat} {T : List W} (h : Told w b T) (z : W) (hT : T.length < 100000) : ∃ w', (Instr.mapUpdate 46 (.map (some b)) (.int .u64 (z.toNat : Int)) (.bool true)).run Try.prog w = .ok () w' ∧ Told w' b (z :: T) ∧ w.grownBy w' (some b) :=
  World.ownsMap.update h keyed22 Try.underlying46 (by unfold maxLen; omega) (key_of z) (plainElem_bool Try.underlying4 true)
end Go.Proofs.Ytabgenhednhagaa

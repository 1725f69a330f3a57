/-
  Chapter 31: bytes.Clone and slices.Clone of pages.
-/
import Derived.Test.YtfmgmpelgnickaaRight
namespace Go.Proofs.Ytfmgmpelgnickaa
open Go.RowKit Plain
set_option linter.unusedSimpArgs false
set_option linter.unusedVariables false
attribute [local go_sem ↓] Go.wp_at_zero Go.wp_at_succ

/-- A call returns a row of its own. -/
def RetRow (w : World) (s n : Nat) (vs : List Value) (e : Ending) (w' : World) : Prop := ∃ A c, e = .returned (.slice A n c) ∧ Row w' s A n c vs ∧ Own w' w.heap.size A n ∧ Below w.heap.size w w'
def RetByt (w : World) (zs : Pg) (e : Ending) (w' : World) : Prop := ∃ A n c, e = .returned (.slice A n c) ∧ Byt w' A n c zs ∧ Own w' w.heap.size A n ∧ Below w.heap.size w w'
def RetPags (w : World) (ps : List Pg) (e : Ending) (w' : World) : Prop := ∃ A n c, e = .returned (.slice A n c) ∧ Pags w' A n c ps ∧ Own w' w.heap.size A n ∧ Below w.heap.size w w'

theorem clone_row26 {w : World} {A : Option Addr} {n c : Nat} {vs : List Value} (h : Row w 1 A n c vs) (h1 : ∀ u ∈ vs, u.oneCell' = true) (hs : n ≤ 100000) : Calls Try.prog 28 #[.slice A n c] w (RetRow w 1 n vs) := by
  cases A with
  | none =>
    obtain ⟨rfl, rfl, rfl⟩ := h.none
    have hq := fun (W : World) => Lib.run_eql_slice_nil (P := Try.prog) W 26 5 none 0 0 0 0 Try.underlying26
    simp only [Option.isNone_none] at hq
    clear h h1
    go_enter Try.func28, Try.ntmps28
    go_wp2
    go_ret
    exact ⟨none, 0, rfl, row_nil _ 1, fun h => by omega, Below.refl _ _⟩
  | some ad =>
    have hq := fun (W : World) => Lib.run_eql_slice_nil (P := Try.prog) W 26 5 (some ad) n c 0 0 Try.underlying26
    simp only [Option.isNone_some] at hq
    have g0 : Below w.heap.size w (w.alloc (.cells #[] 5)) := by go_grown
    replace h := hide (h.below g0)
    replace h1 := hide h1
    replace g0 := hide g0
    go_enter Try.func28, Try.ntmps28
    go_wp2_with (at_builtin; refine wpList_append_row (T := 26) (E := 5) (s := 1) (z := .int .u8 0) (bytes := 1) Try.underlying26 info5 rfl (by decide) (by decide) rfl _ _ rfl w.heap.size _ 0 [] rfl (World.ownsRow_made w #[] 0 (Nat.le_refl _) (by unfold maxLen; omega) rfl) (some ad) n c vs rfl h.out h1.out (by omega) (by simp) ?_; intro v' w2 hown2 hB2; simp only [Nat.zero_add, List.nil_append] at hown2; obtain ⟨A9, c9, rfl, hr, ho⟩ := row_own hown2; replace hr := hide hr; replace ho := hide ho; replace hB2 := hide (g0.out.trans hB2); clear hown2 hq h h1 g0)
    go_ret
    exact ⟨A9, c9, rfl, hr.out, ho.out, hB2.out⟩

theorem clone_row22 {w : World} {A : Option Addr} {n c : Nat} {vs : List Value} (h : Row w 1 A n c vs) (h1 : ∀ u ∈ vs, u.oneCell' = true) (hs : n ≤ 100000) : Calls Try.prog 29 #[.slice A n c] w (RetRow w 1 n vs) := by
  cases A with
  | none =>
    obtain ⟨rfl, rfl, rfl⟩ := h.none
    have hq := fun (W : World) => Lib.run_eql_slice_nil (P := Try.prog) W 22 26 none 0 0 0 0 Try.underlying22
    simp only [Option.isNone_none] at hq
    clear h h1
    go_enter Try.func29, Try.ntmps29
    go_wp2
    go_ret
    exact ⟨none, 0, rfl, row_nil _ 1, fun h => by omega, Below.refl _ _⟩
  | some ad =>
    have hq := fun (W : World) => Lib.run_eql_slice_nil (P := Try.prog) W 22 26 (some ad) n c 0 0 Try.underlying22
    simp only [Option.isNone_some] at hq
    have g0 : Below w.heap.size w (w.alloc (.cells #[] 26)) := by go_grown
    replace h := hide (h.below g0)
    replace h1 := hide h1
    replace g0 := hide g0
    go_enter Try.func29, Try.ntmps29
    go_wp2_with (at_builtin; refine wpList_append_row (T := 22) (E := 26) (s := 1) (z := .slice none 0 0) (bytes := 24) Try.underlying22 info26 rfl (by decide) (by decide) rfl _ _ rfl w.heap.size _ 0 [] rfl (World.ownsRow_made w #[] 0 (Nat.le_refl _) (by unfold maxLen; omega) rfl) (some ad) n c vs rfl h.out h1.out (by omega) (by simp) ?_; intro v' w2 hown2 hB2; simp only [Nat.zero_add, List.nil_append] at hown2; obtain ⟨A9, c9, rfl, hr, ho⟩ := row_own hown2; replace hr := hide hr; replace ho := hide ho; replace hB2 := hide (g0.out.trans hB2); clear hown2 hq h h1 g0)
    go_ret
    exact ⟨A9, c9, rfl, hr.out, ho.out, hB2.out⟩

theorem clone_bytes {w : World} {A : Option Addr} {n c : Nat} {zs : Pg} (h : Byt w A n c zs) (hs : n ≤ 100000) : Calls Try.prog 28 #[.slice A n c] w (RetByt w zs) :=
  (clone_row26 h (by intro u hu; obtain ⟨z, _, rfl⟩ := List.mem_map.1 hu; rfl) hs).mono fun e w' ⟨A', c', e1, hr, ho, hb⟩ => ⟨A', n, c', e1, hr, ho, hb⟩
theorem clone_pages {w : World} {A : Option Addr} {n c : Nat} {ps : List Pg} (h : Pags w A n c ps) (hs : n ≤ 100000) : Calls Try.prog 29 #[.slice A n c] w (RetPags w ps) := by
  obtain ⟨hl, vs, hr, hp⟩ := h
  exact (clone_row22 hr (pags_one (by have := hr.1; omega) hp) hs).mono fun e w' ⟨A', c', e1, hr, ho, hb⟩ => ⟨A', n, c', e1, ⟨hl, vs, hr, fun j hj => (hp j hj).below hb⟩, ho, hb⟩
end Go.Proofs.Ytfmgmpelgnickaa

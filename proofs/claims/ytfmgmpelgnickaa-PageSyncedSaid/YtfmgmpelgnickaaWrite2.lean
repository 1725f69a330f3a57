/-
  Chapter 31: Write, by the program, whatever it is asked.
-/
import Derived.Test.YtfmgmpelgnickaaWrite
namespace Go.Proofs.Ytfmgmpelgnickaa
open Go.RowKit Plain
set_option linter.unusedSimpArgs false
set_option linter.unusedVariables false
attribute [local go_sem ↓] Go.wp_at_zero Go.wp_at_succ

theorem write_wrong {A B C : Option Addr} {n c m d k e : Nat} {ps : List Pg} {ws : List Od} {w : World} (h : Pags w A n c ps) (g : Olds w B m d ws) (hk : k ≤ 9223372036854775807) (p : Int) (hr : rightB ps ws = false) :
    Calls Try.prog 13 #[.agg #[.slice A n c, .slice B m d], .int .i64 p, .slice C k e] w (RetDE w [] [] 1) := by
  have g0 : Below w.heap.size w ((w.alloc (.cells #[.slice A n c, .slice B m d] 25)).alloc (.cells #[.slice none 0 0, .slice none 0 0] 25)) := by go_grown
  have hn := h.max
  replace h := hide (h.below g0)
  replace g := hide (g.below g0)
  replace g0 := hide g0
  replace hr := hide hr
  go_enter Try.func13, Try.ntmps13
  go_wp2_with fail
  refine (right_any h.out g.out false hr.out).mono ?_
  rintro e w1 ⟨rfl, hb⟩
  have DB := hide (g0.out.trans (hb.mono g0.out.size))
  have c0 : w1.cell? ⟨w.heap.size, 0, none⟩ = some (.slice A n c) := (hb.cell (p := ⟨w.heap.size, 0, none⟩) (by simp; omega)).trans (by go_side)
  have r0 : w1.cell? ⟨w.heap.size + 1, 0, none⟩ = some (.slice none 0 0) := (hb.cell (p := ⟨w.heap.size + 1, 0, none⟩) (by simp)).trans (by go_side)
  have r1 : w1.cell? ⟨w.heap.size + 1, 1, none⟩ = some (.slice none 0 0) := (hb.cell (p := ⟨w.heap.size + 1, 1, none⟩) (by simp)).trans (by go_side)
  have f0 : w1.frozen? ⟨w.heap.size + 1, 0, none⟩ = false := (hb.frozen (p := ⟨w.heap.size + 1, 0, none⟩) (by simp)).trans (by go_side)
  have f1 : w1.frozen? ⟨w.heap.size + 1, 1, none⟩ = false := (hb.frozen (p := ⟨w.heap.size + 1, 1, none⟩) (by simp)).trans (by go_side)
  have sz : w.heap.size + 2 ≤ w1.heap.size := by have := hb.size; simp at this; omega
  clear hb h g g0 hr
  go_wp2_with fail
  refine bodyPost_ret (v := .tuple #[.agg #[.slice none 0 0, .slice none 0 0], .int .i64 1]) (by simp [results, Try.results13, go_sem, r0, r1, f0, f1]) rfl ?_
  exact ⟨none, 0, 0, none, 0, 0, rfl, pags_nil _, olds_nil _, (DB.out.setCell (by simp) _).setCell (by simp) _⟩
theorem write_short {A B C : Option Addr} {n c m d k e : Nat} {ps : List Pg} {ws : List Od} {w : World} (h : Pags w A n c ps) (g : Olds w B m d ws) (hk : k ≤ 9223372036854775807) (p : Int) (hr : rightB ps ws = true) (hl : k ≠ 256) :
    Calls Try.prog 13 #[.agg #[.slice A n c, .slice B m d], .int .i64 p, .slice C k e] w (RetDE w [] [] 1) := by
  have g0 : Below w.heap.size w ((w.alloc (.cells #[.slice A n c, .slice B m d] 25)).alloc (.cells #[.slice none 0 0, .slice none 0 0] 25)) := by go_grown
  have hn := h.max
  replace h := hide (h.below g0)
  replace g := hide (g.below g0)
  replace g0 := hide g0
  replace hr := hide hr
  have hq : ((k : Int) != 256) = true := by simp; omega
  have hq2 : ¬ (k : Int) = 256 := by omega
  clear hl
  go_enter Try.func13, Try.ntmps13
  go_wp2_with fail
  refine (right_any h.out g.out true hr.out).mono ?_
  rintro e w1 ⟨rfl, hb⟩
  have DB := hide (g0.out.trans (hb.mono g0.out.size))
  have c0 : w1.cell? ⟨w.heap.size, 0, none⟩ = some (.slice A n c) := (hb.cell (p := ⟨w.heap.size, 0, none⟩) (by simp; omega)).trans (by go_side)
  have r0 : w1.cell? ⟨w.heap.size + 1, 0, none⟩ = some (.slice none 0 0) := (hb.cell (p := ⟨w.heap.size + 1, 0, none⟩) (by simp)).trans (by go_side)
  have r1 : w1.cell? ⟨w.heap.size + 1, 1, none⟩ = some (.slice none 0 0) := (hb.cell (p := ⟨w.heap.size + 1, 1, none⟩) (by simp)).trans (by go_side)
  have f0 : w1.frozen? ⟨w.heap.size + 1, 0, none⟩ = false := (hb.frozen (p := ⟨w.heap.size + 1, 0, none⟩) (by simp)).trans (by go_side)
  have f1 : w1.frozen? ⟨w.heap.size + 1, 1, none⟩ = false := (hb.frozen (p := ⟨w.heap.size + 1, 1, none⟩) (by simp)).trans (by go_side)
  have sz : w.heap.size + 2 ≤ w1.heap.size := by have := hb.size; simp at this; omega
  clear hb h g g0 hr
  go_wp2_with fail
  refine bodyPost_ret (v := .tuple #[.agg #[.slice none 0 0, .slice none 0 0], .int .i64 1]) (by simp [results, Try.results13, go_sem, r0, r1, f0, f1]) rfl ?_
  exact ⟨none, 0, 0, none, 0, 0, rfl, pags_nil _, olds_nil _, (DB.out.setCell (by simp) _).setCell (by simp) _⟩
theorem write_low {A B C : Option Addr} {n c m d k e : Nat} {ps : List Pg} {ws : List Od} {w : World} (h : Pags w A n c ps) (g : Olds w B m d ws) (hk : k ≤ 9223372036854775807) (p : Int) (hr : rightB ps ws = true) (hl : k = 256) (hp : p < 0) :
    Calls Try.prog 13 #[.agg #[.slice A n c, .slice B m d], .int .i64 p, .slice C k e] w (RetDE w [] [] 4) := by
  have g0 : Below w.heap.size w ((w.alloc (.cells #[.slice A n c, .slice B m d] 25)).alloc (.cells #[.slice none 0 0, .slice none 0 0] 25)) := by go_grown
  have hn := h.max
  replace h := hide (h.below g0)
  replace g := hide (g.below g0)
  replace g0 := hide g0
  replace hr := hide hr
  subst hl
  go_enter Try.func13, Try.ntmps13
  go_wp2_with fail
  refine (right_any h.out g.out true hr.out).mono ?_
  rintro e w1 ⟨rfl, hb⟩
  have DB := hide (g0.out.trans (hb.mono g0.out.size))
  have c0 : w1.cell? ⟨w.heap.size, 0, none⟩ = some (.slice A n c) := (hb.cell (p := ⟨w.heap.size, 0, none⟩) (by simp; omega)).trans (by go_side)
  have r0 : w1.cell? ⟨w.heap.size + 1, 0, none⟩ = some (.slice none 0 0) := (hb.cell (p := ⟨w.heap.size + 1, 0, none⟩) (by simp)).trans (by go_side)
  have r1 : w1.cell? ⟨w.heap.size + 1, 1, none⟩ = some (.slice none 0 0) := (hb.cell (p := ⟨w.heap.size + 1, 1, none⟩) (by simp)).trans (by go_side)
  have f0 : w1.frozen? ⟨w.heap.size + 1, 0, none⟩ = false := (hb.frozen (p := ⟨w.heap.size + 1, 0, none⟩) (by simp)).trans (by go_side)
  have f1 : w1.frozen? ⟨w.heap.size + 1, 1, none⟩ = false := (hb.frozen (p := ⟨w.heap.size + 1, 1, none⟩) (by simp)).trans (by go_side)
  have sz : w.heap.size + 2 ≤ w1.heap.size := by have := hb.size; simp at this; omega
  clear hb h g g0 hr
  go_wp2_with fail
  refine bodyPost_ret (v := .tuple #[.agg #[.slice none 0 0, .slice none 0 0], .int .i64 4]) (by simp [results, Try.results13, go_sem, r0, r1, f0, f1]) rfl ?_
  exact ⟨none, 0, 0, none, 0, 0, rfl, pags_nil _, olds_nil _, (DB.out.setCell (by simp) _).setCell (by simp) _⟩
theorem write_high {A B C : Option Addr} {n c m d k e : Nat} {ps : List Pg} {ws : List Od} {w : World} (h : Pags w A n c ps) (g : Olds w B m d ws) (hk : k ≤ 9223372036854775807) (p : Int) (hr : rightB ps ws = true) (hl : k = 256) (hp : ¬ p < 0) (hp2 : (n : Int) ≤ p) :
    Calls Try.prog 13 #[.agg #[.slice A n c, .slice B m d], .int .i64 p, .slice C k e] w (RetDE w [] [] 4) := by
  have g0 : Below w.heap.size w ((w.alloc (.cells #[.slice A n c, .slice B m d] 25)).alloc (.cells #[.slice none 0 0, .slice none 0 0] 25)) := by go_grown
  have hn := h.max
  replace h := hide (h.below g0)
  replace g := hide (g.below g0)
  replace g0 := hide g0
  replace hr := hide hr
  subst hl
  go_enter Try.func13, Try.ntmps13
  go_wp2_with fail
  refine (right_any h.out g.out true hr.out).mono ?_
  rintro e w1 ⟨rfl, hb⟩
  have DB := hide (g0.out.trans (hb.mono g0.out.size))
  have c0 : w1.cell? ⟨w.heap.size, 0, none⟩ = some (.slice A n c) := (hb.cell (p := ⟨w.heap.size, 0, none⟩) (by simp; omega)).trans (by go_side)
  have r0 : w1.cell? ⟨w.heap.size + 1, 0, none⟩ = some (.slice none 0 0) := (hb.cell (p := ⟨w.heap.size + 1, 0, none⟩) (by simp)).trans (by go_side)
  have r1 : w1.cell? ⟨w.heap.size + 1, 1, none⟩ = some (.slice none 0 0) := (hb.cell (p := ⟨w.heap.size + 1, 1, none⟩) (by simp)).trans (by go_side)
  have f0 : w1.frozen? ⟨w.heap.size + 1, 0, none⟩ = false := (hb.frozen (p := ⟨w.heap.size + 1, 0, none⟩) (by simp)).trans (by go_side)
  have f1 : w1.frozen? ⟨w.heap.size + 1, 1, none⟩ = false := (hb.frozen (p := ⟨w.heap.size + 1, 1, none⟩) (by simp)).trans (by go_side)
  have sz : w.heap.size + 2 ≤ w1.heap.size := by have := hb.size; simp at this; omega
  clear hb h g g0 hr
  go_wp2_with fail
  refine bodyPost_ret (v := .tuple #[.agg #[.slice none 0 0, .slice none 0 0], .int .i64 4]) (by simp [results, Try.results13, go_sem, r0, r1, f0, f1]) rfl ?_
  exact ⟨none, 0, 0, none, 0, 0, rfl, pags_nil _, olds_nil _, (DB.out.setCell (by simp) _).setCell (by simp) _⟩

theorem write_any {A B C : Option Addr} {n c m d k e : Nat} {ps : List Pg} {ws : List Od} {z : Pg} {w : World} (h : Pags w A n c ps) (g : Olds w B m d ws) (u : Byt w C k e z) (hm : m ≤ 100000) (p : Int) (P : List Pg) (W : List Od) (E : Int) (hP : writeP ps ws p z = P) (hW : writeW ps ws p z = W) (hE : writeE ps ws p z = E) :
    Calls Try.prog 13 #[.agg #[.slice A n c, .slice B m d], .int .i64 p, .slice C k e] w (RetDE w P W E) := by
  subst hP hW hE
  have hl := h.1
  have hz := u.len
  cases hr : rightB ps ws with
  | false =>
    have e1 : writeE ps ws p z = 1 := by unfold writeE; rw [hr]; rfl
    have e2 : writeP ps ws p z = [] := by unfold writeP; rw [e1]; rfl
    have e3 : writeW ps ws p z = [] := by unfold writeW; rw [e1]; rfl
    rw [e1, e2, e3]
    exact write_wrong h g u.max p hr
  | true =>
    by_cases hk : k = 256
    · by_cases hp : p < 0
      · have e1 : writeE ps ws p z = 4 := by unfold writeE; rw [if_pos ⟨hr, by omega⟩, if_neg (by omega)]
        have e2 : writeP ps ws p z = [] := by unfold writeP; rw [e1]; rfl
        have e3 : writeW ps ws p z = [] := by unfold writeW; rw [e1]; rfl
        rw [e1, e2, e3]
        exact write_low h g u.max p hr hk hp
      · by_cases hp2 : (n : Int) ≤ p
        · have e1 : writeE ps ws p z = 4 := by unfold writeE; rw [if_pos ⟨hr, by omega⟩, if_neg (by omega)]
          have e2 : writeP ps ws p z = [] := by unfold writeP; rw [e1]; rfl
          have e3 : writeW ps ws p z = [] := by unfold writeW; rw [e1]; rfl
          rw [e1, e2, e3]
          exact write_high h g u.max p hr hk hp hp2
        · obtain ⟨a, rfl⟩ : ∃ a : Nat, p = (a : Int) := ⟨p.toNat, by omega⟩
          have R := (right_iff ps ws).1 hr
          have e1 : writeE ps ws (a : Int) z = 0 := writeE_zero.2 ⟨R, by omega, by omega, by omega⟩
          have e2 : writeP ps ws (a : Int) z = ps.set a z := by unfold writeP; rw [e1]; rfl
          have e3 : writeW ps ws (a : Int) z = ws ++ [((a : Int), ps.getD a [])] := by unfold writeW; rw [e1]; rfl
          rw [e1, e2, e3]
          exact write_good h g u R hk (by omega) hm _ _ rfl rfl
    · have e1 : writeE ps ws p z = 1 := by unfold writeE; rw [if_neg (by omega)]
      have e2 : writeP ps ws p z = [] := by unfold writeP; rw [e1]; rfl
      have e3 : writeW ps ws p z = [] := by unfold writeW; rw [e1]; rfl
      rw [e1, e2, e3]
      exact write_short h g u.max p hr hk
end Go.Proofs.Ytfmgmpelgnickaa

/-
  Chapter 31: Right, by the program.
-/
import Derived.Test.YtfmgmpelgnickaaIndex
import Derived.Laws.EntriesVeiled
namespace Go.Proofs.Ytfmgmpelgnickaa
open Go.RowKit Plain
set_option linter.unusedSimpArgs false
set_option linter.unusedVariables false
attribute [local go_sem ↓] Go.wp_at_zero Go.wp_at_succ

theorem right_parts (ps : List Pg) (ws : List Od) : rightB ps ws = (decide (1 ≤ ps.length) && decide (ps.length ≤ 4096) && !(ps.any oddP) && !(ws.any (amissP ps.length))) := by
  unfold rightB
  congr 1
  · congr 1
    rw [List.not_any_eq_all_not]
    congr 1
    funext b; simp [oddP]
  · rw [List.not_any_eq_all_not]
    congr 1
    funext b; simp [amissP]
theorem right_any {A B : Option Addr} {n c m d : Nat} {ps : List Pg} {ws : List Od} {w : World} (h : Pags w A n c ps) (g : Olds w B m d ws) (b : Bool) (hb : rightB ps ws = b) :
    Calls Try.prog 17 #[.agg #[.slice A n c, .slice B m d]] w fun e w' => e = .returned (.bool b) ∧ Below w.heap.size w w' := by
  subst hb
  have hn := h.max
  have hm := g.max
  rw [right_parts, h.1]
  have h' : Pags w A n c ps := h
  replace h := hide h
  replace g := hide g
  by_cases p1 : 1 ≤ n
  · have q1 : (1 : Int) ≤ (n : Int) := by omega
    by_cases p2 : n ≤ 4096
    · have q2 : (n : Int) ≤ 4096 := by omega
      rw [decide_eq_true p1, decide_eq_true p2]
      clear p1 p2 h'
      simp only [Bool.true_and]
      have D1 : Below w.heap.size w (((w.alloc (.cells #[.slice A n c, .slice B m d] 25)).alloc (.cells #[.int .i64 (n : Int)] 3)).alloc (.cells #[.func (.func 31) #[] #[]] 53)) := by go_grown
      cases o1 : ps.any oddP with
      | true =>
        have H := hide (contains_odd (h.out.below D1) true o1)
        clear o1 D1
        go_enter Try.func17, Try.ntmps17
        go_wp2_with fail
        refine H.out.mono ?_
        rintro e w1 ⟨rfl, hb⟩
        clear H
        have DB : Below w.heap.size w w1 := Below.trans (by go_grown) (hb.mono (by simp; omega))
        clear hb
        go_wp2_with fail
        go_ret
        exact ⟨rfl, DB⟩
      | false =>
        have H := hide (contains_odd (h.out.below D1) false o1)
        clear o1
        go_enter Try.func17, Try.ntmps17
        go_wp2_with fail
        refine H.out.mono ?_
        rintro e w1 ⟨rfl, hb⟩
        clear H
        have DB := hide (D1.trans (hb.mono D1.size))
        have c0 : w1.cell? ⟨w.heap.size, 1, none⟩ = some (.slice B m d) := (hb.cell (p := ⟨w.heap.size, 1, none⟩) (by simp; omega)).trans (by go_side)
        have c1 : Hid (w1.cell? ⟨w.heap.size + 1, 0, none⟩ = some (.int .i64 (n : Int))) := hide ((hb.cell (p := ⟨w.heap.size + 1, 0, none⟩) (by simp)).trans (by go_side))
        have c2 : Hid (w1.cell? ⟨w.heap.size + 2, 0, none⟩ = some (.func (.func 31) #[] #[])) := hide ((hb.cell (p := ⟨w.heap.size + 2, 0, none⟩) (by simp)).trans (by go_side))
        have sz : w.heap.size + 3 ≤ w1.heap.size := by have := hb.size; simp at this; omega
        have G := hide (g.out.below DB.out)
        clear hb D1
        cases o2 : ws.any (amissP n) with
        | true =>
          replace o2 := hide o2
          go_wp2_with fail
          refine (contains_amiss (N := n) (B1 := w.heap.size + 1) (B2 := w.heap.size + 2) G.out c1.out c2.out (by omega) (by omega) true o2.out).mono ?_
          rintro e w2 ⟨rfl, hb⟩
          have DB := hide (st DB.out hb (Below.refl _ _))
          clear hb
          go_wp2_with fail
          go_ret
          exact ⟨ret_b (by rw [o2.out]; rfl), DB.out⟩
        | false =>
          replace o2 := hide o2
          go_wp2_with fail
          refine (contains_amiss (N := n) (B1 := w.heap.size + 1) (B2 := w.heap.size + 2) G.out c1.out c2.out (by omega) (by omega) false o2.out).mono ?_
          rintro e w2 ⟨rfl, hb⟩
          have DB := hide (st DB.out hb (Below.refl _ _))
          clear hb
          go_wp2_with fail
          go_ret
          exact ⟨ret_b (by rw [o2.out]; rfl), DB.out⟩
    · rw [decide_eq_false p2]
      have q2 : ¬ (n : Int) ≤ 4096 := by omega
      have q3 : (4096 : Int) < (n : Int) := by omega
      simp only [Bool.and_false, Bool.false_and]
      clear p2 p1
      go_enter Try.func17, Try.ntmps17
      go_wp2_with fail
      go_ret
      exact ⟨rfl, by go_grown⟩
  · have q1 : n = 0 := by omega
    rw [decide_eq_false p1]
    simp only [Bool.false_and]
    subst q1
    go_enter Try.func17, Try.ntmps17
    go_wp2_with fail
    go_ret
    exact ⟨rfl, by go_grown⟩
end Go.Proofs.Ytfmgmpelgnickaa

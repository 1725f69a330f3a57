/-
  The walk over the law VectorLacks (chapter 5): it returns true.
-/
import Derived.Test.YtgjhhnendondcaaMakesPlain
import Derived.Deep.RegionHeld3
import Derived.Deep.DrawnRows
namespace Go.Proofs.Ytgjhhnendondcaa
open Go.RowKit
set_option linter.unusedSimpArgs false
set_option linter.unusedVariables false
attribute [local go_sem ↓] Go.wp_at_zero Go.wp_at_succ

theorem lacksL_len (a b : List Int) (hs : rightB b = true → b.sum ≤ 5000) : (lacksL a b).length ≤ 5000 := by
  unfold lacksL
  split
  · rename_i h
    have h1 := pre_len a b (fine_of_right h.1).2 (fine_of_right h.2).2 b.length (Nat.le_refl _)
    rw [List.take_length] at h1
    have h2 := hs h.2
    omega
  · simp
theorem dots_eq {A B : Option Addr} {n m c d : Nat} {D : List (Int × Int)} {w : World} (h : Dots w A n D) (g : Dots w B m D) (hs : D.length ≤ 5000) :
    Calls Try.prog 33 #[.slice A n c, .slice B m d] w fun e w' => e = .returned (.bool true) ∧ ∃ q, w' = w.drewN q := by
  have e1 := h.1
  have e2 := g.1
  have e : n = m := by omega
  subst e
  exact dots_same _ _ _ _ _ _ _ h g (by omega)
set_option maxHeartbeats 4000000 in
theorem lacks_walk (A B : Option Addr) (n c m d : Nat) (zs ys : List Int) (w : World) (h : Vec w A n c zs) (g : Vec w B m d ys) :
    Calls Try.prog 5 #[.slice A n c, .slice B m d] w fun e w' => e = .returned (.bool true) ∧ Below w.heap.size w w' := by
  have hn := h.max
  have hm := g.max
  have hl2 := g.len
  have VA := fun X (hX : Below w.heap.size w X) => hide (h.below hX)
  have VB := fun X (hX : Below w.heap.size w X) => hide (g.below hX)
  have C0 := Below.refl w.heap.size w
  clear h g
  cases hfew : (decide (n ≤ 100) && decide (m ≤ 100)) with
  | false =>
    go_enter Try.func5, Try.ntmps5
    go_wp2_with fail
    refine (bool_is (few_any _ _ _ _ _ _ hn hm _) hfew).mono ?_
    rintro e w1 ⟨rfl, rfl⟩
    go_wp2_with fail
    refine (alive_any _).mono ?_
    rintro e w2 ⟨rfl, hb⟩
    go_wp2_with fail
    go_ret
    exact ⟨rfl, hb⟩
  | true =>
    have hm1 : m ≤ 1000 := by simp at hfew; omega
    replace hm1 := hide hm1
    cases hr2 : rightB ys with
    | false =>
      have hs : rightB ys = true → ys.sum ≤ 5000 := fun h => by rw [hr2] at h; cases h
      have hle := hide (lacksL_len zs ys hs)
      replace hs := hide hs
      replace hr2 := hide hr2
      clear hl2
      go_enter Try.func5, Try.ntmps5
      go_wp2_with fail
      refine (bool_is (few_any _ _ _ _ _ _ hn hm _) hfew).mono ?_
      rintro e w1 ⟨rfl, rfl⟩
      go_wp2_with fail
      refine (bool_is (ref_right_any (VB _ C0).out) hr2.out).mono ?_
      rintro e w1 ⟨rfl, rfl⟩
      go_wp2_with fail
      refine (alive_any _).mono ?_
      rintro e u1 ⟨rfl, hb1⟩
      have C1 := st C0 hb1 (by go_grown)
      go_wp2_with fail
      refine (lacks_any (VA _ C1).out (VB _ C1).out hs.out).mono ?_
      rintro e u2 ⟨A2, n2, c2, rfl, _, _, V2, hb2⟩
      have C2 := st C1 hb2 (by go_grown)
      replace V2 := hide V2
      go_wp2_with fail
      refine (ref_lacks_any (VA _ C2).out (VB _ C2).out hs.out).mono ?_
      rintro e u3 ⟨A3, n3, c3, rfl, _, _, V3, hb3⟩
      have C3 := st C2 hb3 (by go_grown)
      replace V2 := hide (V2.out.below hb3)
      replace V3 := hide V3
      clear hb1 hb2 hb3 C1 C2
      go_wp2_with fail
      refine (dots_eq V2.out V3.out hle.out).mono ?_
      rintro e u4 ⟨rfl, q, rfl⟩
      go_wp2_with fail
      go_ret
      exact ⟨rfl, below_drewN C3 q⟩
    | true =>
      have hfy := (fine_of_right hr2).2
      replace hfy := hide hfy
      by_cases hsum : (5000 : Int) < ys.sum
      · replace hr2 := hide hr2
        clear hl2
        go_enter Try.func5, Try.ntmps5
        go_wp2_with fail
        refine (bool_is (few_any _ _ _ _ _ _ hn hm _) hfew).mono ?_
        rintro e w1 ⟨rfl, rfl⟩
        go_wp2_with fail
        refine (bool_is (ref_right_any (VB _ C0).out) hr2.out).mono ?_
        rintro e w1 ⟨rfl, rfl⟩
        go_wp2_with fail
        refine (total_any (VB _ C0).out hfy.out hm1.out).mono ?_
        rintro e w1 ⟨rfl, rfl⟩
        go_wp2_with fail
        refine (alive_any _).mono ?_
        rintro e w2 ⟨rfl, hb⟩
        go_wp2_with fail
        go_ret
        exact ⟨rfl, hb⟩
      · have hs : rightB ys = true → ys.sum ≤ 5000 := fun _ => by omega
        have hle := hide (lacksL_len zs ys hs)
        replace hs := hide hs
        replace hr2 := hide hr2
        clear hl2
        go_enter Try.func5, Try.ntmps5
        go_wp2_with fail
        refine (bool_is (few_any _ _ _ _ _ _ hn hm _) hfew).mono ?_
        rintro e w1 ⟨rfl, rfl⟩
        go_wp2_with fail
        refine (bool_is (ref_right_any (VB _ C0).out) hr2.out).mono ?_
        rintro e w1 ⟨rfl, rfl⟩
        go_wp2_with fail
        refine (total_any (VB _ C0).out hfy.out hm1.out).mono ?_
        rintro e w1 ⟨rfl, rfl⟩
        go_wp2_with fail
        refine (alive_any _).mono ?_
        rintro e u1 ⟨rfl, hb1⟩
        have C1 := st C0 hb1 (by go_grown)
        go_wp2_with fail
        refine (lacks_any (VA _ C1).out (VB _ C1).out hs.out).mono ?_
        rintro e u2 ⟨A2, n2, c2, rfl, _, _, V2, hb2⟩
        have C2 := st C1 hb2 (by go_grown)
        replace V2 := hide V2
        go_wp2_with fail
        refine (ref_lacks_any (VA _ C2).out (VB _ C2).out hs.out).mono ?_
        rintro e u3 ⟨A3, n3, c3, rfl, _, _, V3, hb3⟩
        have C3 := st C2 hb3 (by go_grown)
        replace V2 := hide (V2.out.below hb3)
        replace V3 := hide V3
        clear hb1 hb2 hb3 C1 C2
        go_wp2_with fail
        refine (dots_eq V2.out V3.out hle.out).mono ?_
        rintro e u4 ⟨rfl, q, rfl⟩
        go_wp2_with fail
        go_ret
        exact ⟨rfl, below_drewN C3 q⟩
end Go.Proofs.Ytgjhhnendondcaa

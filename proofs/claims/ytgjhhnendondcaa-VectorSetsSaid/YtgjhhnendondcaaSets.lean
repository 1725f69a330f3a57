/-
  The walk over the law VectorSets (chapter 5): it returns true.
-/
import Derived.Test.YtgjhhnendondcaaMakesPlain
import Derived.Deep.RegionHeld3
import Derived.Deep.DrawnRows
namespace Go.Proofs.Ytgjhhnendondcaa
open Go.RowKit
set_option linter.unusedSimpArgs false
set_option linter.unusedVariables false
attribute [local go_sem ↓] Go.wp_at_zero Go.wp_at_succ

theorem trimTo_last (zs : List Int) : ∀ n, 0 < trimTo zs n → zs.getD (trimTo zs n - 1) 0 ≠ 0
  | 0, h => by simp [trimTo] at h
  | n + 1, h => by
    by_cases hz : zs.getD n 0 = 0
    · rw [trimTo_zero hz] at h ⊢; exact trimTo_last zs n h
    · rw [trimTo_not hz]; exact hz
theorem trimL_last (zs : List Int) (h : 0 < (trimL zs).length) : (trimL zs).getD ((trimL zs).length - 1) 0 ≠ 0 := by
  have e : (trimL zs).length = trimTo zs zs.length := by
    unfold trimL; rw [List.length_take]; have := trimTo_le zs zs.length; omega
  rw [trimL_get, e]
  rw [e] at h
  exact trimTo_last zs _ h
theorem setL_last (zs : List Int) (x y : Int) (h : 0 < (setL zs x y).length) : (setL zs x y).getD ((setL zs x y).length - 1) 0 ≠ 0 := by
  unfold setL at h ⊢
  split at h
  · rename_i hc; rw [if_pos hc]; exact trimL_last _ h
  · rename_i hc; rw [if_neg hc]; exact trimL_last _ h
theorem ofL_set (zs : List Int) (x y dev : Int) : ofL (setL zs x y) dev = if dev = x ∧ 1 ≤ dev ∧ dev ≤ 64 then y else ofL zs dev := by
  rw [ofL_nat, ofL_nat]
  by_cases hx : 1 ≤ x ∧ x ≤ 64
  · obtain ⟨i, rfl, hi⟩ : ∃ i : Nat, x = (i : Int) + 1 ∧ i < 64 := ⟨(x - 1).toNat, by omega, by omega⟩
    by_cases hd : 1 ≤ dev
    · rw [if_pos hd, if_pos hd, setL_get zs i hi]
      by_cases e : dev = (i : Int) + 1
      · rw [if_pos (by omega), if_pos (by omega)]
      · rw [if_neg (by omega), if_neg (by omega)]
    · rw [if_neg hd, if_neg hd, if_neg (by omega)]
  · rw [setL_out zs x y hx, trimL_get]; rw [if_neg (c := dev = x ∧ 1 ≤ dev ∧ dev ≤ 64) (by omega)]
set_option maxHeartbeats 4000000 in
theorem sets_walk (A : Option Addr) (n c : Nat) (zs : List Int) (x y dev : Int) (w : World) (h : Vec w A n c zs) (hx : I64 x) (hy : I64 y) (hd : I64 dev) :
    Calls Try.prog 10 #[.slice A n c, .agg #[.int .i64 x, .int .i64 y], .int .i64 dev] w fun e w' => e = .returned (.bool true) ∧ Below w.heap.size w w' := by
  have hn := h.max
  cases hfew : (decide (n ≤ 100) && decide (0 ≤ 100)) with
  | false =>
    have hb0 : Below w.heap.size w (w.alloc (.cells #[.int .i64 x, .int .i64 y] 32)) := by go_grown
    clear h hx hy hd
    go_enter Try.func10, Try.ntmps10
    go_wp2_with fail
    refine (few_any _ none _ 0 _ 0 hn (by omega) _).mono ?_
    rintro e w1 ⟨rfl, rfl⟩
    rw [hfew]
    go_wp2_with fail
    refine (alive_any _).mono ?_
    rintro e w2 ⟨rfl, hb⟩
    go_wp2_with fail
    go_ret
    exact ⟨rfl, hb0.trans (hb.mono hb0.size)⟩
  | true =>
    have hs : n ≤ 100 := by simpa using hfew
    have hs5 : n ≤ 100000 := by omega
    obtain ⟨W0, hW0⟩ : ∃ V, V = w.alloc (.cells #[.int .i64 x, .int .i64 y] 32) := ⟨_, rfl⟩
    have BW : Below w.heap.size w W0 := by rw [hW0]; go_grown
    have k0 : W0.cell? ⟨w.heap.size, 0, none⟩ = some (.int .i64 x) := by rw [hW0]; go_side
    have k1 : W0.cell? ⟨w.heap.size, 1, none⟩ = some (.int .i64 y) := by rw [hW0]; go_side
    have lt0 : w.heap.size < W0.heap.size := by rw [hW0]; simp
    have VA := fun X (hX : Below W0.heap.size W0 X) => hide ((h.below BW).below hX)
    have C0 := Below.refl W0.heap.size W0
    have T1 := hide hs5
    have T2 := hide hy
    have T3 := hide hd
    have L1 := hide (ofL_set zs x y dev)
    have L2 := hide (setL_last zs x y)
    replace hW0 := hide hW0
    clear h hx hy hs hs5 hd
    have main : ∀ want : Int, want = ofL (setL zs x y) dev → ∀ (u2 : World) (A2 : Option Addr) (n2 c2 : Nat), Vec u2 A2 n2 c2 (setL zs x y) → Below W0.heap.size W0 u2 → True := fun _ _ _ _ _ _ _ _ => trivial
    clear main
    by_cases he : dev = x
    · subst he
      by_cases h1 : 1 ≤ dev
      · by_cases h2 : dev ≤ 64
        · have L3 : ofL (setL zs dev y) dev = y := by rw [L1.out, if_pos ⟨rfl, h1, h2⟩]
          replace L3 := hide L3
          clear L1
          go_enter Try.func10, Try.ntmps10
          go_wp2_with fail
          rw [← hW0.out]
          clear hW0
          refine (few_any _ none _ 0 _ 0 hn (by omega) _).mono ?_
          rintro e w1 ⟨rfl, rfl⟩
          rw [hfew]
          go_wp2_with fail
          refine (set_any dev y T2.out (VA _ C0).out T1.out).mono ?_
          rintro e u1 ⟨A1, n1, c1, rfl, V1, hb1⟩
          have C1 := st C0 hb1 (by go_grown)
          obtain ⟨hc1, hf1⟩ := bcell C1
          have sz1 := C1.size
          replace V1 := hide V1
          clear hb1 C0
          go_wp2_with fail
          refine (of_dev dev T3.out (VA _ C1).out).mono ?_
          rintro e u2 ⟨rfl, rfl⟩
          go_wp2_with fail
          refine (alive_any _).mono ?_
          rintro e u3 ⟨rfl, hb3⟩
          have C3 := st C1 hb3 (by go_grown)
          replace V1 := hide (V1.out.stp hb3 (by go_grown))
          clear hb3 C1 hc1 hf1
          go_wp2_with fail
          refine (int_is (of_dev dev T3.out V1.out) L3.out).mono ?_
          rintro e u4 ⟨rfl, rfl⟩
          have e1 := V1.out.len
          have e2 := V1.out.max
          by_cases hz : n1 = 0
          · subst hz
            go_wp2_with fail
            go_ret
            exact ⟨rfl, BW.trans (C3.mono BW.size)⟩
          · obtain ⟨b, off, rfl, hc⟩ := V1.out.at_ (k := n1 - 1) (by omega)
            have hnz := L2.out (by omega)
            rw [e1] at hnz
            generalize (setL zs dev y).getD (n1 - 1) 0 = z at hc hnz
            obtain ⟨k, rfl⟩ : ∃ k, n1 = k + 1 := ⟨n1 - 1, by omega⟩
            have hk1 : (((k + 1 : Nat) : Int) - 1) = (k : Int) := by omega
            have hk2 : ¬ (((k + 1 : Nat) : Int) = 0) := by omega
            simp only [Nat.add_sub_cancel] at hc
            go_wp2_with fail
            go_ret
            exact ⟨ret_b (by simp [hnz]), BW.trans (C3.mono BW.size)⟩
        · have L3 : ofL (setL zs dev y) dev = ofL zs dev := by rw [L1.out, if_neg (by omega)]
          replace L3 := hide L3
          clear L1
          go_enter Try.func10, Try.ntmps10
          go_wp2_with fail
          rw [← hW0.out]
          clear hW0
          refine (few_any _ none _ 0 _ 0 hn (by omega) _).mono ?_
          rintro e w1 ⟨rfl, rfl⟩
          rw [hfew]
          go_wp2_with fail
          refine (set_any dev y T2.out (VA _ C0).out T1.out).mono ?_
          rintro e u1 ⟨A1, n1, c1, rfl, V1, hb1⟩
          have C1 := st C0 hb1 (by go_grown)
          obtain ⟨hc1, hf1⟩ := bcell C1
          have sz1 := C1.size
          replace V1 := hide V1
          clear hb1 C0
          go_wp2_with fail
          refine (of_dev dev T3.out (VA _ C1).out).mono ?_
          rintro e u2 ⟨rfl, rfl⟩
          go_wp2_with fail
          refine (alive_any _).mono ?_
          rintro e u3 ⟨rfl, hb3⟩
          have C3 := st C1 hb3 (by go_grown)
          replace V1 := hide (V1.out.stp hb3 (by go_grown))
          clear hb3 C1 hc1 hf1
          go_wp2_with fail
          refine (int_is (of_dev dev T3.out V1.out) L3.out).mono ?_
          rintro e u4 ⟨rfl, rfl⟩
          have e1 := V1.out.len
          have e2 := V1.out.max
          by_cases hz : n1 = 0
          · subst hz
            go_wp2_with fail
            go_ret
            exact ⟨rfl, BW.trans (C3.mono BW.size)⟩
          · obtain ⟨b, off, rfl, hc⟩ := V1.out.at_ (k := n1 - 1) (by omega)
            have hnz := L2.out (by omega)
            rw [e1] at hnz
            generalize (setL zs dev y).getD (n1 - 1) 0 = z at hc hnz
            obtain ⟨k, rfl⟩ : ∃ k, n1 = k + 1 := ⟨n1 - 1, by omega⟩
            have hk1 : (((k + 1 : Nat) : Int) - 1) = (k : Int) := by omega
            have hk2 : ¬ (((k + 1 : Nat) : Int) = 0) := by omega
            simp only [Nat.add_sub_cancel] at hc
            go_wp2_with fail
            go_ret
            exact ⟨ret_b (by simp [hnz]), BW.trans (C3.mono BW.size)⟩
      · have L3 : ofL (setL zs dev y) dev = ofL zs dev := by rw [L1.out, if_neg (by omega)]
        replace L3 := hide L3
        clear L1
        go_enter Try.func10, Try.ntmps10
        go_wp2_with fail
        rw [← hW0.out]
        clear hW0
        refine (few_any _ none _ 0 _ 0 hn (by omega) _).mono ?_
        rintro e w1 ⟨rfl, rfl⟩
        rw [hfew]
        go_wp2_with fail
        refine (set_any dev y T2.out (VA _ C0).out T1.out).mono ?_
        rintro e u1 ⟨A1, n1, c1, rfl, V1, hb1⟩
        have C1 := st C0 hb1 (by go_grown)
        obtain ⟨hc1, hf1⟩ := bcell C1
        have sz1 := C1.size
        replace V1 := hide V1
        clear hb1 C0
        go_wp2_with fail
        refine (of_dev dev T3.out (VA _ C1).out).mono ?_
        rintro e u2 ⟨rfl, rfl⟩
        go_wp2_with fail
        refine (alive_any _).mono ?_
        rintro e u3 ⟨rfl, hb3⟩
        have C3 := st C1 hb3 (by go_grown)
        replace V1 := hide (V1.out.stp hb3 (by go_grown))
        clear hb3 C1 hc1 hf1
        go_wp2_with fail
        refine (int_is (of_dev dev T3.out V1.out) L3.out).mono ?_
        rintro e u4 ⟨rfl, rfl⟩
        have e1 := V1.out.len
        have e2 := V1.out.max
        by_cases hz : n1 = 0
        · subst hz
          go_wp2_with fail
          go_ret
          exact ⟨rfl, BW.trans (C3.mono BW.size)⟩
        · obtain ⟨b, off, rfl, hc⟩ := V1.out.at_ (k := n1 - 1) (by omega)
          have hnz := L2.out (by omega)
          rw [e1] at hnz
          generalize (setL zs dev y).getD (n1 - 1) 0 = z at hc hnz
          obtain ⟨k, rfl⟩ : ∃ k, n1 = k + 1 := ⟨n1 - 1, by omega⟩
          have hk1 : (((k + 1 : Nat) : Int) - 1) = (k : Int) := by omega
          have hk2 : ¬ (((k + 1 : Nat) : Int) = 0) := by omega
          simp only [Nat.add_sub_cancel] at hc
          go_wp2_with fail
          go_ret
          exact ⟨ret_b (by simp [hnz]), BW.trans (C3.mono BW.size)⟩
    · have L3 : ofL (setL zs x y) dev = ofL zs dev := by rw [L1.out, if_neg (by omega)]
      replace L3 := hide L3
      clear L1
      go_enter Try.func10, Try.ntmps10
      go_wp2_with fail
      rw [← hW0.out]
      clear hW0
      refine (few_any _ none _ 0 _ 0 hn (by omega) _).mono ?_
      rintro e w1 ⟨rfl, rfl⟩
      rw [hfew]
      go_wp2_with fail
      refine (set_any x y T2.out (VA _ C0).out T1.out).mono ?_
      rintro e u1 ⟨A1, n1, c1, rfl, V1, hb1⟩
      have C1 := st C0 hb1 (by go_grown)
      obtain ⟨hc1, hf1⟩ := bcell C1
      have sz1 := C1.size
      replace V1 := hide V1
      clear hb1 C0
      go_wp2_with fail
      refine (of_dev dev T3.out (VA _ C1).out).mono ?_
      rintro e u2 ⟨rfl, rfl⟩
      go_wp2_with fail
      refine (alive_any _).mono ?_
      rintro e u3 ⟨rfl, hb3⟩
      have C3 := st C1 hb3 (by go_grown)
      replace V1 := hide (V1.out.stp hb3 (by go_grown))
      clear hb3 C1 hc1 hf1
      go_wp2_with fail
      refine (int_is (of_dev dev T3.out V1.out) L3.out).mono ?_
      rintro e u4 ⟨rfl, rfl⟩
      have e1 := V1.out.len
      have e2 := V1.out.max
      by_cases hz : n1 = 0
      · subst hz
        go_wp2_with fail
        go_ret
        exact ⟨rfl, BW.trans (C3.mono BW.size)⟩
      · obtain ⟨b, off, rfl, hc⟩ := V1.out.at_ (k := n1 - 1) (by omega)
        have hnz := L2.out (by omega)
        rw [e1] at hnz
        generalize (setL zs x y).getD (n1 - 1) 0 = z at hc hnz
        obtain ⟨k, rfl⟩ : ∃ k, n1 = k + 1 := ⟨n1 - 1, by omega⟩
        have hk1 : (((k + 1 : Nat) : Int) - 1) = (k : Int) := by omega
        have hk2 : ¬ (((k + 1 : Nat) : Int) = 0) := by omega
        simp only [Nat.add_sub_cancel] at hc
        go_wp2_with fail
        go_ret
        exact ⟨ret_b (by simp [hnz]), BW.trans (C3.mono BW.size)⟩
end Go.Proofs.Ytgjhhnendondcaa

/-
  Chapter 34: the walk over the law SketchOne: it returns true.
-/
import Derived.Test.YtabgenhednhagaaAppend
namespace Go.Proofs.Ytabgenhednhagaa
open Go.RowKit Plain
set_option linter.unusedSimpArgs false
set_option linter.unusedVariables false
attribute [local go_sem ↓] Go.wp_at_zero Go.wp_at_succ


set_option maxHeartbeats 4000000 in
theorem one_walk {w : World} {A : Option Addr} {n c : Nat} {zs : List W} (h : Nums w A n c zs) (a : W) (left : Bool) (y : Int) (hy0 : 0 ≤ y) (hy1 : y ≤ 255) :
    Calls Try.prog 6 #[.slice A n c, .int .u64 (a.toNat : Int), .bool left, .int .u8 y] w fun e w' => e = .returned (.bool true) ∧ Below w.heap.size w w' := by
  have hn := h.max
  replace h := hide h
  have BW := hide (Below.refl w.heap.size w)
  obtain ⟨Z, hZ⟩ : ∃ Z, Z = (a.toNat : Int) := ⟨_, rfl⟩
  rw [← hZ]
  replace hZ := hide hZ
  by_cases h1 : n ≤ 30
  · have h1I : ¬ (30 : Int) < (n : Int) := by omega
    obtain ⟨k, hk⟩ : ∃ k : Nat, 1 + y % 30 = (k : Int) := ⟨(1 + y % 30).toNat, by omega⟩
    have hk1 : 0 < k := by omega
    have hk2 : k ≤ 30 := by omega
    go_enter Try.func6, Try.ntmps6
    go_wp2_with fail
    refine (awake_any _).mono ?_
    rintro e u1 ⟨rfl, hb⟩
    have D1 : Below w.heap.size w u1 := hb
    replace BW := hide (st BW.out D1 (Below.refl _ _))
    replace h := hide (h.out.below D1)
    clear hb D1
    go_wp2_with fail
    refine (symbols_any h.out 0 (k : Int)).mono ?_
    rintro e u2 ⟨A1, n1, c1, rfl, S1, hb⟩
    have D2 : Below u1.heap.size u1 u2 := hb
    replace BW := hide (st BW.out D2 (Below.refl _ _))
    replace h := hide (h.out.below D2)
    obtain rfl : k = n1 := by have e := S1.1; rw [show (0 : Int) = ((0 : Nat) : Int) from rfl, symsL_len _ (by omega)] at e; exact e
    replace S1 := hide S1
    clear hb D2
    have g0 : Below u2.heap.size u2 (u2.alloc (.cells #[] 22)) := by go_grown
    go_wp2_with (first
      | (at_builtin; refine wpList_append_nums rfl (.tmp 34) (.tmp 35) rfl u2.heap.size _ 0 [] rfl (World.ownsRow_made u2 #[] 0 (Nat.le_refl _) (by unfold maxLen; omega) rfl) A n c zs rfl (h.out.below g0) (by omega) (by simp) ?_; intro v1 m1 hown1 hm1; simp only [Nat.zero_add, List.nil_append] at hown1; have D1 : Below u2.heap.size u2 m1 := g0.trans hm1)
      | (at_builtin; refine wpList_append_nums rfl (.tmp 36) (.tmp 38) rfl u2.heap.size v1 n zs rfl (hown1.alloc _) (some ⟨m1.heap.size, 0, none⟩) 1 1 [a] rfl (by rw [hZ.out]; exact nums_lit1 m1 a) (by omega) (by have := D1.size; simp; omega) ?_; intro v2 m2 hown2 hm2; have D2 : Below u2.heap.size u2 m2 := (D1.alloc D1.size _).trans hm2))
    obtain ⟨A9, c9, rfl, N9⟩ := own_nums hown2
    replace BW := hide (st BW.out D2 (Below.refl _ _))
    replace h := hide (h.out.below D2)
    replace S1 := hide (S1.out.below D2)
    replace N9 := hide N9
    clear hown1 hown2 hm1 hm2 D1 D2 g0
    go_wp2_with fail
    refine (symbols_any N9.out 0 (k : Int)).mono ?_
    rintro e u11 ⟨A2, n2, c2, rfl, S2, hb⟩
    have D11 : Below m2.heap.size m2 u11 := hb
    replace BW := hide (st BW.out D11 (Below.refl _ _))
    clear h
    replace S1 := hide (S1.out.below D11)
    clear N9
    obtain rfl : k = n2 := by have e := S2.1; rw [show (0 : Int) = ((0 : Nat) : Int) from rfl, symsL_len _ (by omega)] at e; exact e
    replace S2 := hide S2
    clear hb D11
    go_wp2_with fail
    refine (sub_any S1.out S1.out (by omega)).mono ?_
    rintro e u12 ⟨A3, n3, c3, rfl, S3, hb⟩
    have D12 : Below u11.heap.size u11 u12 := hb
    replace BW := hide (st BW.out D12 (Below.refl _ _))
    replace S1 := hide (S1.out.below D12)
    replace S2 := hide (S2.out.below D12)
    rw [one_none zs (by omega)] at S3
    have hn3 : n3 ≤ 1000 := by have e := S3.1; simp [zeros] at e; omega
    replace S3 := hide S3
    clear hb D12
    go_wp2_with fail
    refine (peel_b S3.out hn3 [] [] true (by rw [peel_zeros]) (by rw [peel_zeros]) (by rw [peel_zeros]; exact zeros_done hk1)).mono ?_
    rintro e u13 ⟨A4, n4, c4, A5, n5, c5, rfl, N4, N5, hb⟩
    have D13 : Below u12.heap.size u12 u13 := hb
    replace BW := hide (st BW.out D13 (Below.refl _ _))
    replace S1 := hide (S1.out.below D13)
    replace S2 := hide (S2.out.below D13)
    clear S3
    obtain rfl : n4 = 0 := N4.1.symm
    obtain rfl : n5 = 0 := N5.1.symm
    clear N4 N5 hn3
    clear hb D13
    cases left with
    | true =>
      go_wp2_with fail
      refine (sub_any S2.out S1.out (by omega)).mono ?_
      rintro e u21 ⟨A6, n6, c6, rfl, S6, hb⟩
      have D21 : Below u13.heap.size u13 u21 := hb
      replace BW := hide (st BW.out D21 (Below.refl _ _))
      clear S1
      clear S2
      rw [one_more zs a (by omega)] at S6
      have hn6 : n6 ≤ 1000 := by have e := S6.1; simp [single] at e; omega
      replace S6 := hide S6
      clear hb D21
      go_wp2_with fail
      refine (peel_b S6.out hn6 [a] [] true (by rw [peel_single_mine a hk1]) (by rw [peel_single_mine a hk1]) (by rw [peel_single_mine a hk1]; exact zeros_done hk1)).mono ?_
      rintro e u22 ⟨A7, n7, c7, A8, n8, c8, rfl, N7, N8, hb⟩
      have D22 : Below u21.heap.size u21 u22 := hb
      replace BW := hide (st BW.out D22 (Below.refl _ _))
      clear S6
      replace N7 := hide N7
      replace N8 := hide N8
      clear hb D22
      obtain rfl : n7 = 1 := N7.out.1.symm
      obtain rfl : n8 = 0 := N8.out.1.symm
      go_wp2_with fail
      have g23 : Below u22.heap.size u22 (u22.alloc (.cells #[.int .u64 Z] 22)) := by go_grown
      refine (nums_to (N7.out.below (by go_grown)) (show Nums _ (some ⟨u22.heap.size, 0, none⟩) 1 1 [a] from by rw [hZ.out]; exact nums_lit1 u22 a) true (by simp)).mono ?_
      rintro e u23 ⟨rfl, hb⟩
      have D23 : Below u22.heap.size u22 u23 := g23.trans (hb.mono g23.size)
      replace BW := hide (st BW.out D23 (Below.refl _ _))
      clear N7
      clear N8
      clear hb D23 g23
      go_wp2_with fail
      go_ret
      exact ⟨rfl, BW.out⟩
    | false =>
      go_wp2_with fail
      refine (sub_any S1.out S2.out (by omega)).mono ?_
      rintro e u21 ⟨A6, n6, c6, rfl, S6, hb⟩
      have D21 : Below u13.heap.size u13 u21 := hb
      replace BW := hide (st BW.out D21 (Below.refl _ _))
      clear S1
      clear S2
      rw [one_less zs a (by omega)] at S6
      have hn6 : n6 ≤ 1000 := by have e := S6.1; simp [single] at e; omega
      replace S6 := hide S6
      clear hb D21
      go_wp2_with fail
      refine (peel_b S6.out hn6 [] [a] true (by rw [peel_single_theirs a hk1]) (by rw [peel_single_theirs a hk1]) (by rw [peel_single_theirs a hk1]; exact zeros_done hk1)).mono ?_
      rintro e u22 ⟨A7, n7, c7, A8, n8, c8, rfl, N7, N8, hb⟩
      have D22 : Below u21.heap.size u21 u22 := hb
      replace BW := hide (st BW.out D22 (Below.refl _ _))
      clear S6
      replace N7 := hide N7
      replace N8 := hide N8
      clear hb D22
      obtain rfl : n8 = 1 := N8.out.1.symm
      obtain rfl : n7 = 0 := N7.out.1.symm
      go_wp2_with fail
      have g23 : Below u22.heap.size u22 (u22.alloc (.cells #[.int .u64 Z] 22)) := by go_grown
      refine (nums_to (N8.out.below (by go_grown)) (show Nums _ (some ⟨u22.heap.size, 0, none⟩) 1 1 [a] from by rw [hZ.out]; exact nums_lit1 u22 a) true (by simp)).mono ?_
      rintro e u23 ⟨rfl, hb⟩
      have D23 : Below u22.heap.size u22 u23 := g23.trans (hb.mono g23.size)
      replace BW := hide (st BW.out D23 (Below.refl _ _))
      clear N7
      clear N8
      clear hb D23 g23
      go_wp2_with fail
      go_ret
      exact ⟨rfl, BW.out⟩
  · have h1I : (30 : Int) < (n : Int) := by omega
    clear h1
    go_enter Try.func6, Try.ntmps6
    go_wp2_with fail
    refine (awake_any _).mono ?_
    rintro e u1 ⟨rfl, hb⟩
    have D1 : Below w.heap.size w u1 := hb
    replace BW := hide (st BW.out D1 (Below.refl _ _))
    clear hb D1
    go_wp2_with fail
    go_ret
    exact ⟨rfl, BW.out⟩
end Go.Proofs.Ytabgenhednhagaa

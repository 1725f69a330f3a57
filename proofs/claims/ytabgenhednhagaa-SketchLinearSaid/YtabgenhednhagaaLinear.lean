/-
  Chapter 34: the walk over the law SketchLinear: it returns true.
-/
import Derived.Test.YtabgenhednhagaaAppend
namespace Go.Proofs.Ytabgenhednhagaa
open Go.RowKit Plain
set_option linter.unusedSimpArgs false
set_option linter.unusedVariables false
attribute [local go_sem ↓] Go.wp_at_zero Go.wp_at_succ


set_option maxHeartbeats 8000000 in
theorem linear_walk {w : World} {A B U : Option Addr} {n c m d l e : Nat} {zs ts us : List W} (h : Nums w A n c zs) (g : Nums w B m d ts) (u : Nums w U l e us) (x y : Int) (hx0 : 0 ≤ x) (hx1 : x ≤ 65535) (hy0 : 0 ≤ y) (hy1 : y ≤ 255) :
    Calls Try.prog 9 #[.slice A n c, .slice B m d, .slice U l e, .int .u16 x, .int .u8 y] w fun e w' => e = .returned (.bool true) ∧ Below w.heap.size w w' := by
  have hn := h.max
  have hm := g.max
  have hl := u.max
  replace h := hide h
  replace g := hide g
  replace u := hide u
  have BW := hide (Below.refl w.heap.size w)
  by_cases h1 : n ≤ 30
  · have h1I : ¬ (30 : Int) < (n : Int) := by omega
    by_cases h2 : m ≤ 30
    · have h2I : ¬ (30 : Int) < (m : Int) := by omega
      by_cases h3 : l ≤ 30
      · have h3I : ¬ (30 : Int) < (l : Int) := by omega
        obtain ⟨k, hk⟩ : ∃ k : Nat, x % 16000 = (k : Int) := ⟨(x % 16000).toNat, by omega⟩
        obtain ⟨q, hq⟩ : ∃ k : Nat, y % 31 = (k : Int) := ⟨(y % 31).toNat, by omega⟩
        have hk1 : k < 16000 := by omega
        have hq1 : q ≤ 30 := by omega
        go_enter Try.func9, Try.ntmps9
        go_wp2_with fail
        refine (awake_any _).mono ?_
        rintro e u1 ⟨rfl, hb⟩
        have D1 : Below w.heap.size w u1 := hb
        replace BW := hide (st BW.out D1 (Below.refl _ _))
        replace h := hide (h.out.below D1)
        replace g := hide (g.out.below D1)
        replace u := hide (u.out.below D1)
        clear hb D1
        have g0 : Below u1.heap.size u1 (u1.alloc (.cells #[] 22)) := by go_grown
        go_wp2_with (first
          | (at_builtin; refine wpList_append_nums rfl (.tmp 41) (.tmp 42) rfl u1.heap.size _ 0 [] rfl (World.ownsRow_made u1 #[] 0 (Nat.le_refl _) (by unfold maxLen; omega) rfl) A n c zs rfl (h.out.below g0) (by omega) (by simp) ?_; intro v1 m1 hown1 hm1; simp only [Nat.zero_add, List.nil_append] at hown1; have D1 : Below u1.heap.size u1 m1 := g0.trans hm1)
          | (at_builtin; refine wpList_append_nums rfl (.tmp 43) (.tmp 44) rfl u1.heap.size v1 n zs rfl hown1 U l e us rfl (u.out.below D1) (by omega) D1.size ?_; intro v2 m2 hown2 hm2; have D2 : Below u1.heap.size u1 m2 := D1.trans hm2; obtain ⟨A9, c9, rfl, N9⟩ := own_nums hown2; replace BW := hide (st BW.out D2 (Below.refl _ _)); replace h := hide (h.out.below D2); replace g := hide (g.out.below D2); replace u := hide (u.out.below D2); replace N9 := hide N9; clear hown1 hown2 hm1 hm2 D1 D2 g0; have g2 : Below m2.heap.size m2 (m2.alloc (.cells #[] 22)) := by go_grown)
          | (at_builtin; refine wpList_append_nums rfl (.tmp 46) (.tmp 47) rfl m2.heap.size _ 0 [] rfl (World.ownsRow_made m2 #[] 0 (Nat.le_refl _) (by unfold maxLen; omega) rfl) U l e us rfl (u.out.below g2) (by omega) (by simp) ?_; intro v3 m3 hown3 hm3; simp only [Nat.zero_add, List.nil_append] at hown3; have D3 : Below m2.heap.size m2 m3 := g2.trans hm3)
          | (at_builtin; refine wpList_append_nums rfl (.tmp 48) (.tmp 49) rfl m2.heap.size v3 l us rfl hown3 B m d ts rfl (g.out.below D3) (by omega) D3.size ?_; intro v4 m4 hown4 hm4; have D4 : Below m2.heap.size m2 m4 := D3.trans hm4; obtain ⟨A8, c8, rfl, N8⟩ := own_nums hown4; replace BW := hide (st BW.out D4 (Below.refl _ _)); replace h := hide (h.out.below D4); replace g := hide (g.out.below D4); replace u := hide (u.out.below D4); replace N9 := hide (N9.out.below D4); replace N8 := hide N8; clear hown3 hown4 hm3 hm4 D3 D4 g2))
        go_wp2_with fail
        refine (symbols_any h.out (k : Int) (q : Int)).mono ?_
        rintro e u11 ⟨A1, n1, C1, rfl, S1, hb⟩
        have D11 : Below m4.heap.size m4 u11 := hb
        replace BW := hide (st BW.out D11 (Below.refl _ _))
        clear h
        replace g := hide (g.out.below D11)
        replace u := hide (u.out.below D11)
        replace N9 := hide (N9.out.below D11)
        replace N8 := hide (N8.out.below D11)
        obtain rfl : q = n1 := by have e := S1.1; rw [symsL_len _ (by omega)] at e; exact e
        replace S1 := hide S1
        clear hb D11
        go_wp2_with fail
        refine (symbols_any g.out (k : Int) (q : Int)).mono ?_
        rintro e u12 ⟨A2, n2, C2, rfl, S2, hb⟩
        have D12 : Below u11.heap.size u11 u12 := hb
        replace BW := hide (st BW.out D12 (Below.refl _ _))
        clear g
        replace u := hide (u.out.below D12)
        replace N9 := hide (N9.out.below D12)
        replace N8 := hide (N8.out.below D12)
        replace S1 := hide (S1.out.below D12)
        obtain rfl : q = n2 := by have e := S2.1; rw [symsL_len _ (by omega)] at e; exact e
        replace S2 := hide S2
        clear hb D12
        go_wp2_with fail
        refine (symbols_any N9.out (k : Int) (q : Int)).mono ?_
        rintro e u13 ⟨A3, n3, C3, rfl, S3, hb⟩
        have D13 : Below u12.heap.size u12 u13 := hb
        replace BW := hide (st BW.out D13 (Below.refl _ _))
        replace u := hide (u.out.below D13)
        clear N9
        replace N8 := hide (N8.out.below D13)
        replace S1 := hide (S1.out.below D13)
        replace S2 := hide (S2.out.below D13)
        obtain rfl : q = n3 := by have e := S3.1; rw [symsL_len _ (by omega)] at e; exact e
        replace S3 := hide S3
        clear hb D13
        go_wp2_with fail
        refine (symbols_any N8.out (k : Int) (q : Int)).mono ?_
        rintro e u14 ⟨A4, n4, C4, rfl, S4, hb⟩
        have D14 : Below u13.heap.size u13 u14 := hb
        replace BW := hide (st BW.out D14 (Below.refl _ _))
        replace u := hide (u.out.below D14)
        clear N8
        replace S1 := hide (S1.out.below D14)
        replace S2 := hide (S2.out.below D14)
        replace S3 := hide (S3.out.below D14)
        obtain rfl : q = n4 := by have e := S4.1; rw [symsL_len _ (by omega)] at e; exact e
        replace S4 := hide S4
        clear hb D14
        go_wp2_with fail
        refine (sub_any S3.out S4.out (by omega)).mono ?_
        rintro e u15 ⟨A5, n5, C5, rfl, S5, hb⟩
        have D15 : Below u14.heap.size u14 u15 := hb
        replace BW := hide (st BW.out D15 (Below.refl _ _))
        replace u := hide (u.out.below D15)
        replace S1 := hide (S1.out.below D15)
        replace S2 := hide (S2.out.below D15)
        replace S3 := hide (S3.out.below D15)
        clear S4
        rw [linear_less _ _ _ (by omega)] at S5
        replace S5 := hide S5
        clear hb D15
        go_wp2_with fail
        refine (symbols_any u.out (k : Int) (q : Int)).mono ?_
        rintro e u16 ⟨A6, n6, C6, rfl, S6, hb⟩
        have D16 : Below u15.heap.size u15 u16 := hb
        replace BW := hide (st BW.out D16 (Below.refl _ _))
        clear u
        replace S1 := hide (S1.out.below D16)
        replace S2 := hide (S2.out.below D16)
        replace S3 := hide (S3.out.below D16)
        replace S5 := hide (S5.out.below D16)
        obtain rfl : q = n6 := by have e := S6.1; rw [symsL_len _ (by omega)] at e; exact e
        replace S6 := hide S6
        clear hb D16
        go_wp2_with fail
        refine (add_any S1.out S6.out (by omega)).mono ?_
        rintro e u17 ⟨A7, n7, C7, rfl, S7, hb⟩
        have D17 : Below u16.heap.size u16 u17 := hb
        replace BW := hide (st BW.out D17 (Below.refl _ _))
        replace S1 := hide (S1.out.below D17)
        replace S2 := hide (S2.out.below D17)
        replace S3 := hide (S3.out.below D17)
        replace S5 := hide (S5.out.below D17)
        clear S6
        rw [← symsL_both _ _ (by omega)] at S7
        replace S7 := hide S7
        clear hb D17
        go_wp2_with fail
        refine (same_to S3.out S7.out true (by simp)).mono ?_
        rintro e u18 ⟨rfl, hb⟩
        have D18 : Below u17.heap.size u17 u18 := hb
        replace BW := hide (st BW.out D18 (Below.refl _ _))
        replace S1 := hide (S1.out.below D18)
        replace S2 := hide (S2.out.below D18)
        clear S3
        replace S5 := hide (S5.out.below D18)
        clear S7
        clear hb D18
        go_wp2_with fail
        refine (sub_any S1.out S2.out (by omega)).mono ?_
        rintro e u19 ⟨A8, n8, C8, rfl, S8, hb⟩
        have D19 : Below u18.heap.size u18 u19 := hb
        replace BW := hide (st BW.out D19 (Below.refl _ _))
        replace S1 := hide (S1.out.below D19)
        replace S2 := hide (S2.out.below D19)
        replace S5 := hide (S5.out.below D19)
        replace S8 := hide S8
        clear hb D19
        go_wp2_with fail
        refine (same_to S5.out S8.out true (by simp)).mono ?_
        rintro e u20 ⟨rfl, hb⟩
        have D20 : Below u19.heap.size u19 u20 := hb
        replace BW := hide (st BW.out D20 (Below.refl _ _))
        replace S1 := hide (S1.out.below D20)
        replace S2 := hide (S2.out.below D20)
        clear S5
        clear S8
        clear hb D20
        go_wp2_with fail
        refine (add_any S1.out S2.out (by omega)).mono ?_
        rintro e u21 ⟨A9, n9, C9, rfl, S9, hb⟩
        have D21 : Below u20.heap.size u20 u21 := hb
        replace BW := hide (st BW.out D21 (Below.refl _ _))
        replace S1 := hide (S1.out.below D21)
        replace S2 := hide (S2.out.below D21)
        have hn9 : n9 ≤ 100000 := by have e := S9.1; rw [bothL_len, symsL_len _ (by omega)] at e; omega
        replace S9 := hide S9
        clear hb D21
        go_wp2_with fail
        refine (sub_any S9.out S2.out hn9).mono ?_
        rintro e u22 ⟨A10, n10, C10, rfl, S10, hb⟩
        have D22 : Below u21.heap.size u21 u22 := hb
        replace BW := hide (st BW.out D22 (Below.refl _ _))
        replace S1 := hide (S1.out.below D22)
        clear S2
        clear S9
        rw [linear_back _ _ (by omega)] at S10
        replace S10 := hide S10
        clear hb D22
        go_wp2_with fail
        refine (same_to S10.out S1.out true (by simp)).mono ?_
        rintro e u23 ⟨rfl, hb⟩
        have D23 : Below u22.heap.size u22 u23 := hb
        replace BW := hide (st BW.out D23 (Below.refl _ _))
        clear S1
        clear S10
        clear hb D23
        go_wp2_with fail
        go_ret
        exact ⟨rfl, BW.out⟩
      · have h3I : (30 : Int) < (l : Int) := by omega
        clear h3
        go_enter Try.func9, Try.ntmps9
        go_wp2_with fail
        refine (awake_any _).mono ?_
        rintro e u1 ⟨rfl, hb⟩
        have D1 : Below w.heap.size w u1 := hb
        replace BW := hide (st BW.out D1 (Below.refl _ _))
        clear hb D1
        go_wp2_with fail
        go_ret
        exact ⟨rfl, BW.out⟩
    · have h2I : (30 : Int) < (m : Int) := by omega
      clear h2
      go_enter Try.func9, Try.ntmps9
      go_wp2_with fail
      refine (awake_any _).mono ?_
      rintro e u1 ⟨rfl, hb⟩
      have D1 : Below w.heap.size w u1 := hb
      replace BW := hide (st BW.out D1 (Below.refl _ _))
      clear hb D1
      go_wp2_with fail
      go_ret
      exact ⟨rfl, BW.out⟩
  · have h1I : (30 : Int) < (n : Int) := by omega
    clear h1
    go_enter Try.func9, Try.ntmps9
    go_wp2_with fail
    refine (awake_any _).mono ?_
    rintro e u1 ⟨rfl, hb⟩
    have D1 : Below w.heap.size w u1 := hb
    replace BW := hide (st BW.out D1 (Below.refl _ _))
    clear hb D1
    go_wp2_with fail
    go_ret
    exact ⟨rfl, BW.out⟩
end Go.Proofs.Ytabgenhednhagaa

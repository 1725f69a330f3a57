/-
  Chapter 34: the walk over the law SketchGoes: it returns true.
-/
import Derived.Test.YtabgenhednhagaaAppend
namespace Go.Proofs.Ytabgenhednhagaa
open Go.RowKit Plain
set_option linter.unusedSimpArgs false
set_option linter.unusedVariables false
attribute [local go_sem ↓] Go.wp_at_zero Go.wp_at_succ


set_option maxHeartbeats 4000000 in
theorem goes_walk {w : World} {A : Option Addr} {n c : Nat} {zs : List W} (h : Nums w A n c zs) (x y z : Int) (hx0 : 0 ≤ x) (hx1 : x ≤ 65535) (hy0 : 0 ≤ y) (hy1 : y ≤ 255) (hz0 : 0 ≤ z) (hz1 : z ≤ 255) :
    Calls Try.prog 4 #[.slice A n c, .int .u16 x, .int .u8 y, .int .u8 z] w fun e w' => e = .returned (.bool true) ∧ Below w.heap.size w w' := by
  have hn := h.max
  replace h := hide h
  have BW := hide (Below.refl w.heap.size w)
  by_cases h1 : n ≤ 30
  · have h1I : ¬ (30 : Int) < (n : Int) := by omega
    obtain ⟨k, hk⟩ : ∃ k : Nat, x % 16000 = (k : Int) := ⟨(x % 16000).toNat, by omega⟩
    obtain ⟨p, hp⟩ : ∃ k : Nat, y % 31 = (k : Int) := ⟨(y % 31).toNat, by omega⟩
    obtain ⟨q, hq⟩ : ∃ k : Nat, z % 31 = (k : Int) := ⟨(z % 31).toNat, by omega⟩
    have hk1 : k < 16000 := by omega
    have hp1 : p ≤ 30 := by omega
    have hq1 : q ≤ 30 := by omega
    go_enter Try.func4, Try.ntmps4
    go_wp2_with fail
    refine (awake_any _).mono ?_
    rintro e u1 ⟨rfl, hb⟩
    have D1 : Below w.heap.size w u1 := hb
    replace BW := hide (st BW.out D1 (Below.refl _ _))
    replace h := hide (h.out.below D1)
    clear hb D1
    go_wp2_with fail
    refine (symbols_any h.out _ _).mono ?_
    rintro e u2 ⟨A1, n1, c1, rfl, S1, hb⟩
    have D2 : Below u1.heap.size u1 u2 := hb
    replace BW := hide (st BW.out D2 (Below.refl _ _))
    replace h := hide (h.out.below D2)
    rw [show (p : Int) + (q : Int) = ((p + q : Nat) : Int) by omega] at S1
    obtain rfl : n1 = p + q := by have e := S1.1; rw [symsL_len _ (by omega)] at e; exact e.symm
    replace S1 := hide S1
    clear hb D2
    go_wp2_with fail
    have g3 : Below u2.heap.size u2 (u2.alloc (.cells #[] 41)) := by go_grown
    refine (symbols_any (h.out.below g3) _ _).mono ?_
    rintro e u3 ⟨A2, n2, c2, rfl, S2, hb⟩
    have E3 : Below u2.heap.size u2 u3 := g3.trans (hb.mono g3.size)
    obtain rfl : p = n2 := by have e := S2.1; rw [symsL_len _ (by omega)] at e; exact e
    have own0 : u3.ownsRow u2.heap.size 41 3 (.slice (some ⟨u2.heap.size, 0, none⟩) 0 0) 0 (symsV []) := own_below (World.ownsRow_made u2 #[] 0 (Nat.le_refl _) (by unfold maxLen; omega) rfl) hb
    replace S2 := hide S2
    clear hb g3
    go_wp2_with (at_builtin; refine wpList_append_syms rfl (.tmp 35) (.tmp 39) rfl u2.heap.size _ 0 [] rfl own0 A2 p c2 (symsL zs (k : Int) (p : Int)) rfl S2.out (by omega) E3.size ?_; intro v1 m1 hown1 hm1; simp only [Nat.zero_add, List.nil_append] at hown1; have E4 : Below u2.heap.size u2 m1 := E3.trans hm1; clear hm1 own0 E3)
    refine (symbols_any (h.out.below E4) _ _).mono ?_
    rintro e u4 ⟨A3, n3, c3, rfl, S3, hb⟩
    have E5 : Below u2.heap.size u2 u4 := E4.trans (hb.mono E4.size)
    rw [show (k : Int) + (p : Int) = ((k + p : Nat) : Int) by omega] at S3
    obtain rfl : q = n3 := by have e := S3.1; rw [symsL_len _ (by omega)] at e; exact e
    have own1 := own_below hown1 hb
    replace S3 := hide S3
    clear hb hown1 E4
    go_wp2_with (at_builtin; refine wpList_append_syms rfl (.tmp 40) (.tmp 46) rfl u2.heap.size v1 p _ rfl own1 A3 q c3 (symsL zs ((k + p : Nat) : Int) (q : Int)) rfl S3.out (by omega) E5.size ?_; intro v2 m2 hown2 hm2; have E6 : Below u2.heap.size u2 m2 := E5.trans hm2; clear hm2 own1 E5)
    obtain ⟨A9, c9, rfl, S9⟩ := own_syms hown2
    rw [← symsL_append zs (k := k) (n := p) (m := q) (by omega)] at S9
    replace S9 := hide S9
    replace h := hide (h.out.below E6)
    replace S1 := hide (S1.out.below E6)
    replace BW := hide (st BW.out E6 (Below.refl _ _))
    clear E6 hown2 S2 S3
    go_wp2_with fail
    refine (same_to S1.out S9.out true (by simp)).mono ?_
    rintro e u11 ⟨rfl, hb⟩
    have D11 : Below m2.heap.size m2 u11 := hb
    replace BW := hide (st BW.out D11 (Below.refl _ _))
    replace h := hide (h.out.below D11)
    clear S1
    clear S9
    clear hb D11
    go_wp2_with fail
    refine (symbols_any h.out 16384 0).mono ?_
    rintro e u12 ⟨A5, n5, c5, rfl, S5, hb⟩
    have D12 : Below u11.heap.size u11 u12 := hb
    replace BW := hide (st BW.out D12 (Below.refl _ _))
    replace h := hide (h.out.below D12)
    obtain rfl : 0 = n5 := S5.1
    clear S5
    clear hb D12
    go_wp2_with fail
    refine (symbols_any h.out (16384 - (p : Int)) ((p : Int) + 1)).mono ?_
    rintro e u13 ⟨A6, n6, c6, rfl, S6, hb⟩
    have D13 : Below u12.heap.size u12 u13 := hb
    replace BW := hide (st BW.out D13 (Below.refl _ _))
    replace h := hide (h.out.below D13)
    rw [symsL_no zs (by omega)] at S6
    obtain rfl : 0 = n6 := S6.1
    clear S6
    clear hb D13
    go_wp2_with fail
    go_ret
    exact ⟨rfl, BW.out⟩
  · have h1I : (30 : Int) < (n : Int) := by omega
    clear h1
    go_enter Try.func4, Try.ntmps4
    go_wp2_with fail
    refine (awake_any _).mono ?_
    rintro e u1 ⟨rfl, hb⟩
    have D1 : Below w.heap.size w u1 := hb
    replace BW := hide (st BW.out D1 (Below.refl _ _))
    clear hb D1
    go_wp2_with fail
    go_ret
    exact ⟨rfl, BW.out⟩
end Go.Proofs.Ytabgenhednhagaa

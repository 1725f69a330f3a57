/-
  Chapter 34: the walks over the laws SketchPeels and SketchTurned: each returns true.
-/
import Derived.Test.YtabgenhednhagaaLaws1
import Derived.Test.YtabgenhednhagaaLawsPlain
namespace Go.Proofs.Ytabgenhednhagaa
open Go.RowKit Plain
set_option linter.unusedSimpArgs false
set_option linter.unusedVariables false
attribute [local go_sem ↓] Go.wp_at_zero Go.wp_at_succ

/-- A call returns two rows of numbers and a bool. -/
def RetB (w : World) (ms ts : List W) (b : Bool) (e : Ending) (w' : World) : Prop := ∃ A1 n1 c1 A2 n2 c2, e = .returned (.tuple #[.slice A1 n1 c1, .slice A2 n2 c2, .bool b]) ∧ Nums w' A1 n1 c1 ms ∧ Nums w' A2 n2 c2 ts ∧ Below w.heap.size w w'
theorem peel_b {w : World} {A : Option Addr} {n c : Nat} {ss : List Sym} (h : Syms w A n c ss) (hs : n ≤ 1000) (ms ts : List W) (b : Bool) (h1 : (peelL ss).2.1 = ms) (h2 : (peelL ss).2.2 = ts) (hb : doneB (peelL ss).1 = b) : Calls Try.prog 18 #[.slice A n c] w (RetB w ms ts b) := by
  subst h1 h2 hb; exact peel_any h hs
theorem ref_peel_b {w : World} {A : Option Addr} {n c : Nat} {ss : List Sym} (h : Syms w A n c ss) (hs : n ≤ 1000) (ms ts : List W) (b : Bool) (h1 : (peelL ss).2.1 = ms) (h2 : (peelL ss).2.2 = ts) (hb : doneB (peelL ss).1 = b) : Calls Try.prog 21 #[.slice A n c] w (RetB w ms ts b) := by
  subst h1 h2 hb; exact ref_peel_any h hs

set_option maxHeartbeats 2000000 in
theorem peels_walk {w : World} {A B : Option Addr} {n m c d : Nat} {ss ts : List Sym} (h : Syms w A n c ss) (g : Syms w B m d ts) :
    Calls Try.prog 8 #[.slice A n c, .slice B m d] w fun e w' => e = .returned (.bool true) ∧ Below w.heap.size w w' := by
  have hn := h.max
  have hm := g.max
  replace h := hide h
  replace g := hide g
  have BW := hide (Below.refl w.heap.size w)
  by_cases h1 : n ≤ 30
  · have h1I : ¬ (30 : Int) < (n : Int) := by omega
    by_cases h2 : m ≤ 30
    · have h2I : ¬ (30 : Int) < (m : Int) := by omega
      obtain ⟨xs, hx⟩ : ∃ x, (peelL ss).2.1 = x := ⟨_, rfl⟩
      obtain ⟨ys, hy⟩ : ∃ x, (peelL ss).2.2 = x := ⟨_, rfl⟩
      replace hx := hide hx
      replace hy := hide hy
      cases hd : doneB (peelL ss).1
      all_goals
        replace hd := hide hd
        go_enter Try.func8, Try.ntmps8
        go_wp2_with fail
        refine (awake_any _).mono ?_
        rintro e u1 ⟨rfl, hb⟩
        have D1 : Below w.heap.size w u1 := hb
        replace BW := hide (st BW.out D1 (Below.refl _ _))
        replace h := hide (h.out.below D1)
        replace g := hide (g.out.below D1)
        clear hb D1
        go_wp2_with fail
        refine (peel_b h.out (by omega) _ _ _ hx.out hy.out hd.out).mono ?_
        rintro e u2 ⟨A1, n1, c1, A2, n2, c2, rfl, N1, N2, hb⟩
        have D2 : Below u1.heap.size u1 u2 := hb
        replace BW := hide (st BW.out D2 (Below.refl _ _))
        replace h := hide (h.out.below D2)
        replace g := hide (g.out.below D2)
        replace N1 := hide N1
        replace N2 := hide N2
        clear hb D2
        go_wp2_with fail
        refine (ref_peel_b h.out (by omega) _ _ _ hx.out hy.out hd.out).mono ?_
        rintro e u3 ⟨A3, n3, c3, A4, n4, c4, rfl, N3, N4, hb⟩
        have D3 : Below u2.heap.size u2 u3 := hb
        replace BW := hide (st BW.out D3 (Below.refl _ _))
        replace h := hide (h.out.below D3)
        replace g := hide (g.out.below D3)
        replace N1 := hide (N1.out.below D3)
        replace N2 := hide (N2.out.below D3)
        replace N3 := hide N3
        replace N4 := hide N4
        clear hb D3
        go_wp2_with fail
        refine (nums_to N1.out N3.out true (by simp)).mono ?_
        rintro e u4 ⟨rfl, hb⟩
        have D4 : Below u3.heap.size u3 u4 := hb
        replace BW := hide (st BW.out D4 (Below.refl _ _))
        replace h := hide (h.out.below D4)
        replace g := hide (g.out.below D4)
        clear N1
        replace N2 := hide (N2.out.below D4)
        clear N3
        replace N4 := hide (N4.out.below D4)
        clear hb D4
        go_wp2_with fail
        refine (nums_to N2.out N4.out true (by simp)).mono ?_
        rintro e u5 ⟨rfl, hb⟩
        have D5 : Below u4.heap.size u4 u5 := hb
        replace BW := hide (st BW.out D5 (Below.refl _ _))
        replace h := hide (h.out.below D5)
        replace g := hide (g.out.below D5)
        clear N2
        clear N4
        clear hb D5
        go_wp2_with fail
        refine (add_any h.out g.out (by omega)).mono ?_
        rintro e u6 ⟨A5, n5, c5, rfl, S5, hb⟩
        have D6 : Below u5.heap.size u5 u6 := hb
        replace BW := hide (st BW.out D6 (Below.refl _ _))
        replace h := hide (h.out.below D6)
        replace g := hide (g.out.below D6)
        replace S5 := hide S5
        clear hb D6
        go_wp2_with fail
        refine (ref_add_any h.out g.out (by omega)).mono ?_
        rintro e u7 ⟨A6, n6, c6, rfl, S6, hb⟩
        have D7 : Below u6.heap.size u6 u7 := hb
        replace BW := hide (st BW.out D7 (Below.refl _ _))
        replace h := hide (h.out.below D7)
        replace g := hide (g.out.below D7)
        replace S5 := hide (S5.out.below D7)
        replace S6 := hide S6
        clear hb D7
        go_wp2_with fail
        refine (same_to S5.out S6.out true (by simp)).mono ?_
        rintro e u8 ⟨rfl, hb⟩
        have D8 : Below u7.heap.size u7 u8 := hb
        replace BW := hide (st BW.out D8 (Below.refl _ _))
        replace h := hide (h.out.below D8)
        replace g := hide (g.out.below D8)
        clear S5
        clear S6
        clear hb D8
        go_wp2_with fail
        refine (sub_any h.out g.out (by omega)).mono ?_
        rintro e u9 ⟨A7, n7, c7, rfl, S7, hb⟩
        have D9 : Below u8.heap.size u8 u9 := hb
        replace BW := hide (st BW.out D9 (Below.refl _ _))
        replace h := hide (h.out.below D9)
        replace g := hide (g.out.below D9)
        replace S7 := hide S7
        clear hb D9
        go_wp2_with fail
        refine (ref_sub_any h.out g.out (by omega)).mono ?_
        rintro e u10 ⟨A8, n8, c8, rfl, S8, hb⟩
        have D10 : Below u9.heap.size u9 u10 := hb
        replace BW := hide (st BW.out D10 (Below.refl _ _))
        replace h := hide (h.out.below D10)
        replace g := hide (g.out.below D10)
        replace S7 := hide (S7.out.below D10)
        replace S8 := hide S8
        clear hb D10
        go_wp2_with fail
        refine (same_to S7.out S8.out true (by simp)).mono ?_
        rintro e u11 ⟨rfl, hb⟩
        have D11 : Below u10.heap.size u10 u11 := hb
        replace BW := hide (st BW.out D11 (Below.refl _ _))
        clear h
        clear g
        clear S7
        clear S8
        clear hb D11
        go_wp2_with fail
        go_ret
        exact ⟨rfl, BW.out⟩
    · have h2I : (30 : Int) < (m : Int) := by omega
      clear h2
      go_enter Try.func8, Try.ntmps8
      go_wp2_with fail
      refine (awake_any _).mono ?_
      rintro e u1 ⟨rfl, hb⟩
      have D1 : Below w.heap.size w u1 := hb
      replace BW := hide (st BW.out D1 (Below.refl _ _))
      clear hb D1
      go_wp2_with fail
      go_ret
      exact ⟨rfl, BW.out⟩
  · have h1I : (30 : Int) < (n : Int) := by omega
    clear h1
    go_enter Try.func8, Try.ntmps8
    go_wp2_with fail
    refine (awake_any _).mono ?_
    rintro e u1 ⟨rfl, hb⟩
    have D1 : Below w.heap.size w u1 := hb
    replace BW := hide (st BW.out D1 (Below.refl _ _))
    clear hb D1
    go_wp2_with fail
    go_ret
    exact ⟨rfl, BW.out⟩

set_option maxHeartbeats 2000000 in
theorem turned_walk {w : World} {A : Option Addr} {n c : Nat} {ss : List Sym} (h : Syms w A n c ss) :
    Calls Try.prog 7 #[.slice A n c] w fun e w' => e = .returned (.bool true) ∧ Below w.heap.size w w' := by
  have hn := h.max
  have hl := hide h.1
  replace h := hide h
  have BW := hide (Below.refl w.heap.size w)
  by_cases h1 : n ≤ 30
  · have h1I : ¬ (30 : Int) < (n : Int) := by omega
    obtain ⟨xs, hx⟩ : ∃ x, (peelL ss).2.1 = x := ⟨_, rfl⟩
    obtain ⟨ys, hy⟩ : ∃ x, (peelL ss).2.2 = x := ⟨_, rfl⟩
    obtain ⟨i0, hi0, hz0, hz1, hz2⟩ := info_parts info41
    have hneg := hide (neg_peel ss)
    have hsub : Hid (bothL negOne (zeros n) ss = negL ss) := hide (by rw [← hl.out]; exact neg_sub ss)
    replace hx := hide hx
    replace hy := hide hy
    cases hd : doneB (peelL ss).1
    all_goals
      replace hd := hide hd
      go_enter Try.func7, Try.ntmps7
      go_wp2_with fail
      refine (awake_any _).mono ?_
      rintro e u1 ⟨rfl, hb⟩
      have D1 : Below w.heap.size w u1 := hb
      replace BW := hide (st BW.out D1 (Below.refl _ _))
      replace h := hide (h.out.below D1)
      clear hb D1
      go_wp2_with ((with_reducible refine wpList_make_full _ rfl _ _ 28 rfl u1.heap.size 41 i0 (.agg #[.int .i64 0, .int .u64 0, .int .u64 0]) 3 Try.underlying28 hi0 hz0 hz1 .i64 .i64 (n : Int) (n : Int) n rfl rfl rfl rfl (by rw [hz2]; omega) (by unfold maxLen; omega) (Nat.le_refl _) ?_); intro m1 hown hg)
      have Z0 : Hid (Syms m1 (some ⟨u1.heap.size, 0, none⟩) n n (zeros n)) := hide ((own_made hown).syms (hown.lt _ rfl).2 (Nat.le_refl _) (by unfold maxLen; omega))
      have DM : Below u1.heap.size u1 m1 := (Below.refl _ _).grown hg (Nat.le_refl _) (fun k hk => by cases hk)
      replace BW := hide (st BW.out DM (Below.refl _ _))
      replace h := hide (h.out.below DM)
      clear hown hg DM
      go_wp2_with fail
      refine (peel_b h.out (by omega) _ _ _ hx.out hy.out hd.out).mono ?_
      rintro e u11 ⟨A1, n1, c1, A2, n2, c2, rfl, N1, N2, hb⟩
      have D11 : Below m1.heap.size m1 u11 := hb
      replace BW := hide (st BW.out D11 (Below.refl _ _))
      replace h := hide (h.out.below D11)
      replace Z0 := hide (Z0.out.below D11)
      replace N1 := hide N1
      replace N2 := hide N2
      clear hb D11
      go_wp2_with fail
      refine (sub_any Z0.out h.out (by omega)).mono ?_
      rintro e u12 ⟨A7, n7, c7, rfl, S7, hb⟩
      have D12 : Below u11.heap.size u11 u12 := hb
      replace BW := hide (st BW.out D12 (Below.refl _ _))
      clear h
      clear Z0
      replace N1 := hide (N1.out.below D12)
      replace N2 := hide (N2.out.below D12)
      rw [hsub.out] at S7
      have hn7 : n7 ≤ 1000 := by have e := S7.1; unfold negL at e; rw [List.length_map, hl.out] at e; omega
      replace S7 := hide S7
      clear hb D12
      go_wp2_with fail
      refine (peel_b S7.out hn7 _ _ _ (hneg.out.1.trans hy.out) (hneg.out.2.1.trans hx.out) (hneg.out.2.2.trans hd.out)).mono ?_
      rintro e u13 ⟨A3, n3, c3, A4, n4, c4, rfl, N3, N4, hb⟩
      have D13 : Below u12.heap.size u12 u13 := hb
      replace BW := hide (st BW.out D13 (Below.refl _ _))
      replace N1 := hide (N1.out.below D13)
      replace N2 := hide (N2.out.below D13)
      clear S7
      replace N3 := hide N3
      replace N4 := hide N4
      clear hb D13
      go_wp2_with fail
      refine (nums_to N1.out N4.out true (by simp)).mono ?_
      rintro e u14 ⟨rfl, hb⟩
      have D14 : Below u13.heap.size u13 u14 := hb
      replace BW := hide (st BW.out D14 (Below.refl _ _))
      clear N1
      replace N2 := hide (N2.out.below D14)
      replace N3 := hide (N3.out.below D14)
      clear N4
      clear hb D14
      go_wp2_with fail
      refine (nums_to N2.out N3.out true (by simp)).mono ?_
      rintro e u15 ⟨rfl, hb⟩
      have D15 : Below u14.heap.size u14 u15 := hb
      replace BW := hide (st BW.out D15 (Below.refl _ _))
      clear N2
      clear N3
      clear hb D15
      go_wp2_with fail
      go_ret
      exact ⟨rfl, BW.out⟩
  · have h1I : (30 : Int) < (n : Int) := by omega
    clear h1
    go_enter Try.func7, Try.ntmps7
    go_wp2_with fail
    refine (awake_any _).mono ?_
    rintro e u1 ⟨rfl, hb⟩
    have D1 : Below w.heap.size w u1 := hb
    replace BW := hide (st BW.out D1 (Below.refl _ _))
    clear hb D1
    go_wp2_with fail
    go_ret
    exact ⟨rfl, BW.out⟩
end Go.Proofs.Ytabgenhednhagaa

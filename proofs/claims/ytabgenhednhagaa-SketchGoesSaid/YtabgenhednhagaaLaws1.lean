/-
  Chapter 34: the walks over the laws SketchTells and SketchPeels: each returns true.
-/
import Derived.Test.YtabgenhednhagaaOpen
namespace Go.Proofs.Ytabgenhednhagaa
open Go.RowKit Plain
set_option linter.unusedSimpArgs false
set_option linter.unusedVariables false
attribute [local go_sem ↓] Go.wp_at_zero Go.wp_at_succ

theorem same_to {w : World} {A B : Option Addr} {n m c d : Nat} {ss ts : List Sym} (h : Syms w A n c ss) (g : Syms w B m d ts) (b : Bool) (hb : decide (ss = ts) = b) : Calls Try.prog 15 #[.slice A n c, .slice B m d] w fun e w' => e = .returned (.bool b) ∧ Below w.heap.size w w' := by
  subst hb; exact same_any h g
theorem nums_to {w : World} {A B : Option Addr} {n m c d : Nat} {ss ts : List W} (h : Nums w A n c ss) (g : Nums w B m d ts) (b : Bool) (hb : decide (ss = ts) = b) : Calls Try.prog 20 #[.slice A n c, .slice B m d] w fun e w' => e = .returned (.bool b) ∧ Below w.heap.size w w' := by
  subst hb; exact numbers_any h g
theorem peel_to {w : World} {A : Option Addr} {n c : Nat} {ss : List Sym} (h : Syms w A n c ss) (hs : n ≤ 1000) (r : List Sym × List W × List W) (hr : peelL ss = r) : Calls Try.prog 18 #[.slice A n c] w (RetPeel w r) := by
  subst hr; exact peel_any h hs
theorem ref_peel_to {w : World} {A : Option Addr} {n c : Nat} {ss : List Sym} (h : Syms w A n c ss) (hs : n ≤ 1000) (r : List Sym × List W × List W) (hr : peelL ss = r) : Calls Try.prog 21 #[.slice A n c] w (RetPeel w r) := by
  subst hr; exact ref_peel_any h hs

set_option maxHeartbeats 2000000 in
theorem tells_walk {w : World} {A : Option Addr} {n c : Nat} {zs : List W} (a : W) (i : Int) (h : Nums w A n c zs) (f m : Int) :
    Calls Try.prog 3 #[.int .u64 (a.toNat : Int), .int .i64 i, .slice A n c, .int .i64 f, .int .i64 m] w fun e w' => e = .returned (.bool true) ∧ Below w.heap.size w w' := by
  have hn := h.max
  replace h := hide h
  have BW := hide (Below.refl w.heap.size w)
  obtain ⟨Z, hZ⟩ : ∃ Z, Z = (a.toNat : Int) := ⟨_, rfl⟩
  rw [← hZ]
  replace hZ := hide hZ
  obtain ⟨Q, hQ⟩ : ∃ Z, Z = ((checkW a).toNat : Int) := ⟨_, rfl⟩
  replace hQ := hide hQ
  by_cases h1 : n ≤ 30
  · have h1I : ¬ (30 : Int) < (n : Int) := by omega
    by_cases h2 : m ≤ 30
    · have h2I : ¬ (30 : Int) < m := by omega
      cases hin : inI a i
      all_goals
        replace hin := hide hin
        go_enter Try.func3, Try.ntmps3
        go_wp2_with fail
        refine (awake_any _).mono ?_
        rintro e u1 ⟨rfl, hb⟩
        have D1 : Below w.heap.size w u1 := hb
        replace BW := hide (st BW.out D1 (Below.refl _ _))
        replace h := hide (h.out.below D1)
        clear hb D1
        go_wp2_with fail
        refine (in_to _ _ a _ hZ.out hin.out _).mono ?_
        rintro e u2 ⟨rfl, hb⟩
        have D2 : Below u1.heap.size u1 u2 := hb
        replace BW := hide (st BW.out D2 (Below.refl _ _))
        replace h := hide (h.out.below D2)
        clear hb D2
        go_wp2_with fail
        refine (ref_in_to _ _ a _ hZ.out hin.out _).mono ?_
        rintro e w9 ⟨rfl, rfl⟩
        go_wp2_with fail
        refine (check_to _ _ a hZ.out hQ.out _).mono ?_
        rintro e u3 ⟨rfl, hb⟩
        have D3 : Below u2.heap.size u2 u3 := hb
        replace BW := hide (st BW.out D3 (Below.refl _ _))
        replace h := hide (h.out.below D3)
        clear hb D3
        go_wp2_with fail
        refine (ref_check_to _ _ a hZ.out hQ.out _).mono ?_
        rintro e w9 ⟨rfl, rfl⟩
        go_wp2_with fail
        refine (symbols_any h.out _ _).mono ?_
        rintro e u4 ⟨A1, n1, c1, rfl, S1, hb⟩
        have D4 : Below u3.heap.size u3 u4 := hb
        replace BW := hide (st BW.out D4 (Below.refl _ _))
        replace h := hide (h.out.below D4)
        replace S1 := hide S1
        clear hb D4
        go_wp2_with fail
        refine (ref_symbols_any h.out _ _).mono ?_
        rintro e u5 ⟨A2, n2, c2, rfl, S2, hb⟩
        have D5 : Below u4.heap.size u4 u5 := hb
        replace BW := hide (st BW.out D5 (Below.refl _ _))
        replace h := hide (h.out.below D5)
        replace S1 := hide (S1.out.below D5)
        replace S2 := hide S2
        clear hb D5
        go_wp2_with fail
        refine (same_to S1.out S2.out true (by simp)).mono ?_
        rintro e u6 ⟨rfl, hb⟩
        have D6 : Below u5.heap.size u5 u6 := hb
        replace BW := hide (st BW.out D6 (Below.refl _ _))
        replace h := hide (h.out.below D6)
        replace S1 := hide (S1.out.below D6)
        replace S2 := hide (S2.out.below D6)
        clear hb D6
        go_wp2_with fail
        go_ret
        exact ⟨rfl, BW.out⟩
    · have h2I : (30 : Int) < m := by omega
      clear h2
      go_enter Try.func3, Try.ntmps3
      go_wp2_with fail
      refine (awake_any _).mono ?_
      rintro e u1 ⟨rfl, hb⟩
      have D1 : Below w.heap.size w u1 := hb
      replace BW := hide (st BW.out D1 (Below.refl _ _))
      clear hb D1
      go_wp2_with fail
      go_ret
      exact ⟨rfl, BW.out⟩
  · have h1I : (30 : Int) < (n : Int) := by omega
    clear h1
    go_enter Try.func3, Try.ntmps3
    go_wp2_with fail
    refine (awake_any _).mono ?_
    rintro e u1 ⟨rfl, hb⟩
    have D1 : Below w.heap.size w u1 := hb
    replace BW := hide (st BW.out D1 (Below.refl _ _))
    clear hb D1
    go_wp2_with fail
    go_ret
    exact ⟨rfl, BW.out⟩
end Go.Proofs.Ytabgenhednhagaa

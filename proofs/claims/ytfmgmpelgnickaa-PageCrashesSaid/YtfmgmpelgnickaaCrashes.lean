/-
  Chapter 31: the walk over the law PageCrashes: it returns true.
-/
import Derived.Test.YtfmgmpelgnickaaAlive
import Derived.Test.YtfmgmpelgnickaaOpen
namespace Go.Proofs.Ytfmgmpelgnickaa
open Go.RowKit Plain
set_option linter.unusedSimpArgs false
set_option linter.unusedVariables false
attribute [local go_sem ↓] Go.wp_at_zero Go.wp_at_succ

set_option maxRecDepth 10000 in
set_option maxHeartbeats 4000000 in
theorem crashes_walk {A B C : Option Addr} {n c m d l e : Nat} {ps : List Pg} {ws : List Od} {cuts : List Int} {w : World} (P : Pags w A n c ps) (L : Olds w B m d ws) (N : Nts w C l e cuts) :
    Calls Try.prog 4 #[.agg #[.slice A n c, .slice B m d], .slice C l e] w fun e w' => e = .returned (.bool true) ∧ Below w.heap.size w w' := by
  have hl := N.max
  have hpl := hide P.1
  have hwl := hide L.1
  cases hfew : fewB ps ws with
  | false =>
    replace hfew := hide hfew
    have g0 : Below w.heap.size w (w.alloc (.cells #[.slice A n c, .slice B m d] 25)) := by go_grown
    have V := Var.new w A B n c m d
    obtain ⟨b0, hb0⟩ : ∃ b, b = w.heap.size := ⟨_, rfl⟩
    rw [← hb0] at V
    replace P := hide (P.below g0)
    replace L := hide (L.below g0)
    replace N := hide (N.below g0)
    replace V := hide V
    have BW := hide g0
    have hx0 := hide hb0
    go_enter Try.func4, Try.ntmps4
    go_wp2_with fail
    rw [← hb0]
    generalize w.alloc (.cells #[.slice A n c, .slice B m d] 25) = wa at *
    clear g0 hb0
    have x0 := V.out.c0
    have x1 := V.out.c1
    have lx := V.out.lt
    go_wp2_with fail
    refine (few_any P.out L.out false hfew.out).mono ?_
    rintro e u1 ⟨rfl, hb⟩
    have D1 : Below wa.heap.size wa u1 := hb
    replace BW := hide (st BW.out D1 (Below.refl _ _))
    replace V := hide (V.out.below D1)
    replace P := hide (P.out.below D1)
    replace L := hide (L.out.below D1)
    replace N := hide (N.out.below D1)
    clear x0 x1
    have x0 := V.out.c0
    have x1 := V.out.c1
    have lx := V.out.lt
    clear hb D1
    go_wp2_with fail
    refine (alive_any _).mono ?_
    rintro e u2 ⟨rfl, hb⟩
    have D2 : Below u1.heap.size u1 u2 := hb
    replace BW := hide (st BW.out D2 (Below.refl _ _))
    replace V := hide (V.out.below D2)
    replace P := hide (P.out.below D2)
    replace L := hide (L.out.below D2)
    replace N := hide (N.out.below D2)
    clear hb D2
    go_wp2_with fail
    go_ret
    exact ⟨rfl, BW.out⟩
  | true =>
    have hn : n < 50 := by have := (few_small hfew).1; rw [hpl.out] at this; exact this
    have hm : m < 50 := by have := (few_small hfew).2; rw [hwl.out] at this; exact this
    replace hfew := hide hfew
    by_cases hl1 : 100 < l
    · have hlI : (100 : Int) < (l : Int) := by omega
      have g0 : Below w.heap.size w (w.alloc (.cells #[.slice A n c, .slice B m d] 25)) := by go_grown
      have V := Var.new w A B n c m d
      obtain ⟨b0, hb0⟩ : ∃ b, b = w.heap.size := ⟨_, rfl⟩
      rw [← hb0] at V
      replace P := hide (P.below g0)
      replace L := hide (L.below g0)
      replace N := hide (N.below g0)
      replace V := hide V
      have BW := hide g0
      have hx0 := hide hb0
      go_enter Try.func4, Try.ntmps4
      go_wp2_with fail
      rw [← hb0]
      generalize w.alloc (.cells #[.slice A n c, .slice B m d] 25) = wa at *
      clear g0 hb0
      have x0 := V.out.c0
      have x1 := V.out.c1
      have lx := V.out.lt
      go_wp2_with fail
      refine (few_any P.out L.out true hfew.out).mono ?_
      rintro e u1 ⟨rfl, hb⟩
      have D1 : Below wa.heap.size wa u1 := hb
      replace BW := hide (st BW.out D1 (Below.refl _ _))
      replace V := hide (V.out.below D1)
      replace P := hide (P.out.below D1)
      replace L := hide (L.out.below D1)
      replace N := hide (N.out.below D1)
      clear x0 x1
      have x0 := V.out.c0
      have x1 := V.out.c1
      have lx := V.out.lt
      clear hb D1
      go_wp2_with fail
      refine (alive_any _).mono ?_
      rintro e u2 ⟨rfl, hb⟩
      have D2 : Below u1.heap.size u1 u2 := hb
      replace BW := hide (st BW.out D2 (Below.refl _ _))
      replace V := hide (V.out.below D2)
      replace P := hide (P.out.below D2)
      replace L := hide (L.out.below D2)
      replace N := hide (N.out.below D2)
      clear hb D2
      go_wp2_with fail
      go_ret
      exact ⟨rfl, BW.out⟩
    · have hlI : ¬ (100 : Int) < (l : Int) := by omega
      have g0 : Below w.heap.size w (w.alloc (.cells #[.slice A n c, .slice B m d] 25)) := by go_grown
      have V := Var.new w A B n c m d
      obtain ⟨b0, hb0⟩ : ∃ b, b = w.heap.size := ⟨_, rfl⟩
      rw [← hb0] at V
      replace P := hide (P.below g0)
      replace L := hide (L.below g0)
      replace N := hide (N.below g0)
      replace V := hide V
      have BW := hide g0
      have hx0 := hide hb0
      go_enter Try.func4, Try.ntmps4
      go_wp2_with fail
      rw [← hb0]
      generalize w.alloc (.cells #[.slice A n c, .slice B m d] 25) = wa at *
      clear g0 hb0
      have x0 := V.out.c0
      have x1 := V.out.c1
      have lx := V.out.lt
      go_wp2_with fail
      refine (few_any P.out L.out true hfew.out).mono ?_
      rintro e u1 ⟨rfl, hb⟩
      have D1 : Below wa.heap.size wa u1 := hb
      replace BW := hide (st BW.out D1 (Below.refl _ _))
      replace V := hide (V.out.below D1)
      replace P := hide (P.out.below D1)
      replace L := hide (L.out.below D1)
      replace N := hide (N.out.below D1)
      clear x0 x1
      have x0 := V.out.c0
      have x1 := V.out.c1
      have lx := V.out.lt
      clear hb D1
      go_wp2_with fail
      have n0 := World.new_ne u1 ⟨b0, 0, none⟩ x0
      go_region_held3 (fun w' => w'.cell? ⟨b0, 0, none⟩ = some (.slice A n c) ∧ w'.cell? ⟨b0, 1, none⟩ = some (.slice B m d))
        (first
          | (exact ⟨(CC.cell (p := ⟨b0, 0, none⟩) lx).trans x0, (CC.cell (p := ⟨b0, 1, none⟩) lx).trans x1⟩)
          | go_keep)
        (first
          | (go_at_call 10; (with_reducible refine (alive_any _).mono ?_); rintro e a1 ⟨rfl, hb⟩; have CC : Below u1.heap.size u1 a1 := Below.trans (by go_grown) hb; clear hb)
          | (go_at_call 23; (with_reducible refine (crash_any (P.out.below CC) (L.out.below CC) (N.out.below CC) (by omega) _ _ rfl rfl).mono ?_); rintro e s1 ⟨As, ns, cs, Bs, ms, ds, rfl, Ps, Ls, hb⟩; have PS := hide Ps; have LS := hide Ls; (try replace PK := hide (PK.out.below hb)); (try replace LK := hide (LK.out.below hb)); replace CC := CC.trans (hb.mono CC.size); clear hb Ps Ls)
          | (go_at_call 24; (with_reducible refine (ref_crash_any (P.out.below CC) (L.out.below CC) (N.out.below CC) (by omega) _ _ rfl rfl).mono ?_); rintro e k1 ⟨Ak, nk, ck, Bk, mk, dk, rfl, Pk, Lk, hb⟩; have PK := hide Pk; have LK := hide Lk; (try replace PS := hide (PS.out.below hb)); (try replace LS := hide (LS.out.below hb)); replace CC := CC.trans (hb.mono CC.size); clear hb Pk Lk)
          | (go_at_call 20; (with_reducible refine (same_any PS.out LS.out PK.out LK.out true (sameD_refl _ _)).mono ?_); rintro e z1 ⟨rfl, hb⟩; replace CC := CC.trans (hb.mono CC.size); clear hb)
          | fail)
      all_goals
        go_wp2_with fail
        go_ret
        exact ⟨rfl, st BW.out CC (Below.refl _ _)⟩
end Go.Proofs.Ytfmgmpelgnickaa

/-
  Chapter 31: the walk over the law PageSynced: it returns true.
-/
import Derived.Test.YtfmgmpelgnickaaSyncA
import Derived.Test.YtfmgmpelgnickaaBytesA
namespace Go.Proofs.Ytfmgmpelgnickaa
open Go.RowKit Plain
set_option linter.unusedSimpArgs false
set_option linter.unusedVariables false
attribute [local go_sem ↓] Go.wp_at_zero Go.wp_at_succ

set_option maxRecDepth 10000 in
set_option maxHeartbeats 16000000 in
theorem synced_walk {A B C E G : Option Addr} {n c m d k f l e t f2 : Nat} {ps zs : List Pg} {ws : List Od} {ats cuts : List Int} {w : World} (P : Pags w A n c ps) (L : Olds w B m d ws) (Z : Pags w G k f zs) (N : Nts w C l e ats) (M : Nts w E t f2 cuts) :
    Calls Try.prog 6 #[.agg #[.slice A n c, .slice B m d], .slice G k f, .slice C l e, .slice E t f2] w fun e w' => e = .returned (.bool true) ∧ Below w.heap.size w w' := by
  have hzm := Z.max
  have hl := N.max
  have ht := M.max
  have hpl := hide P.1
  have hwl := hide L.1
  cases hfew : fewB ps ws with
  | false =>
    replace hfew := hide hfew
    have g0 : Below w.heap.size w (w.alloc (.cells #[.slice A n c, .slice B m d] 25)) := by go_grown
    have V0 := Var.new w A B n c m d
    obtain ⟨b0, hb0⟩ : ∃ b, b = w.heap.size := ⟨_, rfl⟩
    rw [← hb0] at V0
    replace P := hide (P.below g0)
    replace L := hide (L.below g0)
    replace Z := hide (Z.below g0)
    replace N := hide (N.below g0)
    replace M := hide (M.below g0)
    replace V0 := hide V0
    have BW := hide g0
    go_enter Try.func6, Try.ntmps6
    go_wp2_with fail
    rw [← hb0]
    generalize w.alloc (.cells #[.slice A n c, .slice B m d] 25) = wa at *
    clear g0 hb0
    have x0 := V0.out.c0
    have y0 := V0.out.c1
    have l0 := V0.out.lt
    go_wp2_with fail
    with_reducible refine (few_any P.out L.out false hfew.out).mono ?_
    rintro e u1 ⟨rfl, hb⟩
    replace BW := hide (st BW.out hb (Below.refl _ _))
    replace V0 := hide (V0.out.below hb)
    replace P := hide (P.out.below hb)
    replace L := hide (L.out.below hb)
    replace Z := hide (Z.out.below hb)
    replace N := hide (N.out.below hb)
    replace M := hide (M.out.below hb)
    clear hb
    clear x0 y0 l0
    have x0 := V0.out.c0
    have y0 := V0.out.c1
    have l0 := V0.out.lt
    go_wp2_with fail
    with_reducible refine (alive_any _).mono ?_
    rintro e u2 ⟨rfl, hb⟩
    replace BW := hide (st BW.out hb (Below.refl _ _))
    replace V0 := hide (V0.out.below hb)
    replace P := hide (P.out.below hb)
    replace L := hide (L.out.below hb)
    replace Z := hide (Z.out.below hb)
    replace N := hide (N.out.below hb)
    replace M := hide (M.out.below hb)
    clear hb
    clear x0 y0 l0
    have x0 := V0.out.c0
    have y0 := V0.out.c1
    have l0 := V0.out.lt
    go_wp2_with fail
    go_ret
    exact ⟨rfl, BW.out⟩
  | true =>
    have hn : n < 50 := by have := (few_small hfew).1; rw [hpl.out] at this; exact this
    have hm : m < 50 := by have := (few_small hfew).2; rw [hwl.out] at this; exact this
    replace hfew := hide hfew
    cases hrt : rightB ps ws with
    | false =>
      replace hrt := hide hrt
      have g0 : Below w.heap.size w (w.alloc (.cells #[.slice A n c, .slice B m d] 25)) := by go_grown
      have V0 := Var.new w A B n c m d
      obtain ⟨b0, hb0⟩ : ∃ b, b = w.heap.size := ⟨_, rfl⟩
      rw [← hb0] at V0
      replace P := hide (P.below g0)
      replace L := hide (L.below g0)
      replace Z := hide (Z.below g0)
      replace N := hide (N.below g0)
      replace M := hide (M.below g0)
      replace V0 := hide V0
      have BW := hide g0
      go_enter Try.func6, Try.ntmps6
      go_wp2_with fail
      rw [← hb0]
      generalize w.alloc (.cells #[.slice A n c, .slice B m d] 25) = wa at *
      clear g0 hb0
      have x0 := V0.out.c0
      have y0 := V0.out.c1
      have l0 := V0.out.lt
      go_wp2_with fail
      with_reducible refine (few_any P.out L.out true hfew.out).mono ?_
      rintro e u1 ⟨rfl, hb⟩
      replace BW := hide (st BW.out hb (Below.refl _ _))
      replace V0 := hide (V0.out.below hb)
      replace P := hide (P.out.below hb)
      replace L := hide (L.out.below hb)
      replace Z := hide (Z.out.below hb)
      replace N := hide (N.out.below hb)
      replace M := hide (M.out.below hb)
      clear hb
      clear x0 y0 l0
      have x0 := V0.out.c0
      have y0 := V0.out.c1
      have l0 := V0.out.lt
      go_wp2_with fail
      with_reducible refine (right_any P.out L.out false hrt.out).mono ?_
      rintro e u2 ⟨rfl, hb⟩
      replace BW := hide (st BW.out hb (Below.refl _ _))
      replace V0 := hide (V0.out.below hb)
      replace P := hide (P.out.below hb)
      replace L := hide (L.out.below hb)
      replace Z := hide (Z.out.below hb)
      replace N := hide (N.out.below hb)
      replace M := hide (M.out.below hb)
      clear hb
      clear x0 y0 l0
      have x0 := V0.out.c0
      have y0 := V0.out.c1
      have l0 := V0.out.lt
      go_wp2_with fail
      with_reducible refine (alive_any _).mono ?_
      rintro e u3 ⟨rfl, hb⟩
      replace BW := hide (st BW.out hb (Below.refl _ _))
      replace V0 := hide (V0.out.below hb)
      replace P := hide (P.out.below hb)
      replace L := hide (L.out.below hb)
      replace Z := hide (Z.out.below hb)
      replace N := hide (N.out.below hb)
      replace M := hide (M.out.below hb)
      clear hb
      clear x0 y0 l0
      have x0 := V0.out.c0
      have y0 := V0.out.c1
      have l0 := V0.out.lt
      go_wp2_with fail
      go_ret
      exact ⟨rfl, BW.out⟩
    | true =>
      have R := (right_iff ps ws).1 hrt
      have R0 := hide (R.sub (r := []) (fun o ho => by cases ho))
      replace hrt := hide hrt
      clear R
      by_cases z1 : 20 < k
      · have z1I : (20 : Int) < (k : Int) := by omega
        have g0 : Below w.heap.size w (w.alloc (.cells #[.slice A n c, .slice B m d] 25)) := by go_grown
        have V0 := Var.new w A B n c m d
        obtain ⟨b0, hb0⟩ : ∃ b, b = w.heap.size := ⟨_, rfl⟩
        rw [← hb0] at V0
        replace P := hide (P.below g0)
        replace L := hide (L.below g0)
        replace Z := hide (Z.below g0)
        replace N := hide (N.below g0)
        replace M := hide (M.below g0)
        replace V0 := hide V0
        have BW := hide g0
        go_enter Try.func6, Try.ntmps6
        go_wp2_with fail
        rw [← hb0]
        generalize w.alloc (.cells #[.slice A n c, .slice B m d] 25) = wa at *
        clear g0 hb0
        have x0 := V0.out.c0
        have y0 := V0.out.c1
        have l0 := V0.out.lt
        go_wp2_with fail
        with_reducible refine (few_any P.out L.out true hfew.out).mono ?_
        rintro e u1 ⟨rfl, hb⟩
        replace BW := hide (st BW.out hb (Below.refl _ _))
        replace V0 := hide (V0.out.below hb)
        replace P := hide (P.out.below hb)
        replace L := hide (L.out.below hb)
        replace Z := hide (Z.out.below hb)
        replace N := hide (N.out.below hb)
        replace M := hide (M.out.below hb)
        clear hb
        clear x0 y0 l0
        have x0 := V0.out.c0
        have y0 := V0.out.c1
        have l0 := V0.out.lt
        go_wp2_with fail
        with_reducible refine (right_any P.out L.out true hrt.out).mono ?_
        rintro e u2 ⟨rfl, hb⟩
        replace BW := hide (st BW.out hb (Below.refl _ _))
        replace V0 := hide (V0.out.below hb)
        replace P := hide (P.out.below hb)
        replace L := hide (L.out.below hb)
        replace Z := hide (Z.out.below hb)
        replace N := hide (N.out.below hb)
        replace M := hide (M.out.below hb)
        clear hb
        clear x0 y0 l0
        have x0 := V0.out.c0
        have y0 := V0.out.c1
        have l0 := V0.out.lt
        go_wp2_with fail
        with_reducible refine (alive_any _).mono ?_
        rintro e u3 ⟨rfl, hb⟩
        replace BW := hide (st BW.out hb (Below.refl _ _))
        replace V0 := hide (V0.out.below hb)
        replace P := hide (P.out.below hb)
        replace L := hide (L.out.below hb)
        replace Z := hide (Z.out.below hb)
        replace N := hide (N.out.below hb)
        replace M := hide (M.out.below hb)
        clear hb
        clear x0 y0 l0
        have x0 := V0.out.c0
        have y0 := V0.out.c1
        have l0 := V0.out.lt
        go_wp2_with fail
        go_ret
        exact ⟨rfl, BW.out⟩
      · have z1I : ¬ (20 : Int) < (k : Int) := by omega
        by_cases z2 : l < k
        · have z2I : (l : Int) < (k : Int) := by omega
          have g0 : Below w.heap.size w (w.alloc (.cells #[.slice A n c, .slice B m d] 25)) := by go_grown
          have V0 := Var.new w A B n c m d
          obtain ⟨b0, hb0⟩ : ∃ b, b = w.heap.size := ⟨_, rfl⟩
          rw [← hb0] at V0
          replace P := hide (P.below g0)
          replace L := hide (L.below g0)
          replace Z := hide (Z.below g0)
          replace N := hide (N.below g0)
          replace M := hide (M.below g0)
          replace V0 := hide V0
          have BW := hide g0
          go_enter Try.func6, Try.ntmps6
          go_wp2_with fail
          rw [← hb0]
          generalize w.alloc (.cells #[.slice A n c, .slice B m d] 25) = wa at *
          clear g0 hb0
          have x0 := V0.out.c0
          have y0 := V0.out.c1
          have l0 := V0.out.lt
          go_wp2_with fail
          with_reducible refine (few_any P.out L.out true hfew.out).mono ?_
          rintro e u1 ⟨rfl, hb⟩
          replace BW := hide (st BW.out hb (Below.refl _ _))
          replace V0 := hide (V0.out.below hb)
          replace P := hide (P.out.below hb)
          replace L := hide (L.out.below hb)
          replace Z := hide (Z.out.below hb)
          replace N := hide (N.out.below hb)
          replace M := hide (M.out.below hb)
          clear hb
          clear x0 y0 l0
          have x0 := V0.out.c0
          have y0 := V0.out.c1
          have l0 := V0.out.lt
          go_wp2_with fail
          with_reducible refine (right_any P.out L.out true hrt.out).mono ?_
          rintro e u2 ⟨rfl, hb⟩
          replace BW := hide (st BW.out hb (Below.refl _ _))
          replace V0 := hide (V0.out.below hb)
          replace P := hide (P.out.below hb)
          replace L := hide (L.out.below hb)
          replace Z := hide (Z.out.below hb)
          replace N := hide (N.out.below hb)
          replace M := hide (M.out.below hb)
          clear hb
          clear x0 y0 l0
          have x0 := V0.out.c0
          have y0 := V0.out.c1
          have l0 := V0.out.lt
          go_wp2_with fail
          with_reducible refine (alive_any _).mono ?_
          rintro e u3 ⟨rfl, hb⟩
          replace BW := hide (st BW.out hb (Below.refl _ _))
          replace V0 := hide (V0.out.below hb)
          replace P := hide (P.out.below hb)
          replace L := hide (L.out.below hb)
          replace Z := hide (Z.out.below hb)
          replace N := hide (N.out.below hb)
          replace M := hide (M.out.below hb)
          clear hb
          clear x0 y0 l0
          have x0 := V0.out.c0
          have y0 := V0.out.c1
          have l0 := V0.out.lt
          go_wp2_with fail
          go_ret
          exact ⟨rfl, BW.out⟩
        · have z2I : ¬ (l : Int) < (k : Int) := by omega
          by_cases z3 : 100 < t
          · have z3I : (100 : Int) < (t : Int) := by omega
            have g0 : Below w.heap.size w (w.alloc (.cells #[.slice A n c, .slice B m d] 25)) := by go_grown
            have V0 := Var.new w A B n c m d
            obtain ⟨b0, hb0⟩ : ∃ b, b = w.heap.size := ⟨_, rfl⟩
            rw [← hb0] at V0
            replace P := hide (P.below g0)
            replace L := hide (L.below g0)
            replace Z := hide (Z.below g0)
            replace N := hide (N.below g0)
            replace M := hide (M.below g0)
            replace V0 := hide V0
            have BW := hide g0
            go_enter Try.func6, Try.ntmps6
            go_wp2_with fail
            rw [← hb0]
            generalize w.alloc (.cells #[.slice A n c, .slice B m d] 25) = wa at *
            clear g0 hb0
            have x0 := V0.out.c0
            have y0 := V0.out.c1
            have l0 := V0.out.lt
            go_wp2_with fail
            with_reducible refine (few_any P.out L.out true hfew.out).mono ?_
            rintro e u1 ⟨rfl, hb⟩
            replace BW := hide (st BW.out hb (Below.refl _ _))
            replace V0 := hide (V0.out.below hb)
            replace P := hide (P.out.below hb)
            replace L := hide (L.out.below hb)
            replace Z := hide (Z.out.below hb)
            replace N := hide (N.out.below hb)
            replace M := hide (M.out.below hb)
            clear hb
            clear x0 y0 l0
            have x0 := V0.out.c0
            have y0 := V0.out.c1
            have l0 := V0.out.lt
            go_wp2_with fail
            with_reducible refine (right_any P.out L.out true hrt.out).mono ?_
            rintro e u2 ⟨rfl, hb⟩
            replace BW := hide (st BW.out hb (Below.refl _ _))
            replace V0 := hide (V0.out.below hb)
            replace P := hide (P.out.below hb)
            replace L := hide (L.out.below hb)
            replace Z := hide (Z.out.below hb)
            replace N := hide (N.out.below hb)
            replace M := hide (M.out.below hb)
            clear hb
            clear x0 y0 l0
            have x0 := V0.out.c0
            have y0 := V0.out.c1
            have l0 := V0.out.lt
            go_wp2_with fail
            with_reducible refine (alive_any _).mono ?_
            rintro e u3 ⟨rfl, hb⟩
            replace BW := hide (st BW.out hb (Below.refl _ _))
            replace V0 := hide (V0.out.below hb)
            replace P := hide (P.out.below hb)
            replace L := hide (L.out.below hb)
            replace Z := hide (Z.out.below hb)
            replace N := hide (N.out.below hb)
            replace M := hide (M.out.below hb)
            clear hb
            clear x0 y0 l0
            have x0 := V0.out.c0
            have y0 := V0.out.c1
            have l0 := V0.out.lt
            go_wp2_with fail
            go_ret
            exact ⟨rfl, BW.out⟩
          · have z3I : ¬ (100 : Int) < (t : Int) := by omega
            have g0 : Below w.heap.size w (w.alloc (.cells #[.slice A n c, .slice B m d] 25)) := by go_grown
            have V0 := Var.new w A B n c m d
            obtain ⟨b0, hb0⟩ : ∃ b, b = w.heap.size := ⟨_, rfl⟩
            rw [← hb0] at V0
            replace P := hide (P.below g0)
            replace L := hide (L.below g0)
            replace Z := hide (Z.below g0)
            replace N := hide (N.below g0)
            replace M := hide (M.below g0)
            replace V0 := hide V0
            have BW := hide g0
            go_enter Try.func6, Try.ntmps6
            go_wp2_with fail
            rw [← hb0]
            generalize w.alloc (.cells #[.slice A n c, .slice B m d] 25) = wa at *
            clear g0 hb0
            have x0 := V0.out.c0
            have y0 := V0.out.c1
            have l0 := V0.out.lt
            go_wp2_with fail
            with_reducible refine (few_any P.out L.out true hfew.out).mono ?_
            rintro e u1 ⟨rfl, hb⟩
            replace BW := hide (st BW.out hb (Below.refl _ _))
            replace V0 := hide (V0.out.below hb)
            replace P := hide (P.out.below hb)
            replace L := hide (L.out.below hb)
            replace Z := hide (Z.out.below hb)
            replace N := hide (N.out.below hb)
            replace M := hide (M.out.below hb)
            clear hb
            clear x0 y0 l0
            have x0 := V0.out.c0
            have y0 := V0.out.c1
            have l0 := V0.out.lt
            go_wp2_with fail
            with_reducible refine (right_any P.out L.out true hrt.out).mono ?_
            rintro e u2 ⟨rfl, hb⟩
            replace BW := hide (st BW.out hb (Below.refl _ _))
            replace V0 := hide (V0.out.below hb)
            replace P := hide (P.out.below hb)
            replace L := hide (L.out.below hb)
            replace Z := hide (Z.out.below hb)
            replace N := hide (N.out.below hb)
            replace M := hide (M.out.below hb)
            clear hb
            clear x0 y0 l0
            have x0 := V0.out.c0
            have y0 := V0.out.c1
            have l0 := V0.out.lt
            go_wp2_with fail
            with_reducible refine (sync_any (ws := []) P.out (by omega)).mono ?_
            rintro e u3 ⟨A3, n3, c3, B3, m3, d3, rfl, P3, L3, hb⟩
            obtain rfl : n = n3 := by have := P3.1; rw [hpl.out] at this; exact this
            obtain rfl : 0 = m3 := L3.1
            replace BW := hide (st BW.out hb (Below.refl _ _))
            replace V0 := hide (V0.out.below hb)
            replace P := hide (P.out.below hb)
            replace L := hide (L.out.below hb)
            replace Z := hide (Z.out.below hb)
            replace N := hide (N.out.below hb)
            replace M := hide (M.out.below hb)
            replace P3 := hide P3
            replace L3 := hide L3
            go_wp2_with fail
            obtain ⟨WS, hWS⟩ : ∃ x, x = u3 := ⟨_, rfl⟩
            subst hWS
            have g2 : Below WS.heap.size WS ((WS.alloc (.cells #[.slice A3 n c3, .slice B3 0 d3] 25)).alloc (.cells #[.slice A3 n c3, .slice B3 0 d3] 25)) := by go_grown
            have VS := hide ((Var.new WS A3 B3 n c3 0 d3).below (w' := (WS.alloc (.cells #[.slice A3 n c3, .slice B3 0 d3] 25)).alloc (.cells #[.slice A3 n c3, .slice B3 0 d3] 25)) (by go_grown))
            have VX := hide (Var.new (WS.alloc (.cells #[.slice A3 n c3, .slice B3 0 d3] 25)) A3 B3 n c3 0 d3)
            have e1 : (WS.alloc (.cells #[.slice A3 n c3, .slice B3 0 d3] 25)).heap.size = WS.heap.size + 1 := by simp
            rw [e1] at VX
            have hsz : WS.heap.size + 2 ≤ ((WS.alloc (.cells #[.slice A3 n c3, .slice B3 0 d3] 25)).alloc (.cells #[.slice A3 n c3, .slice B3 0 d3] 25)).heap.size := by simp
            have PX := hide (P3.out.below g2)
            have LX := hide (L3.out.below g2)
            generalize (WS.alloc (.cells #[.slice A3 n c3, .slice B3 0 d3] 25)).alloc (.cells #[.slice A3 n c3, .slice B3 0 d3] 25) = W0 at *
            have hSy := hide (show synced ps [] = ps from rfl)
            have hN3 := hide hpl.out
            obtain ⟨b9, hb9⟩ : ∃ b, b = WS.heap.size := ⟨_, rfl⟩
            rw [← hb9] at VS VX hsz ⊢
            replace hb9 := hide hb9
            replace g2 := hide g2
            clear e1 hb x0 y0 l0
            go_loopw [11, 12, 48] (fun v1 v2 i wr => ∃ (j q : Nat) (qs : List Pg) (us : List Od) (Aq Bq : Option Addr) (cq dq : Nat), j ≤ k ∧ q ≤ j ∧ i = .int .i64 j ∧ Hid (Rt qs us ∧ qs.length = n ∧ us.length = q ∧ synced qs us = ps) ∧ Hid (Var wr b9 A3 B3 n c3 0 d3) ∧ Hid (Var wr (b9 + 1) Aq Bq n cq q dq) ∧ Hid (Pags wr Aq n cq qs) ∧ Hid (Olds wr Bq q dq us) ∧ Hid (Cnt wr (b9 + 2) 0 v1 q) ∧ Hid (Cnt wr (b9 + 2) (-1) v2 q) ∧ Hid (Below WS.heap.size WS wr) ∧ b9 + 2 ≤ wr.heap.size) (fun _ _ i _ => k - (intOf i).toNat)
            case atStart => exact ⟨0, 0, ps, [], A3, B3, c3, d3, by omega, by omega, by go_num, hide ⟨R0.out, hN3.out, rfl, hSy.out⟩, VS, VX, PX, LX, hide (Cnt.nil _ _ _), hide (Cnt.nil _ _ _), g2, hsz⟩
            case round =>
              clear VS VX PX LX g2 hsz
              obtain ⟨j, q, qs, us, Aq, Bq, cq, dq, hj, hqj, rfl, hI, VS, VX, PX, LX, N1, N2, CW, hsz⟩ := hrel
              by_cases hlt : j < k
              · obtain ⟨b, off, Aj, nj, cj, hG, hbk, p1, Q1⟩ := Z.out.at2 CW.out hlt
                subst hG
                have hnj := Q1.max
                replace Q1 := hide (Q1.below CW.out)
                have hj0 : (0 : Int) ≤ (j : Int) := by omega
                have hjI : (j : Int) < (k : Int) := by omega
                have c0 := VX.out.c0
                have c1 := VX.out.c1
                by_cases h6 : 600 < nj
                · have h6I : (600 : Int) < (nj : Int) := by omega
                  go_wp2_with fail
                  with_reducible refine (alive_any _).mono ?_
                  rintro e v9 ⟨rfl, hb⟩
                  have B9 := hide (st (st BW.out CW.out (Below.refl _ _)) hb (Below.refl _ _))
                  clear hb
                  go_wp2_with fail
                  go_ret
                  exact ⟨rfl, B9.out⟩
                · have h6I : ¬ (600 : Int) < (nj : Int) := by omega
                  obtain ⟨b4, off4, hC, hb4, c4⟩ := N.out.at_ CW.out (k := j) (by omega)
                  subst hC
                  have hjl : (j : Int) < (l : Int) := by omega
                  generalize ats.getD j 0 = p at c4
                  generalize zs.getD j [] = z at Q1
                  have hzl := hide Q1.out.len
                  obtain ⟨P1, hP1⟩ : ∃ Z, writeP qs us p z = Z := ⟨_, rfl⟩
                  obtain ⟨W1, hW1⟩ : ∃ Z, writeW qs us p z = Z := ⟨_, rfl⟩
                  obtain ⟨E1, hE1⟩ : ∃ Z, writeE qs us p z = Z := ⟨_, rfl⟩
                  have hlens := write_lens (p := p) (z := z) hI.out.1
                  rw [hP1, hW1] at hlens
                  replace hlens := hide hlens
                  replace hP1 := hide hP1
                  replace hW1 := hide hW1
                  replace hE1 := hide hE1
                  have lx := VX.out.lt
                  go_wp2_with fail
                  go_region_held3 (fun w' => w'.cell? ⟨b9 + 1, 0, none⟩ = some (.slice Aq n cq) ∧ w'.cell? ⟨b9 + 1, 1, none⟩ = some (.slice Bq q dq) ∧ w'.cell? ⟨b4, off4 + j, none⟩ = some (.int .i64 p))
                    (first | (exact ⟨((CC).cell (p := ⟨b9 + 1, 0, none⟩) lx).trans c0, ((CC).cell (p := ⟨b9 + 1, 1, none⟩) lx).trans c1, ((CC).cell (p := ⟨b4, off4 + j, none⟩) hb4).trans c4⟩) | (exact ⟨((CC.alloc CC.size (.cells #[.slice A5 n5 c5, .slice B5 m5 d5] 25)).cell (p := ⟨b9 + 1, 0, none⟩) lx).trans c0, ((CC.alloc CC.size (.cells #[.slice A5 n5 c5, .slice B5 m5 d5] 25)).cell (p := ⟨b9 + 1, 1, none⟩) lx).trans c1, ((CC.alloc CC.size (.cells #[.slice A5 n5 c5, .slice B5 m5 d5] 25)).cell (p := ⟨b4, off4 + j, none⟩) hb4).trans c4⟩) | (exact ⟨(((CC.setCell (p := ⟨wr.heap.size, 0, none⟩) (Nat.le_refl _) (.slice A5 n5 c5)).setCell (p := ⟨wr.heap.size, 1, none⟩) (Nat.le_refl _) (.slice B5 m5 d5)).cell (p := ⟨b9 + 1, 0, none⟩) lx).trans c0, (((CC.setCell (p := ⟨wr.heap.size, 0, none⟩) (Nat.le_refl _) (.slice A5 n5 c5)).setCell (p := ⟨wr.heap.size, 1, none⟩) (Nat.le_refl _) (.slice B5 m5 d5)).cell (p := ⟨b9 + 1, 1, none⟩) lx).trans c1, (((CC.setCell (p := ⟨wr.heap.size, 0, none⟩) (Nat.le_refl _) (.slice A5 n5 c5)).setCell (p := ⟨wr.heap.size, 1, none⟩) (Nat.le_refl _) (.slice B5 m5 d5)).cell (p := ⟨b4, off4 + j, none⟩) hb4).trans c4⟩) | (refine ⟨?_, ?_, ?_⟩ <;> assumption) | go_keep)
                    (first
                      | (go_at_call 13; (refine (write_any (PX.out.below ((Below.refl wr.heap.size wr).drew)) (LX.out.below ((Below.refl wr.heap.size wr).drew)) (Q1.out.below ((Below.refl wr.heap.size wr).drew)) (by omega) p P1 W1 E1 hP1.out hW1.out hE1.out).mono ?_); rintro e w5 ⟨A5, n5, c5, B5, m5, d5, rfl, P5, L5, hb⟩; have CC : Below wr.heap.size wr w5 := Below.trans ((Below.refl wr.heap.size wr).drew) (hb.mono (Nat.le_refl _)))
                      | (go_at_call 13; (refine (write_any (PX.out.below (((Below.refl wr.heap.size wr).alloc (Nat.le_refl _) (.cells #[.slice none 0 0, .slice none 0 0] 25)).drew)) (LX.out.below (((Below.refl wr.heap.size wr).alloc (Nat.le_refl _) (.cells #[.slice none 0 0, .slice none 0 0] 25)).drew)) (Q1.out.below (((Below.refl wr.heap.size wr).alloc (Nat.le_refl _) (.cells #[.slice none 0 0, .slice none 0 0] 25)).drew)) (by omega) p P1 W1 E1 hP1.out hW1.out hE1.out).mono ?_); rintro e w5 ⟨A5, n5, c5, B5, m5, d5, rfl, P5, L5, hb⟩; have CC : Below wr.heap.size wr w5 := Below.trans (((Below.refl wr.heap.size wr).alloc (Nat.le_refl _) (.cells #[.slice none 0 0, .slice none 0 0] 25)).drew) (hb.mono (by simp)); have z0 : w5.cell? ⟨wr.heap.size, 0, none⟩ = some (.slice none 0 0) := (hb.cell (p := ⟨wr.heap.size, 0, none⟩) (by simp)).trans (by go_side); have z1 : w5.cell? ⟨wr.heap.size, 1, none⟩ = some (.slice none 0 0) := (hb.cell (p := ⟨wr.heap.size, 1, none⟩) (by simp)).trans (by go_side); have v0 : w5.frozen? ⟨wr.heap.size, 0, none⟩ = false := (hb.frozen (p := ⟨wr.heap.size, 0, none⟩) (by simp)).trans (by go_side); have v1 : w5.frozen? ⟨wr.heap.size, 1, none⟩ = false := (hb.frozen (p := ⟨wr.heap.size, 1, none⟩) (by simp)).trans (by go_side))
                      | fail)
                  · have gg : Below w5.heap.size w5 (w5.alloc (.cells #[.slice A5 n5 c5, .slice B5 m5 d5] 25)) := by go_grown
                    have VY := hide (Var.new w5 A5 B5 n5 c5 m5 d5)
                    replace P5 := hide (P5.below gg)
                    replace L5 := hide (L5.below gg)
                    replace CC := hide (CC.trans (gg.mono CC.size))
                    obtain ⟨bY, hbY⟩ : ∃ b, b = w5.heap.size := ⟨_, rfl⟩
                    rw [← hbY] at VY ⊢
                    have hY : wr.heap.size ≤ bY := by rw [hbY]; exact (Below.trans (Below.refl wr.heap.size wr).drew (hb.mono (Nat.le_refl _))).size
                    clear hbY hb gg
                    generalize w5.alloc (.cells #[.slice A5 n5 c5, .slice B5 m5 d5] 25) = W6 at *
                    have VS6 := hide (VS.out.below CC.out)
                    have VX6 := hide (VX.out.below CC.out)
                    have N16 := hide (N1.out.below CC.out)
                    have N26 := hide (N2.out.below CC.out)
                    have CW6 := hide (st CW.out CC.out (Below.refl _ _))
                    have PX6 := hide (PX.out.below CC.out)
                    have LX6 := hide (LX.out.below CC.out)
                    have hs6 := CC.out.size
                    clear c0 c1 c4 p1 lx VS VX N1 N2 CW PX LX
                    by_cases hE0 : E1 = 0
                    · obtain ⟨R5, l5, m5l, s5⟩ := write_step (p := p) (z := z) hI.out.1 hI.out.2.2.2 (hE1.out.trans hE0)
                      rw [hP1.out, hW1.out] at R5 s5
                      rw [hP1.out, hI.out.2.1] at l5
                      rw [hW1.out, hI.out.2.2.1] at m5l
                      obtain rfl : n = n5 := by rw [← l5]; exact P5.out.1
                      obtain rfl : q + 1 = m5 := by rw [← m5l]; exact L5.out.1
                      obtain ⟨VX7, PX7, LX7⟩ := VX6.out.store P5.out L5.out (fun i hi => hlens.out.1 i (by rw [l5]; exact hi)) (fun i hi => hlens.out.2 i (by rw [m5l]; exact hi)) (by omega) (by omega)
                      have VS7 := hide ((VS6.out.other (p := ⟨b9 + 1, 0, none⟩) (by simp) (.slice A5 n c5)).other (p := ⟨b9 + 1, 1, none⟩) (by simp) (.slice B5 (q + 1) d5))
                      have N17 := hide ((N16.out.set (p := ⟨b9 + 1, 0, none⟩) (by simp) (.slice A5 n c5)).set (p := ⟨b9 + 1, 1, none⟩) (by simp) (.slice B5 (q + 1) d5))
                      have N27 := hide ((N26.out.set (p := ⟨b9 + 1, 0, none⟩) (by simp) (.slice A5 n c5)).set (p := ⟨b9 + 1, 1, none⟩) (by simp) (.slice B5 (q + 1) d5))
                      have CW7 := hide ((CW6.out.setCell (p := ⟨b9 + 1, 0, none⟩) (by have := hb9.out; simp; omega) (.slice A5 n c5)).setCell (p := ⟨b9 + 1, 1, none⟩) (by have := hb9.out; simp; omega) (.slice B5 (q + 1) d5))
                      have hs7 : W6.heap.size ≤ ((W6.setCell ⟨b9 + 1, 0, none⟩ (.slice A5 n c5)).setCell ⟨b9 + 1, 1, none⟩ (.slice B5 (q + 1) d5)).heap.size := by simp
                      replace VX7 := hide VX7
                      replace PX7 := hide PX7
                      replace LX7 := hide LX7
                      have y0 := VY.out.c0
                      have y1 := VY.out.c1
                      have x0 := VX6.out.c0
                      have x1 := VX6.out.c1
                      have f0 := VX6.out.f0
                      have f1 := VX6.out.f1
                      subst hE0
                      obtain ⟨W7, hW7⟩ : ∃ x, x = (W6.setCell ⟨b9 + 1, 0, none⟩ (.slice A5 n c5)).setCell ⟨b9 + 1, 1, none⟩ (.slice B5 (q + 1) d5) := ⟨_, rfl⟩
                      rw [← hW7] at VX7 PX7 LX7 VS7 N17 N27 CW7 hs7
                      have K7 := hide (Keep.mk VS7.out VX7.out PX7.out LX7.out CW7.out (by omega))
                      have gA : Below W7.heap.size W7 (W7.alloc (.cells #[.int .i64 0] 3)) := by go_grown
                      have iA : (b9 + 2) ≤ (W7.alloc (.cells #[.int .i64 0] 3)).heap.size := by simp; omega
                      have sA : (W7.alloc (.cells #[.int .i64 0] 3)).cell? ⟨W7.heap.size, 0, none⟩ = some (.int .i64 0) := by go_side
                      have hs7e : W7.heap.size = W6.heap.size := by rw [hW7]; simp
                      rw [hs7e] at sA
                      clear hs7e
                      rw [hW7] at K7 gA iA sA N17 N27
                      replace gA := hide gA
                      replace iA := hide iA
                      replace sA := hide sA
                      have hI5 := hide (show Rt P1 W1 ∧ P1.length = n ∧ W1.length = q + 1 ∧ synced P1 W1 = ps from ⟨R5, l5, m5l, s5⟩)
                      clear VS7 VX7 PX7 LX7 CW7 hs7 hW7 VS6 VX6 PX6 LX6 N16 N26 CW6 CC VY R5 l5 m5l s5 hI hlens P5 L5
                      go_wp2_with (first
                        | (at_builtin; refine wpList_append_cnt rfl _ _ rfl rfl (N17.out.below gA.out) rfl sA.out (by omega) iA.out ?_; intro v1 w8 N18 G8; have K8 := hide ((K7.out.below gA.out).grown (N17.out.below gA.out) G8 hb9.out); have N28 := hide ((N27.out.below gA.out).kept G8 (Cnt.sep (N17.out.below gA.out) (N27.out.below gA.out) (by decide))); replace N18 := hide N18; have gB := one_below w8 (Value.int .i64 (-1)) 3; have iB : (b9 + 2) ≤ (w8.alloc (.cells #[.int .i64 (-1)] 3)).heap.size := Nat.le_trans K8.out.sz gB.size; have sB := one_cell w8 (Value.int .i64 (-1)) 3; replace gB := hide gB; replace iB := hide iB; replace sB := hide sB; clear G8 K7 gA iA sA N17 N27 y0 y1 x0 x1 f0 f1)
                        | (at_builtin; refine wpList_append_cnt rfl _ _ rfl rfl (N28.out.below gB.out) rfl sB.out (by omega) iB.out ?_; intro v2 w9 N29 G9; have K9 := hide ((K8.out.below gB.out).grown (N28.out.below gB.out) G9 hb9.out); have N19 := hide ((N18.out.below gB.out).kept G9 (Cnt.sep (N28.out.below gB.out) (N18.out.below gB.out) (by decide))); replace N29 := hide N29; clear G9 K8 N28 N18 gB iB sB)
                        | fail)
                      go_roundw
                      case rel => exact ⟨j + 1, q + 1, P1, W1, A5, B5, c5, d5, by omega, by omega, by go_num, hI5, hide K9.out.vs, hide K9.out.vx, hide K9.out.px, hide K9.out.lx, N19, N29, hide K9.out.cw, K9.out.sz⟩
                      case measure => simp [intOf]; omega
                    · have hq : (E1 == 0) = false := by simpa using hE0
                      go_wp2_with fail
                      go_roundw
                      case rel => exact ⟨j + 1, q, qs, us, Aq, Bq, cq, dq, by omega, by omega, by go_num, hI, VS6, VX6, PX6, LX6, N16, N26, CW6, by omega⟩
                      case measure => simp [intOf]; omega
                  · have V0z : Var w5 wr.heap.size none none 0 0 0 0 := ⟨z0, z1, v0, v1, by have := hb.size; simp at this; omega⟩
                    obtain ⟨VY, P5', L5'⟩ := V0z.store P5 L5 (fun i hi => hlens.out.1 i (by rw [P5.1]; exact hi)) (fun i hi => hlens.out.2 i (by rw [L5.1]; exact hi)) (by omega) (by omega)
                    replace CC := hide ((CC.setCell (p := ⟨wr.heap.size, 0, none⟩) (Nat.le_refl _) (.slice A5 n5 c5)).setCell (p := ⟨wr.heap.size, 1, none⟩) (Nat.le_refl _) (.slice B5 m5 d5))
                    replace VY := hide VY
                    clear P5 L5
                    have P5 := hide P5'
                    have L5 := hide L5'
                    obtain ⟨bY, hbY⟩ : ∃ b, b = wr.heap.size := ⟨_, rfl⟩
                    clear z0 z1 v0 v1 V0z P5' L5' hb
                    have hY : wr.heap.size ≤ bY := by omega
                    generalize hW6 : (w5.setCell ⟨wr.heap.size, 0, none⟩ (.slice A5 n5 c5)).setCell ⟨wr.heap.size, 1, none⟩ (.slice B5 m5 d5) = W6 at *
                    clear hW6
                    rw [← hbY] at VY ⊢
                    clear hbY
                    have VS6 := hide (VS.out.below CC.out)
                    have VX6 := hide (VX.out.below CC.out)
                    have N16 := hide (N1.out.below CC.out)
                    have N26 := hide (N2.out.below CC.out)
                    have CW6 := hide (st CW.out CC.out (Below.refl _ _))
                    have PX6 := hide (PX.out.below CC.out)
                    have LX6 := hide (LX.out.below CC.out)
                    have hs6 := CC.out.size
                    clear c0 c1 c4 p1 lx VS VX N1 N2 CW PX LX
                    by_cases hE0 : E1 = 0
                    · obtain ⟨R5, l5, m5l, s5⟩ := write_step (p := p) (z := z) hI.out.1 hI.out.2.2.2 (hE1.out.trans hE0)
                      rw [hP1.out, hW1.out] at R5 s5
                      rw [hP1.out, hI.out.2.1] at l5
                      rw [hW1.out, hI.out.2.2.1] at m5l
                      obtain rfl : n = n5 := by rw [← l5]; exact P5.out.1
                      obtain rfl : q + 1 = m5 := by rw [← m5l]; exact L5.out.1
                      obtain ⟨VX7, PX7, LX7⟩ := VX6.out.store P5.out L5.out (fun i hi => hlens.out.1 i (by rw [l5]; exact hi)) (fun i hi => hlens.out.2 i (by rw [m5l]; exact hi)) (by omega) (by omega)
                      have VS7 := hide ((VS6.out.other (p := ⟨b9 + 1, 0, none⟩) (by simp) (.slice A5 n c5)).other (p := ⟨b9 + 1, 1, none⟩) (by simp) (.slice B5 (q + 1) d5))
                      have N17 := hide ((N16.out.set (p := ⟨b9 + 1, 0, none⟩) (by simp) (.slice A5 n c5)).set (p := ⟨b9 + 1, 1, none⟩) (by simp) (.slice B5 (q + 1) d5))
                      have N27 := hide ((N26.out.set (p := ⟨b9 + 1, 0, none⟩) (by simp) (.slice A5 n c5)).set (p := ⟨b9 + 1, 1, none⟩) (by simp) (.slice B5 (q + 1) d5))
                      have CW7 := hide ((CW6.out.setCell (p := ⟨b9 + 1, 0, none⟩) (by have := hb9.out; simp; omega) (.slice A5 n c5)).setCell (p := ⟨b9 + 1, 1, none⟩) (by have := hb9.out; simp; omega) (.slice B5 (q + 1) d5))
                      have hs7 : W6.heap.size ≤ ((W6.setCell ⟨b9 + 1, 0, none⟩ (.slice A5 n c5)).setCell ⟨b9 + 1, 1, none⟩ (.slice B5 (q + 1) d5)).heap.size := by simp
                      replace VX7 := hide VX7
                      replace PX7 := hide PX7
                      replace LX7 := hide LX7
                      have y0 := VY.out.c0
                      have y1 := VY.out.c1
                      have x0 := VX6.out.c0
                      have x1 := VX6.out.c1
                      have f0 := VX6.out.f0
                      have f1 := VX6.out.f1
                      subst hE0
                      obtain ⟨W7, hW7⟩ : ∃ x, x = (W6.setCell ⟨b9 + 1, 0, none⟩ (.slice A5 n c5)).setCell ⟨b9 + 1, 1, none⟩ (.slice B5 (q + 1) d5) := ⟨_, rfl⟩
                      rw [← hW7] at VX7 PX7 LX7 VS7 N17 N27 CW7 hs7
                      have K7 := hide (Keep.mk VS7.out VX7.out PX7.out LX7.out CW7.out (by omega))
                      have gA : Below W7.heap.size W7 (W7.alloc (.cells #[.int .i64 0] 3)) := by go_grown
                      have iA : (b9 + 2) ≤ (W7.alloc (.cells #[.int .i64 0] 3)).heap.size := by simp; omega
                      have sA : (W7.alloc (.cells #[.int .i64 0] 3)).cell? ⟨W7.heap.size, 0, none⟩ = some (.int .i64 0) := by go_side
                      have hs7e : W7.heap.size = W6.heap.size := by rw [hW7]; simp
                      rw [hs7e] at sA
                      clear hs7e
                      rw [hW7] at K7 gA iA sA N17 N27
                      replace gA := hide gA
                      replace iA := hide iA
                      replace sA := hide sA
                      have hI5 := hide (show Rt P1 W1 ∧ P1.length = n ∧ W1.length = q + 1 ∧ synced P1 W1 = ps from ⟨R5, l5, m5l, s5⟩)
                      clear VS7 VX7 PX7 LX7 CW7 hs7 hW7 VS6 VX6 PX6 LX6 N16 N26 CW6 CC VY R5 l5 m5l s5 hI hlens P5 L5
                      go_wp2_with (first
                        | (at_builtin; refine wpList_append_cnt rfl _ _ rfl rfl (N17.out.below gA.out) rfl sA.out (by omega) iA.out ?_; intro v1 w8 N18 G8; have K8 := hide ((K7.out.below gA.out).grown (N17.out.below gA.out) G8 hb9.out); have N28 := hide ((N27.out.below gA.out).kept G8 (Cnt.sep (N17.out.below gA.out) (N27.out.below gA.out) (by decide))); replace N18 := hide N18; have gB := one_below w8 (Value.int .i64 (-1)) 3; have iB : (b9 + 2) ≤ (w8.alloc (.cells #[.int .i64 (-1)] 3)).heap.size := Nat.le_trans K8.out.sz gB.size; have sB := one_cell w8 (Value.int .i64 (-1)) 3; replace gB := hide gB; replace iB := hide iB; replace sB := hide sB; clear G8 K7 gA iA sA N17 N27 y0 y1 x0 x1 f0 f1)
                        | (at_builtin; refine wpList_append_cnt rfl _ _ rfl rfl (N28.out.below gB.out) rfl sB.out (by omega) iB.out ?_; intro v2 w9 N29 G9; have K9 := hide ((K8.out.below gB.out).grown (N28.out.below gB.out) G9 hb9.out); have N19 := hide ((N18.out.below gB.out).kept G9 (Cnt.sep (N28.out.below gB.out) (N18.out.below gB.out) (by decide))); replace N29 := hide N29; clear G9 K8 N28 N18 gB iB sB)
                        | fail)
                      go_roundw
                      case rel => exact ⟨j + 1, q + 1, P1, W1, A5, B5, c5, d5, by omega, by omega, by go_num, hI5, hide K9.out.vs, hide K9.out.vx, hide K9.out.px, hide K9.out.lx, N19, N29, hide K9.out.cw, K9.out.sz⟩
                      case measure => simp [intOf]; omega
                    · have hq : (E1 == 0) = false := by simpa using hE0
                      go_wp2_with fail
                      go_roundw
                      case rel => exact ⟨j + 1, q, qs, us, Aq, Bq, cq, dq, by omega, by omega, by go_num, hI, VS6, VX6, PX6, LX6, N16, N26, CW6, by omega⟩
                      case measure => simp [intOf]; omega
              · obtain rfl : j = k := by omega
                obtain ⟨AN, cN, rfl, N1'⟩ := N1.out.nts
                obtain ⟨AS, cS, rfl, N2'⟩ := N2.out.nts
                have NN := hide N1'
                have NS := hide N2'
                clear N1' N2' N1 N2
                have PS := hide (P3.out.below CW.out)
                have LS := hide (L3.out.below CW.out)
                have MM := hide (M.out.below CW.out)
                have hru := (right_iff qs us).2 hI.out.1
                have hul := hI.out.2.2.1
                have e1 := hide (crash_empty ps cuts)
                have e2 : Hid (crashP qs us (List.replicate q (-1)) = qs) := hide (by
                  unfold crashP
                  rw [if_pos hru, crash_stays hI.out.1 (fun i hi => by rw [cutAt, if_neg]; rintro ⟨q1, q2, _⟩; rw [List.length_replicate] at q1; simp [List.getD_eq_getElem?_getD, List.getElem?_replicate, q1] at q2) (Nat.le_refl _), List.drop_length]
                  rfl)
                have e3 : Hid (crashP qs us (List.replicate q 0) = ps) := hide (by
                  unfold crashP
                  rw [if_pos hru, crash_none (fun i hi => by rw [cutAt, if_pos ⟨by rw [List.length_replicate]; omega, by simp [List.getD_eq_getElem?_getD, List.getElem?_replicate, show i < q by omega], by simp [List.getD_eq_getElem?_getD, List.getElem?_replicate, show i < q by omega]⟩]; simp [List.getD_eq_getElem?_getD, List.getElem?_replicate, show i < q by omega]) (Nat.le_refl _)]
                  exact hI.out.2.2.2)
                have w2 : Hid (crashW qs us = []) := hide (by unfold crashW; rw [if_pos hru])
                obtain ⟨PQ, hPQ⟩ : ∃ Z, crashP qs us cuts = Z := ⟨_, rfl⟩
                replace hPQ := hide hPQ
                have e5 := hide (crash_empty PQ cuts)
                have x0 := VS.out.c0
                have y0 := VS.out.c1
                have l0 := VS.out.lt
                have x1 := VX.out.c0
                have y1 := VX.out.c1
                have l1 := VX.out.lt
                clear hru hul hI VS VX
                go_wp2_with fail
                go_region_held3 (fun w' => w'.cell? ⟨b9, 0, none⟩ = some (.slice A3 n c3) ∧ w'.cell? ⟨b9, 1, none⟩ = some (.slice B3 0 d3) ∧ w'.cell? ⟨b9 + 1, 0, none⟩ = some (.slice Aq n cq) ∧ w'.cell? ⟨b9 + 1, 1, none⟩ = some (.slice Bq q dq))
                  (first | (exact ⟨(CC.cell (p := ⟨b9, 0, none⟩) l0).trans x0, (CC.cell (p := ⟨b9, 1, none⟩) l0).trans y0, (CC.cell (p := ⟨b9 + 1, 0, none⟩) l1).trans x1, (CC.cell (p := ⟨b9 + 1, 1, none⟩) l1).trans y1⟩) | go_keep)
                  (first
                    | (go_at_call 10; (with_reducible refine (alive_any _).mono ?_); rintro e a1 ⟨rfl, hb⟩; have CC : Below wr.heap.size wr a1 := Below.trans (by go_grown) hb; clear hb)
                    | (go_at_call 20; (with_reducible refine (same_any PC1.out LC1.out (PS.out.below CC) (LS.out.below CC) true (sameD_refl _ _)).mono ?_); rintro e zz ⟨rfl, hb⟩; replace CC := CC.trans (hb.mono CC.size); clear hb PC1 LC1)
                    | (go_at_call 20; (with_reducible refine (same_any PC2.out LC2.out PY.out LY.out true (sameD_refl _ _)).mono ?_); rintro e zz ⟨rfl, hb⟩; replace CC := CC.trans (hb.mono CC.size); clear hb PC2 LC2 PY LY)
                    | (go_at_call 20; (with_reducible refine (same_any PC3.out LC3.out (PS.out.below CC) (LS.out.below CC) true (sameD_refl _ _)).mono ?_); rintro e zz ⟨rfl, hb⟩; replace CC := CC.trans (hb.mono CC.size); clear hb PC3 LC3)
                    | (go_at_call 20; (with_reducible refine (same_any PC5.out LC5.out PC6.out LC6.out true (sameD_refl _ _)).mono ?_); rintro e zz ⟨rfl, hb⟩; replace CC := CC.trans (hb.mono CC.size); clear hb PC5 LC5 PC6 LC6)
                    | (go_at_call 21; (with_reducible refine (sync_any (ws := []) (PX.out.below CC) (by omega)).mono ?_); rintro e sY ⟨AY, nY, cY, BY, mY, dY, rfl, Pz, Lz, hb⟩; have PY := hide Pz; have LY := hide Lz; replace PC2 := hide (PC2.out.below hb); replace LC2 := hide (LC2.out.below hb); replace CC := CC.trans (hb.mono CC.size); clear hb Pz Lz)
                    | (go_at_call 23; (with_reducible refine (crash_any (PX.out.below CC) (LX.out.below CC) (MM.out.below CC) (by omega) _ [] hPQ.out w2.out).mono ?_); rintro e sC6 ⟨AC6, nC6, cC6, BC6, mC6, dC6, rfl, Pz, Lz, hb⟩; have PC6 := hide Pz; have LC6 := hide Lz; replace PC5 := hide (PC5.out.below hb); replace LC5 := hide (LC5.out.below hb); replace CC := CC.trans (hb.mono CC.size); clear hb Pz Lz)
                    | (go_at_call 23; (with_reducible refine (crash_any (PC4.out) (LC4.out) (MM.out.below CC) hm4 _ [] e5.out.1 e5.out.2).mono ?_); rintro e sC5 ⟨AC5, nC5, cC5, BC5, mC5, dC5, rfl, Pz, Lz, hb⟩; have PC5 := hide Pz; have LC5 := hide Lz; replace CC := CC.trans (hb.mono CC.size); clear hb Pz Lz PC4 LC4 hm4)
                    | (go_at_call 23; (with_reducible refine (crash_any (PS.out.below CC) (LS.out.below CC) (MM.out.below CC) (by omega) _ [] e1.out.1 e1.out.2).mono ?_); rintro e sC1 ⟨AC1, nC1, cC1, BC1, mC1, dC1, rfl, Pz, Lz, hb⟩; have PC1 := hide Pz; have LC1 := hide Lz; replace CC := CC.trans (hb.mono CC.size); clear hb Pz Lz)
                    | (go_at_call 23; (with_reducible refine (crash_any (PX.out.below CC) (LX.out.below CC) (NS.out.below CC) (by omega) _ [] e2.out w2.out).mono ?_); rintro e sC2 ⟨AC2, nC2, cC2, BC2, mC2, dC2, rfl, Pz, Lz, hb⟩; have PC2 := hide Pz; have LC2 := hide Lz; replace CC := CC.trans (hb.mono CC.size); clear hb Pz Lz)
                    | (go_at_call 23; (with_reducible refine (crash_any (PX.out.below CC) (LX.out.below CC) (NN.out.below CC) (by omega) _ [] e3.out w2.out).mono ?_); rintro e sC3 ⟨AC3, nC3, cC3, BC3, mC3, dC3, rfl, Pz, Lz, hb⟩; have PC3 := hide Pz; have LC3 := hide Lz; replace CC := CC.trans (hb.mono CC.size); clear hb Pz Lz)
                    | (go_at_call 23; (with_reducible refine (crash_any (PX.out.below CC) (LX.out.below CC) (MM.out.below CC) (by omega) _ [] hPQ.out w2.out).mono ?_); rintro e sC4 ⟨AC4, nC4, cC4, BC4, mC4, dC4, rfl, Pz, Lz, hb⟩; have PC4 := hide Pz; have LC4 := hide Lz; have hm4 : mC4 ≤ 100000 := Nat.le_trans (Nat.le_of_eq Lz.1.symm) (Nat.zero_le _); replace CC := CC.trans (hb.mono CC.size); clear hb Pz Lz)
                    | fail)
                all_goals
                  go_wp2_with fail
                  go_ret
                  exact ⟨rfl, st (st BW.out CW.out (Below.refl _ _)) CC (Below.refl _ _)⟩
end Go.Proofs.Ytfmgmpelgnickaa

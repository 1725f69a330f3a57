/-
  Chapter 31: the walk over the law PageBytes: it returns true.
-/
import Derived.Test.YtfmgmpelgnickaaBytesA
namespace Go.Proofs.Ytfmgmpelgnickaa
open Go.RowKit Plain
set_option linter.unusedSimpArgs false
set_option linter.unusedVariables false
attribute [local go_sem ↓] Go.wp_at_zero Go.wp_at_succ

theorem own_below {w w' : World} {base n size : Nat} {e : TypeId} {v : Value} {xs : List Value} (h : w.ownsRow base e size v n xs) (hb : Below w.heap.size w w') : w'.ownsRow base e size v n xs :=
  h.kept (row := .none) ⟨hb.os, hb.tape, hb.output, hb.size, fun i hi _ => hb.block i hi⟩ (by cases v.ownBlock <;> simp)
set_option maxRecDepth 10000 in
set_option maxHeartbeats 16000000 in
theorem bytes_walk {A B C : Option Addr} {n c m d l e : Nat} {ps : List Pg} {ws : List Od} {cuts : List Int} {w : World} (P : Pags w A n c ps) (L : Olds w B m d ws) (N : Nts w C l e cuts) :
    Calls Try.prog 7 #[.agg #[.slice A n c, .slice B m d], .slice C l e] w fun e w' => e = .returned (.bool true) ∧ Below w.heap.size w w' := by
  have hl := N.max
  have hpl := hide P.1
  have hwl := hide L.1
  cases hfew : fewB ps ws with
  | false =>
    replace hfew := hide hfew
    have g0 : Below w.heap.size w (w.alloc (.cells #[.slice A n c, .slice B m d] 25)) := by go_grown
    have V0 := Var.new w A B n c m d
    obtain ⟨b0, hb0⟩ : ∃ b, b = w.heap.size := ⟨_, rfl⟩
    rw [← hb0] at V0
    replace P := hide (P.below g0)
    replace L := hide (L.below g0)
    replace N := hide (N.below g0)
    replace V0 := hide V0
    have BW := hide g0
    go_enter Try.func7, Try.ntmps7
    go_wp2_with fail
    rw [← hb0]
    generalize w.alloc (.cells #[.slice A n c, .slice B m d] 25) = wa at *
    clear g0 hb0
    have x0 := V0.out.c0
    have y0 := V0.out.c1
    have l0 := V0.out.lt
    go_wp2_with fail
    with_reducible refine (few_any P.out L.out false hfew.out).mono ?_
    rintro e u1 ⟨rfl, hb⟩
    replace BW := hide (st BW.out hb (Below.refl _ _))
    replace V0 := hide (V0.out.below hb)
    replace P := hide (P.out.below hb)
    replace L := hide (L.out.below hb)
    replace N := hide (N.out.below hb)
    clear hb
    clear x0 y0 l0
    have x0 := V0.out.c0
    have y0 := V0.out.c1
    have l0 := V0.out.lt
    go_wp2_with fail
    with_reducible refine (alive_any _).mono ?_
    rintro e u2 ⟨rfl, hb⟩
    replace BW := hide (st BW.out hb (Below.refl _ _))
    replace V0 := hide (V0.out.below hb)
    replace P := hide (P.out.below hb)
    replace L := hide (L.out.below hb)
    replace N := hide (N.out.below hb)
    clear hb
    clear x0 y0 l0
    have x0 := V0.out.c0
    have y0 := V0.out.c1
    have l0 := V0.out.lt
    go_wp2_with fail
    go_ret
    exact ⟨rfl, BW.out⟩
  | true =>
    have hn : n < 50 := by have := (few_small hfew).1; rw [hpl.out] at this; exact this
    have hm : m < 50 := by have := (few_small hfew).2; rw [hwl.out] at this; exact this
    replace hfew := hide hfew
    by_cases hl1 : 100 < l
    · have hlI : (100 : Int) < (l : Int) := by omega
      have g0 : Below w.heap.size w (w.alloc (.cells #[.slice A n c, .slice B m d] 25)) := by go_grown
      have V0 := Var.new w A B n c m d
      obtain ⟨b0, hb0⟩ : ∃ b, b = w.heap.size := ⟨_, rfl⟩
      rw [← hb0] at V0
      replace P := hide (P.below g0)
      replace L := hide (L.below g0)
      replace N := hide (N.below g0)
      replace V0 := hide V0
      have BW := hide g0
      go_enter Try.func7, Try.ntmps7
      go_wp2_with fail
      rw [← hb0]
      generalize w.alloc (.cells #[.slice A n c, .slice B m d] 25) = wa at *
      clear g0 hb0
      have x0 := V0.out.c0
      have y0 := V0.out.c1
      have l0 := V0.out.lt
      go_wp2_with fail
      with_reducible refine (few_any P.out L.out true hfew.out).mono ?_
      rintro e u1 ⟨rfl, hb⟩
      replace BW := hide (st BW.out hb (Below.refl _ _))
      replace V0 := hide (V0.out.below hb)
      replace P := hide (P.out.below hb)
      replace L := hide (L.out.below hb)
      replace N := hide (N.out.below hb)
      clear hb
      clear x0 y0 l0
      have x0 := V0.out.c0
      have y0 := V0.out.c1
      have l0 := V0.out.lt
      go_wp2_with fail
      with_reducible refine (alive_any _).mono ?_
      rintro e u2 ⟨rfl, hb⟩
      replace BW := hide (st BW.out hb (Below.refl _ _))
      replace V0 := hide (V0.out.below hb)
      replace P := hide (P.out.below hb)
      replace L := hide (L.out.below hb)
      replace N := hide (N.out.below hb)
      clear hb
      clear x0 y0 l0
      have x0 := V0.out.c0
      have y0 := V0.out.c1
      have l0 := V0.out.lt
      go_wp2_with fail
      go_ret
      exact ⟨rfl, BW.out⟩
    · have hlI : ¬ (100 : Int) < (l : Int) := by omega
      cases hrt : rightB ps ws with
      | false =>
        replace hrt := hide hrt
        have g0 : Below w.heap.size w (w.alloc (.cells #[.slice A n c, .slice B m d] 25)) := by go_grown
        have V0 := Var.new w A B n c m d
        obtain ⟨b0, hb0⟩ : ∃ b, b = w.heap.size := ⟨_, rfl⟩
        rw [← hb0] at V0
        replace P := hide (P.below g0)
        replace L := hide (L.below g0)
        replace N := hide (N.below g0)
        replace V0 := hide V0
        have BW := hide g0
        go_enter Try.func7, Try.ntmps7
        go_wp2_with fail
        rw [← hb0]
        generalize w.alloc (.cells #[.slice A n c, .slice B m d] 25) = wa at *
        clear g0 hb0
        have x0 := V0.out.c0
        have y0 := V0.out.c1
        have l0 := V0.out.lt
        go_wp2_with fail
        with_reducible refine (few_any P.out L.out true hfew.out).mono ?_
        rintro e u1 ⟨rfl, hb⟩
        replace BW := hide (st BW.out hb (Below.refl _ _))
        replace V0 := hide (V0.out.below hb)
        replace P := hide (P.out.below hb)
        replace L := hide (L.out.below hb)
        replace N := hide (N.out.below hb)
        clear hb
        clear x0 y0 l0
        have x0 := V0.out.c0
        have y0 := V0.out.c1
        have l0 := V0.out.lt
        go_wp2_with fail
        with_reducible refine (right_any P.out L.out false hrt.out).mono ?_
        rintro e u2 ⟨rfl, hb⟩
        replace BW := hide (st BW.out hb (Below.refl _ _))
        replace V0 := hide (V0.out.below hb)
        replace P := hide (P.out.below hb)
        replace L := hide (L.out.below hb)
        replace N := hide (N.out.below hb)
        clear hb
        clear x0 y0 l0
        have x0 := V0.out.c0
        have y0 := V0.out.c1
        have l0 := V0.out.lt
        go_wp2_with fail
        with_reducible refine (alive_any _).mono ?_
        rintro e u3 ⟨rfl, hb⟩
        replace BW := hide (st BW.out hb (Below.refl _ _))
        replace V0 := hide (V0.out.below hb)
        replace P := hide (P.out.below hb)
        replace L := hide (L.out.below hb)
        replace N := hide (N.out.below hb)
        clear hb
        clear x0 y0 l0
        have x0 := V0.out.c0
        have y0 := V0.out.c1
        have l0 := V0.out.lt
        go_wp2_with fail
        go_ret
        exact ⟨rfl, BW.out⟩
      | true =>
        have R := (right_iff ps ws).1 hrt
        replace hrt := hide hrt
        have hmet := hide (fun a i => met_all R cuts a i)
        have hlen := hide (fun a (ha : a < n) => hadL_len R (a := a) (k := m) (by rw [hpl.out]; exact ha) (by rw [hwl.out]; exact Nat.le_refl _))
        have hcr : crashP ps ws cuts = crashTo ps ws cuts ws.length := by unfold crashP; rw [hrt.out]; rfl
        have hpg := hide (fun a (ha : a < n) => crashTo_page R cuts (k := ws.length) (Nat.le_refl _) (j := a) (by rw [hpl.out]; exact ha))
        have hPCl : (crashP ps ws cuts).length = n := by rw [hcr, crashTo_len]; exact hpl.out
        have hWC : crashW ps ws = [] := by unfold crashW; rw [hrt.out]; rfl
        have hZSl : (synced ps ws).length = n := by rw [synced_len]; exact hpl.out
        obtain ⟨PC, hPC⟩ : ∃ Z, crashP ps ws cuts = Z := ⟨_, rfl⟩
        obtain ⟨ZS, hZS⟩ : ∃ Z, synced ps ws = Z := ⟨_, rfl⟩
        rw [hPC] at hPCl hcr
        rw [hZS] at hZSl
        rw [← hcr] at hmet hpg
        replace hPCl := hide hPCl
        replace hWC := hide hWC
        replace hZSl := hide hZSl
        replace hPC := hide hPC
        replace hZS := hide hZS
        have hR := hide R
        clear R hcr
        have g0 : Below w.heap.size w (w.alloc (.cells #[.slice A n c, .slice B m d] 25)) := by go_grown
        have V0 := Var.new w A B n c m d
        obtain ⟨b0, hb0⟩ : ∃ b, b = w.heap.size := ⟨_, rfl⟩
        rw [← hb0] at V0
        replace P := hide (P.below g0)
        replace L := hide (L.below g0)
        replace N := hide (N.below g0)
        replace V0 := hide V0
        have BW := hide g0
        go_enter Try.func7, Try.ntmps7
        go_wp2_with fail
        rw [← hb0]
        generalize w.alloc (.cells #[.slice A n c, .slice B m d] 25) = wa at *
        clear g0 hb0
        have x0 := V0.out.c0
        have y0 := V0.out.c1
        have l0 := V0.out.lt
        go_wp2_with fail
        with_reducible refine (few_any P.out L.out true hfew.out).mono ?_
        rintro e u1 ⟨rfl, hb⟩
        replace BW := hide (st BW.out hb (Below.refl _ _))
        replace V0 := hide (V0.out.below hb)
        replace P := hide (P.out.below hb)
        replace L := hide (L.out.below hb)
        replace N := hide (N.out.below hb)
        clear hb
        clear x0 y0 l0
        have x0 := V0.out.c0
        have y0 := V0.out.c1
        have l0 := V0.out.lt
        go_wp2_with fail
        with_reducible refine (right_any P.out L.out true hrt.out).mono ?_
        rintro e u2 ⟨rfl, hb⟩
        replace BW := hide (st BW.out hb (Below.refl _ _))
        replace V0 := hide (V0.out.below hb)
        replace P := hide (P.out.below hb)
        replace L := hide (L.out.below hb)
        replace N := hide (N.out.below hb)
        clear hb
        clear x0 y0 l0
        have x0 := V0.out.c0
        have y0 := V0.out.c1
        have l0 := V0.out.lt
        go_wp2_with fail
        with_reducible refine (crash_any P.out L.out N.out (by omega) PC [] hPC.out hWC.out).mono ?_
        rintro e u3 ⟨A3, n3, c3, B3, m3, d3, rfl, P3, L3, hb⟩
        obtain rfl : n = n3 := by have := P3.1; rw [hPCl.out] at this; exact this
        obtain rfl : 0 = m3 := L3.1
        have DD : Below u2.heap.size u2 (u3.alloc (.cells #[.slice A3 n c3, .slice B3 0 d3] 25)) := hb.alloc hb.size _
        have gg : Below u3.heap.size u3 (u3.alloc (.cells #[.slice A3 n c3, .slice B3 0 d3] 25)) := by go_grown
        have V3 := hide (Var.new u3 A3 B3 n c3 0 d3)
        replace P3 := hide (P3.below gg)
        clear L3
        replace BW := hide (st BW.out DD (Below.refl _ _))
        replace V0 := hide (V0.out.below DD)
        replace P := hide (P.out.below DD)
        replace L := hide (L.out.below DD)
        replace N := hide (N.out.below DD)
        clear x0 y0 l0
        clear hb DD gg
        have x0 := V0.out.c0
        have y0 := V0.out.c1
        have l0 := V0.out.lt
        have x1 := V3.out.c0
        have y1 := V3.out.c1
        have l1 := V3.out.lt
        go_wp2_with fail
        obtain ⟨b3, hbk⟩ : ∃ b, b = u3.heap.size := ⟨_, rfl⟩
        rw [← hbk] at V3 x1 y1 l1 ⊢
        clear hbk
        generalize u3.alloc (.cells #[.slice A3 n c3, .slice B3 0 d3] 25) = U3 at *
        go_wp2_with fail
        with_reducible refine (synced_any P.out L.out hR.out (by omega) ZS hZS.out).mono ?_
        rintro e u4 ⟨A7, n7, c7, rfl, S, hb⟩
        replace BW := hide (st BW.out hb (Below.refl _ _))
        replace V0 := hide (V0.out.below hb)
        replace P := hide (P.out.below hb)
        replace L := hide (L.out.below hb)
        replace N := hide (N.out.below hb)
        replace V3 := hide (V3.out.below hb)
        replace P3 := hide (P3.out.below hb)
        obtain rfl : n = n7 := by have := S.1; rw [hZSl.out] at this; exact this
        replace S := hide S
        clear hb
        clear x0 y0 l0 x1 y1 l1
        have x0 := V0.out.c0
        have y0 := V0.out.c1
        have l0 := V0.out.lt
        have x1 := V3.out.c0
        have y1 := V3.out.c1
        have l1 := V3.out.lt
        go_wp2_with fail
        obtain ⟨WS, hWS⟩ : ∃ x, x = u4 := ⟨_, rfl⟩
        subst hWS
        go_loopw [45] (fun i wr => ∃ t : Nat, t ≤ n ∧ i = .int .i64 t ∧ Hid (Below WS.heap.size WS wr)) (fun i _ => n - (intOf i).toNat)
        case atStart => exact ⟨0, by omega, by go_num, hide (Below.refl _ _)⟩
        case round =>
          obtain ⟨t, ht, rfl, CW⟩ := hrel
          obtain ⟨W1, hW1⟩ : ∃ x, x = wr := ⟨_, rfl⟩
          subst hW1
          clear x0 y0 l0 x1 y1 l1
          by_cases hlt : t < n
          · obtain ⟨b, off, Ap, np, cp, hA, hbk, p1, Q1⟩ := P3.out.at2 CW.out hlt
            obtain ⟨b', off', Aw, nw, cw, hA', hbk', p2, Q2⟩ := S.out.at2 CW.out hlt
            subst hA hA'
            obtain rfl : 256 = np := by have := Q1.len; rw [hpg.out t hlt] at this; exact this
            replace Q1 := hide Q1
            replace Q2 := hide Q2
            have ht0 : (0 : Int) ≤ (t : Int) := by omega
            have htn : (t : Int) < (n : Int) := by omega
            have V0r := hide (V0.out.below CW.out)
            have k0 := V0r.out.c0
            have k1 := V0r.out.c1
            have kl := V0r.out.lt
            have h2 := hide (hlen.out t hlt)
            have h3 := hide (hmet.out t)
            go_wp2_with fail
            have g1 : Below W1.heap.size W1 (W1.alloc (.cells #[.slice Aw nw cw] 26)) := by go_grown
            have o1 := hide (World.ownsRow_lit (base := W1.heap.size) (e := 26) (size := 1) W1 #[.slice Aw nw cw] 1 (Nat.le_refl _) (by unfold maxLen; omega) rfl)
            have r1 : Hid (∀ j, j < 1 → PgV WS ([Value.slice Aw nw cw].getD j nul) ((hadL ps ws t 0).getD j [])) := hide (fun j hj => by
              obtain rfl : j = 0 := by omega
              have := Q2.out.pg
              rw [← hZS.out] at this
              exact this)
            generalize W1.alloc (.cells #[.slice Aw nw cw] 26) = wa2 at *
            replace g1 := hide g1
            clear k0 k1 kl p1 p2
            go_loopw [9, 61] (fun v i w3 => ∃ (k cnt : Nat) (xs : List Value), k ≤ m ∧ i = .int .i64 k ∧ cnt ≤ k + 1 ∧ Hid ((hadL ps ws t k).length = cnt) ∧ Hid (w3.ownsRow W1.heap.size 26 1 v cnt xs) ∧ Hid (∀ j, j < cnt → PgV WS (xs.getD j nul) ((hadL ps ws t k).getD j [])) ∧ Hid (Below W1.heap.size W1 w3)) (fun _ i _ => m - (intOf i).toNat)
            case atStart => exact ⟨0, 1, _, by omega, by go_num, by omega, hide rfl, o1, r1, g1⟩
            case round =>
              obtain ⟨k, cnt, xs, hk, rfl, hcnt, hln, hown, hrow, DW⟩ := hrel
              have V0x := hide (V0r.out.below DW.out)
              have k0 := V0x.out.c0
              have k1 := V0x.out.c1
              have kl := V0x.out.lt
              have EW := hide (st CW.out DW.out (Below.refl _ _))
              have szW := DW.out.size
              clear g1 o1 r1
              by_cases hkm : k < m
              · obtain ⟨b2, off2, Aj, nj, cj, hB, hbk2, q0, q1, Q3⟩ := L.out.at2 EW.out hkm
                subst hB
                have hk0 : (0 : Int) ≤ (k : Int) := by omega
                have hkI : (k : Int) < (m : Int) := by omega
                clear Q3
                by_cases hX : (ws.getD k od0).1 = (t : Int)
                · rw [hX] at q0
                  have n1 : Below wr.heap.size wr (wr.alloc (.cells #[.int .i64 (t : Int), .slice Aj nj cj] 47)) := by go_grown
                  go_wp2_with fail
                  with_reducible refine (wrote_old P.out L.out (st EW.out n1 (Below.refl _ _)) hR.out hkm (by omega) _ rfl).mono ?_
                  rintro e w5 ⟨Ay, ny, cy, rfl, Y, hb⟩
                  have hown5 := hide (own_below hown.out (n1.trans (hb.mono n1.size)))
                  have D5 := hide (st DW.out hb n1)
                  have hl2 : Hid ((hadL ps ws t (k + 1)).length = cnt + 1) := hide (by rw [hadL_yes hX, List.length_append, hln.out]; rfl)
                  have hrow2 := hide (pgs_snoc (w := WS) (qs := hadL ps ws t (k + 1)) (xs := xs) (k := cnt) (x := .slice Ay ny cy) (by have := hown.out.1; omega) (fun j hj => by
                    have := hrow.out j hj
                    rw [hadL_yes hX, List.getD_eq_getElem?_getD (l := hadL ps ws t k ++ _), List.getElem?_append_left (by rw [hln.out]; exact hj), ← List.getD_eq_getElem?_getD]
                    exact this) (by
                    rw [hadL_yes hX, List.getD_eq_getElem?_getD, List.getElem?_append_right (by rw [hln.out]; exact Nat.le_refl _), hln.out, Nat.sub_self]
                    exact Y.pg))
                  have sz5 := D5.out.size
                  have sz6 : wr.heap.size ≤ w5.heap.size := Nat.le_trans n1.size hb.size
                  clear hb Y n1 q0 q1 k0 k1 hown hrow hln hX V0x
                  go_wp2_with (at_builtin; refine wpList_append_row (T := 22) (E := 26) (s := 1) (z := .slice none 0 0) (bytes := 24) Try.underlying22 info26 rfl (by decide) (by decide) rfl _ _ rfl W1.heap.size _ cnt xs rfl (hown5.out.alloc _) (some ⟨w5.heap.size, 0, none⟩) 1 1 [.slice Ay ny cy] rfl (row_lit1 w5 _ 26) (by simp [Value.oneCell']) (by omega) (by simp; omega) ?_; intro v' w2 hown2 hB2; have B2 := hide (D5.out.trans (Below.trans (by go_grown) hB2)); replace hown2 := hide hown2; clear hB2)
                  go_roundw
                  case rel => exact ⟨k + 1, cnt + 1, _, by omega, by go_num, by omega, hl2, hown2, hrow2, B2⟩
                  case measure => simp [intOf]; omega
                · have hno := hide (hadL_no (ps := ps) hX)
                  generalize (ws.getD k od0).1 = X at q0 hX
                  have hq : (X == (t : Int)) = false := by simpa using hX
                  clear V0x
                  go_wp2_with fail
                  go_roundw
                  case rel => exact ⟨k + 1, cnt, xs, by omega, by go_num, by omega, hide (by rw [hno.out]; exact hln.out), hide (hown.out.alloc _), hide (fun j hj => by rw [hno.out]; exact hrow.out j hj), hide (DW.out.alloc szW _)⟩
                  case measure => simp [intOf]; omega
              · have ekm : k = m := by omega
                have e1 : hadL ps ws t ws.length = hadL ps ws t k := by rw [hwl.out, ekm]
                have hme := hide (fun i => by have := h3.out i; rw [e1, hln.out] at this; exact this)
                have hle : Hid (∀ j, j < cnt → ((hadL ps ws t k).getD j []).length = 256) := hide (fun j hj => h2.out _ (by rw [← ekm, List.getD_eq_getElem?_getD, List.getElem?_eq_getElem (by rw [hln.out]; exact hj)]; exact List.getElem_mem _))
                clear e1 h2 h3 hmet hlen
                generalize hadL ps ws t k = H at *
                generalize PC.getD t [] = Z at *
                obtain ⟨Ar, cr, rfl, hr, _⟩ := row_own hown.out
                have hr := hide hr
                obtain rfl := ekm
                obtain ⟨b4, off4, hA4, hb4, hc4⟩ := Q1.out.cell (by omega)
                subst hA4
                replace hc4 := hide hc4
                have hci : (cnt : Int) ≤ 60 := by omega
                clear hown V0x hkm hln
                go_wp2_with fail
                obtain ⟨W3, hW3⟩ : ∃ x, x = wr := ⟨_, rfl⟩
                subst hW3
                go_loopw [79] (fun i wr => ∃ j : Nat, j ≤ 256 ∧ i = .int .i64 j ∧ W3 = wr) (fun i _ => 256 - (intOf i).toNat)
                case atStart => exact ⟨0, by omega, by go_num, rfl⟩
                case round =>
                  obtain ⟨j, hj, rfl, hWW⟩ := hrel
                  subst hWW
                  by_cases hj2 : j < 256
                  · have z1 := (EW.out.cell (p := ⟨b4, off4 + j, none⟩) hb4).trans (hc4.out j hj2)
                    have hmj := hide (hme.out j)
                    generalize Z.getD j 0 = y at *
                    have hj0 : (0 : Int) ≤ (j : Int) := by omega
                    have hjI : (j : Int) < 256 := by omega
                    clear hc4 hme
                    go_wp2_with fail
                    go_loopw [14, 86] (fun v i wr => ∃ s : Nat, s ≤ cnt ∧ i = .int .i64 s ∧ v = .bool (metB H j y s) ∧ W3 = wr) (fun _ i _ => cnt - (intOf i).toNat)
                    case atStart => exact ⟨0, by omega, by go_num, rfl, rfl⟩
                    case round =>
                      obtain ⟨s, hs, rfl, rfl, hWW⟩ := hrel
                      subst hWW
                      clear z1
                      by_cases hs2 : s < cnt
                      · obtain ⟨b5, off5, hA5, hb5, hc5⟩ := hr.out.2.2.2.2 (by omega)
                        subst hA5
                        obtain ⟨Aq, nq, cq, e5, hq5⟩ := hrow.out s hs2
                        have z2 := hc5 s (by omega)
                        rw [e5] at z2
                        obtain rfl : 256 = nq := by have := hq5.len; rw [hle.out s hs2] at this; exact this
                        obtain ⟨b6, off6, hA6, hb6, hc6⟩ := hq5.cell (by omega)
                        subst hA6
                        have z3 := (EW.out.cell (p := ⟨b6, off6 + j, none⟩) hb6).trans (hc6 j hj2)
                        have hsn := hide (metB_succ H j y s)
                        have hs0 : (0 : Int) ≤ (s : Int) := by omega
                        have hsI : (s : Int) < (cnt : Int) := by omega
                        clear hc5 hc6 e5 hq5 hmj
                        generalize metB H j y s = mb at *
                        generalize (H.getD s []).getD j 0 = X at *
                        cases mb
                        · by_cases hy : X = y
                          · subst hy
                            go_wp2_with fail
                            go_roundw
                            case rel => exact ⟨s + 1, by omega, by go_num, by rw [hsn.out]; simp, by trivial⟩
                            case measure => simp [intOf]; omega
                          · have hq : (X == y) = false := by simpa using hy
                            go_wp2_with fail
                            go_roundw
                            case rel => exact ⟨s + 1, by omega, by go_num, by rw [hsn.out]; simp [hy], by trivial⟩
                            case measure => simp [intOf]; omega
                        · go_wp2_with fail
                          go_roundw
                          case rel => exact ⟨s + 1, by omega, by go_num, by rw [hsn.out]; simp, by trivial⟩
                          case measure => simp [intOf]; omega
                      · have es : s = cnt := by omega
                        rw [es, hmj.out]
                        clear es
                        go_wp2_with fail
                        go_roundw
                        case rel => exact ⟨j + 1, by omega, by go_num, by trivial⟩
                        case measure => simp [intOf]; omega
                  · have ej : j = 256 := by omega
                    subst ej
                    go_wp2_with fail
                    go_roundw
                    case rel => exact ⟨t + 1, by omega, by go_num, EW⟩
                    case measure => simp [intOf]; omega
          · obtain rfl : t = n := by omega
            go_wp2_with fail
            with_reducible refine (alive_any _).mono ?_
            rintro e v9 ⟨rfl, hb⟩
            have B9 := hide (st (st BW.out CW.out (Below.refl _ _)) hb (Below.refl _ _))
            clear hb
            go_wp2_with fail
            go_ret
            exact ⟨rfl, B9.out⟩
end Go.Proofs.Ytfmgmpelgnickaa

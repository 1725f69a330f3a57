/-
  Chapter 31: the walk over the law PageOne: it returns true.
-/
import Derived.Test.YtfmgmpelgnickaaReads
namespace Go.Proofs.Ytfmgmpelgnickaa
open Go.RowKit Plain
set_option linter.unusedSimpArgs false
set_option linter.unusedVariables false
attribute [local go_sem ↓] Go.wp_at_zero Go.wp_at_succ

theorem Byt.take {w : World} {b off n c k : Nat} {z : Pg} (h : Byt w (some ⟨b, off, none⟩) n c z) (hk : k ≤ n) : Byt w (some ⟨b, off, none⟩) k c (z.take k) := by
  have hl := h.len
  have hc := h.2.1
  have hm := h.2.2.1
  rcases Nat.eq_zero_or_pos n with e | e
  · subst e
    obtain rfl : k = 0 := by omega
    exact ⟨by simp, by omega, hm, (fun e => by cases e), fun h => by omega⟩
  · obtain ⟨b', off', e1, hb, hcell⟩ := h.cell e
    injection e1 with e1
    injection e1 with e2 e3
    subst e2 e3
    refine Byt.mk (by rw [List.length_take]; omega) (by omega) hm hb (fun j hj => ?_)
    rw [hcell j (by omega)]
    simp [List.getD_eq_getElem?_getD, List.getElem?_take, hj]
theorem Byt.drop {w : World} {b off n c k : Nat} {z : Pg} (h : Byt w (some ⟨b, off, none⟩) n c z) (hk : k ≤ n) : Byt w (some ⟨b, off + k, none⟩) (n - k) (c - k) (z.drop k) := by
  have hl := h.len
  have hc := h.2.1
  have hm := h.2.2.1
  rcases Nat.lt_or_ge k n with e | e
  · obtain ⟨b', off', e1, hb, hcell⟩ := h.cell (by omega)
    injection e1 with e1
    injection e1 with e2 e3
    subst e2 e3
    refine Byt.mk (by rw [List.length_drop, hl]) (by omega) (by omega) hb (fun j hj => ?_)
    rw [Nat.add_assoc, hcell (k + j) (by omega)]
    simp [List.getD_eq_getElem?_getD, List.getElem?_drop]
  · obtain rfl : k = n := by omega
    exact ⟨by rw [List.drop_of_length_le (by omega)]; simp, by omega, by omega, (fun e => by cases e), fun h => by omega⟩
theorem byt_zero {w : World} {A : Option Addr} {c : Nat} (hA : A = none → c = 0) (hc : c ≤ maxLen) : Byt w A 0 c [] := ⟨by simp, by omega, hc, hA, fun h => by omega⟩
theorem torn_take {b was : Pg} {k : Nat} (hb : b.length = 256) (hk : k ≤ 256) : (torn b was k).take k = b.take k := by
  unfold torn; rw [List.take_append, List.length_take, hb, Nat.min_eq_left hk, Nat.sub_self, List.take_zero, List.append_nil, List.take_take, Nat.min_self]
theorem torn_drop {b was : Pg} {k : Nat} (hb : b.length = 256) (hk : k ≤ 256) : (torn b was k).drop k = was.drop k := by
  unfold torn; rw [List.drop_append, List.length_take, hb, Nat.min_eq_left hk, Nat.sub_self, List.drop_zero, List.drop_of_length_le (by rw [List.length_take]; omega), List.nil_append]
theorem one_plain {ps : List Pg} {z : Pg} {a : Nat} (R : Rt ps []) (hz : z.length = 256) (ha : a < ps.length) (cut : Int) :
    readE ps [] (a : Int) = 0 ∧ readB ps [] (a : Int) = ps.getD a [] ∧ writeE ps [] (a : Int) z = 0 ∧ writeP ps [] (a : Int) z = ps.set a z ∧ writeW ps [] (a : Int) z = [((a : Int), ps.getD a [])] ∧
    crashP (ps.set a z) [((a : Int), ps.getD a [])] [cut] = ps.set a (torn z (ps.getD a []) (cutAt [cut] 0)) ∧ crashW (ps.set a z) [((a : Int), ps.getD a [])] = [] ∧
    readE (ps.set a (torn z (ps.getD a []) (cutAt [cut] 0))) [] (a : Int) = 0 ∧ readB (ps.set a (torn z (ps.getD a []) (cutAt [cut] 0))) [] (a : Int) = torn z (ps.getD a []) (cutAt [cut] 0) := by
  have e1 : readE ps [] (a : Int) = 0 := readE_zero.2 ⟨R, by omega, by omega⟩
  have e2 : writeE ps [] (a : Int) z = 0 := writeE_zero.2 ⟨R, hz, by omega, by omega⟩
  have R1 : Rt (ps.set a z) [((a : Int), ps.getD a [])] := by have := write_right R hz ha; simpa using this
  have r1 := (right_iff _ _).2 R1
  have hs : synced (ps.set a z) [((a : Int), ps.getD a [])] = ps := by have := synced_write ps [] a z; simpa [synced_nil] using this
  have hw : wrote (ps.set a z) [((a : Int), ps.getD a [])] 0 = z := by
    unfold wrote
    show wroteAt (ps.set a z) [] (a : Int) = z
    unfold wroteAt
    rw [Int.toNat_natCast, getD_set_same ha]
  have hc : crashP (ps.set a z) [((a : Int), ps.getD a [])] [cut] = ps.set a (torn z (ps.getD a []) (cutAt [cut] 0)) := by
    unfold crashP
    rw [r1]
    show (synced (ps.set a z) [((a : Int), ps.getD a [])]).set (Int.toNat (a : Int)) (torn (wrote (ps.set a z) [((a : Int), ps.getD a [])] 0) ((synced (ps.set a z) [((a : Int), ps.getD a [])]).getD (Int.toNat (a : Int)) []) (cutAt [cut] 0)) = _
    rw [hs, hw, Int.toNat_natCast]
  have hpl := R.page a ha
  have R2 : Rt (ps.set a (torn z (ps.getD a []) (cutAt [cut] 0))) [] := by
    refine ⟨by rw [List.length_set]; exact R.lo, by rw [List.length_set]; exact R.hi, fun j hj => ?_, fun j hj => by simp at hj⟩
    rw [List.length_set] at hj
    rw [getD_set]
    split
    · exact torn_len hz hpl (cutAt_le _ _)
    · exact R.page j hj
  have e3 : readE (ps.set a (torn z (ps.getD a []) (cutAt [cut] 0))) [] (a : Int) = 0 := readE_zero.2 ⟨R2, by omega, by rw [List.length_set]; omega⟩
  refine ⟨e1, by unfold readB; rw [if_pos e1, Int.toNat_natCast], e2, by unfold writeP; rw [if_pos e2, Int.toNat_natCast], by unfold writeW; rw [if_pos e2, Int.toNat_natCast]; rfl, hc, by unfold crashW; rw [r1]; rfl, e3, ?_⟩
  unfold readB
  rw [if_pos e3, Int.toNat_natCast, getD_set_same ha]
theorem nts_lit1 (w : World) (x : Int) : Nts (w.alloc (.cells #[.int .i64 x] 3)) (some ⟨w.heap.size, 0, none⟩) 1 1 [x] := row_lit1 w _ 3
set_option maxRecDepth 10000 in
set_option maxHeartbeats 16000000 in
theorem one_walk {A B C : Option Addr} {n c m d l e : Nat} {ps : List Pg} {ws : List Od} {z : Pg} {w : World} (P : Pags w A n c ps) (L : Olds w B m d ws) (U : Byt w C l e z) (x cut : Int) (hcut : -9223372036854775808 ≤ cut ∧ cut ≤ 9223372036854775807) :
    Calls Try.prog 8 #[.agg #[.slice A n c, .slice B m d], .int .i64 x, .slice C l e, .int .i64 cut] w fun e w' => e = .returned (.bool true) ∧ Below w.heap.size w w' := by
  have hl := U.max
  have hpl := hide P.1
  have hwl := hide L.1
  cases hfew : fewB ps ws with
  | false =>
    replace hfew := hide hfew
    have g0 : Below w.heap.size w (w.alloc (.cells #[.slice A n c, .slice B m d] 25)) := by go_grown
    have V0 := Var.new w A B n c m d
    obtain ⟨b0, hb0⟩ : ∃ b, b = w.heap.size := ⟨_, rfl⟩
    rw [← hb0] at V0
    replace P := hide (P.below g0)
    replace L := hide (L.below g0)
    replace U := hide (U.below g0)
    replace V0 := hide V0
    have BW := hide g0
    go_enter Try.func8, Try.ntmps8
    go_wp2_with fail
    rw [← hb0]
    generalize w.alloc (.cells #[.slice A n c, .slice B m d] 25) = wa at *
    clear g0 hb0
    have x0 := V0.out.c0
    have y0 := V0.out.c1
    have l0 := V0.out.lt
    go_wp2_with fail
    with_reducible refine (few_any P.out L.out false hfew.out).mono ?_
    rintro e u1 ⟨rfl, hb⟩
    replace BW := hide (st BW.out hb (Below.refl _ _))
    replace V0 := hide (V0.out.below hb)
    replace P := hide (P.out.below hb)
    replace L := hide (L.out.below hb)
    replace U := hide (U.out.below hb)
    clear hb
    clear x0 y0 l0
    have x0 := V0.out.c0
    have y0 := V0.out.c1
    have l0 := V0.out.lt
    go_wp2_with fail
    with_reducible refine (alive_any _).mono ?_
    rintro e u2 ⟨rfl, hb⟩
    replace BW := hide (st BW.out hb (Below.refl _ _))
    replace V0 := hide (V0.out.below hb)
    replace P := hide (P.out.below hb)
    replace L := hide (L.out.below hb)
    replace U := hide (U.out.below hb)
    clear hb
    clear x0 y0 l0
    have x0 := V0.out.c0
    have y0 := V0.out.c1
    have l0 := V0.out.lt
    go_wp2_with fail
    go_ret
    exact ⟨rfl, BW.out⟩
  | true =>
    have hn : n < 50 := by have := (few_small hfew).1; rw [hpl.out] at this; exact this
    have hm : m < 50 := by have := (few_small hfew).2; rw [hwl.out] at this; exact this
    replace hfew := hide hfew
    cases hrt : rightB ps ws with
    | false =>
      replace hrt := hide hrt
      have g0 : Below w.heap.size w (w.alloc (.cells #[.slice A n c, .slice B m d] 25)) := by go_grown
      have V0 := Var.new w A B n c m d
      obtain ⟨b0, hb0⟩ : ∃ b, b = w.heap.size := ⟨_, rfl⟩
      rw [← hb0] at V0
      replace P := hide (P.below g0)
      replace L := hide (L.below g0)
      replace U := hide (U.below g0)
      replace V0 := hide V0
      have BW := hide g0
      go_enter Try.func8, Try.ntmps8
      go_wp2_with fail
      rw [← hb0]
      generalize w.alloc (.cells #[.slice A n c, .slice B m d] 25) = wa at *
      clear g0 hb0
      have x0 := V0.out.c0
      have y0 := V0.out.c1
      have l0 := V0.out.lt
      go_wp2_with fail
      with_reducible refine (few_any P.out L.out true hfew.out).mono ?_
      rintro e u1 ⟨rfl, hb⟩
      replace BW := hide (st BW.out hb (Below.refl _ _))
      replace V0 := hide (V0.out.below hb)
      replace P := hide (P.out.below hb)
      replace L := hide (L.out.below hb)
      replace U := hide (U.out.below hb)
      clear hb
      clear x0 y0 l0
      have x0 := V0.out.c0
      have y0 := V0.out.c1
      have l0 := V0.out.lt
      go_wp2_with fail
      with_reducible refine (right_any P.out L.out false hrt.out).mono ?_
      rintro e u2 ⟨rfl, hb⟩
      replace BW := hide (st BW.out hb (Below.refl _ _))
      replace V0 := hide (V0.out.below hb)
      replace P := hide (P.out.below hb)
      replace L := hide (L.out.below hb)
      replace U := hide (U.out.below hb)
      clear hb
      clear x0 y0 l0
      have x0 := V0.out.c0
      have y0 := V0.out.c1
      have l0 := V0.out.lt
      go_wp2_with fail
      with_reducible refine (alive_any _).mono ?_
      rintro e u3 ⟨rfl, hb⟩
      replace BW := hide (st BW.out hb (Below.refl _ _))
      replace V0 := hide (V0.out.below hb)
      replace P := hide (P.out.below hb)
      replace L := hide (L.out.below hb)
      replace U := hide (U.out.below hb)
      clear hb
      clear x0 y0 l0
      have x0 := V0.out.c0
      have y0 := V0.out.c1
      have l0 := V0.out.lt
      go_wp2_with fail
      go_ret
      exact ⟨rfl, BW.out⟩
    | true =>
      have R := (right_iff ps ws).1 hrt
      have R0 : Rt ps [] := R.sub (fun o ho => by cases ho)
      replace hrt := hide hrt
      by_cases hl1 : 600 < l
      · have hlI : (600 : Int) < (l : Int) := by omega
        have g0 : Below w.heap.size w (w.alloc (.cells #[.slice A n c, .slice B m d] 25)) := by go_grown
        have V0 := Var.new w A B n c m d
        obtain ⟨b0, hb0⟩ : ∃ b, b = w.heap.size := ⟨_, rfl⟩
        rw [← hb0] at V0
        replace P := hide (P.below g0)
        replace L := hide (L.below g0)
        replace U := hide (U.below g0)
        replace V0 := hide V0
        have BW := hide g0
        go_enter Try.func8, Try.ntmps8
        go_wp2_with fail
        rw [← hb0]
        generalize w.alloc (.cells #[.slice A n c, .slice B m d] 25) = wa at *
        clear g0 hb0
        have x0 := V0.out.c0
        have y0 := V0.out.c1
        have l0 := V0.out.lt
        go_wp2_with fail
        with_reducible refine (few_any P.out L.out true hfew.out).mono ?_
        rintro e u1 ⟨rfl, hb⟩
        replace BW := hide (st BW.out hb (Below.refl _ _))
        replace V0 := hide (V0.out.below hb)
        replace P := hide (P.out.below hb)
        replace L := hide (L.out.below hb)
        replace U := hide (U.out.below hb)
        clear hb
        clear x0 y0 l0
        have x0 := V0.out.c0
        have y0 := V0.out.c1
        have l0 := V0.out.lt
        go_wp2_with fail
        with_reducible refine (right_any P.out L.out true hrt.out).mono ?_
        rintro e u2 ⟨rfl, hb⟩
        replace BW := hide (st BW.out hb (Below.refl _ _))
        replace V0 := hide (V0.out.below hb)
        replace P := hide (P.out.below hb)
        replace L := hide (L.out.below hb)
        replace U := hide (U.out.below hb)
        clear hb
        clear x0 y0 l0
        have x0 := V0.out.c0
        have y0 := V0.out.c1
        have l0 := V0.out.lt
        go_wp2_with fail
        with_reducible refine (alive_any _).mono ?_
        rintro e u3 ⟨rfl, hb⟩
        replace BW := hide (st BW.out hb (Below.refl _ _))
        replace V0 := hide (V0.out.below hb)
        replace P := hide (P.out.below hb)
        replace L := hide (L.out.below hb)
        replace U := hide (U.out.below hb)
        clear hb
        clear x0 y0 l0
        have x0 := V0.out.c0
        have y0 := V0.out.c1
        have l0 := V0.out.lt
        go_wp2_with fail
        go_ret
        exact ⟨rfl, BW.out⟩
      · have hlI : ¬ (600 : Int) < (l : Int) := by omega
        by_cases hE0 : writeE ps [] x z = 0
        · obtain ⟨_, hz, q0, q1⟩ := writeE_zero.1 hE0
          obtain ⟨a, rfl⟩ : ∃ a : Nat, x = (a : Int) := ⟨x.toNat, by omega⟩
          have ha : a < ps.length := by omega
          obtain ⟨h1, h2, h3, h4, h5, h6, h7, h8, h9⟩ := one_plain R0 hz ha cut
          have hll : l = 256 := by rw [← U.len]; exact hz
          have hZl := hide (R0.page a ha)
          have htk := torn_take (was := ps.getD a []) hz (cutAt_le [cut] 0)
          have hdr := torn_drop (was := ps.getD a []) hz (cutAt_le [cut] 0)
          have hTl := hide (torn_len hz hZl.out (cutAt_le [cut] 0))
          obtain ⟨PC, hPC⟩ : ∃ Z, ps.set a (torn z (ps.getD a []) (cutAt [cut] 0)) = Z := ⟨_, rfl⟩
          obtain ⟨T, hT⟩ : ∃ Z, torn z (ps.getD a []) (cutAt [cut] 0) = Z := ⟨_, rfl⟩
          obtain ⟨P1, hP1⟩ : ∃ Z, ps.set a z = Z := ⟨_, rfl⟩
          obtain ⟨W1, hW1⟩ : ∃ Z, [((a : Int), ps.getD a [])] = Z := ⟨_, rfl⟩
          obtain ⟨Z, hZ⟩ : ∃ Z, ps.getD a [] = Z := ⟨_, rfl⟩
          have hWl : W1.length = 1 := by rw [← hW1]; rfl
          rw [hPC] at h6 h8 h9
          rw [hT] at h9 htk hdr hTl
          rw [hP1] at h4 h6 h7
          rw [hW1] at h5 h6 h7
          rw [hZ] at h2 hdr hZl
          have hkv : cutAt [cut] 0 = if 0 ≤ cut ∧ cut < 256 then cut.toNat else 256 := by unfold cutAt; simp
          replace hWl := hide hWl
          replace h1 := hide h1
          have hZ' := hide h2
          replace h3 := hide h3
          replace h4 := hide h4
          replace h5 := hide h5
          replace h6 := hide h6
          replace h7 := hide h7
          replace h8 := hide h8
          replace h9 := hide h9
          clear hPC hT hP1 hW1 hZ hE0 h2 R R0 hz
          have hZ := hZ'
          clear hZ'
          have han : a < n := by rw [← hpl.out]; exact ha
          clear ha
          subst hll
          by_cases c1 : cut < 0
          · rw [hkv, if_neg (by omega)] at htk hdr
            replace htk := hide (decide_eq_true htk)
            replace hdr := hide (decide_eq_true hdr)
            clear hkv
            have g0 : Below w.heap.size w (w.alloc (.cells #[.slice A n c, .slice B m d] 25)) := by go_grown
            have V0 := Var.new w A B n c m d
            obtain ⟨b0, hb0⟩ : ∃ b, b = w.heap.size := ⟨_, rfl⟩
            rw [← hb0] at V0
            replace P := hide (P.below g0)
            replace L := hide (L.below g0)
            replace U := hide (U.below g0)
            replace V0 := hide V0
            have BW := hide g0
            go_enter Try.func8, Try.ntmps8
            go_wp2_with fail
            rw [← hb0]
            generalize w.alloc (.cells #[.slice A n c, .slice B m d] 25) = wa at *
            clear g0 hb0
            have x0 := V0.out.c0
            have y0 := V0.out.c1
            have l0 := V0.out.lt
            go_wp2_with fail
            with_reducible refine (few_any P.out L.out true hfew.out).mono ?_
            rintro e u1 ⟨rfl, hb⟩
            replace BW := hide (st BW.out hb (Below.refl _ _))
            replace V0 := hide (V0.out.below hb)
            replace P := hide (P.out.below hb)
            replace L := hide (L.out.below hb)
            replace U := hide (U.out.below hb)
            clear hb
            clear x0 y0 l0
            have x0 := V0.out.c0
            have y0 := V0.out.c1
            have l0 := V0.out.lt
            go_wp2_with fail
            with_reducible refine (right_any P.out L.out true hrt.out).mono ?_
            rintro e u2 ⟨rfl, hb⟩
            replace BW := hide (st BW.out hb (Below.refl _ _))
            replace V0 := hide (V0.out.below hb)
            replace P := hide (P.out.below hb)
            replace L := hide (L.out.below hb)
            replace U := hide (U.out.below hb)
            clear hb
            clear x0 y0 l0
            have x0 := V0.out.c0
            have y0 := V0.out.c1
            have l0 := V0.out.lt
            go_wp2_with fail
            with_reducible refine (sync_any (ws := []) P.out (by omega)).mono ?_
            rintro e u3 ⟨A3, n3, c3, B3, m3, d3, rfl, P3, L3, hb⟩
            obtain rfl : n = n3 := by have := P3.1; rw [hpl.out] at this; exact this
            obtain rfl : 0 = m3 := L3.1
            have DD : Below u2.heap.size u2 (u3.alloc (.cells #[.slice A3 n c3, .slice B3 0 d3] 25)) := hb.alloc hb.size _
            have gg : Below u3.heap.size u3 (u3.alloc (.cells #[.slice A3 n c3, .slice B3 0 d3] 25)) := by go_grown
            have V3 := hide (Var.new u3 A3 B3 n c3 0 d3)
            replace P3 := hide (P3.below gg)
            replace L3 := hide (L3.below gg)
            replace BW := hide (st BW.out DD (Below.refl _ _))
            replace V0 := hide (V0.out.below DD)
            replace P := hide (P.out.below DD)
            replace L := hide (L.out.below DD)
            replace U := hide (U.out.below DD)
            clear x0 y0 l0
            clear hb DD gg
            have x0 := V0.out.c0
            have y0 := V0.out.c1
            have l0 := V0.out.lt
            have x1 := V3.out.c0
            have y1 := V3.out.c1
            have l1 := V3.out.lt
            go_wp2_with fail
            obtain ⟨b3, hbk⟩ : ∃ b, b = u3.heap.size := ⟨_, rfl⟩
            rw [← hbk] at V3 x1 y1 l1 ⊢
            clear hbk
            generalize u3.alloc (.cells #[.slice A3 n c3, .slice B3 0 d3] 25) = U3 at *
            go_wp2_with fail
            with_reducible refine (read_any P3.out L3.out (a : Int) Z 0 hZ.out h1.out).mono ?_
            rintro e u4 ⟨A7, n7, c7, rfl, R1, hb⟩
            replace BW := hide (st BW.out hb (Below.refl _ _))
            replace V0 := hide (V0.out.below hb)
            replace P := hide (P.out.below hb)
            replace L := hide (L.out.below hb)
            replace U := hide (U.out.below hb)
            replace V3 := hide (V3.out.below hb)
            replace P3 := hide (P3.out.below hb)
            replace L3 := hide (L3.out.below hb)
            obtain rfl : 256 = n7 := by have := R1.len; rw [hZl.out] at this; exact this
            replace R1 := hide R1
            clear hb
            clear x0 y0 l0 x1 y1 l1
            have x0 := V0.out.c0
            have y0 := V0.out.c1
            have l0 := V0.out.lt
            have x1 := V3.out.c0
            have y1 := V3.out.c1
            have l1 := V3.out.lt
            go_wp2_with fail
            with_reducible refine (write_any P3.out L3.out U.out (by omega) (a : Int) P1 W1 0 h4.out h5.out h3.out).mono ?_
            rintro e u5 ⟨A5, n5, c5, B5, m5, d5, rfl, P5, L5, hb⟩
            have DD : Below u4.heap.size u4 (u5.alloc (.cells #[.slice A5 n5 c5, .slice B5 m5 d5] 25)) := hb.alloc hb.size _
            have gg : Below u5.heap.size u5 (u5.alloc (.cells #[.slice A5 n5 c5, .slice B5 m5 d5] 25)) := by go_grown
            have V5 := hide (Var.new u5 A5 B5 n5 c5 m5 d5)
            replace P5 := hide (P5.below gg)
            replace L5 := hide (L5.below gg)
            replace BW := hide (st BW.out DD (Below.refl _ _))
            replace V0 := hide (V0.out.below DD)
            replace P := hide (P.out.below DD)
            replace L := hide (L.out.below DD)
            replace U := hide (U.out.below DD)
            replace V3 := hide (V3.out.below DD)
            replace P3 := hide (P3.out.below DD)
            replace L3 := hide (L3.out.below DD)
            replace R1 := hide (R1.out.below DD)
            clear x0 y0 l0 x1 y1 l1
            clear hb DD gg
            have x0 := V0.out.c0
            have y0 := V0.out.c1
            have l0 := V0.out.lt
            have x1 := V3.out.c0
            have y1 := V3.out.c1
            have l1 := V3.out.lt
            have x2 := V5.out.c0
            have y2 := V5.out.c1
            have l2 := V5.out.lt
            go_wp2_with fail
            obtain ⟨b5, hbk⟩ : ∃ b, b = u5.heap.size := ⟨_, rfl⟩
            rw [← hbk] at V5 x2 y2 l2 ⊢
            have hs5 : Hid ((u5.alloc (.cells #[.slice A5 n5 c5, .slice B5 m5 d5] 25)).heap.size = b5 + 1) := hide (by rw [hbk]; simp)
            clear hbk
            generalize u5.alloc (.cells #[.slice A5 n5 c5, .slice B5 m5 d5] 25) = U5 at *
            go_wp2_with fail
            have g5 : Below U5.heap.size U5 (U5.alloc (.cells #[.int .i64 cut] 3)) := by go_grown
            have hmj : m5 ≤ 100000 := by obtain ⟨this, _⟩ := L5.out; rw [hWl.out] at this; omega
            have nl := nts_lit1 U5 cut
            rw [hs5.out] at nl
            replace nl := hide nl
            with_reducible refine (crash_any (P5.out.below g5) (L5.out.below g5) nl.out hmj PC [] h6.out h7.out).mono ?_
            rintro e v1 ⟨A9, n9, c9, B9, m9, d9, rfl, PQ, LQ, hb⟩
            have DD := g5.trans (hb.mono g5.size)
            replace BW := hide (st BW.out DD (Below.refl _ _))
            replace V0 := hide (V0.out.below DD)
            replace P := hide (P.out.below DD)
            replace L := hide (L.out.below DD)
            replace U := hide (U.out.below DD)
            replace V3 := hide (V3.out.below DD)
            replace P3 := hide (P3.out.below DD)
            replace L3 := hide (L3.out.below DD)
            replace R1 := hide (R1.out.below DD)
            replace V5 := hide (V5.out.below DD)
            replace P5 := hide (P5.out.below DD)
            replace L5 := hide (L5.out.below DD)
            clear hb DD g5
            replace PQ := hide PQ
            replace LQ := hide LQ
            clear x0 y0 l0 x1 y1 l1 x2 y2 l2
            have x0 := V0.out.c0
            have y0 := V0.out.c1
            have l0 := V0.out.lt
            have x1 := V3.out.c0
            have y1 := V3.out.c1
            have l1 := V3.out.lt
            have x2 := V5.out.c0
            have y2 := V5.out.c1
            have l2 := V5.out.lt
            go_wp2_with fail
            with_reducible refine (read_any PQ.out LQ.out (a : Int) T 0 h9.out h8.out).mono ?_
            rintro e u6 ⟨A10, n10, c10, rfl, R2, hb⟩
            replace BW := hide (st BW.out hb (Below.refl _ _))
            replace V0 := hide (V0.out.below hb)
            replace P := hide (P.out.below hb)
            replace L := hide (L.out.below hb)
            replace U := hide (U.out.below hb)
            replace V3 := hide (V3.out.below hb)
            replace P3 := hide (P3.out.below hb)
            replace L3 := hide (L3.out.below hb)
            replace R1 := hide (R1.out.below hb)
            replace V5 := hide (V5.out.below hb)
            replace P5 := hide (P5.out.below hb)
            replace L5 := hide (L5.out.below hb)
            replace PQ := hide (PQ.out.below hb)
            replace LQ := hide (LQ.out.below hb)
            obtain rfl : 256 = n10 := by have := R2.len; rw [hTl.out] at this; exact this
            replace R2 := hide R2
            clear hb
            clear x0 y0 l0 x1 y1 l1 x2 y2 l2
            have x0 := V0.out.c0
            have y0 := V0.out.c1
            have l0 := V0.out.lt
            have x1 := V3.out.c0
            have y1 := V3.out.c1
            have l1 := V3.out.lt
            have x2 := V5.out.c0
            have y2 := V5.out.c1
            have l2 := V5.out.lt
            obtain ⟨t1, o1, hA7, lb1, _⟩ := R1.out.at_ (Below.refl _ _) (k := 0) (by omega)
            obtain ⟨t2, o2, hA10, lb2, _⟩ := R2.out.at_ (Below.refl _ _) (k := 0) (by omega)
            obtain ⟨t3, o3, hC, lb3, _⟩ := U.out.at_ (Below.refl _ _) (k := 0) (by omega)
            subst hA7 hA10 hC
            have q7 : 256 ≤ c7 := R1.out.2.1
            have q10 : 256 ≤ c10 := R2.out.2.1
            have qe : 256 ≤ e := U.out.2.1
            have m7 := R1.out.2.2.1
            have qeI : (256 : Int) ≤ (e : Int) := by omega
            have q7I : (256 : Int) ≤ (c7 : Int) := by omega
            have q10I : (256 : Int) ≤ (c10 : Int) := by omega
            have kI : (256 : Int) ≤ 256 := by omega
            have kI0 : (0 : Int) ≤ (256 : Int) := by omega
            have m10 := R2.out.2.2.1
            by_cases e7 : c7 = 256
            · subst e7
              by_cases e10 : c10 = 256
              · subst e10
                go_wp2_with fail
                refine wp_region_calm (fun w' => Below u6.heap.size u6 w') (by kernel_rfl) (by kernel_rfl) (below_drewN (Below.refl _ _) 1) ?_
                repeat (first
                  | go_big_quiet_skip
                  | (go_big_quiet_want
                     first
                       | (go_big_quiet_op; go_big_quiet_on)
                       | (apply Exists.intro
                          refine ⟨fun w' hw' => ?_, ?_⟩
                          focus
                            obtain ⟨hc', hf'⟩ := bcell hw'
                            go_simp
                            try first
                              | rfl
                              | (with_reducible rfl)
                              | (with_reducible refine (alive_any _).mono ?_; exact fun _ _ h => ⟨h.1, st hw' h.2 (Below.refl _ _)⟩)
                              | (with_reducible refine (bytes_to ((R2.out.below hw').take (k := 256) (by omega)) ((U.out.below hw').take (k := 256) (by omega)) true htk.out).mono ?_; exact fun _ _ h => ⟨h.1, st hw' h.2 (Below.refl _ _)⟩)
                              | (with_reducible refine (bytes_to ((byt_zero (fun e => by cases e) (by unfold maxLen at *; omega))) ((byt_zero (fun e => by cases e) (by unfold maxLen at *; omega))) true (by simp)).mono ?_; exact fun _ _ h => ⟨h.1, st hw' h.2 (Below.refl _ _)⟩)
                          go_big_quiet_on)
                     try simp only [Act.put, List.setIfInBounds_toArray, List.set_cons_zero, List.set_cons_succ]))
                refine wpQuiet_nil ?_
                intro V HV
                have BV := hide (st BW.out HV (Below.refl _ _))
                clear HV
                go_wp2_with fail
                go_ret
                exact ⟨rfl, BV.out⟩
              · have s10 : ¬ (c10 : Int) = 256 := by omega
                have r10 : 256 < c10 := by omega
                go_wp2_with fail
                refine wp_region_calm (fun w' => Below u6.heap.size u6 w') (by kernel_rfl) (by kernel_rfl) (below_drewN (Below.refl _ _) 1) ?_
                repeat (first
                  | go_big_quiet_skip
                  | (go_big_quiet_want
                     first
                       | (go_big_quiet_op; go_big_quiet_on)
                       | (apply Exists.intro
                          refine ⟨fun w' hw' => ?_, ?_⟩
                          focus
                            obtain ⟨hc', hf'⟩ := bcell hw'
                            go_simp
                            try first
                              | rfl
                              | (with_reducible rfl)
                              | (with_reducible refine (alive_any _).mono ?_; exact fun _ _ h => ⟨h.1, st hw' h.2 (Below.refl _ _)⟩)
                              | (with_reducible refine (bytes_to ((R2.out.below hw').take (k := 256) (by omega)) ((U.out.below hw').take (k := 256) (by omega)) true htk.out).mono ?_; exact fun _ _ h => ⟨h.1, st hw' h.2 (Below.refl _ _)⟩)
                              | (with_reducible refine (bytes_to ((byt_zero (fun e => by cases e) (by unfold maxLen at *; omega))) ((byt_zero (fun e => by cases e) (by unfold maxLen at *; omega))) true (by simp)).mono ?_; exact fun _ _ h => ⟨h.1, st hw' h.2 (Below.refl _ _)⟩)
                          go_big_quiet_on)
                     try simp only [Act.put, List.setIfInBounds_toArray, List.set_cons_zero, List.set_cons_succ]))
                refine wpQuiet_nil ?_
                intro V HV
                have BV := hide (st BW.out HV (Below.refl _ _))
                clear HV
                go_wp2_with fail
                go_ret
                exact ⟨rfl, BV.out⟩
            · have s7 : ¬ (c7 : Int) = 256 := by omega
              have r7 : 256 < c7 := by omega
              by_cases e10 : c10 = 256
              · subst e10
                go_wp2_with fail
                refine wp_region_calm (fun w' => Below u6.heap.size u6 w') (by kernel_rfl) (by kernel_rfl) (below_drewN (Below.refl _ _) 1) ?_
                repeat (first
                  | go_big_quiet_skip
                  | (go_big_quiet_want
                     first
                       | (go_big_quiet_op; go_big_quiet_on)
                       | (apply Exists.intro
                          refine ⟨fun w' hw' => ?_, ?_⟩
                          focus
                            obtain ⟨hc', hf'⟩ := bcell hw'
                            go_simp
                            try first
                              | rfl
                              | (with_reducible rfl)
                              | (with_reducible refine (alive_any _).mono ?_; exact fun _ _ h => ⟨h.1, st hw' h.2 (Below.refl _ _)⟩)
                              | (with_reducible refine (bytes_to ((R2.out.below hw').take (k := 256) (by omega)) ((U.out.below hw').take (k := 256) (by omega)) true htk.out).mono ?_; exact fun _ _ h => ⟨h.1, st hw' h.2 (Below.refl _ _)⟩)
                              | (with_reducible refine (bytes_to ((byt_zero (fun e => by cases e) (by unfold maxLen at *; omega))) ((byt_zero (fun e => by cases e) (by unfold maxLen at *; omega))) true (by simp)).mono ?_; exact fun _ _ h => ⟨h.1, st hw' h.2 (Below.refl _ _)⟩)
                          go_big_quiet_on)
                     try simp only [Act.put, List.setIfInBounds_toArray, List.set_cons_zero, List.set_cons_succ]))
                refine wpQuiet_nil ?_
                intro V HV
                have BV := hide (st BW.out HV (Below.refl _ _))
                clear HV
                go_wp2_with fail
                go_ret
                exact ⟨rfl, BV.out⟩
              · have s10 : ¬ (c10 : Int) = 256 := by omega
                have r10 : 256 < c10 := by omega
                go_wp2_with fail
                refine wp_region_calm (fun w' => Below u6.heap.size u6 w') (by kernel_rfl) (by kernel_rfl) (below_drewN (Below.refl _ _) 1) ?_
                repeat (first
                  | go_big_quiet_skip
                  | (go_big_quiet_want
                     first
                       | (go_big_quiet_op; go_big_quiet_on)
                       | (apply Exists.intro
                          refine ⟨fun w' hw' => ?_, ?_⟩
                          focus
                            obtain ⟨hc', hf'⟩ := bcell hw'
                            go_simp
                            try first
                              | rfl
                              | (with_reducible rfl)
                              | (with_reducible refine (alive_any _).mono ?_; exact fun _ _ h => ⟨h.1, st hw' h.2 (Below.refl _ _)⟩)
                              | (with_reducible refine (bytes_to ((R2.out.below hw').take (k := 256) (by omega)) ((U.out.below hw').take (k := 256) (by omega)) true htk.out).mono ?_; exact fun _ _ h => ⟨h.1, st hw' h.2 (Below.refl _ _)⟩)
                              | (with_reducible refine (bytes_to ((byt_zero (fun e => by cases e) (by unfold maxLen at *; omega))) ((byt_zero (fun e => by cases e) (by unfold maxLen at *; omega))) true (by simp)).mono ?_; exact fun _ _ h => ⟨h.1, st hw' h.2 (Below.refl _ _)⟩)
                          go_big_quiet_on)
                     try simp only [Act.put, List.setIfInBounds_toArray, List.set_cons_zero, List.set_cons_succ]))
                refine wpQuiet_nil ?_
                intro V HV
                have BV := hide (st BW.out HV (Below.refl _ _))
                clear HV
                go_wp2_with fail
                go_ret
                exact ⟨rfl, BV.out⟩
          · by_cases c2 : 256 < cut
            · rw [hkv, if_neg (by omega)] at htk hdr
              replace htk := hide (decide_eq_true htk)
              replace hdr := hide (decide_eq_true hdr)
              clear hkv
              have g0 : Below w.heap.size w (w.alloc (.cells #[.slice A n c, .slice B m d] 25)) := by go_grown
              have V0 := Var.new w A B n c m d
              obtain ⟨b0, hb0⟩ : ∃ b, b = w.heap.size := ⟨_, rfl⟩
              rw [← hb0] at V0
              replace P := hide (P.below g0)
              replace L := hide (L.below g0)
              replace U := hide (U.below g0)
              replace V0 := hide V0
              have BW := hide g0
              go_enter Try.func8, Try.ntmps8
              go_wp2_with fail
              rw [← hb0]
              generalize w.alloc (.cells #[.slice A n c, .slice B m d] 25) = wa at *
              clear g0 hb0
              have x0 := V0.out.c0
              have y0 := V0.out.c1
              have l0 := V0.out.lt
              go_wp2_with fail
              with_reducible refine (few_any P.out L.out true hfew.out).mono ?_
              rintro e u1 ⟨rfl, hb⟩
              replace BW := hide (st BW.out hb (Below.refl _ _))
              replace V0 := hide (V0.out.below hb)
              replace P := hide (P.out.below hb)
              replace L := hide (L.out.below hb)
              replace U := hide (U.out.below hb)
              clear hb
              clear x0 y0 l0
              have x0 := V0.out.c0
              have y0 := V0.out.c1
              have l0 := V0.out.lt
              go_wp2_with fail
              with_reducible refine (right_any P.out L.out true hrt.out).mono ?_
              rintro e u2 ⟨rfl, hb⟩
              replace BW := hide (st BW.out hb (Below.refl _ _))
              replace V0 := hide (V0.out.below hb)
              replace P := hide (P.out.below hb)
              replace L := hide (L.out.below hb)
              replace U := hide (U.out.below hb)
              clear hb
              clear x0 y0 l0
              have x0 := V0.out.c0
              have y0 := V0.out.c1
              have l0 := V0.out.lt
              go_wp2_with fail
              with_reducible refine (sync_any (ws := []) P.out (by omega)).mono ?_
              rintro e u3 ⟨A3, n3, c3, B3, m3, d3, rfl, P3, L3, hb⟩
              obtain rfl : n = n3 := by have := P3.1; rw [hpl.out] at this; exact this
              obtain rfl : 0 = m3 := L3.1
              have DD : Below u2.heap.size u2 (u3.alloc (.cells #[.slice A3 n c3, .slice B3 0 d3] 25)) := hb.alloc hb.size _
              have gg : Below u3.heap.size u3 (u3.alloc (.cells #[.slice A3 n c3, .slice B3 0 d3] 25)) := by go_grown
              have V3 := hide (Var.new u3 A3 B3 n c3 0 d3)
              replace P3 := hide (P3.below gg)
              replace L3 := hide (L3.below gg)
              replace BW := hide (st BW.out DD (Below.refl _ _))
              replace V0 := hide (V0.out.below DD)
              replace P := hide (P.out.below DD)
              replace L := hide (L.out.below DD)
              replace U := hide (U.out.below DD)
              clear x0 y0 l0
              clear hb DD gg
              have x0 := V0.out.c0
              have y0 := V0.out.c1
              have l0 := V0.out.lt
              have x1 := V3.out.c0
              have y1 := V3.out.c1
              have l1 := V3.out.lt
              go_wp2_with fail
              obtain ⟨b3, hbk⟩ : ∃ b, b = u3.heap.size := ⟨_, rfl⟩
              rw [← hbk] at V3 x1 y1 l1 ⊢
              clear hbk
              generalize u3.alloc (.cells #[.slice A3 n c3, .slice B3 0 d3] 25) = U3 at *
              go_wp2_with fail
              with_reducible refine (read_any P3.out L3.out (a : Int) Z 0 hZ.out h1.out).mono ?_
              rintro e u4 ⟨A7, n7, c7, rfl, R1, hb⟩
              replace BW := hide (st BW.out hb (Below.refl _ _))
              replace V0 := hide (V0.out.below hb)
              replace P := hide (P.out.below hb)
              replace L := hide (L.out.below hb)
              replace U := hide (U.out.below hb)
              replace V3 := hide (V3.out.below hb)
              replace P3 := hide (P3.out.below hb)
              replace L3 := hide (L3.out.below hb)
              obtain rfl : 256 = n7 := by have := R1.len; rw [hZl.out] at this; exact this
              replace R1 := hide R1
              clear hb
              clear x0 y0 l0 x1 y1 l1
              have x0 := V0.out.c0
              have y0 := V0.out.c1
              have l0 := V0.out.lt
              have x1 := V3.out.c0
              have y1 := V3.out.c1
              have l1 := V3.out.lt
              go_wp2_with fail
              with_reducible refine (write_any P3.out L3.out U.out (by omega) (a : Int) P1 W1 0 h4.out h5.out h3.out).mono ?_
              rintro e u5 ⟨A5, n5, c5, B5, m5, d5, rfl, P5, L5, hb⟩
              have DD : Below u4.heap.size u4 (u5.alloc (.cells #[.slice A5 n5 c5, .slice B5 m5 d5] 25)) := hb.alloc hb.size _
              have gg : Below u5.heap.size u5 (u5.alloc (.cells #[.slice A5 n5 c5, .slice B5 m5 d5] 25)) := by go_grown
              have V5 := hide (Var.new u5 A5 B5 n5 c5 m5 d5)
              replace P5 := hide (P5.below gg)
              replace L5 := hide (L5.below gg)
              replace BW := hide (st BW.out DD (Below.refl _ _))
              replace V0 := hide (V0.out.below DD)
              replace P := hide (P.out.below DD)
              replace L := hide (L.out.below DD)
              replace U := hide (U.out.below DD)
              replace V3 := hide (V3.out.below DD)
              replace P3 := hide (P3.out.below DD)
              replace L3 := hide (L3.out.below DD)
              replace R1 := hide (R1.out.below DD)
              clear x0 y0 l0 x1 y1 l1
              clear hb DD gg
              have x0 := V0.out.c0
              have y0 := V0.out.c1
              have l0 := V0.out.lt
              have x1 := V3.out.c0
              have y1 := V3.out.c1
              have l1 := V3.out.lt
              have x2 := V5.out.c0
              have y2 := V5.out.c1
              have l2 := V5.out.lt
              go_wp2_with fail
              obtain ⟨b5, hbk⟩ : ∃ b, b = u5.heap.size := ⟨_, rfl⟩
              rw [← hbk] at V5 x2 y2 l2 ⊢
              have hs5 : Hid ((u5.alloc (.cells #[.slice A5 n5 c5, .slice B5 m5 d5] 25)).heap.size = b5 + 1) := hide (by rw [hbk]; simp)
              clear hbk
              generalize u5.alloc (.cells #[.slice A5 n5 c5, .slice B5 m5 d5] 25) = U5 at *
              go_wp2_with fail
              have g5 : Below U5.heap.size U5 (U5.alloc (.cells #[.int .i64 cut] 3)) := by go_grown
              have hmj : m5 ≤ 100000 := by obtain ⟨this, _⟩ := L5.out; rw [hWl.out] at this; omega
              have nl := nts_lit1 U5 cut
              rw [hs5.out] at nl
              replace nl := hide nl
              with_reducible refine (crash_any (P5.out.below g5) (L5.out.below g5) nl.out hmj PC [] h6.out h7.out).mono ?_
              rintro e v1 ⟨A9, n9, c9, B9, m9, d9, rfl, PQ, LQ, hb⟩
              have DD := g5.trans (hb.mono g5.size)
              replace BW := hide (st BW.out DD (Below.refl _ _))
              replace V0 := hide (V0.out.below DD)
              replace P := hide (P.out.below DD)
              replace L := hide (L.out.below DD)
              replace U := hide (U.out.below DD)
              replace V3 := hide (V3.out.below DD)
              replace P3 := hide (P3.out.below DD)
              replace L3 := hide (L3.out.below DD)
              replace R1 := hide (R1.out.below DD)
              replace V5 := hide (V5.out.below DD)
              replace P5 := hide (P5.out.below DD)
              replace L5 := hide (L5.out.below DD)
              clear hb DD g5
              replace PQ := hide PQ
              replace LQ := hide LQ
              clear x0 y0 l0 x1 y1 l1 x2 y2 l2
              have x0 := V0.out.c0
              have y0 := V0.out.c1
              have l0 := V0.out.lt
              have x1 := V3.out.c0
              have y1 := V3.out.c1
              have l1 := V3.out.lt
              have x2 := V5.out.c0
              have y2 := V5.out.c1
              have l2 := V5.out.lt
              go_wp2_with fail
              with_reducible refine (read_any PQ.out LQ.out (a : Int) T 0 h9.out h8.out).mono ?_
              rintro e u6 ⟨A10, n10, c10, rfl, R2, hb⟩
              replace BW := hide (st BW.out hb (Below.refl _ _))
              replace V0 := hide (V0.out.below hb)
              replace P := hide (P.out.below hb)
              replace L := hide (L.out.below hb)
              replace U := hide (U.out.below hb)
              replace V3 := hide (V3.out.below hb)
              replace P3 := hide (P3.out.below hb)
              replace L3 := hide (L3.out.below hb)
              replace R1 := hide (R1.out.below hb)
              replace V5 := hide (V5.out.below hb)
              replace P5 := hide (P5.out.below hb)
              replace L5 := hide (L5.out.below hb)
              replace PQ := hide (PQ.out.below hb)
              replace LQ := hide (LQ.out.below hb)
              obtain rfl : 256 = n10 := by have := R2.len; rw [hTl.out] at this; exact this
              replace R2 := hide R2
              clear hb
              clear x0 y0 l0 x1 y1 l1 x2 y2 l2
              have x0 := V0.out.c0
              have y0 := V0.out.c1
              have l0 := V0.out.lt
              have x1 := V3.out.c0
              have y1 := V3.out.c1
              have l1 := V3.out.lt
              have x2 := V5.out.c0
              have y2 := V5.out.c1
              have l2 := V5.out.lt
              obtain ⟨t1, o1, hA7, lb1, _⟩ := R1.out.at_ (Below.refl _ _) (k := 0) (by omega)
              obtain ⟨t2, o2, hA10, lb2, _⟩ := R2.out.at_ (Below.refl _ _) (k := 0) (by omega)
              obtain ⟨t3, o3, hC, lb3, _⟩ := U.out.at_ (Below.refl _ _) (k := 0) (by omega)
              subst hA7 hA10 hC
              have q7 : 256 ≤ c7 := R1.out.2.1
              have q10 : 256 ≤ c10 := R2.out.2.1
              have qe : 256 ≤ e := U.out.2.1
              have m7 := R1.out.2.2.1
              have qeI : (256 : Int) ≤ (e : Int) := by omega
              have q7I : (256 : Int) ≤ (c7 : Int) := by omega
              have q10I : (256 : Int) ≤ (c10 : Int) := by omega
              have kI : (256 : Int) ≤ 256 := by omega
              have kI0 : (0 : Int) ≤ (256 : Int) := by omega
              have m10 := R2.out.2.2.1
              by_cases e7 : c7 = 256
              · subst e7
                by_cases e10 : c10 = 256
                · subst e10
                  go_wp2_with fail
                  refine wp_region_calm (fun w' => Below u6.heap.size u6 w') (by kernel_rfl) (by kernel_rfl) (below_drewN (Below.refl _ _) 1) ?_
                  repeat (first
                    | go_big_quiet_skip
                    | (go_big_quiet_want
                       first
                         | (go_big_quiet_op; go_big_quiet_on)
                         | (apply Exists.intro
                            refine ⟨fun w' hw' => ?_, ?_⟩
                            focus
                              obtain ⟨hc', hf'⟩ := bcell hw'
                              go_simp
                              try first
                                | rfl
                                | (with_reducible rfl)
                                | (with_reducible refine (alive_any _).mono ?_; exact fun _ _ h => ⟨h.1, st hw' h.2 (Below.refl _ _)⟩)
                                | (with_reducible refine (bytes_to ((R2.out.below hw').take (k := 256) (by omega)) ((U.out.below hw').take (k := 256) (by omega)) true htk.out).mono ?_; exact fun _ _ h => ⟨h.1, st hw' h.2 (Below.refl _ _)⟩)
                                | (with_reducible refine (bytes_to ((byt_zero (fun e => by cases e) (by unfold maxLen at *; omega))) ((byt_zero (fun e => by cases e) (by unfold maxLen at *; omega))) true (by simp)).mono ?_; exact fun _ _ h => ⟨h.1, st hw' h.2 (Below.refl _ _)⟩)
                            go_big_quiet_on)
                       try simp only [Act.put, List.setIfInBounds_toArray, List.set_cons_zero, List.set_cons_succ]))
                  refine wpQuiet_nil ?_
                  intro V HV
                  have BV := hide (st BW.out HV (Below.refl _ _))
                  clear HV
                  go_wp2_with fail
                  go_ret
                  exact ⟨rfl, BV.out⟩
                · have s10 : ¬ (c10 : Int) = 256 := by omega
                  have r10 : 256 < c10 := by omega
                  go_wp2_with fail
                  refine wp_region_calm (fun w' => Below u6.heap.size u6 w') (by kernel_rfl) (by kernel_rfl) (below_drewN (Below.refl _ _) 1) ?_
                  repeat (first
                    | go_big_quiet_skip
                    | (go_big_quiet_want
                       first
                         | (go_big_quiet_op; go_big_quiet_on)
                         | (apply Exists.intro
                            refine ⟨fun w' hw' => ?_, ?_⟩
                            focus
                              obtain ⟨hc', hf'⟩ := bcell hw'
                              go_simp
                              try first
                                | rfl
                                | (with_reducible rfl)
                                | (with_reducible refine (alive_any _).mono ?_; exact fun _ _ h => ⟨h.1, st hw' h.2 (Below.refl _ _)⟩)
                                | (with_reducible refine (bytes_to ((R2.out.below hw').take (k := 256) (by omega)) ((U.out.below hw').take (k := 256) (by omega)) true htk.out).mono ?_; exact fun _ _ h => ⟨h.1, st hw' h.2 (Below.refl _ _)⟩)
                                | (with_reducible refine (bytes_to ((byt_zero (fun e => by cases e) (by unfold maxLen at *; omega))) ((byt_zero (fun e => by cases e) (by unfold maxLen at *; omega))) true (by simp)).mono ?_; exact fun _ _ h => ⟨h.1, st hw' h.2 (Below.refl _ _)⟩)
                            go_big_quiet_on)
                       try simp only [Act.put, List.setIfInBounds_toArray, List.set_cons_zero, List.set_cons_succ]))
                  refine wpQuiet_nil ?_
                  intro V HV
                  have BV := hide (st BW.out HV (Below.refl _ _))
                  clear HV
                  go_wp2_with fail
                  go_ret
                  exact ⟨rfl, BV.out⟩
              · have s7 : ¬ (c7 : Int) = 256 := by omega
                have r7 : 256 < c7 := by omega
                by_cases e10 : c10 = 256
                · subst e10
                  go_wp2_with fail
                  refine wp_region_calm (fun w' => Below u6.heap.size u6 w') (by kernel_rfl) (by kernel_rfl) (below_drewN (Below.refl _ _) 1) ?_
                  repeat (first
                    | go_big_quiet_skip
                    | (go_big_quiet_want
                       first
                         | (go_big_quiet_op; go_big_quiet_on)
                         | (apply Exists.intro
                            refine ⟨fun w' hw' => ?_, ?_⟩
                            focus
                              obtain ⟨hc', hf'⟩ := bcell hw'
                              go_simp
                              try first
                                | rfl
                                | (with_reducible rfl)
                                | (with_reducible refine (alive_any _).mono ?_; exact fun _ _ h => ⟨h.1, st hw' h.2 (Below.refl _ _)⟩)
                                | (with_reducible refine (bytes_to ((R2.out.below hw').take (k := 256) (by omega)) ((U.out.below hw').take (k := 256) (by omega)) true htk.out).mono ?_; exact fun _ _ h => ⟨h.1, st hw' h.2 (Below.refl _ _)⟩)
                                | (with_reducible refine (bytes_to ((byt_zero (fun e => by cases e) (by unfold maxLen at *; omega))) ((byt_zero (fun e => by cases e) (by unfold maxLen at *; omega))) true (by simp)).mono ?_; exact fun _ _ h => ⟨h.1, st hw' h.2 (Below.refl _ _)⟩)
                            go_big_quiet_on)
                       try simp only [Act.put, List.setIfInBounds_toArray, List.set_cons_zero, List.set_cons_succ]))
                  refine wpQuiet_nil ?_
                  intro V HV
                  have BV := hide (st BW.out HV (Below.refl _ _))
                  clear HV
                  go_wp2_with fail
                  go_ret
                  exact ⟨rfl, BV.out⟩
                · have s10 : ¬ (c10 : Int) = 256 := by omega
                  have r10 : 256 < c10 := by omega
                  go_wp2_with fail
                  refine wp_region_calm (fun w' => Below u6.heap.size u6 w') (by kernel_rfl) (by kernel_rfl) (below_drewN (Below.refl _ _) 1) ?_
                  repeat (first
                    | go_big_quiet_skip
                    | (go_big_quiet_want
                       first
                         | (go_big_quiet_op; go_big_quiet_on)
                         | (apply Exists.intro
                            refine ⟨fun w' hw' => ?_, ?_⟩
                            focus
                              obtain ⟨hc', hf'⟩ := bcell hw'
                              go_simp
                              try first
                                | rfl
                                | (with_reducible rfl)
                                | (with_reducible refine (alive_any _).mono ?_; exact fun _ _ h => ⟨h.1, st hw' h.2 (Below.refl _ _)⟩)
                                | (with_reducible refine (bytes_to ((R2.out.below hw').take (k := 256) (by omega)) ((U.out.below hw').take (k := 256) (by omega)) true htk.out).mono ?_; exact fun _ _ h => ⟨h.1, st hw' h.2 (Below.refl _ _)⟩)
                                | (with_reducible refine (bytes_to ((byt_zero (fun e => by cases e) (by unfold maxLen at *; omega))) ((byt_zero (fun e => by cases e) (by unfold maxLen at *; omega))) true (by simp)).mono ?_; exact fun _ _ h => ⟨h.1, st hw' h.2 (Below.refl _ _)⟩)
                            go_big_quiet_on)
                       try simp only [Act.put, List.setIfInBounds_toArray, List.set_cons_zero, List.set_cons_succ]))
                  refine wpQuiet_nil ?_
                  intro V HV
                  have BV := hide (st BW.out HV (Below.refl _ _))
                  clear HV
                  go_wp2_with fail
                  go_ret
                  exact ⟨rfl, BV.out⟩
            · by_cases c3 : cut = 256
              · subst c3
                rw [hkv, if_neg (by omega)] at htk hdr
                replace htk := hide (decide_eq_true htk)
                replace hdr := hide (decide_eq_true hdr)
                clear hkv
                have g0 : Below w.heap.size w (w.alloc (.cells #[.slice A n c, .slice B m d] 25)) := by go_grown
                have V0 := Var.new w A B n c m d
                obtain ⟨b0, hb0⟩ : ∃ b, b = w.heap.size := ⟨_, rfl⟩
                rw [← hb0] at V0
                replace P := hide (P.below g0)
                replace L := hide (L.below g0)
                replace U := hide (U.below g0)
                replace V0 := hide V0
                have BW := hide g0
                go_enter Try.func8, Try.ntmps8
                go_wp2_with fail
                rw [← hb0]
                generalize w.alloc (.cells #[.slice A n c, .slice B m d] 25) = wa at *
                clear g0 hb0
                have x0 := V0.out.c0
                have y0 := V0.out.c1
                have l0 := V0.out.lt
                go_wp2_with fail
                with_reducible refine (few_any P.out L.out true hfew.out).mono ?_
                rintro e u1 ⟨rfl, hb⟩
                replace BW := hide (st BW.out hb (Below.refl _ _))
                replace V0 := hide (V0.out.below hb)
                replace P := hide (P.out.below hb)
                replace L := hide (L.out.below hb)
                replace U := hide (U.out.below hb)
                clear hb
                clear x0 y0 l0
                have x0 := V0.out.c0
                have y0 := V0.out.c1
                have l0 := V0.out.lt
                go_wp2_with fail
                with_reducible refine (right_any P.out L.out true hrt.out).mono ?_
                rintro e u2 ⟨rfl, hb⟩
                replace BW := hide (st BW.out hb (Below.refl _ _))
                replace V0 := hide (V0.out.below hb)
                replace P := hide (P.out.below hb)
                replace L := hide (L.out.below hb)
                replace U := hide (U.out.below hb)
                clear hb
                clear x0 y0 l0
                have x0 := V0.out.c0
                have y0 := V0.out.c1
                have l0 := V0.out.lt
                go_wp2_with fail
                with_reducible refine (sync_any (ws := []) P.out (by omega)).mono ?_
                rintro e u3 ⟨A3, n3, c3, B3, m3, d3, rfl, P3, L3, hb⟩
                obtain rfl : n = n3 := by have := P3.1; rw [hpl.out] at this; exact this
                obtain rfl : 0 = m3 := L3.1
                have DD : Below u2.heap.size u2 (u3.alloc (.cells #[.slice A3 n c3, .slice B3 0 d3] 25)) := hb.alloc hb.size _
                have gg : Below u3.heap.size u3 (u3.alloc (.cells #[.slice A3 n c3, .slice B3 0 d3] 25)) := by go_grown
                have V3 := hide (Var.new u3 A3 B3 n c3 0 d3)
                replace P3 := hide (P3.below gg)
                replace L3 := hide (L3.below gg)
                replace BW := hide (st BW.out DD (Below.refl _ _))
                replace V0 := hide (V0.out.below DD)
                replace P := hide (P.out.below DD)
                replace L := hide (L.out.below DD)
                replace U := hide (U.out.below DD)
                clear x0 y0 l0
                clear hb DD gg
                have x0 := V0.out.c0
                have y0 := V0.out.c1
                have l0 := V0.out.lt
                have x1 := V3.out.c0
                have y1 := V3.out.c1
                have l1 := V3.out.lt
                go_wp2_with fail
                obtain ⟨b3, hbk⟩ : ∃ b, b = u3.heap.size := ⟨_, rfl⟩
                rw [← hbk] at V3 x1 y1 l1 ⊢
                clear hbk
                generalize u3.alloc (.cells #[.slice A3 n c3, .slice B3 0 d3] 25) = U3 at *
                go_wp2_with fail
                with_reducible refine (read_any P3.out L3.out (a : Int) Z 0 hZ.out h1.out).mono ?_
                rintro e u4 ⟨A7, n7, c7, rfl, R1, hb⟩
                replace BW := hide (st BW.out hb (Below.refl _ _))
                replace V0 := hide (V0.out.below hb)
                replace P := hide (P.out.below hb)
                replace L := hide (L.out.below hb)
                replace U := hide (U.out.below hb)
                replace V3 := hide (V3.out.below hb)
                replace P3 := hide (P3.out.below hb)
                replace L3 := hide (L3.out.below hb)
                obtain rfl : 256 = n7 := by have := R1.len; rw [hZl.out] at this; exact this
                replace R1 := hide R1
                clear hb
                clear x0 y0 l0 x1 y1 l1
                have x0 := V0.out.c0
                have y0 := V0.out.c1
                have l0 := V0.out.lt
                have x1 := V3.out.c0
                have y1 := V3.out.c1
                have l1 := V3.out.lt
                go_wp2_with fail
                with_reducible refine (write_any P3.out L3.out U.out (by omega) (a : Int) P1 W1 0 h4.out h5.out h3.out).mono ?_
                rintro e u5 ⟨A5, n5, c5, B5, m5, d5, rfl, P5, L5, hb⟩
                have DD : Below u4.heap.size u4 (u5.alloc (.cells #[.slice A5 n5 c5, .slice B5 m5 d5] 25)) := hb.alloc hb.size _
                have gg : Below u5.heap.size u5 (u5.alloc (.cells #[.slice A5 n5 c5, .slice B5 m5 d5] 25)) := by go_grown
                have V5 := hide (Var.new u5 A5 B5 n5 c5 m5 d5)
                replace P5 := hide (P5.below gg)
                replace L5 := hide (L5.below gg)
                replace BW := hide (st BW.out DD (Below.refl _ _))
                replace V0 := hide (V0.out.below DD)
                replace P := hide (P.out.below DD)
                replace L := hide (L.out.below DD)
                replace U := hide (U.out.below DD)
                replace V3 := hide (V3.out.below DD)
                replace P3 := hide (P3.out.below DD)
                replace L3 := hide (L3.out.below DD)
                replace R1 := hide (R1.out.below DD)
                clear x0 y0 l0 x1 y1 l1
                clear hb DD gg
                have x0 := V0.out.c0
                have y0 := V0.out.c1
                have l0 := V0.out.lt
                have x1 := V3.out.c0
                have y1 := V3.out.c1
                have l1 := V3.out.lt
                have x2 := V5.out.c0
                have y2 := V5.out.c1
                have l2 := V5.out.lt
                go_wp2_with fail
                obtain ⟨b5, hbk⟩ : ∃ b, b = u5.heap.size := ⟨_, rfl⟩
                rw [← hbk] at V5 x2 y2 l2 ⊢
                have hs5 : Hid ((u5.alloc (.cells #[.slice A5 n5 c5, .slice B5 m5 d5] 25)).heap.size = b5 + 1) := hide (by rw [hbk]; simp)
                clear hbk
                generalize u5.alloc (.cells #[.slice A5 n5 c5, .slice B5 m5 d5] 25) = U5 at *
                go_wp2_with fail
                have g5 : Below U5.heap.size U5 (U5.alloc (.cells #[.int .i64 256] 3)) := by go_grown
                have hmj : m5 ≤ 100000 := by obtain ⟨this, _⟩ := L5.out; rw [hWl.out] at this; omega
                have nl := nts_lit1 U5 256
                rw [hs5.out] at nl
                replace nl := hide nl
                with_reducible refine (crash_any (P5.out.below g5) (L5.out.below g5) nl.out hmj PC [] h6.out h7.out).mono ?_
                rintro e v1 ⟨A9, n9, c9, B9, m9, d9, rfl, PQ, LQ, hb⟩
                have DD := g5.trans (hb.mono g5.size)
                replace BW := hide (st BW.out DD (Below.refl _ _))
                replace V0 := hide (V0.out.below DD)
                replace P := hide (P.out.below DD)
                replace L := hide (L.out.below DD)
                replace U := hide (U.out.below DD)
                replace V3 := hide (V3.out.below DD)
                replace P3 := hide (P3.out.below DD)
                replace L3 := hide (L3.out.below DD)
                replace R1 := hide (R1.out.below DD)
                replace V5 := hide (V5.out.below DD)
                replace P5 := hide (P5.out.below DD)
                replace L5 := hide (L5.out.below DD)
                clear hb DD g5
                replace PQ := hide PQ
                replace LQ := hide LQ
                clear x0 y0 l0 x1 y1 l1 x2 y2 l2
                have x0 := V0.out.c0
                have y0 := V0.out.c1
                have l0 := V0.out.lt
                have x1 := V3.out.c0
                have y1 := V3.out.c1
                have l1 := V3.out.lt
                have x2 := V5.out.c0
                have y2 := V5.out.c1
                have l2 := V5.out.lt
                go_wp2_with fail
                with_reducible refine (read_any PQ.out LQ.out (a : Int) T 0 h9.out h8.out).mono ?_
                rintro e u6 ⟨A10, n10, c10, rfl, R2, hb⟩
                replace BW := hide (st BW.out hb (Below.refl _ _))
                replace V0 := hide (V0.out.below hb)
                replace P := hide (P.out.below hb)
                replace L := hide (L.out.below hb)
                replace U := hide (U.out.below hb)
                replace V3 := hide (V3.out.below hb)
                replace P3 := hide (P3.out.below hb)
                replace L3 := hide (L3.out.below hb)
                replace R1 := hide (R1.out.below hb)
                replace V5 := hide (V5.out.below hb)
                replace P5 := hide (P5.out.below hb)
                replace L5 := hide (L5.out.below hb)
                replace PQ := hide (PQ.out.below hb)
                replace LQ := hide (LQ.out.below hb)
                obtain rfl : 256 = n10 := by have := R2.len; rw [hTl.out] at this; exact this
                replace R2 := hide R2
                clear hb
                clear x0 y0 l0 x1 y1 l1 x2 y2 l2
                have x0 := V0.out.c0
                have y0 := V0.out.c1
                have l0 := V0.out.lt
                have x1 := V3.out.c0
                have y1 := V3.out.c1
                have l1 := V3.out.lt
                have x2 := V5.out.c0
                have y2 := V5.out.c1
                have l2 := V5.out.lt
                obtain ⟨t1, o1, hA7, lb1, _⟩ := R1.out.at_ (Below.refl _ _) (k := 0) (by omega)
                obtain ⟨t2, o2, hA10, lb2, _⟩ := R2.out.at_ (Below.refl _ _) (k := 0) (by omega)
                obtain ⟨t3, o3, hC, lb3, _⟩ := U.out.at_ (Below.refl _ _) (k := 0) (by omega)
                subst hA7 hA10 hC
                have q7 : 256 ≤ c7 := R1.out.2.1
                have q10 : 256 ≤ c10 := R2.out.2.1
                have qe : 256 ≤ e := U.out.2.1
                have m7 := R1.out.2.2.1
                have qeI : (256 : Int) ≤ (e : Int) := by omega
                have q7I : (256 : Int) ≤ (c7 : Int) := by omega
                have q10I : (256 : Int) ≤ (c10 : Int) := by omega
                have kI : (256 : Int) ≤ 256 := by omega
                have kI0 : (0 : Int) ≤ (256 : Int) := by omega
                have m10 := R2.out.2.2.1
                by_cases e7 : c7 = 256
                · subst e7
                  by_cases e10 : c10 = 256
                  · subst e10
                    go_wp2_with fail
                    refine wp_region_calm (fun w' => Below u6.heap.size u6 w') (by kernel_rfl) (by kernel_rfl) (below_drewN (Below.refl _ _) 1) ?_
                    repeat (first
                      | go_big_quiet_skip
                      | (go_big_quiet_want
                         first
                           | (go_big_quiet_op; go_big_quiet_on)
                           | (apply Exists.intro
                              refine ⟨fun w' hw' => ?_, ?_⟩
                              focus
                                obtain ⟨hc', hf'⟩ := bcell hw'
                                go_simp
                                try first
                                  | rfl
                                  | (with_reducible rfl)
                                  | (with_reducible refine (alive_any _).mono ?_; exact fun _ _ h => ⟨h.1, st hw' h.2 (Below.refl _ _)⟩)
                                  | (with_reducible refine (bytes_to ((R2.out.below hw').take (k := 256) (by omega)) ((U.out.below hw').take (k := 256) (by omega)) true htk.out).mono ?_; exact fun _ _ h => ⟨h.1, st hw' h.2 (Below.refl _ _)⟩)
                                  | (with_reducible refine (bytes_to ((byt_zero (fun e => by cases e) (by unfold maxLen at *; omega))) ((byt_zero (fun e => by cases e) (by unfold maxLen at *; omega))) true (by simp)).mono ?_; exact fun _ _ h => ⟨h.1, st hw' h.2 (Below.refl _ _)⟩)
                              go_big_quiet_on)
                         try simp only [Act.put, List.setIfInBounds_toArray, List.set_cons_zero, List.set_cons_succ]))
                    refine wpQuiet_nil ?_
                    intro V HV
                    have BV := hide (st BW.out HV (Below.refl _ _))
                    clear HV
                    go_wp2_with fail
                    go_ret
                    exact ⟨rfl, BV.out⟩
                  · have s10 : ¬ (c10 : Int) = 256 := by omega
                    have r10 : 256 < c10 := by omega
                    go_wp2_with fail
                    refine wp_region_calm (fun w' => Below u6.heap.size u6 w') (by kernel_rfl) (by kernel_rfl) (below_drewN (Below.refl _ _) 1) ?_
                    repeat (first
                      | go_big_quiet_skip
                      | (go_big_quiet_want
                         first
                           | (go_big_quiet_op; go_big_quiet_on)
                           | (apply Exists.intro
                              refine ⟨fun w' hw' => ?_, ?_⟩
                              focus
                                obtain ⟨hc', hf'⟩ := bcell hw'
                                go_simp
                                try first
                                  | rfl
                                  | (with_reducible rfl)
                                  | (with_reducible refine (alive_any _).mono ?_; exact fun _ _ h => ⟨h.1, st hw' h.2 (Below.refl _ _)⟩)
                                  | (with_reducible refine (bytes_to ((R2.out.below hw').take (k := 256) (by omega)) ((U.out.below hw').take (k := 256) (by omega)) true htk.out).mono ?_; exact fun _ _ h => ⟨h.1, st hw' h.2 (Below.refl _ _)⟩)
                                  | (with_reducible refine (bytes_to ((byt_zero (fun e => by cases e) (by unfold maxLen at *; omega))) ((byt_zero (fun e => by cases e) (by unfold maxLen at *; omega))) true (by simp)).mono ?_; exact fun _ _ h => ⟨h.1, st hw' h.2 (Below.refl _ _)⟩)
                              go_big_quiet_on)
                         try simp only [Act.put, List.setIfInBounds_toArray, List.set_cons_zero, List.set_cons_succ]))
                    refine wpQuiet_nil ?_
                    intro V HV
                    have BV := hide (st BW.out HV (Below.refl _ _))
                    clear HV
                    go_wp2_with fail
                    go_ret
                    exact ⟨rfl, BV.out⟩
                · have s7 : ¬ (c7 : Int) = 256 := by omega
                  have r7 : 256 < c7 := by omega
                  by_cases e10 : c10 = 256
                  · subst e10
                    go_wp2_with fail
                    refine wp_region_calm (fun w' => Below u6.heap.size u6 w') (by kernel_rfl) (by kernel_rfl) (below_drewN (Below.refl _ _) 1) ?_
                    repeat (first
                      | go_big_quiet_skip
                      | (go_big_quiet_want
                         first
                           | (go_big_quiet_op; go_big_quiet_on)
                           | (apply Exists.intro
                              refine ⟨fun w' hw' => ?_, ?_⟩
                              focus
                                obtain ⟨hc', hf'⟩ := bcell hw'
                                go_simp
                                try first
                                  | rfl
                                  | (with_reducible rfl)
                                  | (with_reducible refine (alive_any _).mono ?_; exact fun _ _ h => ⟨h.1, st hw' h.2 (Below.refl _ _)⟩)
                                  | (with_reducible refine (bytes_to ((R2.out.below hw').take (k := 256) (by omega)) ((U.out.below hw').take (k := 256) (by omega)) true htk.out).mono ?_; exact fun _ _ h => ⟨h.1, st hw' h.2 (Below.refl _ _)⟩)
                                  | (with_reducible refine (bytes_to ((byt_zero (fun e => by cases e) (by unfold maxLen at *; omega))) ((byt_zero (fun e => by cases e) (by unfold maxLen at *; omega))) true (by simp)).mono ?_; exact fun _ _ h => ⟨h.1, st hw' h.2 (Below.refl _ _)⟩)
                              go_big_quiet_on)
                         try simp only [Act.put, List.setIfInBounds_toArray, List.set_cons_zero, List.set_cons_succ]))
                    refine wpQuiet_nil ?_
                    intro V HV
                    have BV := hide (st BW.out HV (Below.refl _ _))
                    clear HV
                    go_wp2_with fail
                    go_ret
                    exact ⟨rfl, BV.out⟩
                  · have s10 : ¬ (c10 : Int) = 256 := by omega
                    have r10 : 256 < c10 := by omega
                    go_wp2_with fail
                    refine wp_region_calm (fun w' => Below u6.heap.size u6 w') (by kernel_rfl) (by kernel_rfl) (below_drewN (Below.refl _ _) 1) ?_
                    repeat (first
                      | go_big_quiet_skip
                      | (go_big_quiet_want
                         first
                           | (go_big_quiet_op; go_big_quiet_on)
                           | (apply Exists.intro
                              refine ⟨fun w' hw' => ?_, ?_⟩
                              focus
                                obtain ⟨hc', hf'⟩ := bcell hw'
                                go_simp
                                try first
                                  | rfl
                                  | (with_reducible rfl)
                                  | (with_reducible refine (alive_any _).mono ?_; exact fun _ _ h => ⟨h.1, st hw' h.2 (Below.refl _ _)⟩)
                                  | (with_reducible refine (bytes_to ((R2.out.below hw').take (k := 256) (by omega)) ((U.out.below hw').take (k := 256) (by omega)) true htk.out).mono ?_; exact fun _ _ h => ⟨h.1, st hw' h.2 (Below.refl _ _)⟩)
                                  | (with_reducible refine (bytes_to ((byt_zero (fun e => by cases e) (by unfold maxLen at *; omega))) ((byt_zero (fun e => by cases e) (by unfold maxLen at *; omega))) true (by simp)).mono ?_; exact fun _ _ h => ⟨h.1, st hw' h.2 (Below.refl _ _)⟩)
                              go_big_quiet_on)
                         try simp only [Act.put, List.setIfInBounds_toArray, List.set_cons_zero, List.set_cons_succ]))
                    refine wpQuiet_nil ?_
                    intro V HV
                    have BV := hide (st BW.out HV (Below.refl _ _))
                    clear HV
                    go_wp2_with fail
                    go_ret
                    exact ⟨rfl, BV.out⟩
              · rw [hkv, if_pos ⟨by omega, by omega⟩] at htk hdr
                obtain ⟨k, rfl⟩ : ∃ k : Nat, cut = (k : Int) := ⟨cut.toNat, by omega⟩
                rw [Int.toNat_natCast] at htk hdr
                replace htk := hide (decide_eq_true htk)
                replace hdr := hide (decide_eq_true hdr)
                have hk : k < 256 := by omega
                clear hkv
                have g0 : Below w.heap.size w (w.alloc (.cells #[.slice A n c, .slice B m d] 25)) := by go_grown
                have V0 := Var.new w A B n c m d
                obtain ⟨b0, hb0⟩ : ∃ b, b = w.heap.size := ⟨_, rfl⟩
                rw [← hb0] at V0
                replace P := hide (P.below g0)
                replace L := hide (L.below g0)
                replace U := hide (U.below g0)
                replace V0 := hide V0
                have BW := hide g0
                go_enter Try.func8, Try.ntmps8
                go_wp2_with fail
                rw [← hb0]
                generalize w.alloc (.cells #[.slice A n c, .slice B m d] 25) = wa at *
                clear g0 hb0
                have x0 := V0.out.c0
                have y0 := V0.out.c1
                have l0 := V0.out.lt
                go_wp2_with fail
                with_reducible refine (few_any P.out L.out true hfew.out).mono ?_
                rintro e u1 ⟨rfl, hb⟩
                replace BW := hide (st BW.out hb (Below.refl _ _))
                replace V0 := hide (V0.out.below hb)
                replace P := hide (P.out.below hb)
                replace L := hide (L.out.below hb)
                replace U := hide (U.out.below hb)
                clear hb
                clear x0 y0 l0
                have x0 := V0.out.c0
                have y0 := V0.out.c1
                have l0 := V0.out.lt
                go_wp2_with fail
                with_reducible refine (right_any P.out L.out true hrt.out).mono ?_
                rintro e u2 ⟨rfl, hb⟩
                replace BW := hide (st BW.out hb (Below.refl _ _))
                replace V0 := hide (V0.out.below hb)
                replace P := hide (P.out.below hb)
                replace L := hide (L.out.below hb)
                replace U := hide (U.out.below hb)
                clear hb
                clear x0 y0 l0
                have x0 := V0.out.c0
                have y0 := V0.out.c1
                have l0 := V0.out.lt
                go_wp2_with fail
                with_reducible refine (sync_any (ws := []) P.out (by omega)).mono ?_
                rintro e u3 ⟨A3, n3, c3, B3, m3, d3, rfl, P3, L3, hb⟩
                obtain rfl : n = n3 := by have := P3.1; rw [hpl.out] at this; exact this
                obtain rfl : 0 = m3 := L3.1
                have DD : Below u2.heap.size u2 (u3.alloc (.cells #[.slice A3 n c3, .slice B3 0 d3] 25)) := hb.alloc hb.size _
                have gg : Below u3.heap.size u3 (u3.alloc (.cells #[.slice A3 n c3, .slice B3 0 d3] 25)) := by go_grown
                have V3 := hide (Var.new u3 A3 B3 n c3 0 d3)
                replace P3 := hide (P3.below gg)
                replace L3 := hide (L3.below gg)
                replace BW := hide (st BW.out DD (Below.refl _ _))
                replace V0 := hide (V0.out.below DD)
                replace P := hide (P.out.below DD)
                replace L := hide (L.out.below DD)
                replace U := hide (U.out.below DD)
                clear x0 y0 l0
                clear hb DD gg
                have x0 := V0.out.c0
                have y0 := V0.out.c1
                have l0 := V0.out.lt
                have x1 := V3.out.c0
                have y1 := V3.out.c1
                have l1 := V3.out.lt
                go_wp2_with fail
                obtain ⟨b3, hbk⟩ : ∃ b, b = u3.heap.size := ⟨_, rfl⟩
                rw [← hbk] at V3 x1 y1 l1 ⊢
                clear hbk
                generalize u3.alloc (.cells #[.slice A3 n c3, .slice B3 0 d3] 25) = U3 at *
                go_wp2_with fail
                with_reducible refine (read_any P3.out L3.out (a : Int) Z 0 hZ.out h1.out).mono ?_
                rintro e u4 ⟨A7, n7, c7, rfl, R1, hb⟩
                replace BW := hide (st BW.out hb (Below.refl _ _))
                replace V0 := hide (V0.out.below hb)
                replace P := hide (P.out.below hb)
                replace L := hide (L.out.below hb)
                replace U := hide (U.out.below hb)
                replace V3 := hide (V3.out.below hb)
                replace P3 := hide (P3.out.below hb)
                replace L3 := hide (L3.out.below hb)
                obtain rfl : 256 = n7 := by have := R1.len; rw [hZl.out] at this; exact this
                replace R1 := hide R1
                clear hb
                clear x0 y0 l0 x1 y1 l1
                have x0 := V0.out.c0
                have y0 := V0.out.c1
                have l0 := V0.out.lt
                have x1 := V3.out.c0
                have y1 := V3.out.c1
                have l1 := V3.out.lt
                go_wp2_with fail
                with_reducible refine (write_any P3.out L3.out U.out (by omega) (a : Int) P1 W1 0 h4.out h5.out h3.out).mono ?_
                rintro e u5 ⟨A5, n5, c5, B5, m5, d5, rfl, P5, L5, hb⟩
                have DD : Below u4.heap.size u4 (u5.alloc (.cells #[.slice A5 n5 c5, .slice B5 m5 d5] 25)) := hb.alloc hb.size _
                have gg : Below u5.heap.size u5 (u5.alloc (.cells #[.slice A5 n5 c5, .slice B5 m5 d5] 25)) := by go_grown
                have V5 := hide (Var.new u5 A5 B5 n5 c5 m5 d5)
                replace P5 := hide (P5.below gg)
                replace L5 := hide (L5.below gg)
                replace BW := hide (st BW.out DD (Below.refl _ _))
                replace V0 := hide (V0.out.below DD)
                replace P := hide (P.out.below DD)
                replace L := hide (L.out.below DD)
                replace U := hide (U.out.below DD)
                replace V3 := hide (V3.out.below DD)
                replace P3 := hide (P3.out.below DD)
                replace L3 := hide (L3.out.below DD)
                replace R1 := hide (R1.out.below DD)
                clear x0 y0 l0 x1 y1 l1
                clear hb DD gg
                have x0 := V0.out.c0
                have y0 := V0.out.c1
                have l0 := V0.out.lt
                have x1 := V3.out.c0
                have y1 := V3.out.c1
                have l1 := V3.out.lt
                have x2 := V5.out.c0
                have y2 := V5.out.c1
                have l2 := V5.out.lt
                go_wp2_with fail
                obtain ⟨b5, hbk⟩ : ∃ b, b = u5.heap.size := ⟨_, rfl⟩
                rw [← hbk] at V5 x2 y2 l2 ⊢
                have hs5 : Hid ((u5.alloc (.cells #[.slice A5 n5 c5, .slice B5 m5 d5] 25)).heap.size = b5 + 1) := hide (by rw [hbk]; simp)
                clear hbk
                generalize u5.alloc (.cells #[.slice A5 n5 c5, .slice B5 m5 d5] 25) = U5 at *
                go_wp2_with fail
                have g5 : Below U5.heap.size U5 (U5.alloc (.cells #[.int .i64 (k : Int)] 3)) := by go_grown
                have hmj : m5 ≤ 100000 := by obtain ⟨this, _⟩ := L5.out; rw [hWl.out] at this; omega
                have nl := nts_lit1 U5 (k : Int)
                rw [hs5.out] at nl
                replace nl := hide nl
                with_reducible refine (crash_any (P5.out.below g5) (L5.out.below g5) nl.out hmj PC [] h6.out h7.out).mono ?_
                rintro e v1 ⟨A9, n9, c9, B9, m9, d9, rfl, PQ, LQ, hb⟩
                have DD := g5.trans (hb.mono g5.size)
                replace BW := hide (st BW.out DD (Below.refl _ _))
                replace V0 := hide (V0.out.below DD)
                replace P := hide (P.out.below DD)
                replace L := hide (L.out.below DD)
                replace U := hide (U.out.below DD)
                replace V3 := hide (V3.out.below DD)
                replace P3 := hide (P3.out.below DD)
                replace L3 := hide (L3.out.below DD)
                replace R1 := hide (R1.out.below DD)
                replace V5 := hide (V5.out.below DD)
                replace P5 := hide (P5.out.below DD)
                replace L5 := hide (L5.out.below DD)
                clear hb DD g5
                replace PQ := hide PQ
                replace LQ := hide LQ
                clear x0 y0 l0 x1 y1 l1 x2 y2 l2
                have x0 := V0.out.c0
                have y0 := V0.out.c1
                have l0 := V0.out.lt
                have x1 := V3.out.c0
                have y1 := V3.out.c1
                have l1 := V3.out.lt
                have x2 := V5.out.c0
                have y2 := V5.out.c1
                have l2 := V5.out.lt
                go_wp2_with fail
                with_reducible refine (read_any PQ.out LQ.out (a : Int) T 0 h9.out h8.out).mono ?_
                rintro e u6 ⟨A10, n10, c10, rfl, R2, hb⟩
                replace BW := hide (st BW.out hb (Below.refl _ _))
                replace V0 := hide (V0.out.below hb)
                replace P := hide (P.out.below hb)
                replace L := hide (L.out.below hb)
                replace U := hide (U.out.below hb)
                replace V3 := hide (V3.out.below hb)
                replace P3 := hide (P3.out.below hb)
                replace L3 := hide (L3.out.below hb)
                replace R1 := hide (R1.out.below hb)
                replace V5 := hide (V5.out.below hb)
                replace P5 := hide (P5.out.below hb)
                replace L5 := hide (L5.out.below hb)
                replace PQ := hide (PQ.out.below hb)
                replace LQ := hide (LQ.out.below hb)
                obtain rfl : 256 = n10 := by have := R2.len; rw [hTl.out] at this; exact this
                replace R2 := hide R2
                clear hb
                clear x0 y0 l0 x1 y1 l1 x2 y2 l2
                have x0 := V0.out.c0
                have y0 := V0.out.c1
                have l0 := V0.out.lt
                have x1 := V3.out.c0
                have y1 := V3.out.c1
                have l1 := V3.out.lt
                have x2 := V5.out.c0
                have y2 := V5.out.c1
                have l2 := V5.out.lt
                obtain ⟨t1, o1, hA7, lb1, _⟩ := R1.out.at_ (Below.refl _ _) (k := 0) (by omega)
                obtain ⟨t2, o2, hA10, lb2, _⟩ := R2.out.at_ (Below.refl _ _) (k := 0) (by omega)
                obtain ⟨t3, o3, hC, lb3, _⟩ := U.out.at_ (Below.refl _ _) (k := 0) (by omega)
                subst hA7 hA10 hC
                have q7 : 256 ≤ c7 := R1.out.2.1
                have q10 : 256 ≤ c10 := R2.out.2.1
                have qe : 256 ≤ e := U.out.2.1
                have m7 := R1.out.2.2.1
                have qeI : (k : Int) ≤ (e : Int) := by omega
                have q7I : (k : Int) ≤ (c7 : Int) := by omega
                have q10I : (k : Int) ≤ (c10 : Int) := by omega
                have kI : (k : Int) ≤ 256 := by omega
                have kI0 : (0 : Int) ≤ (k : Int) := by omega
                have m10 := R2.out.2.2.1
                have r7 : k < c7 := by omega
                have r10 : k < c10 := by omega
                have s7 : ¬ c7 = k := by omega
                have s10 : ¬ c10 = k := by omega
                go_wp2_with fail
                refine wp_region_calm (fun w' => Below u6.heap.size u6 w') (by kernel_rfl) (by kernel_rfl) (below_drewN (Below.refl _ _) 1) ?_
                repeat (first
                  | go_big_quiet_skip
                  | (go_big_quiet_want
                     first
                       | (go_big_quiet_op; go_big_quiet_on)
                       | (apply Exists.intro
                          refine ⟨fun w' hw' => ?_, ?_⟩
                          focus
                            obtain ⟨hc', hf'⟩ := bcell hw'
                            go_simp
                            try first
                              | rfl
                              | (with_reducible rfl)
                              | (with_reducible refine (alive_any _).mono ?_; exact fun _ _ h => ⟨h.1, st hw' h.2 (Below.refl _ _)⟩)
                              | (with_reducible refine (bytes_to ((R2.out.below hw').take (k := k) (by omega)) ((U.out.below hw').take (k := k) (by omega)) true htk.out).mono ?_; exact fun _ _ h => ⟨h.1, st hw' h.2 (Below.refl _ _)⟩)
                              | (with_reducible refine (bytes_to ((R2.out.below hw').drop (k := k) (by omega)) ((R1.out.below hw').drop (k := k) (by omega)) true hdr.out).mono ?_; exact fun _ _ h => ⟨h.1, st hw' h.2 (Below.refl _ _)⟩)
                          go_big_quiet_on)
                     try simp only [Act.put, List.setIfInBounds_toArray, List.set_cons_zero, List.set_cons_succ]))
                refine wpQuiet_nil ?_
                intro V HV
                have BV := hide (st BW.out HV (Below.refl _ _))
                clear HV
                go_wp2_with fail
                go_ret
                exact ⟨rfl, BV.out⟩
        · obtain ⟨b1, b2⟩ := writeP_bad hE0
          obtain ⟨E1, hE1⟩ : ∃ Z, writeE ps [] x z = Z := ⟨_, rfl⟩
          have hq : (E1 != 0) = true := by rw [← hE1]; simpa using hE0
          have hq2 : ¬ E1 = 0 := by rw [← hE1]; exact hE0
          obtain ⟨Z, hZ⟩ : ∃ Z, readB ps [] x = Z := ⟨_, rfl⟩
          have hP1 := hide b1
          have hW1 := hide b2
          replace hE1 := hide hE1
          replace hZ := hide hZ
          clear hE0 b1 b2
          by_cases hr0 : readE ps [] x = 0
          · have hE := hide hr0
            clear hr0
            obtain ⟨E, hEz⟩ : ∃ E : Int, E = 0 := ⟨0, rfl⟩
            have g0 : Below w.heap.size w (w.alloc (.cells #[.slice A n c, .slice B m d] 25)) := by go_grown
            have V0 := Var.new w A B n c m d
            obtain ⟨b0, hb0⟩ : ∃ b, b = w.heap.size := ⟨_, rfl⟩
            rw [← hb0] at V0
            replace P := hide (P.below g0)
            replace L := hide (L.below g0)
            replace U := hide (U.below g0)
            replace V0 := hide V0
            have BW := hide g0
            go_enter Try.func8, Try.ntmps8
            go_wp2_with fail
            rw [← hb0]
            generalize w.alloc (.cells #[.slice A n c, .slice B m d] 25) = wa at *
            clear g0 hb0
            have x0 := V0.out.c0
            have y0 := V0.out.c1
            have l0 := V0.out.lt
            go_wp2_with fail
            with_reducible refine (few_any P.out L.out true hfew.out).mono ?_
            rintro e u1 ⟨rfl, hb⟩
            replace BW := hide (st BW.out hb (Below.refl _ _))
            replace V0 := hide (V0.out.below hb)
            replace P := hide (P.out.below hb)
            replace L := hide (L.out.below hb)
            replace U := hide (U.out.below hb)
            clear hb
            clear x0 y0 l0
            have x0 := V0.out.c0
            have y0 := V0.out.c1
            have l0 := V0.out.lt
            go_wp2_with fail
            with_reducible refine (right_any P.out L.out true hrt.out).mono ?_
            rintro e u2 ⟨rfl, hb⟩
            replace BW := hide (st BW.out hb (Below.refl _ _))
            replace V0 := hide (V0.out.below hb)
            replace P := hide (P.out.below hb)
            replace L := hide (L.out.below hb)
            replace U := hide (U.out.below hb)
            clear hb
            clear x0 y0 l0
            have x0 := V0.out.c0
            have y0 := V0.out.c1
            have l0 := V0.out.lt
            go_wp2_with fail
            with_reducible refine (sync_any (ws := []) P.out (by omega)).mono ?_
            rintro e u3 ⟨A3, n3, c3, B3, m3, d3, rfl, P3, L3, hb⟩
            obtain rfl : n = n3 := by have := P3.1; rw [hpl.out] at this; exact this
            obtain rfl : 0 = m3 := L3.1
            have DD : Below u2.heap.size u2 (u3.alloc (.cells #[.slice A3 n c3, .slice B3 0 d3] 25)) := hb.alloc hb.size _
            have gg : Below u3.heap.size u3 (u3.alloc (.cells #[.slice A3 n c3, .slice B3 0 d3] 25)) := by go_grown
            have V3 := hide (Var.new u3 A3 B3 n c3 0 d3)
            replace P3 := hide (P3.below gg)
            replace L3 := hide (L3.below gg)
            replace BW := hide (st BW.out DD (Below.refl _ _))
            replace V0 := hide (V0.out.below DD)
            replace P := hide (P.out.below DD)
            replace L := hide (L.out.below DD)
            replace U := hide (U.out.below DD)
            clear x0 y0 l0
            clear hb DD gg
            have x0 := V0.out.c0
            have y0 := V0.out.c1
            have l0 := V0.out.lt
            have x1 := V3.out.c0
            have y1 := V3.out.c1
            have l1 := V3.out.lt
            go_wp2_with fail
            obtain ⟨b3, hbk⟩ : ∃ b, b = u3.heap.size := ⟨_, rfl⟩
            rw [← hbk] at V3 x1 y1 l1 ⊢
            clear hbk
            generalize u3.alloc (.cells #[.slice A3 n c3, .slice B3 0 d3] 25) = U3 at *
            go_wp2_with fail
            with_reducible refine (read_any P3.out L3.out x Z 0 hZ.out hE.out).mono ?_
            rintro e u4 ⟨A7, n7, c7, rfl, R1, hb⟩
            replace BW := hide (st BW.out hb (Below.refl _ _))
            replace V0 := hide (V0.out.below hb)
            replace P := hide (P.out.below hb)
            replace L := hide (L.out.below hb)
            replace U := hide (U.out.below hb)
            replace V3 := hide (V3.out.below hb)
            replace P3 := hide (P3.out.below hb)
            replace L3 := hide (L3.out.below hb)
            replace R1 := hide R1
            clear hb
            clear x0 y0 l0 x1 y1 l1
            have x0 := V0.out.c0
            have y0 := V0.out.c1
            have l0 := V0.out.lt
            have x1 := V3.out.c0
            have y1 := V3.out.c1
            have l1 := V3.out.lt
            go_wp2_with fail
            with_reducible refine (write_any P3.out L3.out U.out (by omega) x [] [] E1 hP1.out hW1.out hE1.out).mono ?_
            rintro e u5 ⟨A5, n5, c5, B5, m5, d5, rfl, P5, L5, hb⟩
            obtain rfl : 0 = n5 := P5.1
            obtain rfl : 0 = m5 := L5.1
            have DD : Below u4.heap.size u4 (u5.alloc (.cells #[.slice A5 0 c5, .slice B5 0 d5] 25)) := hb.alloc hb.size _
            have gg : Below u5.heap.size u5 (u5.alloc (.cells #[.slice A5 0 c5, .slice B5 0 d5] 25)) := by go_grown
            have V5 := hide (Var.new u5 A5 B5 0 c5 0 d5)
            replace P5 := hide (P5.below gg)
            replace L5 := hide (L5.below gg)
            replace BW := hide (st BW.out DD (Below.refl _ _))
            replace V0 := hide (V0.out.below DD)
            replace P := hide (P.out.below DD)
            replace L := hide (L.out.below DD)
            replace U := hide (U.out.below DD)
            replace V3 := hide (V3.out.below DD)
            replace P3 := hide (P3.out.below DD)
            replace L3 := hide (L3.out.below DD)
            replace R1 := hide (R1.out.below DD)
            clear x0 y0 l0 x1 y1 l1
            clear hb DD gg
            have x0 := V0.out.c0
            have y0 := V0.out.c1
            have l0 := V0.out.lt
            have x1 := V3.out.c0
            have y1 := V3.out.c1
            have l1 := V3.out.lt
            have x2 := V5.out.c0
            have y2 := V5.out.c1
            have l2 := V5.out.lt
            go_wp2_with fail
            obtain ⟨b5, hbk⟩ : ∃ b, b = u5.heap.size := ⟨_, rfl⟩
            rw [← hbk] at V5 x2 y2 l2 ⊢
            have hs5 : Hid ((u5.alloc (.cells #[.slice A5 0 c5, .slice B5 0 d5] 25)).heap.size = b5 + 1) := hide (by rw [hbk]; simp)
            clear hbk
            generalize u5.alloc (.cells #[.slice A5 0 c5, .slice B5 0 d5] 25) = U5 at *
            go_wp2_with fail
            with_reducible refine (alive_any _).mono ?_
            rintro e u6 ⟨rfl, hb⟩
            replace BW := hide (st BW.out hb (Below.refl _ _))
            replace V0 := hide (V0.out.below hb)
            replace P := hide (P.out.below hb)
            replace L := hide (L.out.below hb)
            replace U := hide (U.out.below hb)
            replace V3 := hide (V3.out.below hb)
            replace P3 := hide (P3.out.below hb)
            replace L3 := hide (L3.out.below hb)
            replace R1 := hide (R1.out.below hb)
            replace V5 := hide (V5.out.below hb)
            replace P5 := hide (P5.out.below hb)
            replace L5 := hide (L5.out.below hb)
            clear hb
            clear x0 y0 l0 x1 y1 l1 x2 y2 l2
            have x0 := V0.out.c0
            have y0 := V0.out.c1
            have l0 := V0.out.lt
            have x1 := V3.out.c0
            have y1 := V3.out.c1
            have l1 := V3.out.lt
            have x2 := V5.out.c0
            have y2 := V5.out.c1
            have l2 := V5.out.lt
            go_wp2_with fail
            go_ret
            exact ⟨rfl, BW.out⟩
          · obtain ⟨E, hE⟩ : ∃ E, readE ps [] x = E := ⟨_, rfl⟩
            have hp : (E != 0) = true := by rw [← hE]; simpa using hr0
            have hp2 : ¬ E = 0 := by rw [← hE]; exact hr0
            replace hE := hide hE
            clear hr0
            have g0 : Below w.heap.size w (w.alloc (.cells #[.slice A n c, .slice B m d] 25)) := by go_grown
            have V0 := Var.new w A B n c m d
            obtain ⟨b0, hb0⟩ : ∃ b, b = w.heap.size := ⟨_, rfl⟩
            rw [← hb0] at V0
            replace P := hide (P.below g0)
            replace L := hide (L.below g0)
            replace U := hide (U.below g0)
            replace V0 := hide V0
            have BW := hide g0
            go_enter Try.func8, Try.ntmps8
            go_wp2_with fail
            rw [← hb0]
            generalize w.alloc (.cells #[.slice A n c, .slice B m d] 25) = wa at *
            clear g0 hb0
            have x0 := V0.out.c0
            have y0 := V0.out.c1
            have l0 := V0.out.lt
            go_wp2_with fail
            with_reducible refine (few_any P.out L.out true hfew.out).mono ?_
            rintro e u1 ⟨rfl, hb⟩
            replace BW := hide (st BW.out hb (Below.refl _ _))
            replace V0 := hide (V0.out.below hb)
            replace P := hide (P.out.below hb)
            replace L := hide (L.out.below hb)
            replace U := hide (U.out.below hb)
            clear hb
            clear x0 y0 l0
            have x0 := V0.out.c0
            have y0 := V0.out.c1
            have l0 := V0.out.lt
            go_wp2_with fail
            with_reducible refine (right_any P.out L.out true hrt.out).mono ?_
            rintro e u2 ⟨rfl, hb⟩
            replace BW := hide (st BW.out hb (Below.refl _ _))
            replace V0 := hide (V0.out.below hb)
            replace P := hide (P.out.below hb)
            replace L := hide (L.out.below hb)
            replace U := hide (U.out.below hb)
            clear hb
            clear x0 y0 l0
            have x0 := V0.out.c0
            have y0 := V0.out.c1
            have l0 := V0.out.lt
            go_wp2_with fail
            with_reducible refine (sync_any (ws := []) P.out (by omega)).mono ?_
            rintro e u3 ⟨A3, n3, c3, B3, m3, d3, rfl, P3, L3, hb⟩
            obtain rfl : n = n3 := by have := P3.1; rw [hpl.out] at this; exact this
            obtain rfl : 0 = m3 := L3.1
            have DD : Below u2.heap.size u2 (u3.alloc (.cells #[.slice A3 n c3, .slice B3 0 d3] 25)) := hb.alloc hb.size _
            have gg : Below u3.heap.size u3 (u3.alloc (.cells #[.slice A3 n c3, .slice B3 0 d3] 25)) := by go_grown
            have V3 := hide (Var.new u3 A3 B3 n c3 0 d3)
            replace P3 := hide (P3.below gg)
            replace L3 := hide (L3.below gg)
            replace BW := hide (st BW.out DD (Below.refl _ _))
            replace V0 := hide (V0.out.below DD)
            replace P := hide (P.out.below DD)
            replace L := hide (L.out.below DD)
            replace U := hide (U.out.below DD)
            clear x0 y0 l0
            clear hb DD gg
            have x0 := V0.out.c0
            have y0 := V0.out.c1
            have l0 := V0.out.lt
            have x1 := V3.out.c0
            have y1 := V3.out.c1
            have l1 := V3.out.lt
            go_wp2_with fail
            obtain ⟨b3, hbk⟩ : ∃ b, b = u3.heap.size := ⟨_, rfl⟩
            rw [← hbk] at V3 x1 y1 l1 ⊢
            clear hbk
            generalize u3.alloc (.cells #[.slice A3 n c3, .slice B3 0 d3] 25) = U3 at *
            go_wp2_with fail
            with_reducible refine (read_any P3.out L3.out x Z E hZ.out hE.out).mono ?_
            rintro e u4 ⟨A7, n7, c7, rfl, R1, hb⟩
            replace BW := hide (st BW.out hb (Below.refl _ _))
            replace V0 := hide (V0.out.below hb)
            replace P := hide (P.out.below hb)
            replace L := hide (L.out.below hb)
            replace U := hide (U.out.below hb)
            replace V3 := hide (V3.out.below hb)
            replace P3 := hide (P3.out.below hb)
            replace L3 := hide (L3.out.below hb)
            replace R1 := hide R1
            clear hb
            clear x0 y0 l0 x1 y1 l1
            have x0 := V0.out.c0
            have y0 := V0.out.c1
            have l0 := V0.out.lt
            have x1 := V3.out.c0
            have y1 := V3.out.c1
            have l1 := V3.out.lt
            go_wp2_with fail
            with_reducible refine (write_any P3.out L3.out U.out (by omega) x [] [] E1 hP1.out hW1.out hE1.out).mono ?_
            rintro e u5 ⟨A5, n5, c5, B5, m5, d5, rfl, P5, L5, hb⟩
            obtain rfl : 0 = n5 := P5.1
            obtain rfl : 0 = m5 := L5.1
            have DD : Below u4.heap.size u4 (u5.alloc (.cells #[.slice A5 0 c5, .slice B5 0 d5] 25)) := hb.alloc hb.size _
            have gg : Below u5.heap.size u5 (u5.alloc (.cells #[.slice A5 0 c5, .slice B5 0 d5] 25)) := by go_grown
            have V5 := hide (Var.new u5 A5 B5 0 c5 0 d5)
            replace P5 := hide (P5.below gg)
            replace L5 := hide (L5.below gg)
            replace BW := hide (st BW.out DD (Below.refl _ _))
            replace V0 := hide (V0.out.below DD)
            replace P := hide (P.out.below DD)
            replace L := hide (L.out.below DD)
            replace U := hide (U.out.below DD)
            replace V3 := hide (V3.out.below DD)
            replace P3 := hide (P3.out.below DD)
            replace L3 := hide (L3.out.below DD)
            replace R1 := hide (R1.out.below DD)
            clear x0 y0 l0 x1 y1 l1
            clear hb DD gg
            have x0 := V0.out.c0
            have y0 := V0.out.c1
            have l0 := V0.out.lt
            have x1 := V3.out.c0
            have y1 := V3.out.c1
            have l1 := V3.out.lt
            have x2 := V5.out.c0
            have y2 := V5.out.c1
            have l2 := V5.out.lt
            go_wp2_with fail
            obtain ⟨b5, hbk⟩ : ∃ b, b = u5.heap.size := ⟨_, rfl⟩
            rw [← hbk] at V5 x2 y2 l2 ⊢
            have hs5 : Hid ((u5.alloc (.cells #[.slice A5 0 c5, .slice B5 0 d5] 25)).heap.size = b5 + 1) := hide (by rw [hbk]; simp)
            clear hbk
            generalize u5.alloc (.cells #[.slice A5 0 c5, .slice B5 0 d5] 25) = U5 at *
            go_wp2_with fail
            with_reducible refine (alive_any _).mono ?_
            rintro e u6 ⟨rfl, hb⟩
            replace BW := hide (st BW.out hb (Below.refl _ _))
            replace V0 := hide (V0.out.below hb)
            replace P := hide (P.out.below hb)
            replace L := hide (L.out.below hb)
            replace U := hide (U.out.below hb)
            replace V3 := hide (V3.out.below hb)
            replace P3 := hide (P3.out.below hb)
            replace L3 := hide (L3.out.below hb)
            replace R1 := hide (R1.out.below hb)
            replace V5 := hide (V5.out.below hb)
            replace P5 := hide (P5.out.below hb)
            replace L5 := hide (L5.out.below hb)
            clear hb
            clear x0 y0 l0 x1 y1 l1 x2 y2 l2
            have x0 := V0.out.c0
            have y0 := V0.out.c1
            have l0 := V0.out.lt
            have x1 := V3.out.c0
            have y1 := V3.out.c1
            have l1 := V3.out.lt
            have x2 := V5.out.c0
            have y2 := V5.out.c1
            have l2 := V5.out.lt
            go_wp2_with fail
            go_ret
            exact ⟨rfl, BW.out⟩
end Go.Proofs.Ytfmgmpelgnickaa

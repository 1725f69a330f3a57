/-
  Chapter 31: the walk over the law PageReads: it returns true.
-/
import Derived.Test.YtfmgmpelgnickaaAlive
import Derived.Test.YtfmgmpelgnickaaOpen
namespace Go.Proofs.Ytfmgmpelgnickaa
open Go.RowKit Plain
set_option linter.unusedSimpArgs false
set_option linter.unusedVariables false
attribute [local go_sem ↓] Go.wp_at_zero Go.wp_at_succ

theorem reads_plain {ps : List Pg} {ws : List Od} {z : Pg} {x : Int} (h : writeE ps ws x z = 0) : readE (writeP ps ws x z) (writeW ps ws x z) x = 0 ∧ readB (writeP ps ws x z) (writeW ps ws x z) x = z ∧ rightB (writeP ps ws x z) (writeW ps ws x z) = true ∧
    (∀ y, readE (writeP ps ws x z) (writeW ps ws x z) y = readE ps ws y) ∧ (∀ y, y ≠ x → readB (writeP ps ws x z) (writeW ps ws x z) y = readB ps ws y) := by
  obtain ⟨R, hz, h0, h1⟩ := writeE_zero.1 h
  have eP : writeP ps ws x z = ps.set x.toNat z := by unfold writeP; rw [if_pos h]
  have eW : writeW ps ws x z = ws ++ [(x, ps.getD x.toNat [])] := by unfold writeW; rw [if_pos h]
  rw [eP, eW]
  obtain ⟨a, rfl⟩ : ∃ a : Nat, x = (a : Int) := ⟨x.toNat, by omega⟩
  rw [Int.toNat_natCast]
  have ha : a < ps.length := by omega
  have R1 := write_right R hz ha
  have r1 := (right_iff _ _).2 R1
  have r0 := (right_iff _ _).2 R
  have e0 : readE (ps.set a z) (ws ++ [((a : Int), ps.getD a [])]) (a : Int) = 0 := readE_zero.2 ⟨R1, by omega, by rw [List.length_set]; exact h1⟩
  have ee : ∀ y, readE (ps.set a z) (ws ++ [((a : Int), ps.getD a [])]) y = readE ps ws y := fun y => by
    unfold readE
    rw [r1, r0, List.length_set]
  refine ⟨e0, ?_, r1, ee, fun y hy => ?_⟩
  · unfold readB
    rw [if_pos e0, Int.toNat_natCast, getD_set_same ha]
  · unfold readB
    rw [ee]
    by_cases h2 : readE ps ws y = 0
    · obtain ⟨_, q0, q1⟩ := readE_zero.1 h2
      rw [if_pos h2, if_pos h2, getD_set_other (by omega)]
    · rw [if_neg h2, if_neg h2]
theorem writeP_bad {ps : List Pg} {ws : List Od} {z : Pg} {x : Int} (h : writeE ps ws x z ≠ 0) : writeP ps ws x z = [] ∧ writeW ps ws x z = [] := by
  unfold writeP writeW; rw [if_neg h, if_neg h]; exact ⟨rfl, rfl⟩
set_option maxRecDepth 10000 in
set_option maxHeartbeats 16000000 in
theorem reads_walk {A B C : Option Addr} {n c m d l e : Nat} {ps : List Pg} {ws : List Od} {z : Pg} {w : World} (P : Pags w A n c ps) (L : Olds w B m d ws) (U : Byt w C l e z) (x y : Int) :
    Calls Try.prog 5 #[.agg #[.slice A n c, .slice B m d], .int .i64 x, .slice C l e, .int .i64 y] w fun e w' => e = .returned (.bool true) ∧ Below w.heap.size w w' := by
  have hl := U.max
  have hpl := hide P.1
  have hwl := hide L.1
  cases hfew : fewB ps ws with
  | false =>
    replace hfew := hide hfew
    have g0 : Below w.heap.size w (w.alloc (.cells #[.slice A n c, .slice B m d] 25)) := by go_grown
    have V0 := Var.new w A B n c m d
    obtain ⟨b0, hb0⟩ : ∃ b, b = w.heap.size := ⟨_, rfl⟩
    rw [← hb0] at V0
    replace P := hide (P.below g0)
    replace L := hide (L.below g0)
    replace U := hide (U.below g0)
    replace V0 := hide V0
    have BW := hide g0
    go_enter Try.func5, Try.ntmps5
    go_wp2_with fail
    rw [← hb0]
    generalize w.alloc (.cells #[.slice A n c, .slice B m d] 25) = wa at *
    clear g0 hb0
    have x0 := V0.out.c0
    have y0 := V0.out.c1
    have l0 := V0.out.lt
    go_wp2_with fail
    with_reducible refine (few_any P.out L.out false hfew.out).mono ?_
    rintro e u1 ⟨rfl, hb⟩
    replace BW := hide (st BW.out hb (Below.refl _ _))
    replace V0 := hide (V0.out.below hb)
    replace P := hide (P.out.below hb)
    replace L := hide (L.out.below hb)
    replace U := hide (U.out.below hb)
    clear hb
    clear x0 y0 l0
    have x0 := V0.out.c0
    have y0 := V0.out.c1
    have l0 := V0.out.lt
    go_wp2_with fail
    with_reducible refine (alive_any _).mono ?_
    rintro e u2 ⟨rfl, hb⟩
    replace BW := hide (st BW.out hb (Below.refl _ _))
    replace V0 := hide (V0.out.below hb)
    replace P := hide (P.out.below hb)
    replace L := hide (L.out.below hb)
    replace U := hide (U.out.below hb)
    clear hb
    clear x0 y0 l0
    have x0 := V0.out.c0
    have y0 := V0.out.c1
    have l0 := V0.out.lt
    go_wp2_with fail
    go_ret
    exact ⟨rfl, BW.out⟩
  | true =>
    have hn : n < 50 := by have := (few_small hfew).1; rw [hpl.out] at this; exact this
    have hm : m < 50 := by have := (few_small hfew).2; rw [hwl.out] at this; exact this
    replace hfew := hide hfew
    by_cases hl1 : 600 < l
    · have hlI : (600 : Int) < (l : Int) := by omega
      have g0 : Below w.heap.size w (w.alloc (.cells #[.slice A n c, .slice B m d] 25)) := by go_grown
      have V0 := Var.new w A B n c m d
      obtain ⟨b0, hb0⟩ : ∃ b, b = w.heap.size := ⟨_, rfl⟩
      rw [← hb0] at V0
      replace P := hide (P.below g0)
      replace L := hide (L.below g0)
      replace U := hide (U.below g0)
      replace V0 := hide V0
      have BW := hide g0
      go_enter Try.func5, Try.ntmps5
      go_wp2_with fail
      rw [← hb0]
      generalize w.alloc (.cells #[.slice A n c, .slice B m d] 25) = wa at *
      clear g0 hb0
      have x0 := V0.out.c0
      have y0 := V0.out.c1
      have l0 := V0.out.lt
      go_wp2_with fail
      with_reducible refine (few_any P.out L.out true hfew.out).mono ?_
      rintro e u1 ⟨rfl, hb⟩
      replace BW := hide (st BW.out hb (Below.refl _ _))
      replace V0 := hide (V0.out.below hb)
      replace P := hide (P.out.below hb)
      replace L := hide (L.out.below hb)
      replace U := hide (U.out.below hb)
      clear hb
      clear x0 y0 l0
      have x0 := V0.out.c0
      have y0 := V0.out.c1
      have l0 := V0.out.lt
      go_wp2_with fail
      with_reducible refine (alive_any _).mono ?_
      rintro e u2 ⟨rfl, hb⟩
      replace BW := hide (st BW.out hb (Below.refl _ _))
      replace V0 := hide (V0.out.below hb)
      replace P := hide (P.out.below hb)
      replace L := hide (L.out.below hb)
      replace U := hide (U.out.below hb)
      clear hb
      clear x0 y0 l0
      have x0 := V0.out.c0
      have y0 := V0.out.c1
      have l0 := V0.out.lt
      go_wp2_with fail
      go_ret
      exact ⟨rfl, BW.out⟩
    · have hlI : ¬ (600 : Int) < (l : Int) := by omega
      by_cases hE0 : writeE ps ws x z = 0
      · obtain ⟨h1, h2, h3, h4, h5⟩ := reads_plain hE0
        obtain ⟨P1, hP1⟩ : ∃ Z, writeP ps ws x z = Z := ⟨_, rfl⟩
        obtain ⟨W1, hW1⟩ : ∃ Z, writeW ps ws x z = Z := ⟨_, rfl⟩
        rw [hP1, hW1] at h1 h2 h3 h4 h5
        obtain ⟨E, hE⟩ : ∃ E, readE ps ws y = E := ⟨_, rfl⟩
        obtain ⟨Z, hZ⟩ : ∃ Z, readB ps ws y = Z := ⟨_, rfl⟩
        obtain ⟨Z2, hZ2⟩ : ∃ Z, readB P1 W1 y = Z := ⟨_, rfl⟩
        replace h4 := h4 y
        rw [hE] at h4
        have h6 : y ≠ x → decide (Z = Z2) = true := fun q => by have := h5 y q; rw [hZ, hZ2] at this; rw [this]; simp
        clear h5
        have h5 := hide hZ2
        have hE1 := hide hE0
        replace h1 := hide h1
        replace h2 := hide h2
        replace h3 := hide h3
        replace h4 := hide h4
        replace hZ := hide hZ
        replace hE := hide hE
        replace hP1 := hide hP1
        replace hW1 := hide hW1
        clear hE0 hZ2
        by_cases hyx : y = x
        · subst hyx
          clear h6
          have g0 : Below w.heap.size w (w.alloc (.cells #[.slice A n c, .slice B m d] 25)) := by go_grown
          have V0 := Var.new w A B n c m d
          obtain ⟨b0, hb0⟩ : ∃ b, b = w.heap.size := ⟨_, rfl⟩
          rw [← hb0] at V0
          replace P := hide (P.below g0)
          replace L := hide (L.below g0)
          replace U := hide (U.below g0)
          replace V0 := hide V0
          have BW := hide g0
          go_enter Try.func5, Try.ntmps5
          go_wp2_with fail
          rw [← hb0]
          generalize w.alloc (.cells #[.slice A n c, .slice B m d] 25) = wa at *
          clear g0 hb0
          have x0 := V0.out.c0
          have y0 := V0.out.c1
          have l0 := V0.out.lt
          go_wp2_with fail
          with_reducible refine (few_any P.out L.out true hfew.out).mono ?_
          rintro e u1 ⟨rfl, hb⟩
          replace BW := hide (st BW.out hb (Below.refl _ _))
          replace V0 := hide (V0.out.below hb)
          replace P := hide (P.out.below hb)
          replace L := hide (L.out.below hb)
          replace U := hide (U.out.below hb)
          clear hb
          clear x0 y0 l0
          have x0 := V0.out.c0
          have y0 := V0.out.c1
          have l0 := V0.out.lt
          go_wp2_with fail
          with_reducible refine (write_any P.out L.out U.out (by omega) y P1 W1 0 hP1.out hW1.out hE1.out).mono ?_
          rintro e u2 ⟨A2, n2, c2, B2, m2, d2, rfl, P2, L2, hb⟩
          have DD : Below u1.heap.size u1 (u2.alloc (.cells #[.slice A2 n2 c2, .slice B2 m2 d2] 25)) := hb.alloc hb.size _
          have gg : Below u2.heap.size u2 (u2.alloc (.cells #[.slice A2 n2 c2, .slice B2 m2 d2] 25)) := by go_grown
          have V2 := hide (Var.new u2 A2 B2 n2 c2 m2 d2)
          replace P2 := hide (P2.below gg)
          replace L2 := hide (L2.below gg)
          replace BW := hide (st BW.out DD (Below.refl _ _))
          replace V0 := hide (V0.out.below DD)
          replace P := hide (P.out.below DD)
          replace L := hide (L.out.below DD)
          replace U := hide (U.out.below DD)
          clear x0 y0 l0
          clear hb DD gg
          have x0 := V0.out.c0
          have y0 := V0.out.c1
          have l0 := V0.out.lt
          have x1 := V2.out.c0
          have y1 := V2.out.c1
          have l1 := V2.out.lt
          go_wp2_with fail
          obtain ⟨b2, hbk⟩ : ∃ b, b = u2.heap.size := ⟨_, rfl⟩
          rw [← hbk] at V2 x1 y1 l1 ⊢
          clear hbk
          generalize u2.alloc (.cells #[.slice A2 n2 c2, .slice B2 m2 d2] 25) = U2 at *
          go_wp2_with fail
          with_reducible refine (read_any P2.out L2.out y z 0 h2.out h1.out).mono ?_
          rintro e u3 ⟨A7, n7, c7, rfl, R1, hb⟩
          replace BW := hide (st BW.out hb (Below.refl _ _))
          replace V0 := hide (V0.out.below hb)
          replace P := hide (P.out.below hb)
          replace L := hide (L.out.below hb)
          replace U := hide (U.out.below hb)
          replace V2 := hide (V2.out.below hb)
          replace P2 := hide (P2.out.below hb)
          replace L2 := hide (L2.out.below hb)
          replace R1 := hide R1
          clear hb
          clear x0 y0 l0 x1 y1 l1
          have x0 := V0.out.c0
          have y0 := V0.out.c1
          have l0 := V0.out.lt
          have x1 := V2.out.c0
          have y1 := V2.out.c1
          have l1 := V2.out.lt
          go_wp2_with fail
          with_reducible refine (read_any P.out L.out y Z E hZ.out hE.out).mono ?_
          rintro e u4 ⟨A8, n8, c8, rfl, R2, hb⟩
          replace BW := hide (st BW.out hb (Below.refl _ _))
          replace V0 := hide (V0.out.below hb)
          replace P := hide (P.out.below hb)
          replace L := hide (L.out.below hb)
          replace U := hide (U.out.below hb)
          replace V2 := hide (V2.out.below hb)
          replace P2 := hide (P2.out.below hb)
          replace L2 := hide (L2.out.below hb)
          replace R1 := hide (R1.out.below hb)
          replace R2 := hide R2
          clear hb
          clear x0 y0 l0 x1 y1 l1
          have x0 := V0.out.c0
          have y0 := V0.out.c1
          have l0 := V0.out.lt
          have x1 := V2.out.c0
          have y1 := V2.out.c1
          have l1 := V2.out.lt
          go_wp2_with fail
          with_reducible refine (read_any P2.out L2.out y Z2 E h5.out h4.out).mono ?_
          rintro e u5 ⟨A9, n9, c9, rfl, R3, hb⟩
          replace BW := hide (st BW.out hb (Below.refl _ _))
          replace V0 := hide (V0.out.below hb)
          replace P := hide (P.out.below hb)
          replace L := hide (L.out.below hb)
          replace U := hide (U.out.below hb)
          replace V2 := hide (V2.out.below hb)
          replace P2 := hide (P2.out.below hb)
          replace L2 := hide (L2.out.below hb)
          replace R1 := hide (R1.out.below hb)
          replace R2 := hide (R2.out.below hb)
          replace R3 := hide R3
          clear hb
          clear x0 y0 l0 x1 y1 l1
          have x0 := V0.out.c0
          have y0 := V0.out.c1
          have l0 := V0.out.lt
          have x1 := V2.out.c0
          have y1 := V2.out.c1
          have l1 := V2.out.lt
          go_wp2_with fail
          with_reducible refine (alive_any _).mono ?_
          rintro e u6 ⟨rfl, hb⟩
          replace BW := hide (st BW.out hb (Below.refl _ _))
          replace V0 := hide (V0.out.below hb)
          replace P := hide (P.out.below hb)
          replace L := hide (L.out.below hb)
          replace U := hide (U.out.below hb)
          replace V2 := hide (V2.out.below hb)
          replace P2 := hide (P2.out.below hb)
          replace L2 := hide (L2.out.below hb)
          replace R1 := hide (R1.out.below hb)
          replace R2 := hide (R2.out.below hb)
          replace R3 := hide (R3.out.below hb)
          clear hb
          clear x0 y0 l0 x1 y1 l1
          have x0 := V0.out.c0
          have y0 := V0.out.c1
          have l0 := V0.out.lt
          have x1 := V2.out.c0
          have y1 := V2.out.c1
          have l1 := V2.out.lt
          go_wp2_with fail
          with_reducible refine (bytes_to R1.out U.out true (by simp)).mono ?_
          rintro e u7 ⟨rfl, hb⟩
          replace BW := hide (st BW.out hb (Below.refl _ _))
          replace V0 := hide (V0.out.below hb)
          replace P := hide (P.out.below hb)
          replace L := hide (L.out.below hb)
          replace U := hide (U.out.below hb)
          replace V2 := hide (V2.out.below hb)
          replace P2 := hide (P2.out.below hb)
          replace L2 := hide (L2.out.below hb)
          replace R1 := hide (R1.out.below hb)
          replace R2 := hide (R2.out.below hb)
          replace R3 := hide (R3.out.below hb)
          clear hb
          clear x0 y0 l0 x1 y1 l1
          have x0 := V0.out.c0
          have y0 := V0.out.c1
          have l0 := V0.out.lt
          have x1 := V2.out.c0
          have y1 := V2.out.c1
          have l1 := V2.out.lt
          go_wp2_with fail
          with_reducible refine (right_any P2.out L2.out true h3.out).mono ?_
          rintro e u8 ⟨rfl, hb⟩
          replace BW := hide (st BW.out hb (Below.refl _ _))
          replace V0 := hide (V0.out.below hb)
          replace P := hide (P.out.below hb)
          replace L := hide (L.out.below hb)
          replace U := hide (U.out.below hb)
          replace V2 := hide (V2.out.below hb)
          replace P2 := hide (P2.out.below hb)
          replace L2 := hide (L2.out.below hb)
          replace R1 := hide (R1.out.below hb)
          replace R2 := hide (R2.out.below hb)
          replace R3 := hide (R3.out.below hb)
          clear hb
          clear x0 y0 l0 x1 y1 l1
          have x0 := V0.out.c0
          have y0 := V0.out.c1
          have l0 := V0.out.lt
          have x1 := V2.out.c0
          have y1 := V2.out.c1
          have l1 := V2.out.lt
          go_wp2_with fail
          go_ret
          exact ⟨rfl, BW.out⟩
        · replace h6 := hide (h6 hyx)
          have hq : (y == x) = false := by simpa using hyx
          clear hyx
          have g0 : Below w.heap.size w (w.alloc (.cells #[.slice A n c, .slice B m d] 25)) := by go_grown
          have V0 := Var.new w A B n c m d
          obtain ⟨b0, hb0⟩ : ∃ b, b = w.heap.size := ⟨_, rfl⟩
          rw [← hb0] at V0
          replace P := hide (P.below g0)
          replace L := hide (L.below g0)
          replace U := hide (U.below g0)
          replace V0 := hide V0
          have BW := hide g0
          go_enter Try.func5, Try.ntmps5
          go_wp2_with fail
          rw [← hb0]
          generalize w.alloc (.cells #[.slice A n c, .slice B m d] 25) = wa at *
          clear g0 hb0
          have x0 := V0.out.c0
          have y0 := V0.out.c1
          have l0 := V0.out.lt
          go_wp2_with fail
          with_reducible refine (few_any P.out L.out true hfew.out).mono ?_
          rintro e u1 ⟨rfl, hb⟩
          replace BW := hide (st BW.out hb (Below.refl _ _))
          replace V0 := hide (V0.out.below hb)
          replace P := hide (P.out.below hb)
          replace L := hide (L.out.below hb)
          replace U := hide (U.out.below hb)
          clear hb
          clear x0 y0 l0
          have x0 := V0.out.c0
          have y0 := V0.out.c1
          have l0 := V0.out.lt
          go_wp2_with fail
          with_reducible refine (write_any P.out L.out U.out (by omega) x P1 W1 0 hP1.out hW1.out hE1.out).mono ?_
          rintro e u2 ⟨A2, n2, c2, B2, m2, d2, rfl, P2, L2, hb⟩
          have DD : Below u1.heap.size u1 (u2.alloc (.cells #[.slice A2 n2 c2, .slice B2 m2 d2] 25)) := hb.alloc hb.size _
          have gg : Below u2.heap.size u2 (u2.alloc (.cells #[.slice A2 n2 c2, .slice B2 m2 d2] 25)) := by go_grown
          have V2 := hide (Var.new u2 A2 B2 n2 c2 m2 d2)
          replace P2 := hide (P2.below gg)
          replace L2 := hide (L2.below gg)
          replace BW := hide (st BW.out DD (Below.refl _ _))
          replace V0 := hide (V0.out.below DD)
          replace P := hide (P.out.below DD)
          replace L := hide (L.out.below DD)
          replace U := hide (U.out.below DD)
          clear x0 y0 l0
          clear hb DD gg
          have x0 := V0.out.c0
          have y0 := V0.out.c1
          have l0 := V0.out.lt
          have x1 := V2.out.c0
          have y1 := V2.out.c1
          have l1 := V2.out.lt
          go_wp2_with fail
          obtain ⟨b2, hbk⟩ : ∃ b, b = u2.heap.size := ⟨_, rfl⟩
          rw [← hbk] at V2 x1 y1 l1 ⊢
          clear hbk
          generalize u2.alloc (.cells #[.slice A2 n2 c2, .slice B2 m2 d2] 25) = U2 at *
          go_wp2_with fail
          with_reducible refine (read_any P2.out L2.out x z 0 h2.out h1.out).mono ?_
          rintro e u3 ⟨A7, n7, c7, rfl, R1, hb⟩
          replace BW := hide (st BW.out hb (Below.refl _ _))
          replace V0 := hide (V0.out.below hb)
          replace P := hide (P.out.below hb)
          replace L := hide (L.out.below hb)
          replace U := hide (U.out.below hb)
          replace V2 := hide (V2.out.below hb)
          replace P2 := hide (P2.out.below hb)
          replace L2 := hide (L2.out.below hb)
          replace R1 := hide R1
          clear hb
          clear x0 y0 l0 x1 y1 l1
          have x0 := V0.out.c0
          have y0 := V0.out.c1
          have l0 := V0.out.lt
          have x1 := V2.out.c0
          have y1 := V2.out.c1
          have l1 := V2.out.lt
          go_wp2_with fail
          with_reducible refine (read_any P.out L.out y Z E hZ.out hE.out).mono ?_
          rintro e u4 ⟨A8, n8, c8, rfl, R2, hb⟩
          replace BW := hide (st BW.out hb (Below.refl _ _))
          replace V0 := hide (V0.out.below hb)
          replace P := hide (P.out.below hb)
          replace L := hide (L.out.below hb)
          replace U := hide (U.out.below hb)
          replace V2 := hide (V2.out.below hb)
          replace P2 := hide (P2.out.below hb)
          replace L2 := hide (L2.out.below hb)
          replace R1 := hide (R1.out.below hb)
          replace R2 := hide R2
          clear hb
          clear x0 y0 l0 x1 y1 l1
          have x0 := V0.out.c0
          have y0 := V0.out.c1
          have l0 := V0.out.lt
          have x1 := V2.out.c0
          have y1 := V2.out.c1
          have l1 := V2.out.lt
          go_wp2_with fail
          with_reducible refine (read_any P2.out L2.out y Z2 E h5.out h4.out).mono ?_
          rintro e u5 ⟨A9, n9, c9, rfl, R3, hb⟩
          replace BW := hide (st BW.out hb (Below.refl _ _))
          replace V0 := hide (V0.out.below hb)
          replace P := hide (P.out.below hb)
          replace L := hide (L.out.below hb)
          replace U := hide (U.out.below hb)
          replace V2 := hide (V2.out.below hb)
          replace P2 := hide (P2.out.below hb)
          replace L2 := hide (L2.out.below hb)
          replace R1 := hide (R1.out.below hb)
          replace R2 := hide (R2.out.below hb)
          replace R3 := hide R3
          clear hb
          clear x0 y0 l0 x1 y1 l1
          have x0 := V0.out.c0
          have y0 := V0.out.c1
          have l0 := V0.out.lt
          have x1 := V2.out.c0
          have y1 := V2.out.c1
          have l1 := V2.out.lt
          go_wp2_with fail
          with_reducible refine (alive_any _).mono ?_
          rintro e u6 ⟨rfl, hb⟩
          replace BW := hide (st BW.out hb (Below.refl _ _))
          replace V0 := hide (V0.out.below hb)
          replace P := hide (P.out.below hb)
          replace L := hide (L.out.below hb)
          replace U := hide (U.out.below hb)
          replace V2 := hide (V2.out.below hb)
          replace P2 := hide (P2.out.below hb)
          replace L2 := hide (L2.out.below hb)
          replace R1 := hide (R1.out.below hb)
          replace R2 := hide (R2.out.below hb)
          replace R3 := hide (R3.out.below hb)
          clear hb
          clear x0 y0 l0 x1 y1 l1
          have x0 := V0.out.c0
          have y0 := V0.out.c1
          have l0 := V0.out.lt
          have x1 := V2.out.c0
          have y1 := V2.out.c1
          have l1 := V2.out.lt
          go_wp2_with fail
          with_reducible refine (bytes_to R1.out U.out true (by simp)).mono ?_
          rintro e u7 ⟨rfl, hb⟩
          replace BW := hide (st BW.out hb (Below.refl _ _))
          replace V0 := hide (V0.out.below hb)
          replace P := hide (P.out.below hb)
          replace L := hide (L.out.below hb)
          replace U := hide (U.out.below hb)
          replace V2 := hide (V2.out.below hb)
          replace P2 := hide (P2.out.below hb)
          replace L2 := hide (L2.out.below hb)
          replace R1 := hide (R1.out.below hb)
          replace R2 := hide (R2.out.below hb)
          replace R3 := hide (R3.out.below hb)
          clear hb
          clear x0 y0 l0 x1 y1 l1
          have x0 := V0.out.c0
          have y0 := V0.out.c1
          have l0 := V0.out.lt
          have x1 := V2.out.c0
          have y1 := V2.out.c1
          have l1 := V2.out.lt
          go_wp2_with fail
          with_reducible refine (bytes_to R2.out R3.out true h6.out).mono ?_
          rintro e u8 ⟨rfl, hb⟩
          replace BW := hide (st BW.out hb (Below.refl _ _))
          replace V0 := hide (V0.out.below hb)
          replace P := hide (P.out.below hb)
          replace L := hide (L.out.below hb)
          replace U := hide (U.out.below hb)
          replace V2 := hide (V2.out.below hb)
          replace P2 := hide (P2.out.below hb)
          replace L2 := hide (L2.out.below hb)
          replace R1 := hide (R1.out.below hb)
          replace R2 := hide (R2.out.below hb)
          replace R3 := hide (R3.out.below hb)
          clear hb
          clear x0 y0 l0 x1 y1 l1
          have x0 := V0.out.c0
          have y0 := V0.out.c1
          have l0 := V0.out.lt
          have x1 := V2.out.c0
          have y1 := V2.out.c1
          have l1 := V2.out.lt
          go_wp2_with fail
          with_reducible refine (right_any P2.out L2.out true h3.out).mono ?_
          rintro e u9 ⟨rfl, hb⟩
          replace BW := hide (st BW.out hb (Below.refl _ _))
          replace V0 := hide (V0.out.below hb)
          replace P := hide (P.out.below hb)
          replace L := hide (L.out.below hb)
          replace U := hide (U.out.below hb)
          replace V2 := hide (V2.out.below hb)
          replace P2 := hide (P2.out.below hb)
          replace L2 := hide (L2.out.below hb)
          replace R1 := hide (R1.out.below hb)
          replace R2 := hide (R2.out.below hb)
          replace R3 := hide (R3.out.below hb)
          clear hb
          clear x0 y0 l0 x1 y1 l1
          have x0 := V0.out.c0
          have y0 := V0.out.c1
          have l0 := V0.out.lt
          have x1 := V2.out.c0
          have y1 := V2.out.c1
          have l1 := V2.out.lt
          go_wp2_with fail
          go_ret
          exact ⟨rfl, BW.out⟩
      · obtain ⟨b1, b2⟩ := writeP_bad hE0
        obtain ⟨E1, hE1⟩ : ∃ Z, writeE ps ws x z = Z := ⟨_, rfl⟩
        have hq : (E1 != 0) = true := by rw [← hE1]; simpa using hE0
        have hq2 : ¬ E1 = 0 := by rw [← hE1]; exact hE0
        have hP1 := hide b1
        have hW1 := hide b2
        replace hE1 := hide hE1
        clear hE0 b1 b2
        have g0 : Below w.heap.size w (w.alloc (.cells #[.slice A n c, .slice B m d] 25)) := by go_grown
        have V0 := Var.new w A B n c m d
        obtain ⟨b0, hb0⟩ : ∃ b, b = w.heap.size := ⟨_, rfl⟩
        rw [← hb0] at V0
        replace P := hide (P.below g0)
        replace L := hide (L.below g0)
        replace U := hide (U.below g0)
        replace V0 := hide V0
        have BW := hide g0
        go_enter Try.func5, Try.ntmps5
        go_wp2_with fail
        rw [← hb0]
        generalize w.alloc (.cells #[.slice A n c, .slice B m d] 25) = wa at *
        clear g0 hb0
        have x0 := V0.out.c0
        have y0 := V0.out.c1
        have l0 := V0.out.lt
        go_wp2_with fail
        with_reducible refine (few_any P.out L.out true hfew.out).mono ?_
        rintro e u1 ⟨rfl, hb⟩
        replace BW := hide (st BW.out hb (Below.refl _ _))
        replace V0 := hide (V0.out.below hb)
        replace P := hide (P.out.below hb)
        replace L := hide (L.out.below hb)
        replace U := hide (U.out.below hb)
        clear hb
        clear x0 y0 l0
        have x0 := V0.out.c0
        have y0 := V0.out.c1
        have l0 := V0.out.lt
        go_wp2_with fail
        with_reducible refine (write_any P.out L.out U.out (by omega) x [] [] E1 hP1.out hW1.out hE1.out).mono ?_
        rintro e u2 ⟨A2, n2, c2, B2, m2, d2, rfl, P2, L2, hb⟩
        obtain rfl : 0 = n2 := P2.1
        have DD : Below u1.heap.size u1 (u2.alloc (.cells #[.slice A2 0 c2, .slice B2 m2 d2] 25)) := hb.alloc hb.size _
        have gg : Below u2.heap.size u2 (u2.alloc (.cells #[.slice A2 0 c2, .slice B2 m2 d2] 25)) := by go_grown
        have V2 := hide (Var.new u2 A2 B2 0 c2 m2 d2)
        replace P2 := hide (P2.below gg)
        replace L2 := hide (L2.below gg)
        replace BW := hide (st BW.out DD (Below.refl _ _))
        replace V0 := hide (V0.out.below DD)
        replace P := hide (P.out.below DD)
        replace L := hide (L.out.below DD)
        replace U := hide (U.out.below DD)
        clear x0 y0 l0
        clear hb DD gg
        have x0 := V0.out.c0
        have y0 := V0.out.c1
        have l0 := V0.out.lt
        have x1 := V2.out.c0
        have y1 := V2.out.c1
        have l1 := V2.out.lt
        go_wp2_with fail
        obtain ⟨b2, hbk⟩ : ∃ b, b = u2.heap.size := ⟨_, rfl⟩
        rw [← hbk] at V2 x1 y1 l1 ⊢
        clear hbk
        generalize u2.alloc (.cells #[.slice A2 0 c2, .slice B2 m2 d2] 25) = U2 at *
        go_wp2_with fail
        with_reducible refine (alive_any _).mono ?_
        rintro e u3 ⟨rfl, hb⟩
        replace BW := hide (st BW.out hb (Below.refl _ _))
        replace V0 := hide (V0.out.below hb)
        replace P := hide (P.out.below hb)
        replace L := hide (L.out.below hb)
        replace U := hide (U.out.below hb)
        replace V2 := hide (V2.out.below hb)
        replace P2 := hide (P2.out.below hb)
        replace L2 := hide (L2.out.below hb)
        clear hb
        clear x0 y0 l0 x1 y1 l1
        have x0 := V0.out.c0
        have y0 := V0.out.c1
        have l0 := V0.out.lt
        have x1 := V2.out.c0
        have y1 := V2.out.c1
        have l1 := V2.out.lt
        go_wp2_with fail
        go_ret
        exact ⟨rfl, BW.out⟩
end Go.Proofs.Ytfmgmpelgnickaa

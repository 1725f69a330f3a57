/-
  Chapter 31: the walk over the law PageDoes: it returns true.
-/
import Derived.Test.YtfmgmpelgnickaaAlive
import Derived.Test.YtfmgmpelgnickaaOpen
namespace Go.Proofs.Ytfmgmpelgnickaa
open Go.RowKit Plain
set_option linter.unusedSimpArgs false
set_option linter.unusedVariables false
attribute [local go_sem ↓] Go.wp_at_zero Go.wp_at_succ

set_option maxRecDepth 10000 in
set_option maxHeartbeats 16000000 in
theorem does_walk {A B C : Option Addr} {n c m d l e : Nat} {ps : List Pg} {ws : List Od} {z : Pg} {w : World} (P : Pags w A n c ps) (L : Olds w B m d ws) (U : Byt w C l e z) (p : Int) (q : Int) (hq0 : 0 ≤ q) (hq1 : q ≤ 65535) :
    Calls Try.prog 3 #[.agg #[.slice A n c, .slice B m d], .int .i64 p, .slice C l e, .int .u16 q] w fun e w' => e = .returned (.bool true) ∧ Below w.heap.size w w' := by
  have hl := U.max
  have hpl := hide P.1
  have hwl := hide L.1
  cases hfew : fewB ps ws with
  | false =>
    replace hfew := hide hfew
    have g0 : Below w.heap.size w (w.alloc (.cells #[.slice A n c, .slice B m d] 25)) := by go_grown
    have V0 := Var.new w A B n c m d
    obtain ⟨b0, hb0⟩ : ∃ b, b = w.heap.size := ⟨_, rfl⟩
    rw [← hb0] at V0
    replace P := hide (P.below g0)
    replace L := hide (L.below g0)
    replace U := hide (U.below g0)
    replace V0 := hide V0
    have BW := hide g0
    go_enter Try.func3, Try.ntmps3
    go_wp2_with fail
    rw [← hb0]
    generalize w.alloc (.cells #[.slice A n c, .slice B m d] 25) = wa at *
    clear g0 hb0
    have x0 := V0.out.c0
    have y0 := V0.out.c1
    have l0 := V0.out.lt
    go_wp2_with fail
    refine (few_any P.out L.out false hfew.out).mono ?_
    rintro e u1 ⟨rfl, hb⟩
    replace BW := hide (st BW.out hb (Below.refl _ _))
    replace V0 := hide (V0.out.below hb)
    replace P := hide (P.out.below hb)
    replace L := hide (L.out.below hb)
    replace U := hide (U.out.below hb)
    clear hb
    clear x0 y0 l0
    have x0 := V0.out.c0
    have y0 := V0.out.c1
    have l0 := V0.out.lt
    go_wp2_with fail
    refine (alive_any _).mono ?_
    rintro e u2 ⟨rfl, hb⟩
    replace BW := hide (st BW.out hb (Below.refl _ _))
    replace V0 := hide (V0.out.below hb)
    replace P := hide (P.out.below hb)
    replace L := hide (L.out.below hb)
    replace U := hide (U.out.below hb)
    clear hb
    clear x0 y0 l0
    have x0 := V0.out.c0
    have y0 := V0.out.c1
    have l0 := V0.out.lt
    go_wp2_with fail
    go_ret
    exact ⟨rfl, BW.out⟩
  | true =>
    have hn : n < 50 := by have := (few_small hfew).1; rw [hpl.out] at this; exact this
    have hm : m < 50 := by have := (few_small hfew).2; rw [hwl.out] at this; exact this
    replace hfew := hide hfew
    by_cases hl1 : 600 < l
    · have hlI : (600 : Int) < (l : Int) := by omega
      have g0 : Below w.heap.size w (w.alloc (.cells #[.slice A n c, .slice B m d] 25)) := by go_grown
      have V0 := Var.new w A B n c m d
      obtain ⟨b0, hb0⟩ : ∃ b, b = w.heap.size := ⟨_, rfl⟩
      rw [← hb0] at V0
      replace P := hide (P.below g0)
      replace L := hide (L.below g0)
      replace U := hide (U.below g0)
      replace V0 := hide V0
      have BW := hide g0
      go_enter Try.func3, Try.ntmps3
      go_wp2_with fail
      rw [← hb0]
      generalize w.alloc (.cells #[.slice A n c, .slice B m d] 25) = wa at *
      clear g0 hb0
      have x0 := V0.out.c0
      have y0 := V0.out.c1
      have l0 := V0.out.lt
      go_wp2_with fail
      refine (few_any P.out L.out true hfew.out).mono ?_
      rintro e u1 ⟨rfl, hb⟩
      replace BW := hide (st BW.out hb (Below.refl _ _))
      replace V0 := hide (V0.out.below hb)
      replace P := hide (P.out.below hb)
      replace L := hide (L.out.below hb)
      replace U := hide (U.out.below hb)
      clear hb
      clear x0 y0 l0
      have x0 := V0.out.c0
      have y0 := V0.out.c1
      have l0 := V0.out.lt
      go_wp2_with fail
      refine (alive_any _).mono ?_
      rintro e u2 ⟨rfl, hb⟩
      replace BW := hide (st BW.out hb (Below.refl _ _))
      replace V0 := hide (V0.out.below hb)
      replace P := hide (P.out.below hb)
      replace L := hide (L.out.below hb)
      replace U := hide (U.out.below hb)
      clear hb
      clear x0 y0 l0
      have x0 := V0.out.c0
      have y0 := V0.out.c1
      have l0 := V0.out.lt
      go_wp2_with fail
      go_ret
      exact ⟨rfl, BW.out⟩
    · have hlI : ¬ (600 : Int) < (l : Int) := by omega
      obtain ⟨Z, hZ⟩ : ∃ Z, readB ps ws p = Z := ⟨_, rfl⟩
      obtain ⟨E, hE⟩ : ∃ E, readE ps ws p = E := ⟨_, rfl⟩
      obtain ⟨P1, hP1⟩ : ∃ Z, writeP ps ws p z = Z := ⟨_, rfl⟩
      obtain ⟨W1, hW1⟩ : ∃ Z, writeW ps ws p z = Z := ⟨_, rfl⟩
      obtain ⟨E1, hE1⟩ : ∃ Z, writeE ps ws p z = Z := ⟨_, rfl⟩
      obtain ⟨K, hK⟩ : ∃ K, q % 50 - 2 = K := ⟨_, rfl⟩
      obtain ⟨P2, hP2⟩ : ∃ Z, newP K = Z := ⟨_, rfl⟩
      obtain ⟨E2, hE2⟩ : ∃ Z, newE K = Z := ⟨_, rfl⟩
      obtain ⟨rb, hrb⟩ : ∃ b, rightB ps ws = b := ⟨_, rfl⟩
      replace hZ := hide hZ
      replace hE := hide hE
      replace hP1 := hide hP1
      replace hW1 := hide hW1
      replace hE1 := hide hE1
      replace hP2 := hide hP2
      replace hE2 := hide hE2
      replace hrb := hide hrb
      have g0 : Below w.heap.size w (w.alloc (.cells #[.slice A n c, .slice B m d] 25)) := by go_grown
      have V0 := Var.new w A B n c m d
      obtain ⟨b0, hb0⟩ : ∃ b, b = w.heap.size := ⟨_, rfl⟩
      rw [← hb0] at V0
      replace P := hide (P.below g0)
      replace L := hide (L.below g0)
      replace U := hide (U.below g0)
      replace V0 := hide V0
      have BW := hide g0
      go_enter Try.func3, Try.ntmps3
      go_wp2_with fail
      rw [← hb0]
      generalize w.alloc (.cells #[.slice A n c, .slice B m d] 25) = wa at *
      clear g0 hb0
      have x0 := V0.out.c0
      have y0 := V0.out.c1
      have l0 := V0.out.lt
      go_wp2_with fail
      refine (few_any P.out L.out true hfew.out).mono ?_
      rintro e u1 ⟨rfl, hb⟩
      replace BW := hide (st BW.out hb (Below.refl _ _))
      replace V0 := hide (V0.out.below hb)
      replace P := hide (P.out.below hb)
      replace L := hide (L.out.below hb)
      replace U := hide (U.out.below hb)
      clear hb
      clear x0 y0 l0
      have x0 := V0.out.c0
      have y0 := V0.out.c1
      have l0 := V0.out.lt
      go_wp2_with fail
      refine (read_any P.out L.out p Z E hZ.out hE.out).mono ?_
      rintro e u2 ⟨A7, n7, c7, rfl, R1, hb⟩
      replace BW := hide (st BW.out hb (Below.refl _ _))
      replace V0 := hide (V0.out.below hb)
      replace P := hide (P.out.below hb)
      replace L := hide (L.out.below hb)
      replace U := hide (U.out.below hb)
      replace R1 := hide R1
      clear hb
      clear x0 y0 l0
      have x0 := V0.out.c0
      have y0 := V0.out.c1
      have l0 := V0.out.lt
      go_wp2_with fail
      refine (ref_read_any P.out L.out p Z E hZ.out hE.out).mono ?_
      rintro e u3 ⟨A8, n8, c8, rfl, R2, hb⟩
      replace BW := hide (st BW.out hb (Below.refl _ _))
      replace V0 := hide (V0.out.below hb)
      replace P := hide (P.out.below hb)
      replace L := hide (L.out.below hb)
      replace U := hide (U.out.below hb)
      replace R1 := hide (R1.out.below hb)
      replace R2 := hide R2
      clear hb
      clear x0 y0 l0
      have x0 := V0.out.c0
      have y0 := V0.out.c1
      have l0 := V0.out.lt
      go_wp2_with fail
      refine (write_any P.out L.out U.out (by omega) p P1 W1 E1 hP1.out hW1.out hE1.out).mono ?_
      rintro e u4 ⟨A4, n4, c4, B4, m4, d4, rfl, P4, L4, hb⟩
      have DD : Below u3.heap.size u3 (u4.alloc (.cells #[.slice A4 n4 c4, .slice B4 m4 d4] 25)) := hb.alloc hb.size _
      have gg : Below u4.heap.size u4 (u4.alloc (.cells #[.slice A4 n4 c4, .slice B4 m4 d4] 25)) := by go_grown
      have V4 := hide (Var.new u4 A4 B4 n4 c4 m4 d4)
      replace P4 := hide (P4.below gg)
      replace L4 := hide (L4.below gg)
      replace BW := hide (st BW.out DD (Below.refl _ _))
      replace V0 := hide (V0.out.below DD)
      replace P := hide (P.out.below DD)
      replace L := hide (L.out.below DD)
      replace U := hide (U.out.below DD)
      replace R1 := hide (R1.out.below DD)
      replace R2 := hide (R2.out.below DD)
      clear x0 y0 l0
      clear hb DD gg
      have x0 := V0.out.c0
      have y0 := V0.out.c1
      have l0 := V0.out.lt
      have x1 := V4.out.c0
      have y1 := V4.out.c1
      have l1 := V4.out.lt
      go_wp2_with fail
      obtain ⟨b4, hbk⟩ : ∃ b, b = u4.heap.size := ⟨_, rfl⟩
      rw [← hbk] at V4 x1 y1 l1 ⊢
      clear hbk
      generalize u4.alloc (.cells #[.slice A4 n4 c4, .slice B4 m4 d4] 25) = U4 at *
      go_wp2_with fail
      refine (ref_write_any P.out L.out U.out (by omega) p P1 W1 E1 hP1.out hW1.out hE1.out).mono ?_
      rintro e u5 ⟨A5, n5, c5, B5, m5, d5, rfl, P5, L5, hb⟩
      have DD : Below U4.heap.size U4 (u5.alloc (.cells #[.slice A5 n5 c5, .slice B5 m5 d5] 25)) := hb.alloc hb.size _
      have gg : Below u5.heap.size u5 (u5.alloc (.cells #[.slice A5 n5 c5, .slice B5 m5 d5] 25)) := by go_grown
      have V5 := hide (Var.new u5 A5 B5 n5 c5 m5 d5)
      replace P5 := hide (P5.below gg)
      replace L5 := hide (L5.below gg)
      replace BW := hide (st BW.out DD (Below.refl _ _))
      replace V0 := hide (V0.out.below DD)
      replace P := hide (P.out.below DD)
      replace L := hide (L.out.below DD)
      replace U := hide (U.out.below DD)
      replace R1 := hide (R1.out.below DD)
      replace R2 := hide (R2.out.below DD)
      replace V4 := hide (V4.out.below DD)
      replace P4 := hide (P4.out.below DD)
      replace L4 := hide (L4.out.below DD)
      clear x0 y0 l0 x1 y1 l1
      clear hb DD gg
      have x0 := V0.out.c0
      have y0 := V0.out.c1
      have l0 := V0.out.lt
      have x1 := V4.out.c0
      have y1 := V4.out.c1
      have l1 := V4.out.lt
      have x2 := V5.out.c0
      have y2 := V5.out.c1
      have l2 := V5.out.lt
      go_wp2_with fail
      obtain ⟨b5, hbk⟩ : ∃ b, b = u5.heap.size := ⟨_, rfl⟩
      rw [← hbk] at V5 x2 y2 l2 ⊢
      clear hbk
      generalize u5.alloc (.cells #[.slice A5 n5 c5, .slice B5 m5 d5] 25) = U5 at *
      go_wp2_with fail
      refine (new_any K _ P2 E2 hP2.out hE2.out).mono ?_
      rintro e u6 ⟨A6, n6, c6, B6, m6, d6, rfl, P6, L6, hb⟩
      have DD : Below U5.heap.size U5 (u6.alloc (.cells #[.slice A6 n6 c6, .slice B6 m6 d6] 25)) := hb.alloc hb.size _
      have gg : Below u6.heap.size u6 (u6.alloc (.cells #[.slice A6 n6 c6, .slice B6 m6 d6] 25)) := by go_grown
      have V6 := hide (Var.new u6 A6 B6 n6 c6 m6 d6)
      replace P6 := hide (P6.below gg)
      replace L6 := hide (L6.below gg)
      replace BW := hide (st BW.out DD (Below.refl _ _))
      replace V0 := hide (V0.out.below DD)
      replace P := hide (P.out.below DD)
      replace L := hide (L.out.below DD)
      replace U := hide (U.out.below DD)
      replace R1 := hide (R1.out.below DD)
      replace R2 := hide (R2.out.below DD)
      replace V4 := hide (V4.out.below DD)
      replace P4 := hide (P4.out.below DD)
      replace L4 := hide (L4.out.below DD)
      replace V5 := hide (V5.out.below DD)
      replace P5 := hide (P5.out.below DD)
      replace L5 := hide (L5.out.below DD)
      clear x0 y0 l0 x1 y1 l1 x2 y2 l2
      clear hb DD gg
      have x0 := V0.out.c0
      have y0 := V0.out.c1
      have l0 := V0.out.lt
      have x1 := V4.out.c0
      have y1 := V4.out.c1
      have l1 := V4.out.lt
      have x2 := V5.out.c0
      have y2 := V5.out.c1
      have l2 := V5.out.lt
      have x3 := V6.out.c0
      have y3 := V6.out.c1
      have l3 := V6.out.lt
      go_wp2_with fail
      obtain ⟨b6, hbk⟩ : ∃ b, b = u6.heap.size := ⟨_, rfl⟩
      rw [← hbk] at V6 x3 y3 l3 ⊢
      clear hbk
      generalize u6.alloc (.cells #[.slice A6 n6 c6, .slice B6 m6 d6] 25) = U6 at *
      go_wp2_with fail
      refine (ref_new_any K _ P2 E2 hP2.out hE2.out).mono ?_
      rintro e u7 ⟨A7, n7, c7, B7, m7, d7, rfl, P7, L7, hb⟩
      have DD : Below U6.heap.size U6 (u7.alloc (.cells #[.slice A7 n7 c7, .slice B7 m7 d7] 25)) := hb.alloc hb.size _
      have gg : Below u7.heap.size u7 (u7.alloc (.cells #[.slice A7 n7 c7, .slice B7 m7 d7] 25)) := by go_grown
      have V7 := hide (Var.new u7 A7 B7 n7 c7 m7 d7)
      replace P7 := hide (P7.below gg)
      replace L7 := hide (L7.below gg)
      replace BW := hide (st BW.out DD (Below.refl _ _))
      replace V0 := hide (V0.out.below DD)
      replace P := hide (P.out.below DD)
      replace L := hide (L.out.below DD)
      replace U := hide (U.out.below DD)
      replace R1 := hide (R1.out.below DD)
      replace R2 := hide (R2.out.below DD)
      replace V4 := hide (V4.out.below DD)
      replace P4 := hide (P4.out.below DD)
      replace L4 := hide (L4.out.below DD)
      replace V5 := hide (V5.out.below DD)
      replace P5 := hide (P5.out.below DD)
      replace L5 := hide (L5.out.below DD)
      replace V6 := hide (V6.out.below DD)
      replace P6 := hide (P6.out.below DD)
      replace L6 := hide (L6.out.below DD)
      clear x0 y0 l0 x1 y1 l1 x2 y2 l2 x3 y3 l3
      clear hb DD gg
      have x0 := V0.out.c0
      have y0 := V0.out.c1
      have l0 := V0.out.lt
      have x1 := V4.out.c0
      have y1 := V4.out.c1
      have l1 := V4.out.lt
      have x2 := V5.out.c0
      have y2 := V5.out.c1
      have l2 := V5.out.lt
      have x3 := V6.out.c0
      have y3 := V6.out.c1
      have l3 := V6.out.lt
      have x4 := V7.out.c0
      have y4 := V7.out.c1
      have l4 := V7.out.lt
      go_wp2_with fail
      obtain ⟨b7, hbk⟩ : ∃ b, b = u7.heap.size := ⟨_, rfl⟩
      rw [← hbk] at V7 x4 y4 l4 ⊢
      clear hbk
      generalize u7.alloc (.cells #[.slice A7 n7 c7, .slice B7 m7 d7] 25) = U7 at *
      go_wp2_with fail
      go_region_held3 (fun w' => w'.cell? ⟨b0, 0, none⟩ = some (.slice A n c) ∧ w'.cell? ⟨b0, 1, none⟩ = some (.slice B m d) ∧ w'.cell? ⟨b4, 0, none⟩ = some (.slice A4 n4 c4) ∧ w'.cell? ⟨b4, 1, none⟩ = some (.slice B4 m4 d4) ∧ w'.cell? ⟨b5, 0, none⟩ = some (.slice A5 n5 c5) ∧ w'.cell? ⟨b5, 1, none⟩ = some (.slice B5 m5 d5) ∧ w'.cell? ⟨b6, 0, none⟩ = some (.slice A6 n6 c6) ∧ w'.cell? ⟨b6, 1, none⟩ = some (.slice B6 m6 d6) ∧ w'.cell? ⟨b7, 0, none⟩ = some (.slice A7 n7 c7) ∧ w'.cell? ⟨b7, 1, none⟩ = some (.slice B7 m7 d7))
        (first | (exact ⟨(CC.cell (p := ⟨b0, 0, none⟩) l0).trans x0, (CC.cell (p := ⟨b0, 1, none⟩) l0).trans y0, (CC.cell (p := ⟨b4, 0, none⟩) l1).trans x1, (CC.cell (p := ⟨b4, 1, none⟩) l1).trans y1, (CC.cell (p := ⟨b5, 0, none⟩) l2).trans x2, (CC.cell (p := ⟨b5, 1, none⟩) l2).trans y2, (CC.cell (p := ⟨b6, 0, none⟩) l3).trans x3, (CC.cell (p := ⟨b6, 1, none⟩) l3).trans y3, (CC.cell (p := ⟨b7, 0, none⟩) l4).trans x4, (CC.cell (p := ⟨b7, 1, none⟩) l4).trans y4⟩) | go_keep)
        (first
          | (go_at_call 10; (with_reducible refine (alive_any _).mono ?_); rintro e a1 ⟨rfl, hb⟩; have CC : Below U7.heap.size U7 a1 := Below.trans (by go_grown) hb; clear hb)
          | (go_at_call 17; (with_reducible refine (right_any (P.out.below CC) (L.out.below CC) rb hrb.out).mono ?_); rintro e z17 ⟨rfl, hb⟩; replace CC := CC.trans (hb.mono CC.size); clear hb)
          | (go_at_call 18; (with_reducible refine (ref_right_any (P.out.below CC) (L.out.below CC) rb hrb.out).mono ?_); rintro e z18 ⟨rfl, hb⟩; replace CC := CC.trans (hb.mono CC.size); clear hb)
          | (go_at_call 19; (with_reducible refine (bytes_to (R1.out.below CC) (R2.out.below CC) true (by simp)).mono ?_); rintro e z19 ⟨rfl, hb⟩; replace CC := CC.trans (hb.mono CC.size); clear hb)
          | (go_at_call 20; (with_reducible refine (same_any (P4.out.below CC) (L4.out.below CC) (P5.out.below CC) (L5.out.below CC) true (sameD_refl _ _)).mono ?_); rintro e z20 ⟨rfl, hb⟩; replace CC := CC.trans (hb.mono CC.size); clear hb)
          | (go_at_call 20; (with_reducible refine (same_any (P6.out.below CC) (L6.out.below CC) (P7.out.below CC) (L7.out.below CC) true (sameD_refl _ _)).mono ?_); rintro e z20 ⟨rfl, hb⟩; replace CC := CC.trans (hb.mono CC.size); clear hb)
          | (go_at_call 21; (with_reducible refine (sync_any (ws := []) (P.out.below CC) (by omega)).mono ?_); rintro e sS ⟨AS, nS, cS, BS, mS, dS, rfl, Pz, Lz, hb⟩; have PS := hide Pz; have LS := hide Lz; (try replace PK := hide (PK.out.below hb)); (try replace LK := hide (LK.out.below hb)); replace CC := CC.trans (hb.mono CC.size); clear hb Pz Lz)
          | (go_at_call 22; (with_reducible refine (ref_sync_any (P.out.below CC)).mono ?_); rintro e sK ⟨AK, nK, cK, BK, mK, dK, rfl, Pz, Lz, hb⟩; have PK := hide Pz; have LK := hide Lz; (try replace PS := hide (PS.out.below hb)); (try replace LS := hide (LS.out.below hb)); replace CC := CC.trans (hb.mono CC.size); clear hb Pz Lz)
          | (go_at_call 20; (with_reducible refine (same_any PS.out LS.out PK.out LK.out true (sameD_refl _ _)).mono ?_); rintro e z20 ⟨rfl, hb⟩; replace CC := CC.trans (hb.mono CC.size); clear hb)
          | fail)
      all_goals
        go_wp2_with fail
        go_ret
        exact ⟨rfl, st BW.out CC (Below.refl _ _)⟩
end Go.Proofs.Ytfmgmpelgnickaa

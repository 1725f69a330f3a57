/-
  Chapter 31: the chapter's example at the head of each law (alive): it returns true.
-/
import Derived.Test.YtfmgmpelgnickaaCrash
namespace Go.Proofs.Ytfmgmpelgnickaa
open Go.RowKit Plain
set_option linter.unusedSimpArgs false
set_option linter.unusedVariables false
attribute [local go_sem ↓] Go.wp_at_zero Go.wp_at_succ

def pA : List Pg := [zeroP, zeroP]
def pB : List Pg := [fullP 7, zeroP]
def wB : List Od := [(0, zeroP)]
def pC : List Pg := [fullP 7, fullP 9]
def wC : List Od := [(0, zeroP), (1, zeroP)]
def pg1 : Pg := torn (fullP 9) zeroP 2
def pD : List Pg := [zeroP, pg1]
theorem ex_new : newP 2 = pA ∧ newE 2 = 0 := by decide +kernel
theorem ex_w1 : writeP pA [] 0 (fullP 7) = pB ∧ writeW pA [] 0 (fullP 7) = wB ∧ writeE pA [] 0 (fullP 7) = 0 := by decide +kernel
theorem ex_w2 : writeP pB wB 1 (fullP 9) = pC ∧ writeW pB wB 1 (fullP 9) = wC ∧ writeE pB wB 1 (fullP 9) = 0 := by decide +kernel
theorem ex_right : rightB pC wC = true := by decide +kernel
theorem ex_crash : crashP pC wC [0, 2] = pD ∧ crashW pC wC = [] := by decide +kernel
theorem ex_r0 : readB pD [] 0 = zeroP ∧ readE pD [] 0 = 0 := by decide +kernel
theorem ex_r1 : readB pD [] 1 = pg1 ∧ readE pD [] 1 = 0 := by decide +kernel
theorem ex_r2 : readB pD [] 2 = [] ∧ readE pD [] 2 = 4 := by decide +kernel
theorem ex_w3 : writeP pD [] 0 [] = [] ∧ writeW pD [] 0 [] = [] ∧ writeE pD [] 0 [] = 1 := by decide +kernel
theorem ex_b : pg1.getD 1 0 = 9 ∧ pg1.getD 2 0 = 0 ∧ pg1.length = 256 := by decide +kernel
theorem ex_sync : crashP pC wC [] = pC := by decide +kernel
theorem ex_same : decide (zeroP = zeroP) = true := by simp
theorem byt_blank (w : World) : Byt (w.alloc (.cells blank 5)) (some ⟨w.heap.size, 0, none⟩) 256 256 zeroP :=
  Byt.mk (by unfold zeroP; exact List.length_replicate) (Nat.le_refl _) (by unfold maxLen; omega) (by simp) (fun j hj => by
    rw [Nat.zero_add, blank_cell w hj]
    unfold zeroP
    rw [List.getD_eq_getElem?_getD, List.getElem?_replicate, if_pos hj]; rfl)
theorem nts_lit2 (w : World) (x y : Int) : Nts (w.alloc (.cells #[.int .i64 x, .int .i64 y] 3)) (some ⟨w.heap.size, 0, none⟩) 2 2 [x, y] :=
  ⟨rfl, Nat.le_refl _, by unfold maxLen; omega, (fun e => by simp at e), fun _ => ⟨w.heap.size, 0, rfl, by simp, fun j hj => by
    match j, hj with
    | 0, _ => show _ = some (Value.int .i64 x); go_side
    | 1, _ => show _ = some (Value.int .i64 y); go_side⟩⟩
/-- A store where a slice of another length lay leaves pages alone. -/
theorem Pags.putL {w : World} {A : Option Addr} {n c : Nat} {ps : List Pg} (h : Pags w A n c ps) (hne : ∀ j, j < n → (ps.getD j []).length = 256) {p : Addr} {A' : Option Addr} {n' c' : Nat} (hp : w.cell? p = some (.slice A' n' c')) (hn' : n' ≠ 256) (x : Value) : Pags (w.setCell p x) A n c ps := by
  obtain ⟨hl, vs, hr, hpg⟩ := h
  refine ⟨hl, vs, ⟨hr.1, hr.2.1, hr.2.2.1, hr.2.2.2.1, fun hn => ?_⟩, fun j hj => (hpg j hj).set hp x⟩
  obtain ⟨b, off, e, hb, hc⟩ := hr.2.2.2.2 hn
  refine ⟨b, off, e, by simpa using hb, fun j hj => ?_⟩
  rw [World.cell?_setCell_other _ _ _ _ (fun q => ?_)]
  · exact hc j hj
  · have h1 := hc j hj
    rw [← q, hp] at h1
    have h2 := hpg j (by omega)
    injection h1 with h1
    rw [← h1] at h2
    obtain ⟨A'', n'', c'', e', hB⟩ := h2
    injection e' with e1 e2 e3
    have := hB.len
    rw [hne j (by omega)] at this
    omega
theorem Olds.putL {w : World} {A : Option Addr} {n c : Nat} {ws : List Od} (h : Olds w A n c ws) (hne : ∀ j, j < n → (ws.getD j od0).2.length = 256) {p : Addr} {A' : Option Addr} {n' c' : Nat} (hp : w.cell? p = some (.slice A' n' c')) (hn' : n' ≠ 256) (x : Value) : Olds (w.setCell p x) A n c ws := by
  obtain ⟨hl, vs, hr, hpg⟩ := h
  refine ⟨hl, vs, ⟨hr.1, hr.2.1, hr.2.2.1, hr.2.2.2.1, fun hn => ?_⟩, fun j hj => ⟨(hpg j hj).1, (hpg j hj).2.set hp x⟩⟩
  obtain ⟨b, off, e, hb, hc⟩ := hr.2.2.2.2 hn
  refine ⟨b, off, e, by simpa using hb, fun j hj => ?_⟩
  rw [World.cell?_setCell_other _ _ _ _ (fun q => ?_)]
  · exact hc j hj
  · have h1 := hc j hj
    rw [← q, hp] at h1
    injection h1 with h1
    obtain ⟨e1, e2⟩ := hpg (j / 2) (by omega)
    rcases (by omega : j = j / 2 * 2 ∨ j = j / 2 * 2 + 1) with r | r
    · rw [← r, ← h1] at e1; cases e1
    · rw [← r, ← h1] at e2
      obtain ⟨A'', n'', c'', e', hB⟩ := e2
      injection e' with e1 e2 e3
      have := hB.len
      rw [hne (j / 2) (by omega)] at this
      omega
/-- A disk in a variable. -/
structure Var (w : World) (b : Nat) (A B : Option Addr) (n c m d : Nat) : Prop where
  c0 : w.cell? ⟨b, 0, none⟩ = some (.slice A n c)
  c1 : w.cell? ⟨b, 1, none⟩ = some (.slice B m d)
  f0 : w.frozen? ⟨b, 0, none⟩ = false
  f1 : w.frozen? ⟨b, 1, none⟩ = false
  lt : b < w.heap.size
theorem Var.below {w w' : World} {b : Nat} {A B : Option Addr} {n c m d : Nat} (h : Var w b A B n c m d) (hb : Below w.heap.size w w') : Var w' b A B n c m d :=
  ⟨(hb.cell (p := ⟨b, 0, .none⟩) h.lt).trans h.c0, (hb.cell (p := ⟨b, 1, .none⟩) h.lt).trans h.c1, (hb.frozen (p := ⟨b, 0, .none⟩) h.lt).trans h.f0, (hb.frozen (p := ⟨b, 1, .none⟩) h.lt).trans h.f1, Nat.lt_of_lt_of_le h.lt hb.size⟩
theorem Var.new (w : World) (A B : Option Addr) (n c m d : Nat) : Var (w.alloc (.cells #[.slice A n c, .slice B m d] 25)) w.heap.size A B n c m d := ⟨by go_side, by go_side, by go_side, by go_side, by simp⟩
/-- Another disk is stored into the variable. -/
theorem Var.store {w : World} {b : Nat} {A B A2 B2 : Option Addr} {n c m d n2 c2 m2 d2 : Nat} {ps : List Pg} {ws : List Od} (h : Var w b A B n c m d) (P : Pags w A2 n2 c2 ps) (L : Olds w B2 m2 d2 ws) (hp : ∀ j, j < n2 → (ps.getD j []).length = 256) (ho : ∀ j, j < m2 → (ws.getD j od0).2.length = 256) (hn : n ≠ 256) (hm : m ≠ 256) :
    Var ((w.setCell ⟨b, 0, none⟩ (.slice A2 n2 c2)).setCell ⟨b, 1, none⟩ (.slice B2 m2 d2)) b A2 B2 n2 c2 m2 d2 ∧ Pags ((w.setCell ⟨b, 0, none⟩ (.slice A2 n2 c2)).setCell ⟨b, 1, none⟩ (.slice B2 m2 d2)) A2 n2 c2 ps ∧ Olds ((w.setCell ⟨b, 0, none⟩ (.slice A2 n2 c2)).setCell ⟨b, 1, none⟩ (.slice B2 m2 d2)) B2 m2 d2 ws := by
  have k1 : (w.setCell ⟨b, 0, none⟩ (.slice A2 n2 c2)).cell? ⟨b, 1, none⟩ = some (.slice B m d) := (World.cell?_setCell_other _ _ _ _ (by intro q; cases q)).trans h.c1
  refine ⟨⟨?_, ?_, ?_, ?_, by simpa using h.lt⟩, (P.putL hp h.c0 hn _).putL hp k1 hm _, (L.putL ho h.c0 hn _).putL ho k1 hm _⟩
  · rw [World.cell?_setCell_other _ _ _ _ (by intro q; cases q)]
    exact World.cell?_setCell_same' _ _ _ (by rw [h.c0]; rfl)
  · exact World.cell?_setCell_same' _ _ _ (by rw [k1]; rfl)
  · rw [World.frozen?_setCell, World.frozen?_setCell]; exact h.f0
  · rw [World.frozen?_setCell, World.frozen?_setCell]; exact h.f1

theorem ex_len : (∀ j, j < 2 → (pB.getD j []).length = 256) ∧ (∀ j, j < 1 → (wB.getD j od0).2.length = 256) ∧ (∀ j, j < 2 → (pC.getD j []).length = 256) ∧ (∀ j, j < 2 → (wC.getD j od0).2.length = 256) := by decide +kernel
set_option maxRecDepth 10000 in
set_option maxHeartbeats 16000000 in
theorem alive_any (w : World) : Calls Try.prog 10 #[] w fun e w' => e = .returned (.bool true) ∧ Below w.heap.size w w' := by
  have hmk := mk_blank
  go_enter Try.func10, Try.ntmps10
  go_wp2_with fail
  refine (new_any 2 _ _ _ ex_new.1 ex_new.2).mono ?_
  rintro e w1 ⟨A1, n1, c1, B1, m1, d1, rfl, P1, L1, hb⟩
  obtain rfl : 2 = n1 := P1.1
  obtain rfl : 0 = m1 := L1.1
  have g1 : Below w1.heap.size w1 (w1.alloc (.cells #[.slice A1 2 c1, .slice B1 0 d1] 25)) := by go_grown
  have V := Var.new w1 A1 B1 2 c1 0 d1
  have P := P1.below g1
  have L := L1.below g1
  have BW := hide (hb.trans (g1.mono hb.size))
  have hbw := hb.size
  clear hb P1 L1
  go_wp2_with fail
  obtain ⟨bx, hbx⟩ : ∃ b, b = w1.heap.size := ⟨_, rfl⟩
  rw [← hbx] at V hbw ⊢
  generalize w1.alloc (.cells #[.slice A1 2 c1, .slice B1 0 d1] 25) = wa at *
  have x0 := V.c0
  have x1 := V.c1
  have lx := V.lt
  replace V := hide V
  replace P := hide P
  replace L := hide L
  clear g1 hbx
  go_region_with (first
    | (go_at_call 27; (with_reducible refine (full_any 7 _).mono ?_); rintro e w2a ⟨F2, k2, f2, rfl, U2, _, hb⟩; have D2a : Below wa.heap.size wa w2a := Below.trans (by go_grown) hb; have y0 := (V.out.below D2a).c0; have y1 := (V.out.below D2a).c1; replace U2 := hide U2; clear hb)
    | (go_at_call 13; (with_reducible refine (write_any (P.out.below D2a) (L.out.below D2a) U2.out (by omega) 0 _ _ _ ex_w1.1 ex_w1.2.1 ex_w1.2.2).mono ?_); rintro e w2b ⟨A2, n2, c2, B2, m2, d2, rfl, P2, L2, hb⟩; have D2b : Below wa.heap.size wa w2b := D2a.trans (hb.mono D2a.size); have V2 := V.out.below D2b; have z0 := V2.c0; have z1 := V2.c1; have v0 := V2.f0; have v1 := V2.f1; replace V2 := hide V2; clear hb)
    | fail)
  all_goals
    obtain rfl : 2 = n2 := P2.1
    obtain rfl : 1 = m2 := L2.1
    obtain ⟨V', P', L'⟩ := V2.out.store P2 L2 ex_len.1 ex_len.2.1 (by omega) (by omega)
    have BW' := hide (((st BW.out D2b (Below.refl _ _)).setCell (p := ⟨bx, 0, none⟩) hbw (.slice A2 2 c2)).setCell (p := ⟨bx, 1, none⟩) hbw (.slice B2 1 d2))
    clear y0 y1 z0 z1 v0 v1 x0 x1 V P L V2 P2 L2 U2 D2a D2b BW
    generalize ((w2b.setCell ⟨bx, 0, none⟩ (.slice A2 2 c2)).setCell ⟨bx, 1, none⟩ (.slice B2 1 d2)) = w2 at *
    have x0 := V'.c0
    have x1 := V'.c1
    have lx := V'.lt
    have V := hide V'
    have P := hide P'
    have L := hide L'
    have BW := BW'
    clear V' P' L' BW'
    go_wp2_with fail
  all_goals
    go_region_with (first
      | (go_at_call 27; (with_reducible refine (full_any 9 _).mono ?_); rintro e w3a ⟨F3, k3, f3, rfl, U3, _, hb⟩; have D3a : Below w2.heap.size w2 w3a := Below.trans (by go_grown) hb; have y0 := (V.out.below D3a).c0; have y1 := (V.out.below D3a).c1; replace U3 := hide U3; clear hb)
      | (go_at_call 13; (with_reducible refine (write_any (P.out.below D3a) (L.out.below D3a) U3.out (by omega) 1 _ _ _ ex_w2.1 ex_w2.2.1 ex_w2.2.2).mono ?_); rintro e w3b ⟨A3, n3, c3, B3, m3, d3, rfl, P3, L3, hb⟩; have D3b : Below w2.heap.size w2 w3b := D3a.trans (hb.mono D3a.size); have V3 := V.out.below D3b; have z0 := V3.c0; have z1 := V3.c1; have v0 := V3.f0; have v1 := V3.f1; replace V3 := hide V3; clear hb)
      | fail)
    all_goals
      obtain rfl : 2 = n3 := P3.1
      obtain rfl : 2 = m3 := L3.1
      obtain ⟨V', P', L'⟩ := V3.out.store P3 L3 ex_len.2.2.1 ex_len.2.2.2 (by omega) (by omega)
      have BW' := hide (((st BW.out D3b (Below.refl _ _)).setCell (p := ⟨bx, 0, none⟩) hbw (.slice A3 2 c3)).setCell (p := ⟨bx, 1, none⟩) hbw (.slice B3 2 d3))
      clear y0 y1 z0 z1 v0 v1 x0 x1 V P L V3 P3 L3 U3 D3a D3b BW
      generalize ((w3b.setCell ⟨bx, 0, none⟩ (.slice A3 2 c3)).setCell ⟨bx, 1, none⟩ (.slice B3 2 d3)) = w3 at *
      have x0 := V'.c0
      have x1 := V'.c1
      have lx := V'.lt
      have V := hide V'
      have P := hide P'
      have L := hide L'
      have BW := BW'
      clear V' P' L' BW'
      go_wp2_with fail
    all_goals
      go_wp2_with fail
      refine (right_any P.out L.out true ex_right).mono ?_
      rintro e u4 ⟨rfl, hb⟩
      have D4 : Below w3.heap.size w3 u4 := hb
      replace BW := hide (st BW.out D4 (Below.refl _ _))
      replace V := hide (V.out.below D4)
      replace P := hide (P.out.below D4)
      replace L := hide (L.out.below D4)
      clear x0 x1
      have x0 := V.out.c0
      have x1 := V.out.c1
      have lx := V.out.lt
      clear hb D4
      go_wp2_with fail
      have g5 : Below u4.heap.size u4 (u4.alloc (.cells #[.int .i64 0, .int .i64 2] 3)) := by go_grown
      refine (crash_any (P.out.below g5) (L.out.below g5) (nts_lit2 u4 0 2) (by omega) _ _ ex_crash.1 ex_crash.2).mono ?_
      rintro e u5 ⟨A5, n5, c5, B5, m5, d5, rfl, P5, L5, hb⟩
      obtain rfl : 2 = n5 := P5.1
      obtain rfl : 0 = m5 := L5.1
      have D5 : Below u4.heap.size u4 (u5.alloc (.cells #[.slice A5 2 c5, .slice B5 0 d5] 25)) := (g5.trans (hb.mono g5.size)).alloc (Nat.le_trans g5.size hb.size) _
      have gg : Below u5.heap.size u5 (u5.alloc (.cells #[.slice A5 2 c5, .slice B5 0 d5] 25)) := by go_grown
      have V5 := hide (Var.new u5 A5 B5 2 c5 0 d5)
      replace P5 := hide (P5.below gg)
      replace L5 := hide (L5.below gg)
      replace BW := hide (st BW.out D5 (Below.refl _ _))
      replace V := hide (V.out.below D5)
      replace P := hide (P.out.below D5)
      replace L := hide (L.out.below D5)
      clear hb D5 gg g5 x0 x1
      have x0 := V.out.c0
      have x1 := V.out.c1
      have lx := V.out.lt
      have y0 := V5.out.c0
      have y1 := V5.out.c1
      have ly := V5.out.lt
      go_wp2_with fail
      obtain ⟨b5, hb5⟩ : ∃ b, b = u5.heap.size := ⟨_, rfl⟩
      rw [← hb5] at V5 y0 y1 ly ⊢
      clear hb5
      generalize u5.alloc (.cells #[.slice A5 2 c5, .slice B5 0 d5] 25) = u6 at *
      go_wp2_with fail
      refine (read_any P5.out L5.out 0 _ _ ex_r0.1 ex_r0.2).mono ?_
      rintro e u7 ⟨A7, n7, c7, rfl, R0, hb⟩
      have D7 : Below u6.heap.size u6 u7 := hb
      replace BW := hide (st BW.out D7 (Below.refl _ _))
      replace V := hide (V.out.below D7)
      replace P := hide (P.out.below D7)
      replace L := hide (L.out.below D7)
      replace V5 := hide (V5.out.below D7)
      replace P5 := hide (P5.out.below D7)
      replace L5 := hide (L5.out.below D7)
      replace R0 := hide R0
      clear x0 x1 y0 y1
      have x0 := V.out.c0
      have x1 := V.out.c1
      have lx := V.out.lt
      have y0 := V5.out.c0
      have y1 := V5.out.c1
      have ly := V5.out.lt
      clear hb D7
      go_wp2_with fail
      refine (read_any P5.out L5.out 1 _ _ ex_r1.1 ex_r1.2).mono ?_
      rintro e u8 ⟨A8, n8, c8, rfl, R1, hb⟩
      have D8 : Below u7.heap.size u7 u8 := hb
      replace BW := hide (st BW.out D8 (Below.refl _ _))
      replace V := hide (V.out.below D8)
      replace P := hide (P.out.below D8)
      replace L := hide (L.out.below D8)
      replace V5 := hide (V5.out.below D8)
      replace P5 := hide (P5.out.below D8)
      replace L5 := hide (L5.out.below D8)
      replace R0 := hide (R0.out.below D8)
      obtain rfl : 256 = n8 := by have := R1.len; rw [ex_b.2.2] at this; exact this
      replace R1 := hide R1
      clear x0 x1 y0 y1
      have x0 := V.out.c0
      have x1 := V.out.c1
      have lx := V.out.lt
      have y0 := V5.out.c0
      have y1 := V5.out.c1
      have ly := V5.out.lt
      clear hb D8
      go_wp2_with fail
      refine (read_any P5.out L5.out 2 _ _ ex_r2.1 ex_r2.2).mono ?_
      rintro e u9 ⟨A9, n9, c9, rfl, _, hb⟩
      have D9 : Below u8.heap.size u8 u9 := hb
      replace BW := hide (st BW.out D9 (Below.refl _ _))
      replace V := hide (V.out.below D9)
      replace P := hide (P.out.below D9)
      replace L := hide (L.out.below D9)
      replace V5 := hide (V5.out.below D9)
      replace P5 := hide (P5.out.below D9)
      replace L5 := hide (L5.out.below D9)
      replace R0 := hide (R0.out.below D9)
      replace R1 := hide (R1.out.below D9)
      clear x0 x1 y0 y1
      have x0 := V.out.c0
      have x1 := V.out.c1
      have lx := V.out.lt
      have y0 := V5.out.c0
      have y1 := V5.out.c1
      have ly := V5.out.lt
      clear hb D9
      go_wp2_with fail
      refine (write_any P5.out L5.out (byt_nil _) (by omega) 0 _ _ _ ex_w3.1 ex_w3.2.1 ex_w3.2.2).mono ?_
      rintro e u10 ⟨A10, n10, c10, B10, m10, d10, rfl, _, _, hb⟩
      have D10 : Below u9.heap.size u9 u10 := hb
      replace BW := hide (st BW.out D10 (Below.refl _ _))
      replace V := hide (V.out.below D10)
      replace P := hide (P.out.below D10)
      replace L := hide (L.out.below D10)
      replace V5 := hide (V5.out.below D10)
      replace P5 := hide (P5.out.below D10)
      replace L5 := hide (L5.out.below D10)
      replace R0 := hide (R0.out.below D10)
      replace R1 := hide (R1.out.below D10)
      clear x0 x1 y0 y1
      have x0 := V.out.c0
      have x1 := V.out.c1
      have lx := V.out.lt
      have y0 := V5.out.c0
      have y1 := V5.out.c1
      have ly := V5.out.lt
      clear hb D10
      obtain ⟨bb, ob, rfl, lb, q1⟩ := R1.out.at_ (Below.refl _ _) (k := 1) (by omega)
      obtain ⟨bb', ob', e', _, q2⟩ := R1.out.at_ (Below.refl _ _) (k := 2) (by omega)
      injection e' with e'
      injection e' with e1 e2
      subst e1 e2
      rw [ex_b.1] at q1
      rw [ex_b.2.1] at q2
      have GE : Below u10.heap.size u10 (u10.alloc (.cells #[.slice A10 n10 c10, .slice B10 m10 d10] 25)) := by go_grown
      have BW2 := hide (st BW.out GE (Below.refl _ _))
      have R0' := hide (R0.out.below GE)
      have P' := hide (P.out.below GE)
      have L' := hide (L.out.below GE)
      have x0' := (GE.cell (p := ⟨bx, 0, none⟩) lx).trans x0
      have x1' := (GE.cell (p := ⟨bx, 1, none⟩) lx).trans x1
      have y1' := (GE.cell (p := ⟨b5, 1, none⟩) ly).trans y1
      have q1' := (GE.cell (p := ⟨bb, ob + 1, none⟩) lb).trans q1
      have q2' := (GE.cell (p := ⟨bb, ob + 2, none⟩) lb).trans q2
      have lx' := Nat.lt_of_lt_of_le lx GE.size
      have ly' := Nat.lt_of_lt_of_le ly GE.size
      have lb' := Nat.lt_of_lt_of_le lb GE.size
      go_wp2_with fail
      clear GE x0 x1 y0 y1 q1 q2 V V5 P5 L5 R0 R1 P L BW lx ly lb
      generalize (u10.alloc (.cells #[.slice A10 n10 c10, .slice B10 m10 d10] 25)) = ue at *
      have n0 := World.new_ne ue ⟨bx, 0, none⟩ x0'
      go_region_held3 (fun w' => w'.cell? ⟨bx, 0, none⟩ = some (.slice A3 2 c3) ∧ w'.cell? ⟨bx, 1, none⟩ = some (.slice B3 2 d3) ∧ w'.cell? ⟨b5, 1, none⟩ = some (.slice B5 0 d5) ∧ w'.cell? ⟨bb, ob + 1, none⟩ = some (.int .u8 9) ∧ w'.cell? ⟨bb, ob + 2, none⟩ = some (.int .u8 0))
        (first
          | (exact ⟨(CC.cell (p := ⟨bx, 0, none⟩) lx').trans x0', (CC.cell (p := ⟨bx, 1, none⟩) lx').trans x1', (CC.cell (p := ⟨b5, 1, none⟩) ly').trans y1', (CC.cell (p := ⟨bb, ob + 1, none⟩) lb').trans q1', (CC.cell (p := ⟨bb, ob + 2, none⟩) lb').trans q2'⟩)
          | (refine ⟨?_, ?_, ?_, ?_, ?_⟩ <;> (rw [World.cell?_alloc_lt _ _ _ (by first | exact lx' | exact ly' | exact lb')]; assumption))
          | go_keep)
        (first
          | (go_at_call 19; (with_reducible refine (bytes_to (R0'.out.below (by go_grown)) ((byt_blank ue).below (by go_grown)) true ex_same).mono ?_); rintro e a1 ⟨rfl, hb⟩; have CC : Below ue.heap.size ue a1 := Below.trans (by go_grown) (hb.mono (by simp)); clear hb)
          | (go_at_call 21; (with_reducible refine (sync_any (ws := []) (P'.out.below CC) (by omega)).mono ?_); rintro e s1 ⟨As, ns, cs, Bs, ms, ds, rfl, Ps, Ls, hb⟩; have PS := hide Ps; have LS := hide Ls; (try replace PK := hide (PK.out.below hb)); (try replace LK := hide (LK.out.below hb)); replace CC := CC.trans (hb.mono CC.size); clear hb Ps Ls)
          | (go_at_call 23; (with_reducible refine (crash_any (P'.out.below CC) (L'.out.below CC) (nts_nil _) (by omega) pC [] ex_sync ex_crash.2).mono ?_); rintro e k1 ⟨Ak, nk, ck, Bk, mk, dk, rfl, Pk, Lk, hb⟩; have PK := hide Pk; have LK := hide Lk; (try replace PS := hide (PS.out.below hb)); (try replace LS := hide (LS.out.below hb)); replace CC := CC.trans (hb.mono CC.size); clear hb Pk Lk)
          | (go_at_call 20; (with_reducible refine (same_any PS.out LS.out PK.out LK.out true (sameD_refl _ _)).mono ?_); rintro e z1 ⟨rfl, hb⟩; replace CC := CC.trans (hb.mono CC.size); clear hb)
          | fail)
      all_goals
        go_wp2_with fail
        go_ret
        exact ⟨rfl, st BW2.out CC (Below.refl _ _)⟩
end Go.Proofs.Ytfmgmpelgnickaa

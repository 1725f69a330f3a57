/-
  Chapter 31: Write, by the program.
-/
import Derived.Test.YtfmgmpelgnickaaNew
import Derived.Deep.RegionLawGrows
namespace Go.Proofs.Ytfmgmpelgnickaa
open Go.RowKit Plain
set_option linter.unusedSimpArgs false
set_option linter.unusedVariables false
attribute [local go_sem ↓] Go.wp_at_zero Go.wp_at_succ

/-- One page of a row of the call's own is another one. -/
theorem Pags.setAt {w : World} {g n c a : Nat} {ps : List Pg} (h : Pags w (some ⟨g, 0, none⟩) n c ps) (ha : a < n) {A' : Option Addr} {n' c' : Nat} {z : Pg} (hz : Byt w A' n' c' z) :
    Pags (w.setCell ⟨g, a, none⟩ (.slice A' n' c')) (some ⟨g, 0, none⟩) n c (ps.set a z) := by
  obtain ⟨b, off, Aj, nj, cj, e, _, hc, _⟩ := h.at_ (Below.refl _ _) ha
  injection e with e
  injection e with e1 e2
  subst e1 e2
  rw [Nat.zero_add] at hc
  obtain ⟨hl, vs, hr, hp⟩ := h
  refine ⟨by rw [List.length_set]; exact hl, vs.set a (.slice A' n' c'), hr.set (by omega) _, fun j hj => ?_⟩
  rw [getD_set, getD_set, hl]
  have hv : vs.length = n := by have := hr.1; omega
  rw [hv]
  split
  · exact (hz.set hc _).pg
  · exact (hp j hj).set hc _
theorem Olds.put {w : World} {A : Option Addr} {n c B : Nat} {ws : List Od} (h : Olds w A n c ws) (ho : Own w B A n) {p : Addr} {A' : Option Addr} {n' c' : Nat} (hp : w.cell? p = some (.slice A' n' c')) (hlt : p.block < B) (x : Value) : Olds (w.setCell p x) A n c ws := by
  obtain ⟨hl, vs, hr, hpg⟩ := h
  refine ⟨hl, vs, ⟨hr.1, hr.2.1, hr.2.2.1, hr.2.2.2.1, fun hn => ?_⟩, fun j hj => ⟨(hpg j hj).1, (hpg j hj).2.set hp x⟩⟩
  obtain ⟨b, off, e, hb, hc⟩ := hr.2.2.2.2 hn
  obtain ⟨g, e2, h1, _⟩ := ho hn
  rw [e] at e2
  injection e2 with e2
  injection e2 with e3
  refine ⟨b, off, e, by simpa using hb, fun j hj => ?_⟩
  rw [World.cell?_setCell_other _ _ _ _ (fun q => by rw [q] at hlt; simp at hlt; omega)]
  exact hc j hj
theorem Row.cells' {w : World} {s : Nat} {A : Option Addr} {n c : Nat} {vs : List Value} (h : Row w s A n c vs) : ∀ b, A = some b → ∀ j u, vs[j]? = some u → w.cell? (b.add j) = some u := by
  rintro b rfl; exact h.cells
/-- One old page more, behind all others. -/
theorem olds_snoc {w w1 : World} {B : Option Addr} {m d base : Nat} {ws : List Od} {vs : List Value} {v' : Value} {p : Int} {Aj : Option Addr} {nj cj : Nat} {z : Pg} (hl : ws.length = m) (hr : Row w 2 B m d vs) (hp : ∀ j, j < m → OdV w1 vs j (ws.getD j od0)) (hz : Byt w1 Aj nj cj z)
    (hown : w1.ownsRow base 47 2 v' (m + 1) (vs ++ [.int .i64 p, .slice Aj nj cj])) : ∃ A c, v' = .slice A (m + 1) c ∧ Olds w1 A (m + 1) c (ws ++ [(p, z)]) ∧ Own w1 base A (m + 1) := by
  obtain ⟨A, c, rfl, hr1, ho⟩ := row_own hown
  have hv : vs.length = m * 2 := hr.1
  refine ⟨A, c, rfl, ⟨by simp [hl], _, hr1, fun j hj => ?_⟩, ho⟩
  rcases Nat.lt_or_ge j m with hlt | hge
  · obtain ⟨e1, e2⟩ := hp j hlt
    unfold OdV
    rw [List.getD_eq_getElem?_getD, List.getElem?_append_left (by omega), ← List.getD_eq_getElem?_getD, List.getD_eq_getElem?_getD (l := vs ++ _) (i := j * 2 + 1), List.getElem?_append_left (by omega), ← List.getD_eq_getElem?_getD,
      List.getD_eq_getElem?_getD (l := ws ++ _), List.getElem?_append_left (by omega), ← List.getD_eq_getElem?_getD]
    exact ⟨e1, e2⟩
  · obtain rfl : j = m := by omega
    unfold OdV
    rw [List.getD_eq_getElem?_getD, List.getElem?_append_right (by omega), List.getD_eq_getElem?_getD (l := vs ++ _) (i := j * 2 + 1), List.getElem?_append_right (by omega), List.getD_eq_getElem?_getD (l := ws ++ _), List.getElem?_append_right (by omega), hl, hv, Nat.sub_self, Nat.sub_self, show j * 2 + 1 - j * 2 = 1 by omega]
    exact ⟨rfl, hz.pg⟩

set_option maxHeartbeats 1000000 in
theorem write_good {A B C : Option Addr} {n c m d k e a : Nat} {ps : List Pg} {ws : List Od} {z : Pg} {w : World} (h : Pags w A n c ps) (g : Olds w B m d ws) (u : Byt w C k e z) (R : Rt ps ws) (hk : k = 256) (ha : a < n) (hm : m ≤ 100000) (P : List Pg) (W : List Od) (hP : P = ps.set a z) (hW : W = ws ++ [((a : Int), ps.getD a [])]) :
    Calls Try.prog 13 #[.agg #[.slice A n c, .slice B m d], .int .i64 (a : Int), .slice C k e] w (RetDE w P W 0) := by
  subst hk
  replace hP := hide hP
  replace hW := hide hW
  have hr := hide ((right_iff ps ws).2 R)
  have g0 : Below w.heap.size w ((w.alloc (.cells #[.slice A n c, .slice B m d] 25)).alloc (.cells #[.slice none 0 0, .slice none 0 0] 25)) := by go_grown
  have hn : n ≤ 4096 := by have := R.hi; rw [h.1] at this; exact this
  have hmd : (m : Int) ≤ (d : Int) := by obtain ⟨_, vs, hr2, _⟩ := g; have := hr2.2.1; omega
  have hdm : (d : Int) ≤ 9223372036854775807 := by obtain ⟨_, vs, hr2, _⟩ := g; have := hr2.2.2.1; unfold maxLen at this; omega
  have han : (a : Int) < (n : Int) := by omega
  have ha0 : (0 : Int) ≤ (a : Int) := by omega
  have hna : ¬ (n : Int) ≤ (a : Int) := by omega
  have hna0 : ¬ (a : Int) < 0 := by omega
  clear R
  replace h := hide (h.below g0)
  replace g := hide (g.below g0)
  replace u := hide (u.below g0)
  replace g0 := hide g0
  obtain ⟨i0, hi0, hz0, hz1, hz2⟩ := info_parts info47
  go_enter Try.func13, Try.ntmps13
  go_wp2_with fail
  refine (right_any h.out g.out true hr.out).mono ?_
  rintro e w1 ⟨rfl, hb⟩
  have DB := hide (g0.out.trans (hb.mono g0.out.size))
  have c0 : w1.cell? ⟨w.heap.size, 0, none⟩ = some (.slice A n c) := (hb.cell (p := ⟨w.heap.size, 0, none⟩) (by simp; omega)).trans (by go_side)
  have c1 : w1.cell? ⟨w.heap.size, 1, none⟩ = some (.slice B m d) := (hb.cell (p := ⟨w.heap.size, 1, none⟩) (by simp; omega)).trans (by go_side)
  have r0 : w1.cell? ⟨w.heap.size + 1, 0, none⟩ = some (.slice none 0 0) := (hb.cell (p := ⟨w.heap.size + 1, 0, none⟩) (by simp)).trans (by go_side)
  have r1 : w1.cell? ⟨w.heap.size + 1, 1, none⟩ = some (.slice none 0 0) := (hb.cell (p := ⟨w.heap.size + 1, 1, none⟩) (by simp)).trans (by go_side)
  have f0 : w1.frozen? ⟨w.heap.size + 1, 0, none⟩ = false := (hb.frozen (p := ⟨w.heap.size + 1, 0, none⟩) (by simp)).trans (by go_side)
  have f1 : w1.frozen? ⟨w.heap.size + 1, 1, none⟩ = false := (hb.frozen (p := ⟨w.heap.size + 1, 1, none⟩) (by simp)).trans (by go_side)
  have sz : w.heap.size + 2 ≤ w1.heap.size := by have := hb.size; simp at this; omega
  replace h := hide (h.out.below hb)
  replace g := hide (g.out.below hb)
  replace u := hide (u.out.below hb)
  clear hb hr g0
  go_wp2_with fail
  refine (clone_pages h.out (by omega)).mono ?_
  rintro e w2 ⟨A2, n2, c2, rfl, P2, O2, hb⟩
  replace DB := hide (st DB.out hb (Below.refl _ _))
  have hn2 : n2 = n := by have := P2.1; rw [h.out.1] at this; exact this.symm
  subst hn2
  obtain ⟨g2, rfl, hg1, hg2, hg3⟩ := O2 (by omega)
  have nz : a < n2 := ha
  have c0' := (hb.cell (p := ⟨w.heap.size, 0, none⟩) (by simp; omega)).trans c0
  have c1' := (hb.cell (p := ⟨w.heap.size, 1, none⟩) (by simp; omega)).trans c1
  have r0' := (hb.cell (p := ⟨w.heap.size + 1, 0, none⟩) (by simp; omega)).trans r0
  have r1' := (hb.cell (p := ⟨w.heap.size + 1, 1, none⟩) (by simp; omega)).trans r1
  have f0' := (hb.frozen (p := ⟨w.heap.size + 1, 0, none⟩) (by simp; omega)).trans f0
  have f1' := (hb.frozen (p := ⟨w.heap.size + 1, 1, none⟩) (by simp; omega)).trans f1
  have h2 := h.out.below hb
  obtain ⟨b, off, Aj, nj, cj, rfl, hlt, pc, Z1⟩ := h2.at_ (Below.refl _ _) (k := a) ha
  have G2 := g.out.below hb
  obtain ⟨hwl, vs, hvr, hvo⟩ := G2
  have sz2 : w.heap.size + 2 ≤ w2.heap.size := by have := hb.size; omega
  replace u := hide (u.out.below hb)
  have gfr := hg3 a
  have gfr0 : w2.frozen? ⟨g2, a, none⟩ = false := gfr
  replace P2 := hide P2
  replace O2 := hide O2
  replace Z1 := hide Z1
  replace hvr := hide hvr
  replace hvo := hide hvo
  replace hwl := hide hwl
  replace hg3 := hide hg3
  replace hg1 := hide hg1
  have n1 := World.new_ne w2 ⟨w.heap.size, 0, none⟩ c0'
  clear h h2 g c0 c1 r0 r1 f0 f1 hb
  go_wp2_with fail
  go_region_held3 (fun w' => w'.cell? ⟨w.heap.size, 0, none⟩ = some (.slice (some ⟨b, off, none⟩) n2 c) ∧ w'.cell? ⟨w.heap.size, 1, none⟩ = some (.slice B m d) ∧ w'.cell? ⟨b, off + a, none⟩ = some (.slice Aj nj cj))
    (first
      | (go_split_ands; refine ⟨?_, ?_, ?_⟩ <;> (rw [World.cell?_setCell_other _ _ _ _ (by intro q; injection q with q1 q2; omega)]; assumption))
      | (go_split_ands; refine ⟨?_, ?_, ?_⟩ <;> (rw [hgrow.cell_far _ (by simp; omega) (by simp)]; assumption))
      | go_keep)
    ((refine step_append_grows (by rfl) _ _ _ (by rfl) 47 i0 _ 2 32 Try.underlying23 hi0 hz0 hz1 hz2 rfl (by omega) B m m vs (by rfl) (fun e => by subst e; have := hvr.out.none; omega) hvr.out.1 (hvr.out.below (by go_grown)).cells' ⟨w2.heap.size + 1, 0, none⟩ 1 1 [.int .i64 (a : Int), .slice Aj nj cj] (by rfl) (by rfl) (World.news_of_block (cs := #[.int .i64 (a : Int), .slice Aj nj cj]) (t := 47) (fr := (0, 0)) (by have := heap_alloc_new (w2.alloc (.cells #[.slice (some ⟨g2, 0, none⟩) n2 c2, .slice none 0 0] 25)) (.cells #[.int .i64 (a : Int), .slice Aj nj cj] 47); rw [World.size_alloc] at this; exact this)) (by simp [Value.oneCell']) (by omega) (by unfold maxLen; omega) (by omega) ?_; intro v' w4 hown hgrow; have D4 : Below w2.heap.size w2 w4 := Below.grown (by go_grown) hgrow (by simp; omega) (fun b e => by cases e); obtain ⟨A4, c4, rfl, L4, O4⟩ := olds_snoc (w1 := w4) hwl.out hvr.out (fun j hj => (hvo.out j hj).below D4) (Z1.out.below D4) hown; have cB : w4.cell? ⟨w2.heap.size, 1, none⟩ = some (.slice none 0 0) := (hgrow.cell_far _ (by simp; omega) (by simp)).trans (by go_side); have fB : w4.frozen? ⟨w2.heap.size, 1, none⟩ = false := (hgrow.frozen_far _ (by simp; omega) (by simp)).trans (by go_side); clear hown))
  have D5 : Below w2.heap.size w2 (w4.setCell ⟨w2.heap.size, 1, none⟩ (.slice A4 (m + 1) c4)) := D4.setCell (by simp) _
  have k0 : (w4.setCell ⟨w2.heap.size, 1, none⟩ (.slice A4 (m + 1) c4)).cell? ⟨w2.heap.size, 0, none⟩ = some (.slice (some ⟨g2, 0, none⟩) n2 c2) :=
    (World.cell?_setCell_other _ _ _ _ (by intro q; injection q with q1 q2; omega)).trans ((hgrow.cell_far _ (by simp; omega) (by simp)).trans (by go_side))
  have k1 : (w4.setCell ⟨w2.heap.size, 1, none⟩ (.slice A4 (m + 1) c4)).cell? ⟨w2.heap.size, 1, none⟩ = some (.slice A4 (m + 1) c4) := World.cell?_setCell_same' _ _ _ (by rw [cB]; rfl)
  have L5 := L4.put O4 (p := ⟨w2.heap.size, 1, none⟩) cB (by simp; omega) (.slice A4 (m + 1) c4)
  have O5 := O4.put ⟨w2.heap.size, 1, none⟩ (.slice A4 (m + 1) c4)
  have sz5 : w2.heap.size < (w4.setCell ⟨w2.heap.size, 1, none⟩ (.slice A4 (m + 1) c4)).heap.size := by have := hgrow.size; simp at this ⊢; omega
  generalize (w4.setCell ⟨w2.heap.size, 1, none⟩ (.slice A4 (m + 1) c4)) = w5 at *
  have P5 := P2.out.below D5
  replace u := hide (u.out.below D5)
  have p0 := (D5.cell (p := ⟨w.heap.size + 1, 0, none⟩) (by simp; omega)).trans r0'
  have p1 := (D5.cell (p := ⟨w.heap.size + 1, 1, none⟩) (by simp; omega)).trans r1'
  have q0 := (D5.frozen (p := ⟨w.heap.size + 1, 0, none⟩) (by simp; omega)).trans f0'
  have q1 := (D5.frozen (p := ⟨w.heap.size + 1, 1, none⟩) (by simp; omega)).trans f1'
  have gf5 := (D5.frozen (p := ⟨g2, a, none⟩) hg2).trans gfr0
  replace DB := hide (st DB.out D5 (Below.refl _ _))
  have lg5 : g2 < w5.heap.size := Nat.lt_of_lt_of_le hg2 D5.size
  have OP : Own w5 w1.heap.size (some ⟨g2, 0, none⟩) n2 := O2.out.below D5
  replace P5 := hide P5
  replace L5 := hide L5
  replace O5 := hide O5
  replace OP := hide OP
  clear c0' c1' r0' r1' f0' f1' pc n1 hvr hvo hwl P2 O2 hgrow D4 L4 O4 cB fB D5 gfr gfr0 hg3
  go_wp2_with fail
  go_region_held3 (fun w' => w'.cell? ⟨w2.heap.size, 0, none⟩ = some (.slice (some ⟨g2, 0, none⟩) n2 c2))
    (first
      | (rw [World.cell?_setCell_other _ _ _ _ (by intro q; injection q with q1 q2; omega)]; assumption)
      | go_keep)
    ((go_at_call 28; refine (clone_bytes (u.out.below (by go_grown)) (by omega)).mono ?_; rintro e w6 ⟨A9, n9, c9, rfl, Z9, _, hb⟩; have D6 : Below w5.heap.size w5 w6 := Below.trans (by go_grown) hb; have k06 := (D6.cell (p := ⟨w2.heap.size, 0, none⟩) sz5).trans k0; obtain ⟨b6, off6, A6, n6, c6, e6, l6, ca6, _⟩ := P5.out.at_ D6 (k := a) ha; injection e6 with e6; injection e6 with e7 e8; subst e7 e8; rw [Nat.zero_add] at ca6; have gf6 := (D6.frozen (p := ⟨g2, a, none⟩) lg5).trans gf5))
  have hg1' := hg1.out
  have P7 := (P5.out.below D6).setAt ha Z9
  have L7 := (L5.out.below D6).put (O5.out.below D6) ca6 (by show g2 < _; simp; omega) (.slice A9 n9 c9)
  have O7 := (O5.out.below D6).put ⟨g2, a, none⟩ (.slice A9 n9 c9)
  have OP7 := (OP.out.below D6).put ⟨g2, a, none⟩ (.slice A9 n9 c9)
  have k17 : (w6.setCell ⟨g2, a, none⟩ (.slice A9 n9 c9)).cell? ⟨w2.heap.size, 1, none⟩ = some (.slice A4 (m + 1) c4) :=
    (World.cell?_setCell_other _ _ _ _ (by intro q; injection q with q1 q2; omega)).trans ((D6.cell (p := ⟨w2.heap.size, 1, none⟩) sz5).trans k1)
  have k07 : (w6.setCell ⟨g2, a, none⟩ (.slice A9 n9 c9)).cell? ⟨w2.heap.size, 0, none⟩ = some (.slice (some ⟨g2, 0, none⟩) n2 c2) :=
    (World.cell?_setCell_other _ _ _ _ (by intro q; injection q with q1 q2; omega)).trans k06
  have p07 : (w6.setCell ⟨g2, a, none⟩ (.slice A9 n9 c9)).cell? ⟨w.heap.size + 1, 0, none⟩ = some (.slice none 0 0) :=
    (World.cell?_setCell_other _ _ _ _ (by intro q; injection q with q1 q2; omega)).trans ((D6.cell (p := ⟨w.heap.size + 1, 0, none⟩) (by simp; omega)).trans p0)
  have p17 : (w6.setCell ⟨g2, a, none⟩ (.slice A9 n9 c9)).cell? ⟨w.heap.size + 1, 1, none⟩ = some (.slice none 0 0) :=
    (World.cell?_setCell_other _ _ _ _ (by intro q; injection q with q1 q2; omega)).trans ((D6.cell (p := ⟨w.heap.size + 1, 1, none⟩) (by simp; omega)).trans p1)
  have q07 : (w6.setCell ⟨g2, a, none⟩ (.slice A9 n9 c9)).frozen? ⟨w.heap.size + 1, 0, none⟩ = false := by
    rw [World.frozen?_setCell]; exact (D6.frozen (p := ⟨w.heap.size + 1, 0, none⟩) (by simp; omega)).trans q0
  have q17 : (w6.setCell ⟨g2, a, none⟩ (.slice A9 n9 c9)).frozen? ⟨w.heap.size + 1, 1, none⟩ = false := by
    rw [World.frozen?_setCell]; exact (D6.frozen (p := ⟨w.heap.size + 1, 1, none⟩) (by simp; omega)).trans q1
  replace DB := hide ((st DB.out D6 (Below.refl _ _)).setCell (p := ⟨g2, a, none⟩) (by simp; omega) (.slice A9 n9 c9))
  clear k0 k1 k06 p0 p1 q0 q1 ca6 gf6 gf5 P5 L5 O5 OP Z9 D6 hb u hi0 hz0 hz1 hz2 i0
  generalize (w6.setCell ⟨g2, a, none⟩ (.slice A9 n9 c9)) = w7 at *
  have P8 := P7.put OP7 (p := ⟨w.heap.size + 1, 0, none⟩) p07 (by simp; omega) (.slice (some ⟨g2, 0, none⟩) n2 c2)
  have P9 := hide (P8.put (OP7.put _ _) (p := ⟨w.heap.size + 1, 1, none⟩) ((World.cell?_setCell_other _ _ _ _ (by intro q; cases q)).trans p17) (by simp; omega) (.slice A4 (m + 1) c4))
  have L8 := L7.put O7 (p := ⟨w.heap.size + 1, 0, none⟩) p07 (by simp; omega) (.slice (some ⟨g2, 0, none⟩) n2 c2)
  have L9 := hide (L8.put (O7.put _ _) (p := ⟨w.heap.size + 1, 1, none⟩) ((World.cell?_setCell_other _ _ _ _ (by intro q; cases q)).trans p17) (by simp; omega) (.slice A4 (m + 1) c4))
  clear P7 P8 L7 L8 O7 OP7 Z1
  go_wp2_with fail
  refine bodyPost_ret (v := .tuple #[.agg #[.slice (some ⟨g2, 0, none⟩) n2 c2, .slice A4 (m + 1) c4], .int .i64 0]) (by simp [results, Try.results13, go_sem, p07, p17, q07, q17]) rfl ?_
  rw [hP.out, hW.out]
  exact ⟨_, _, _, _, _, _, rfl, P9.out, L9.out, (DB.out.setCell (by simp) _).setCell (by simp) _⟩
end Go.Proofs.Ytfmgmpelgnickaa

/-
  Chapter 31: Write, by the reference.
-/
import Derived.Test.YtfmgmpelgnickaaRef4
namespace Go.Proofs.Ytfmgmpelgnickaa
open Go.RowKit Plain
set_option linter.unusedSimpArgs false
set_option linter.unusedVariables false
attribute [local go_sem ↓] Go.wp_at_zero Go.wp_at_succ

theorem row_lit_od (w : World) (x y : Value) : Row (w.alloc (.cells #[x, y] 47)) 2 (some ⟨w.heap.size, 0, none⟩) 1 1 [x, y] :=
  ⟨rfl, Nat.le_refl _, by unfold maxLen; omega, (fun e => by cases e), fun _ => ⟨w.heap.size, 0, rfl, by simp, fun j hj => by
    match j, hj with
    | 0, _ => go_side
    | 1, _ => go_side⟩⟩
set_option maxHeartbeats 1000000 in
theorem ref_write_good {A B C : Option Addr} {n c m d k e a : Nat} {ps : List Pg} {ws : List Od} {z : Pg} {w : World} (h : Pags w A n c ps) (g : Olds w B m d ws) (u : Byt w C k e z) (R : Rt ps ws) (hk : k = 256) (ha : a < n) (hm : m ≤ 100000) (P : List Pg) (W : List Od) (hP : P = ps.set a z) (hW : W = ws ++ [((a : Int), ps.getD a [])]) :
    Calls Try.prog 14 #[.agg #[.slice A n c, .slice B m d], .int .i64 (a : Int), .slice C k e] w (RetDE w P W 0) := by
  subst hk
  replace hP := hide hP
  replace hW := hide hW
  have hr := hide ((right_iff ps ws).2 R)
  have g0 : Below w.heap.size w ((w.alloc (.cells #[.slice A n c, .slice B m d] 25)).alloc (.cells #[.slice none 0 0, .slice none 0 0] 25)) := by go_grown
  have hn : n ≤ 4096 := by have := R.hi; rw [h.1] at this; exact this
  have han : (a : Int) < (n : Int) := by omega
  have ha0 : (0 : Int) ≤ (a : Int) := by omega
  have hna : ¬ (n : Int) ≤ (a : Int) := by omega
  have hna0 : ¬ (a : Int) < 0 := by omega
  clear R
  replace h := hide (h.below g0)
  replace g := hide (g.below g0)
  replace u := hide (u.below g0)
  replace g0 := hide g0
  go_enter Try.func14, Try.ntmps14
  go_wp2_with fail
  refine (ref_right_any h.out g.out true hr.out).mono ?_
  rintro e w1 ⟨rfl, hb⟩
  have DB := hide (g0.out.trans (hb.mono g0.out.size))
  have c0 : w1.cell? ⟨w.heap.size, 0, none⟩ = some (.slice A n c) := (hb.cell (p := ⟨w.heap.size, 0, none⟩) (by simp; omega)).trans (by go_side)
  have c1 : w1.cell? ⟨w.heap.size, 1, none⟩ = some (.slice B m d) := (hb.cell (p := ⟨w.heap.size, 1, none⟩) (by simp; omega)).trans (by go_side)
  have r0 : w1.cell? ⟨w.heap.size + 1, 0, none⟩ = some (.slice none 0 0) := (hb.cell (p := ⟨w.heap.size + 1, 0, none⟩) (by simp)).trans (by go_side)
  have r1 : w1.cell? ⟨w.heap.size + 1, 1, none⟩ = some (.slice none 0 0) := (hb.cell (p := ⟨w.heap.size + 1, 1, none⟩) (by simp)).trans (by go_side)
  have f0 : w1.frozen? ⟨w.heap.size + 1, 0, none⟩ = false := (hb.frozen (p := ⟨w.heap.size + 1, 0, none⟩) (by simp)).trans (by go_side)
  have f1 : w1.frozen? ⟨w.heap.size + 1, 1, none⟩ = false := (hb.frozen (p := ⟨w.heap.size + 1, 1, none⟩) (by simp)).trans (by go_side)
  have sz : w.heap.size + 2 ≤ w1.heap.size := by have := hb.size; simp at this; omega
  replace h := hide (h.out.below hb)
  replace g := hide (g.out.below hb)
  replace u := hide (u.out.below hb)
  obtain ⟨hwl, vs, hvr, hvo⟩ := g.out
  have h1 := hide (olds_one hvr.1 hvo)
  replace hvr := hide hvr
  replace hvo := hide hvo
  replace hwl := hide hwl
  obtain ⟨b, off, Aj, nj, cj, hA, hlt, pc, Z1⟩ := h.out.at_ (Below.refl _ _) (k := a) ha
  subst hA
  replace Z1 := hide Z1
  clear hb hr g0 g
  go_wp2_with (first
    | (at_builtin; refine wpList_append_row (T := 23) (E := 47) (s := 2) (z := .agg #[.int .i64 0, .slice none 0 0]) (bytes := 32) Try.underlying23 info47 rfl (by decide) (by decide) rfl (.tmp 28) (.tmp 30) rfl w1.heap.size _ 0 [] rfl (World.ownsRow_nil _ _ _ _) B m d vs rfl hvr.out h1.out (by omega) (by simp) ?_; intro v2 w2 hown2 hB2; simp only [Nat.zero_add, List.nil_append] at hown2; have c02 := (hB2.cell (p := ⟨w.heap.size, 0, none⟩) (by simp; omega)).trans c0; have pc2 := (hB2.cell (p := ⟨b, off + a, none⟩) hlt).trans pc; have sz2 := hB2.size; have hlt2 : b < w2.heap.size := Nat.lt_of_lt_of_le hlt sz2)
    | (at_builtin; refine wpList_append_row (T := 23) (E := 47) (s := 2) (z := .agg #[.int .i64 0, .slice none 0 0]) (bytes := 32) Try.underlying23 info47 rfl (by decide) (by decide) rfl (.tmp 32) (.tmp 40) rfl w1.heap.size _ m vs rfl (hown2.alloc _) (some ⟨w2.heap.size, 0, none⟩) 1 1 [.int .i64 (a : Int), .slice Aj nj cj] rfl (row_lit_od w2 _ _) (by simp [Value.oneCell']) (by omega) (by simp; omega) ?_; intro v3 w3 hown3 hB3; have D3 : Below w1.heap.size w1 w3 := hB2.trans (Below.trans (Below.alloc (Below.refl _ _) sz2 _) hB3); obtain ⟨A4, c4, rfl, L4, O4⟩ := olds_snoc (w1 := w3) hwl.out hvr.out (fun j hj => (hvo.out j hj).below D3) (Z1.out.below D3) hown3; have c0' := (D3.cell (p := ⟨w.heap.size, 0, none⟩) (by simp; omega)).trans c0; have r0' := (D3.cell (p := ⟨w.heap.size + 1, 0, none⟩) (by simp; omega)).trans r0; have r1' := (D3.cell (p := ⟨w.heap.size + 1, 1, none⟩) (by simp; omega)).trans r1; have f0' := (D3.frozen (p := ⟨w.heap.size + 1, 0, none⟩) (by simp; omega)).trans f0; have f1' := (D3.frozen (p := ⟨w.heap.size + 1, 1, none⟩) (by simp; omega)).trans f1; replace L4 := hide L4; replace O4 := hide O4; replace D3 := hide D3; clear hown3 hown2 hB2 hB3 c02 pc2 c0 c1 r0 r1 f0 f1 pc))
  refine (with_any (h.out.below D3.out) (u.out.below D3.out) a (by omega) _ rfl).mono ?_
  rintro e w4 ⟨A5, n5, c5, rfl, P5, O5, hb⟩
  have k0 := (hb.cell (p := ⟨w.heap.size + 1, 0, none⟩) (by have := D3.out.size; simp; omega)).trans r0'
  have k1 := (hb.cell (p := ⟨w.heap.size + 1, 1, none⟩) (by have := D3.out.size; simp; omega)).trans r1'
  have q0 := (hb.frozen (p := ⟨w.heap.size + 1, 0, none⟩) (by have := D3.out.size; simp; omega)).trans f0'
  have q1 := (hb.frozen (p := ⟨w.heap.size + 1, 1, none⟩) (by have := D3.out.size; simp; omega)).trans f1'
  have sz3 := D3.out.size
  have P8 := P5.put O5 (p := ⟨w.heap.size + 1, 0, none⟩) k0 (by simp; omega) (.slice A5 n5 c5)
  have P9 := hide (P8.put (O5.put _ _) (p := ⟨w.heap.size + 1, 1, none⟩) ((World.cell?_setCell_other _ _ _ _ (by intro q; cases q)).trans k1) (by simp; omega) (.slice A4 (m + 1) c4))
  have L5 := L4.out.below hb
  have O6 := O4.out.below hb
  have L8 := L5.put O6 (p := ⟨w.heap.size + 1, 0, none⟩) k0 (by simp; omega) (.slice A5 n5 c5)
  have L9 := hide (L8.put (O6.put _ _) (p := ⟨w.heap.size + 1, 1, none⟩) ((World.cell?_setCell_other _ _ _ _ (by intro q; cases q)).trans k1) (by simp; omega) (.slice A4 (m + 1) c4))
  replace DB := hide (st (st DB.out D3.out (Below.refl _ _)) hb (Below.refl _ _))
  clear hb P5 O5 P8 L5 O6 L8 L4 O4 Z1 h u c0' r0' r1' f0' f1' hvr hvo hwl h1
  go_wp2_with fail
  refine bodyPost_ret (v := .tuple #[.agg #[.slice A5 n5 c5, .slice A4 (m + 1) c4], .int .i64 0]) (by simp [results, Try.results14, go_sem, k0, k1, q0, q1]) rfl ?_
  rw [hP.out, hW.out]
  exact ⟨_, _, _, _, _, _, rfl, P9.out, L9.out, (DB.out.setCell (by simp) _).setCell (by simp) _⟩
theorem ref_write_wrong {A B C : Option Addr} {n c m d k e : Nat} {ps : List Pg} {ws : List Od} {w : World} (h : Pags w A n c ps) (g : Olds w B m d ws) (hk : k ≤ 9223372036854775807) (p : Int) (hr : rightB ps ws = false) :
    Calls Try.prog 14 #[.agg #[.slice A n c, .slice B m d], .int .i64 p, .slice C k e] w (RetDE w [] [] 1) := by
  have g0 : Below w.heap.size w ((w.alloc (.cells #[.slice A n c, .slice B m d] 25)).alloc (.cells #[.slice none 0 0, .slice none 0 0] 25)) := by go_grown
  have hn := h.max
  replace h := hide (h.below g0)
  replace g := hide (g.below g0)
  replace g0 := hide g0
  replace hr := hide hr
  go_enter Try.func14, Try.ntmps14
  go_wp2_with fail
  refine (ref_right_any h.out g.out false hr.out).mono ?_
  rintro e w1 ⟨rfl, hb⟩
  have DB := hide (g0.out.trans (hb.mono g0.out.size))
  have c0 : w1.cell? ⟨w.heap.size, 0, none⟩ = some (.slice A n c) := (hb.cell (p := ⟨w.heap.size, 0, none⟩) (by simp; omega)).trans (by go_side)
  have r0 : w1.cell? ⟨w.heap.size + 1, 0, none⟩ = some (.slice none 0 0) := (hb.cell (p := ⟨w.heap.size + 1, 0, none⟩) (by simp)).trans (by go_side)
  have r1 : w1.cell? ⟨w.heap.size + 1, 1, none⟩ = some (.slice none 0 0) := (hb.cell (p := ⟨w.heap.size + 1, 1, none⟩) (by simp)).trans (by go_side)
  have f0 : w1.frozen? ⟨w.heap.size + 1, 0, none⟩ = false := (hb.frozen (p := ⟨w.heap.size + 1, 0, none⟩) (by simp)).trans (by go_side)
  have f1 : w1.frozen? ⟨w.heap.size + 1, 1, none⟩ = false := (hb.frozen (p := ⟨w.heap.size + 1, 1, none⟩) (by simp)).trans (by go_side)
  have sz : w.heap.size + 2 ≤ w1.heap.size := by have := hb.size; simp at this; omega
  clear hb h g g0 hr
  go_wp2_with fail
  refine bodyPost_ret (v := .tuple #[.agg #[.slice none 0 0, .slice none 0 0], .int .i64 1]) (by simp [results, Try.results14, go_sem, r0, r1, f0, f1]) rfl ?_
  exact ⟨none, 0, 0, none, 0, 0, rfl, pags_nil _, olds_nil _, (DB.out.setCell (by simp) _).setCell (by simp) _⟩
theorem ref_write_short {A B C : Option Addr} {n c m d k e : Nat} {ps : List Pg} {ws : List Od} {w : World} (h : Pags w A n c ps) (g : Olds w B m d ws) (hk : k ≤ 9223372036854775807) (p : Int) (hr : rightB ps ws = true) (hl : k ≠ 256) :
    Calls Try.prog 14 #[.agg #[.slice A n c, .slice B m d], .int .i64 p, .slice C k e] w (RetDE w [] [] 1) := by
  have g0 : Below w.heap.size w ((w.alloc (.cells #[.slice A n c, .slice B m d] 25)).alloc (.cells #[.slice none 0 0, .slice none 0 0] 25)) := by go_grown
  have hn := h.max
  replace h := hide (h.below g0)
  replace g := hide (g.below g0)
  replace g0 := hide g0
  replace hr := hide hr
  have hq : ((k : Int) != 256) = true := by simp; omega
  have hq2 : ¬ (k : Int) = 256 := by omega
  clear hl
  go_enter Try.func14, Try.ntmps14
  go_wp2_with fail
  refine (ref_right_any h.out g.out true hr.out).mono ?_
  rintro e w1 ⟨rfl, hb⟩
  have DB := hide (g0.out.trans (hb.mono g0.out.size))
  have c0 : w1.cell? ⟨w.heap.size, 0, none⟩ = some (.slice A n c) := (hb.cell (p := ⟨w.heap.size, 0, none⟩) (by simp; omega)).trans (by go_side)
  have r0 : w1.cell? ⟨w.heap.size + 1, 0, none⟩ = some (.slice none 0 0) := (hb.cell (p := ⟨w.heap.size + 1, 0, none⟩) (by simp)).trans (by go_side)
  have r1 : w1.cell? ⟨w.heap.size + 1, 1, none⟩ = some (.slice none 0 0) := (hb.cell (p := ⟨w.heap.size + 1, 1, none⟩) (by simp)).trans (by go_side)
  have f0 : w1.frozen? ⟨w.heap.size + 1, 0, none⟩ = false := (hb.frozen (p := ⟨w.heap.size + 1, 0, none⟩) (by simp)).trans (by go_side)
  have f1 : w1.frozen? ⟨w.heap.size + 1, 1, none⟩ = false := (hb.frozen (p := ⟨w.heap.size + 1, 1, none⟩) (by simp)).trans (by go_side)
  have sz : w.heap.size + 2 ≤ w1.heap.size := by have := hb.size; simp at this; omega
  clear hb h g g0 hr
  go_wp2_with fail
  refine bodyPost_ret (v := .tuple #[.agg #[.slice none 0 0, .slice none 0 0], .int .i64 1]) (by simp [results, Try.results14, go_sem, r0, r1, f0, f1]) rfl ?_
  exact ⟨none, 0, 0, none, 0, 0, rfl, pags_nil _, olds_nil _, (DB.out.setCell (by simp) _).setCell (by simp) _⟩
theorem ref_write_low {A B C : Option Addr} {n c m d k e : Nat} {ps : List Pg} {ws : List Od} {w : World} (h : Pags w A n c ps) (g : Olds w B m d ws) (hk : k ≤ 9223372036854775807) (p : Int) (hr : rightB ps ws = true) (hl : k = 256) (hp : p < 0) :
    Calls Try.prog 14 #[.agg #[.slice A n c, .slice B m d], .int .i64 p, .slice C k e] w (RetDE w [] [] 4) := by
  have g0 : Below w.heap.size w ((w.alloc (.cells #[.slice A n c, .slice B m d] 25)).alloc (.cells #[.slice none 0 0, .slice none 0 0] 25)) := by go_grown
  have hn := h.max
  replace h := hide (h.below g0)
  replace g := hide (g.below g0)
  replace g0 := hide g0
  replace hr := hide hr
  subst hl
  go_enter Try.func14, Try.ntmps14
  go_wp2_with fail
  refine (ref_right_any h.out g.out true hr.out).mono ?_
  rintro e w1 ⟨rfl, hb⟩
  have DB := hide (g0.out.trans (hb.mono g0.out.size))
  have c0 : w1.cell? ⟨w.heap.size, 0, none⟩ = some (.slice A n c) := (hb.cell (p := ⟨w.heap.size, 0, none⟩) (by simp; omega)).trans (by go_side)
  have r0 : w1.cell? ⟨w.heap.size + 1, 0, none⟩ = some (.slice none 0 0) := (hb.cell (p := ⟨w.heap.size + 1, 0, none⟩) (by simp)).trans (by go_side)
  have r1 : w1.cell? ⟨w.heap.size + 1, 1, none⟩ = some (.slice none 0 0) := (hb.cell (p := ⟨w.heap.size + 1, 1, none⟩) (by simp)).trans (by go_side)
  have f0 : w1.frozen? ⟨w.heap.size + 1, 0, none⟩ = false := (hb.frozen (p := ⟨w.heap.size + 1, 0, none⟩) (by simp)).trans (by go_side)
  have f1 : w1.frozen? ⟨w.heap.size + 1, 1, none⟩ = false := (hb.frozen (p := ⟨w.heap.size + 1, 1, none⟩) (by simp)).trans (by go_side)
  have sz : w.heap.size + 2 ≤ w1.heap.size := by have := hb.size; simp at this; omega
  clear hb h g g0 hr
  go_wp2_with fail
  refine bodyPost_ret (v := .tuple #[.agg #[.slice none 0 0, .slice none 0 0], .int .i64 4]) (by simp [results, Try.results14, go_sem, r0, r1, f0, f1]) rfl ?_
  exact ⟨none, 0, 0, none, 0, 0, rfl, pags_nil _, olds_nil _, (DB.out.setCell (by simp) _).setCell (by simp) _⟩
theorem ref_write_high {A B C : Option Addr} {n c m d k e : Nat} {ps : List Pg} {ws : List Od} {w : World} (h : Pags w A n c ps) (g : Olds w B m d ws) (hk : k ≤ 9223372036854775807) (p : Int) (hr : rightB ps ws = true) (hl : k = 256) (hp : ¬ p < 0) (hp2 : (n : Int) ≤ p) :
    Calls Try.prog 14 #[.agg #[.slice A n c, .slice B m d], .int .i64 p, .slice C k e] w (RetDE w [] [] 4) := by
  have g0 : Below w.heap.size w ((w.alloc (.cells #[.slice A n c, .slice B m d] 25)).alloc (.cells #[.slice none 0 0, .slice none 0 0] 25)) := by go_grown
  have hn := h.max
  replace h := hide (h.below g0)
  replace g := hide (g.below g0)
  replace g0 := hide g0
  replace hr := hide hr
  subst hl
  go_enter Try.func14, Try.ntmps14
  go_wp2_with fail
  refine (ref_right_any h.out g.out true hr.out).mono ?_
  rintro e w1 ⟨rfl, hb⟩
  have DB := hide (g0.out.trans (hb.mono g0.out.size))
  have c0 : w1.cell? ⟨w.heap.size, 0, none⟩ = some (.slice A n c) := (hb.cell (p := ⟨w.heap.size, 0, none⟩) (by simp; omega)).trans (by go_side)
  have r0 : w1.cell? ⟨w.heap.size + 1, 0, none⟩ = some (.slice none 0 0) := (hb.cell (p := ⟨w.heap.size + 1, 0, none⟩) (by simp)).trans (by go_side)
  have r1 : w1.cell? ⟨w.heap.size + 1, 1, none⟩ = some (.slice none 0 0) := (hb.cell (p := ⟨w.heap.size + 1, 1, none⟩) (by simp)).trans (by go_side)
  have f0 : w1.frozen? ⟨w.heap.size + 1, 0, none⟩ = false := (hb.frozen (p := ⟨w.heap.size + 1, 0, none⟩) (by simp)).trans (by go_side)
  have f1 : w1.frozen? ⟨w.heap.size + 1, 1, none⟩ = false := (hb.frozen (p := ⟨w.heap.size + 1, 1, none⟩) (by simp)).trans (by go_side)
  have sz : w.heap.size + 2 ≤ w1.heap.size := by have := hb.size; simp at this; omega
  clear hb h g g0 hr
  go_wp2_with fail
  refine bodyPost_ret (v := .tuple #[.agg #[.slice none 0 0, .slice none 0 0], .int .i64 4]) (by simp [results, Try.results14, go_sem, r0, r1, f0, f1]) rfl ?_
  exact ⟨none, 0, 0, none, 0, 0, rfl, pags_nil _, olds_nil _, (DB.out.setCell (by simp) _).setCell (by simp) _⟩

theorem ref_write_any {A B C : Option Addr} {n c m d k e : Nat} {ps : List Pg} {ws : List Od} {z : Pg} {w : World} (h : Pags w A n c ps) (g : Olds w B m d ws) (u : Byt w C k e z) (hm : m ≤ 100000) (p : Int) (P : List Pg) (W : List Od) (E : Int) (hP : writeP ps ws p z = P) (hW : writeW ps ws p z = W) (hE : writeE ps ws p z = E) :
    Calls Try.prog 14 #[.agg #[.slice A n c, .slice B m d], .int .i64 p, .slice C k e] w (RetDE w P W E) := by
  subst hP hW hE
  have hl := h.1
  have hz := u.len
  cases hr : rightB ps ws with
  | false =>
    have e1 : writeE ps ws p z = 1 := by unfold writeE; rw [hr]; rfl
    have e2 : writeP ps ws p z = [] := by unfold writeP; rw [e1]; rfl
    have e3 : writeW ps ws p z = [] := by unfold writeW; rw [e1]; rfl
    rw [e1, e2, e3]
    exact ref_write_wrong h g u.max p hr
  | true =>
    by_cases hk : k = 256
    · by_cases hp : p < 0
      · have e1 : writeE ps ws p z = 4 := by unfold writeE; rw [if_pos ⟨hr, by omega⟩, if_neg (by omega)]
        have e2 : writeP ps ws p z = [] := by unfold writeP; rw [e1]; rfl
        have e3 : writeW ps ws p z = [] := by unfold writeW; rw [e1]; rfl
        rw [e1, e2, e3]
        exact ref_write_low h g u.max p hr hk hp
      · by_cases hp2 : (n : Int) ≤ p
        · have e1 : writeE ps ws p z = 4 := by unfold writeE; rw [if_pos ⟨hr, by omega⟩, if_neg (by omega)]
          have e2 : writeP ps ws p z = [] := by unfold writeP; rw [e1]; rfl
          have e3 : writeW ps ws p z = [] := by unfold writeW; rw [e1]; rfl
          rw [e1, e2, e3]
          exact ref_write_high h g u.max p hr hk hp hp2
        · obtain ⟨a, rfl⟩ : ∃ a : Nat, p = (a : Int) := ⟨p.toNat, by omega⟩
          have R := (right_iff ps ws).1 hr
          have e1 : writeE ps ws (a : Int) z = 0 := writeE_zero.2 ⟨R, by omega, by omega, by omega⟩
          have e2 : writeP ps ws (a : Int) z = ps.set a z := by unfold writeP; rw [e1]; rfl
          have e3 : writeW ps ws (a : Int) z = ws ++ [((a : Int), ps.getD a [])] := by unfold writeW; rw [e1]; rfl
          rw [e1, e2, e3]
          exact ref_write_good h g u R hk (by omega) hm _ _ rfl rfl
    · have e1 : writeE ps ws p z = 1 := by unfold writeE; rw [if_neg (by omega)]
      have e2 : writeP ps ws p z = [] := by unfold writeP; rw [e1]; rfl
      have e3 : writeW ps ws p z = [] := by unfold writeW; rw [e1]; rfl
      rw [e1, e2, e3]
      exact ref_write_short h g u.max p hr hk
end Go.Proofs.Ytfmgmpelgnickaa

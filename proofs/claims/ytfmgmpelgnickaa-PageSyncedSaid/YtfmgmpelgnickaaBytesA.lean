/-
  Chapter 31: the walk over the law PageBytes: it returns true.
-/
import Derived.Test.YtfmgmpelgnickaaReads
namespace Go.Proofs.Ytfmgmpelgnickaa
open Go.RowKit Plain
set_option linter.unusedSimpArgs false
set_option linter.unusedVariables false
attribute [local go_sem ↓] Go.wp_at_zero Go.wp_at_succ

theorem Olds.at2 {w wr : World} {A : Option Addr} {n c : Nat} {ws : List Od} (h : Olds w A n c ws) (hB : Below w.heap.size w wr) {k : Nat} (hk : k < n) :
    ∃ b off Aj nj cj, A = some ⟨b, off, .none⟩ ∧ b < wr.heap.size ∧ wr.cell? ⟨b, off + k * 2, .none⟩ = some (.int .i64 (ws.getD k od0).1) ∧ wr.cell? ⟨b, off + k * 2 + 1, .none⟩ = some (.slice Aj nj cj) ∧ Byt w Aj nj cj (ws.getD k od0).2 := by
  obtain ⟨b, off, Aj, nj, cj, e, hb, p0, p1, P⟩ := h.at_ (Below.refl _ _) hk
  exact ⟨b, off, Aj, nj, cj, e, Nat.lt_of_lt_of_le hb hB.size, (hB.cell (p := ⟨b, _, .none⟩) hb).trans p0, (hB.cell (p := ⟨b, _, .none⟩) hb).trans p1, P⟩
theorem Pags.at2 {w wr : World} {A : Option Addr} {n c : Nat} {ps : List Pg} (h : Pags w A n c ps) (hB : Below w.heap.size w wr) {k : Nat} (hk : k < n) :
    ∃ b off Aj nj cj, A = some ⟨b, off, .none⟩ ∧ b < wr.heap.size ∧ wr.cell? ⟨b, off + k, .none⟩ = some (.slice Aj nj cj) ∧ Byt w Aj nj cj (ps.getD k []) := by
  obtain ⟨b, off, Aj, nj, cj, e, hb, p1, P⟩ := h.at_ (Below.refl _ _) hk
  exact ⟨b, off, Aj, nj, cj, e, Nat.lt_of_lt_of_le hb hB.size, (hB.cell (p := ⟨b, _, .none⟩) hb).trans p1, P⟩
/-- What page a was at the last sync, and behind each of the first k writes. -/
def hadL (ps : List Pg) (ws : List Od) (a k : Nat) : List Pg := (synced ps ws).getD a [] :: ((List.range k).filter (fun j => decide ((ws.getD j od0).1 = (a : Int)))).map (wrote ps ws)
theorem hadL_yes {ps : List Pg} {ws : List Od} {a k : Nat} (h : (ws.getD k od0).1 = (a : Int)) : hadL ps ws a (k + 1) = hadL ps ws a k ++ [wrote ps ws k] := by
  have e : [k].filter (fun j => decide ((ws.getD j od0).1 = (a : Int))) = [k] := by rw [List.filter_cons, if_pos (decide_eq_true h)]; rfl
  unfold hadL; rw [List.range_succ, List.filter_append, List.map_append, e]; rfl
theorem hadL_no {ps : List Pg} {ws : List Od} {a k : Nat} (h : (ws.getD k od0).1 ≠ (a : Int)) : hadL ps ws a (k + 1) = hadL ps ws a k := by
  have e : [k].filter (fun j => decide ((ws.getD j od0).1 = (a : Int))) = [] := by rw [List.filter_cons, if_neg (by rw [decide_eq_false h]; decide)]; rfl
  unfold hadL; rw [List.range_succ, List.filter_append, e, List.append_nil]
theorem hadL_len {ps : List Pg} {ws : List Od} (R : Rt ps ws) {a k : Nat} (ha : a < ps.length) (hk : k ≤ ws.length) : ∀ q ∈ hadL ps ws a k, q.length = 256 := by
  intro q hq
  rcases List.mem_cons.1 hq with e | e
  · rw [e]; exact synced_page R ha
  · obtain ⟨j, hj, rfl⟩ := List.mem_map.1 e
    have := List.mem_range.1 (List.mem_filter.1 hj).1
    exact wrote_len R (by omega)
theorem hadL_cnt (ps : List Pg) (ws : List Od) (a k : Nat) : (hadL ps ws a k).length ≤ k + 1 := by
  unfold hadL
  rw [List.length_cons, List.length_map]
  have := List.length_filter_le (fun j => decide ((ws.getD j od0).1 = (a : Int))) (List.range k)
  rw [List.length_range] at this
  omega
def metB (qs : List Pg) (i : Nat) (y : Int) (t : Nat) : Bool := (List.range t).any fun j => decide ((qs.getD j []).getD i 0 = y)
theorem metB_succ (qs : List Pg) (i : Nat) (y : Int) (t : Nat) : metB qs i y (t + 1) = (metB qs i y t || decide ((qs.getD t []).getD i 0 = y)) := by
  unfold metB; rw [List.range_succ, List.any_append]; simp
theorem met_all {ps : List Pg} {ws : List Od} (R : Rt ps ws) (cuts : List Int) (a i : Nat) : metB (hadL ps ws a ws.length) i (((crashTo ps ws cuts ws.length).getD a []).getD i 0) (hadL ps ws a ws.length).length = true := by
  unfold metB
  rw [List.any_eq_true]
  have key : ∃ q ∈ hadL ps ws a ws.length, q.getD i 0 = ((crashTo ps ws cuts ws.length).getD a []).getD i 0 := by
    rcases crash_byte R cuts (Nat.le_refl _) a i with e | ⟨j, hj, h1, h2⟩
    · exact ⟨_, List.mem_cons_self .., e.symm⟩
    · exact ⟨wrote ps ws j, List.mem_cons_of_mem _ (List.mem_map.2 ⟨j, List.mem_filter.2 ⟨List.mem_range.2 hj, by simpa using h1⟩, rfl⟩), h2.symm⟩
  obtain ⟨q, hq, e⟩ := key
  obtain ⟨j, hj, rfl⟩ := List.getElem_of_mem hq
  refine ⟨j, List.mem_range.2 hj, ?_⟩
  rw [List.getD_eq_getElem?_getD (l := hadL ps ws a ws.length), List.getElem?_eq_getElem hj]
  simpa using e
set_option maxRecDepth 10000 in
set_option maxHeartbeats 2000000 in
theorem wrote_old {A B : Option Addr} {n c m d k : Nat} {ps : List Pg} {ws : List Od} {wo w : World} (h : Pags wo A n c ps) (g : Olds wo B m d ws) (hO : Below wo.heap.size wo w) (R : Rt ps ws) (hk : k < m) (hm : m ≤ 100000) (P : Pg) (hP : wrote ps ws k = P) :
    Calls Try.prog 26 #[.agg #[.slice A n c, .slice B m d], .int .i64 (k : Int)] w fun e w' => ∃ A n c, e = .returned (.slice A n c) ∧ Byt wo A n c P ∧ Below w.heap.size w w' := by
  subst hP
  have g0 : Below w.heap.size w (w.alloc (.cells #[.slice A n c, .slice B m d] 25)) := by go_grown
  have hl := hide h.1
  have gl := hide g.1
  obtain ⟨p, hp⟩ : ∃ p, p = (ws.getD k od0).1 := ⟨_, rfl⟩
  have hpr := R.old k (by rw [gl.out]; exact hk)
  rw [← hp, hl.out] at hpr
  obtain ⟨hp0, hp1, _⟩ := hpr
  have hstep : Hid (∀ t, t < m → wroteAt ps (ws.drop t) p = if (ws.getD t od0).1 = p then (ws.getD t od0).2 else wroteAt ps (ws.drop (t + 1)) p) := hide (fun t ht => wroteAt_step ps (by rw [gl.out]; exact ht) p)
  have hend : Hid (wroteAt ps (ws.drop m) p = ps.getD p.toNat []) := hide (by rw [List.drop_of_length_le (by rw [gl.out]; exact Nat.le_refl _)]; rfl)
  have hstart : Hid (wroteAt ps (ws.drop (k + 1)) p = wrote ps ws k) := hide (by rw [hp]; rfl)
  obtain ⟨Q, hQ⟩ : ∃ Q, Q = wrote ps ws k := ⟨_, rfl⟩
  rw [← hQ] at hstart ⊢
  clear hQ R
  replace hp := hide hp
  replace h := hide h
  replace g := hide g
  have hG : Below wo.heap.size wo (w.alloc (.cells #[.slice A n c, .slice B m d] 25)) := hO.trans (g0.mono hO.size)
  replace g0 := hide g0
  go_enter Try.func26, Try.ntmps26
  obtain ⟨w0, hw0⟩ : ∃ w0, w0 = w.alloc (.cells #[.slice A n c, .slice B m d] 25) := ⟨_, rfl⟩
  have c0 : w0.cell? ⟨w.heap.size, 0, none⟩ = some (.slice A n c) := by rw [hw0]; go_side
  have c1 : w0.cell? ⟨w.heap.size, 1, none⟩ = some (.slice B m d) := by rw [hw0]; go_side
  have sz : w.heap.size < w0.heap.size := by rw [hw0]; simp
  go_wp2_with fail
  rw [← hw0] at g0 hG ⊢
  clear hw0
  replace hG := hide hG
  go_loopw [5] (fun i wr => ∃ t : Nat, t ≤ m ∧ i = .int .i64 t ∧ Hid (wroteAt ps (ws.drop t) p = Q) ∧ Hid (Below w0.heap.size w0 wr) ∧ w.heap.size < wr.heap.size ∧ wr.cell? ⟨w.heap.size, 0, none⟩ = some (.slice A n c) ∧ wr.cell? ⟨w.heap.size, 1, none⟩ = some (.slice B m d)) (fun i _ => m - (intOf i).toNat)
  case atStart => exact ⟨k + 1, by omega, by go_num, hstart, hide (Below.refl _ _), sz, c0, c1⟩
  case round =>
    clear c0 c1 sz hstart
    obtain ⟨t, ht, rfl, hd, BW, sz, c0, c1⟩ := hrel
    obtain ⟨b2, off2, Bk, mk, dk, hB, hbk2, q0, q1, Q1⟩ := g.out.at2 (st hG.out BW.out (Below.refl _ _)) hk
    rw [← hp.out] at q0
    clear q1 Q1
    subst hB
    have hk0 : (0 : Int) ≤ (k : Int) := by omega
    have hkm : (k : Int) < (m : Int) := by omega
    by_cases hlt : t < m
    · obtain ⟨b, off, Aj, nj, cj, hB, hbk, p0, p1, P1⟩ := g.out.at2 (st hG.out BW.out (Below.refl _ _)) hlt
      injection hB with hB
      injection hB with hB1 hB2
      subst hB1 hB2
      replace P1 := hide P1
      have ht0 : (0 : Int) ≤ (t : Int) := by omega
      have htn : (t : Int) < (m : Int) := by omega
      have hs := hide (hstep.out t hlt)
      generalize (ws.getD t od0).1 = X at *
      generalize (ws.getD t od0).2 = Z at *
      by_cases x1 : X = p
      · have hZ : Hid (Z = Q) := hide (by have := hs.out; rw [if_pos x1] at this; rw [← this]; exact hd.out)
        subst x1
        clear hs hd hstep hend
        go_wp2_with fail
        refine wp_region_calm (fun w' => Below wr.heap.size wr w') (by kernel_rfl) (by kernel_rfl) (below_drewN (Below.refl _ _) 1) ?_
        repeat (first
          | go_big_quiet_skip
          | (go_big_quiet_want
             first
               | (go_big_quiet_op; go_big_quiet_on)
               | (apply Exists.intro
                  refine ⟨fun w' hw' => ?_, ?_⟩
                  focus
                    obtain ⟨hc', hf'⟩ := bcell hw'
                    go_simp
                    try first
                      | rfl
                      | (with_reducible rfl)
                  go_big_quiet_on)
             try simp only [Act.put, List.setIfInBounds_toArray, List.set_cons_zero, List.set_cons_succ]))
        refine wpQuiet_nil ?_
        intro V HV
        have BV := hide (BW.out.trans (HV.mono BW.out.size))
        have k1 := (HV.cell (p := ⟨w.heap.size, 1, none⟩) sz).trans c1
        have p1' := (HV.cell (p := ⟨b2, off2 + t * 2 + 1, none⟩) hbk).trans p1
        have P2 := P1
        clear HV c0 c1 p0 p1 q0
        go_wp2_with fail
        go_ret
        exact ⟨Aj, nj, cj, rfl, by rw [← hZ.out]; exact P2.out, st g0.out BV.out (Below.refl _ _)⟩
      · have hnext : Hid (wroteAt ps (ws.drop (t + 1)) p = Q) := hide (by have := hs.out; rw [if_neg x1] at this; rw [← this]; exact hd.out)
        have hq : (X == p) = false := by simpa using x1
        clear hs hd P1 p1
        go_wp2_with fail
        refine wp_region_calm (fun w' => Below wr.heap.size wr w') (by kernel_rfl) (by kernel_rfl) (below_drewN (Below.refl _ _) 1) ?_
        repeat (first
          | go_big_quiet_skip
          | (go_big_quiet_want
             first
               | (go_big_quiet_op; go_big_quiet_on)
               | (apply Exists.intro
                  refine ⟨fun w' hw' => ?_, ?_⟩
                  focus
                    obtain ⟨hc', hf'⟩ := bcell hw'
                    go_simp
                    try first
                      | rfl
                      | (with_reducible rfl)
                  go_big_quiet_on)
             try simp only [Act.put, List.setIfInBounds_toArray, List.set_cons_zero, List.set_cons_succ]))
        refine wpQuiet_nil ?_
        intro V HV
        have BV := hide (BW.out.trans (HV.mono BW.out.size))
        have k0 := (HV.cell (p := ⟨w.heap.size, 0, none⟩) sz).trans c0
        have k1 := (HV.cell (p := ⟨w.heap.size, 1, none⟩) sz).trans c1
        have sz2 : w.heap.size < V.heap.size := Nat.lt_of_lt_of_le sz HV.size
        clear HV c0 c1 p0 q0
        go_wp2_with fail
        go_roundw
        case rel => exact ⟨t + 1, by omega, by go_num, hnext, BV, sz2, k0, k1⟩
        case measure => simp [intOf]; omega
    · obtain rfl : t = m := by omega
      obtain ⟨a, ha⟩ : ∃ a : Nat, p = (a : Int) := ⟨p.toNat, by omega⟩
      subst ha
      have han : a < n := by omega
      obtain ⟨b, off, Aj, nj, cj, hA, hbk, p1, P1⟩ := h.out.at2 (st hG.out BW.out (Below.refl _ _)) han
      subst hA
      have hZ : Hid (ps.getD a [] = Q) := hide (by have e := hend.out; rw [Int.toNat_natCast] at e; rw [← e]; exact hd.out)
      generalize ps.getD a [] = Z at *
      replace P1 := hide P1
      have ha0 : (0 : Int) ≤ (a : Int) := by omega
      have han2 : (a : Int) < (n : Int) := by omega
      clear hend hstep hd
      go_wp2_with fail
      refine wp_region_calm (fun w' => Below wr.heap.size wr w') (by kernel_rfl) (by kernel_rfl) (below_drewN (Below.refl _ _) 1) ?_
      repeat (first
        | go_big_quiet_skip
        | (go_big_quiet_want
           first
             | (go_big_quiet_op; go_big_quiet_on)
             | (apply Exists.intro
                refine ⟨fun w' hw' => ?_, ?_⟩
                focus
                  obtain ⟨hc', hf'⟩ := bcell hw'
                  go_simp
                  try first
                    | rfl
                    | (with_reducible rfl)
                go_big_quiet_on)
           try simp only [Act.put, List.setIfInBounds_toArray, List.set_cons_zero, List.set_cons_succ]))
      refine wpQuiet_nil ?_
      intro V HV
      have BV := hide (BW.out.trans (HV.mono BW.out.size))
      have P2 := P1
      clear HV c0 c1 p1 q0
      go_wp2_with fail
      go_ret
      exact ⟨Aj, nj, cj, rfl, by rw [← hZ.out]; exact P2.out, st g0.out BV.out (Below.refl _ _)⟩

end Go.Proofs.Ytfmgmpelgnickaa

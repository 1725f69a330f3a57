/-
  Chapter 31: Wrote and Synced, by the reference.
-/
import Derived.Test.YtfmgmpelgnickaaRef5
namespace Go.Proofs.Ytfmgmpelgnickaa
open Go.RowKit Plain
set_option linter.unusedSimpArgs false
set_option linter.unusedVariables false
attribute [local go_sem ↓] Go.wp_at_zero Go.wp_at_succ

/-- A call returns bytes, pages (that may lie where others see them). -/
def RetBy (w : World) (zs : Pg) (e : Ending) (w' : World) : Prop := ∃ A n c, e = .returned (.slice A n c) ∧ Byt w' A n c zs ∧ Below w.heap.size w w'
def RetPg (w : World) (ps : List Pg) (e : Ending) (w' : World) : Prop := ∃ A n c, e = .returned (.slice A n c) ∧ Pags w' A n c ps ∧ Below w.heap.size w w'
theorem wroteAt_step (ps : List Pg) {ws : List Od} {t : Nat} (h : t < ws.length) (p : Int) : wroteAt ps (ws.drop t) p = if (ws.getD t od0).1 = p then (ws.getD t od0).2 else wroteAt ps (ws.drop (t + 1)) p := by
  rw [drop_cons od0 h]; rfl

set_option maxRecDepth 10000 in
set_option maxHeartbeats 2000000 in
theorem wrote_any {A B : Option Addr} {n c m d k : Nat} {ps : List Pg} {ws : List Od} {w : World} (h : Pags w A n c ps) (g : Olds w B m d ws) (R : Rt ps ws) (hk : k < m) (hm : m ≤ 100000) (P : Pg) (hP : wrote ps ws k = P) :
    Calls Try.prog 26 #[.agg #[.slice A n c, .slice B m d], .int .i64 (k : Int)] w (RetBy w P) := by
  subst hP
  have g0 : Below w.heap.size w (w.alloc (.cells #[.slice A n c, .slice B m d] 25)) := by go_grown
  have hl := hide h.1
  have gl := hide g.1
  obtain ⟨p, hp⟩ : ∃ p, p = (ws.getD k od0).1 := ⟨_, rfl⟩
  have hpr := R.old k (by rw [gl.out]; exact hk)
  rw [← hp, hl.out] at hpr
  obtain ⟨hp0, hp1, _⟩ := hpr
  have hstep : Hid (∀ t, t < m → wroteAt ps (ws.drop t) p = if (ws.getD t od0).1 = p then (ws.getD t od0).2 else wroteAt ps (ws.drop (t + 1)) p) := hide (fun t ht => wroteAt_step ps (by rw [gl.out]; exact ht) p)
  have hend : Hid (wroteAt ps (ws.drop m) p = ps.getD p.toNat []) := hide (by rw [List.drop_of_length_le (by rw [gl.out]; exact Nat.le_refl _)]; rfl)
  have hstart : Hid (wroteAt ps (ws.drop (k + 1)) p = wrote ps ws k) := hide (by rw [hp]; rfl)
  obtain ⟨Q, hQ⟩ : ∃ Q, Q = wrote ps ws k := ⟨_, rfl⟩
  rw [← hQ] at hstart ⊢
  clear hQ R
  replace hp := hide hp
  replace h := hide (h.below g0)
  replace g := hide (g.below g0)
  replace g0 := hide g0
  go_enter Try.func26, Try.ntmps26
  obtain ⟨w0, hw0⟩ : ∃ w0, w0 = w.alloc (.cells #[.slice A n c, .slice B m d] 25) := ⟨_, rfl⟩
  have c0 : w0.cell? ⟨w.heap.size, 0, none⟩ = some (.slice A n c) := by rw [hw0]; go_side
  have c1 : w0.cell? ⟨w.heap.size, 1, none⟩ = some (.slice B m d) := by rw [hw0]; go_side
  have sz : w.heap.size < w0.heap.size := by rw [hw0]; simp
  go_wp2_with fail
  rw [← hw0] at h g g0 ⊢
  clear hw0
  go_loopw [5] (fun i wr => ∃ t : Nat, t ≤ m ∧ i = .int .i64 t ∧ Hid (wroteAt ps (ws.drop t) p = Q) ∧ Hid (Below w0.heap.size w0 wr) ∧ w.heap.size < wr.heap.size ∧ wr.cell? ⟨w.heap.size, 0, none⟩ = some (.slice A n c) ∧ wr.cell? ⟨w.heap.size, 1, none⟩ = some (.slice B m d)) (fun i _ => m - (intOf i).toNat)
  case atStart => exact ⟨k + 1, by omega, by go_num, hstart, hide (Below.refl _ _), sz, c0, c1⟩
  case round =>
    clear c0 c1 sz hstart
    obtain ⟨t, ht, rfl, hd, BW, sz, c0, c1⟩ := hrel
    obtain ⟨b2, off2, Bk, mk, dk, hB, hbk2, q0, q1, Q1⟩ := g.out.at_ BW.out hk
    rw [← hp.out] at q0
    clear q1 Q1
    subst hB
    have hk0 : (0 : Int) ≤ (k : Int) := by omega
    have hkm : (k : Int) < (m : Int) := by omega
    by_cases hlt : t < m
    · obtain ⟨b, off, Aj, nj, cj, hB, hbk, p0, p1, P1⟩ := g.out.at_ BW.out hlt
      injection hB with hB
      injection hB with hB1 hB2
      subst hB1 hB2
      replace P1 := hide P1
      have ht0 : (0 : Int) ≤ (t : Int) := by omega
      have htn : (t : Int) < (m : Int) := by omega
      have hs := hide (hstep.out t hlt)
      generalize (ws.getD t od0).1 = X at *
      generalize (ws.getD t od0).2 = Z at *
      by_cases x1 : X = p
      · have hZ : Hid (Z = Q) := hide (by have := hs.out; rw [if_pos x1] at this; rw [← this]; exact hd.out)
        subst x1
        clear hs hd hstep hend
        go_wp2_with fail
        refine wp_region_calm (fun w' => Below wr.heap.size wr w') (by kernel_rfl) (by kernel_rfl) (below_drewN (Below.refl _ _) 1) ?_
        repeat (first
          | go_big_quiet_skip
          | (go_big_quiet_want
             first
               | (go_big_quiet_op; go_big_quiet_on)
               | (apply Exists.intro
                  refine ⟨fun w' hw' => ?_, ?_⟩
                  focus
                    obtain ⟨hc', hf'⟩ := bcell hw'
                    go_simp
                    try first
                      | rfl
                      | (with_reducible rfl)
                  go_big_quiet_on)
             try simp only [Act.put, List.setIfInBounds_toArray, List.set_cons_zero, List.set_cons_succ]))
        refine wpQuiet_nil ?_
        intro V HV
        have BV := hide (BW.out.trans (HV.mono BW.out.size))
        have k1 := (HV.cell (p := ⟨w.heap.size, 1, none⟩) sz).trans c1
        have p1' := (HV.cell (p := ⟨b2, off2 + t * 2 + 1, none⟩) hbk).trans p1
        have P2 := hide (P1.out.below HV)
        clear HV c0 c1 p0 p1 q0 P1
        go_wp2_with fail
        go_ret
        exact ⟨Aj, nj, cj, rfl, by rw [← hZ.out]; exact P2.out, st g0.out BV.out (Below.refl _ _)⟩
      · have hnext : Hid (wroteAt ps (ws.drop (t + 1)) p = Q) := hide (by have := hs.out; rw [if_neg x1] at this; rw [← this]; exact hd.out)
        have hq : (X == p) = false := by simpa using x1
        clear hs hd P1 p1
        go_wp2_with fail
        refine wp_region_calm (fun w' => Below wr.heap.size wr w') (by kernel_rfl) (by kernel_rfl) (below_drewN (Below.refl _ _) 1) ?_
        repeat (first
          | go_big_quiet_skip
          | (go_big_quiet_want
             first
               | (go_big_quiet_op; go_big_quiet_on)
               | (apply Exists.intro
                  refine ⟨fun w' hw' => ?_, ?_⟩
                  focus
                    obtain ⟨hc', hf'⟩ := bcell hw'
                    go_simp
                    try first
                      | rfl
                      | (with_reducible rfl)
                  go_big_quiet_on)
             try simp only [Act.put, List.setIfInBounds_toArray, List.set_cons_zero, List.set_cons_succ]))
        refine wpQuiet_nil ?_
        intro V HV
        have BV := hide (BW.out.trans (HV.mono BW.out.size))
        have k0 := (HV.cell (p := ⟨w.heap.size, 0, none⟩) sz).trans c0
        have k1 := (HV.cell (p := ⟨w.heap.size, 1, none⟩) sz).trans c1
        have sz2 : w.heap.size < V.heap.size := Nat.lt_of_lt_of_le sz HV.size
        clear HV c0 c1 p0 q0
        go_wp2_with fail
        go_roundw
        case rel => exact ⟨t + 1, by omega, by go_num, hnext, BV, sz2, k0, k1⟩
        case measure => simp [intOf]; omega
    · obtain rfl : t = m := by omega
      obtain ⟨a, ha⟩ : ∃ a : Nat, p = (a : Int) := ⟨p.toNat, by omega⟩
      subst ha
      have han : a < n := by omega
      obtain ⟨b, off, Aj, nj, cj, hA, hbk, p1, P1⟩ := h.out.at_ BW.out han
      subst hA
      have hZ : Hid (ps.getD a [] = Q) := hide (by have e := hend.out; rw [Int.toNat_natCast] at e; rw [← e]; exact hd.out)
      generalize ps.getD a [] = Z at *
      replace P1 := hide P1
      have ha0 : (0 : Int) ≤ (a : Int) := by omega
      have han2 : (a : Int) < (n : Int) := by omega
      clear hend hstep hd
      go_wp2_with fail
      refine wp_region_calm (fun w' => Below wr.heap.size wr w') (by kernel_rfl) (by kernel_rfl) (below_drewN (Below.refl _ _) 1) ?_
      repeat (first
        | go_big_quiet_skip
        | (go_big_quiet_want
           first
             | (go_big_quiet_op; go_big_quiet_on)
             | (apply Exists.intro
                refine ⟨fun w' hw' => ?_, ?_⟩
                focus
                  obtain ⟨hc', hf'⟩ := bcell hw'
                  go_simp
                  try first
                    | rfl
                    | (with_reducible rfl)
                go_big_quiet_on)
           try simp only [Act.put, List.setIfInBounds_toArray, List.set_cons_zero, List.set_cons_succ]))
      refine wpQuiet_nil ?_
      intro V HV
      have BV := hide (BW.out.trans (HV.mono BW.out.size))
      have P2 := hide (P1.out.below HV)
      clear HV c0 c1 p1 q0 P1
      go_wp2_with fail
      go_ret
      exact ⟨Aj, nj, cj, rfl, by rw [← hZ.out]; exact P2.out, st g0.out BV.out (Below.refl _ _)⟩

set_option maxRecDepth 10000 in
set_option maxHeartbeats 2000000 in
theorem synced_any {A B : Option Addr} {n c m d : Nat} {ps : List Pg} {ws : List Od} {w : World} (h : Pags w A n c ps) (g : Olds w B m d ws) (R : Rt ps ws) (hm : m ≤ 100000) (P : List Pg) (hP : synced ps ws = P) :
    Calls Try.prog 25 #[.agg #[.slice A n c, .slice B m d]] w (RetPg w P) := by
  subst hP
  have g0 : Below w.heap.size w (w.alloc (.cells #[.slice A n c, .slice B m d] 25)) := by go_grown
  have hl := hide h.1
  have gl := hide g.1
  have hn : n ≤ 4096 := by rw [← hl.out]; exact R.hi
  have hR : Hid (∀ t, t < m → 0 ≤ (ws.getD t od0).1 ∧ (ws.getD t od0).1 < (n : Int)) := hide (fun t ht => by have := R.old t (by rw [gl.out]; exact ht); rw [hl.out] at this; exact ⟨this.1, this.2.1⟩)
  have hstep : Hid (∀ t, t < m → synced ps (ws.drop t) = (synced ps (ws.drop (t + 1))).set (ws.getD t od0).1.toNat (ws.getD t od0).2) := hide (fun t ht => synced_drop ps (by rw [gl.out]; exact ht))
  have hsl : Hid (∀ t, (synced ps (ws.drop t)).length = n) := hide (fun t => by rw [synced_len]; exact hl.out)
  have hstart : Hid (synced ps (ws.drop m) = ps) := hide (by rw [List.drop_of_length_le (by rw [gl.out]; exact Nat.le_refl _)]; rfl)
  clear R
  replace h := hide (h.below g0)
  replace g := hide (g.below g0)
  replace g0 := hide g0
  go_enter Try.func25, Try.ntmps25
  obtain ⟨w0, hw0⟩ : ∃ w0, w0 = w.alloc (.cells #[.slice A n c, .slice B m d] 25) := ⟨_, rfl⟩
  have c1 : w0.cell? ⟨w.heap.size, 1, none⟩ = some (.slice B m d) := by rw [hw0]; go_side
  have sz : w.heap.size < w0.heap.size := by rw [hw0]; simp
  go_wp2_with fail
  rw [← hw0] at h g g0 ⊢
  clear hw0
  go_loopw [3, 4] (fun l i wr => ∃ (t : Nat) (A2 : Option Addr) (c2 : Nat), t ≤ m ∧ i = .int .i64 ((t : Int) - 1) ∧ l = .slice A2 n c2 ∧ Hid (Pags wr A2 n c2 (synced ps (ws.drop t))) ∧ Hid (Below w0.heap.size w0 wr) ∧ w.heap.size < wr.heap.size ∧ wr.cell? ⟨w.heap.size, 1, none⟩ = some (.slice B m d)) (fun _ i _ => (intOf i + 1).toNat)
  case atStart => exact ⟨m, A, c, by omega, rfl, rfl, hide (by rw [hstart.out]; exact h.out), hide (Below.refl _ _), sz, c1⟩
  case round =>
    clear c1 sz hstart
    obtain ⟨t, A2, c2, ht, hi, rfl, hd, BW, sz, c1⟩ := hrel
    rcases Nat.eq_zero_or_pos t with e0 | e0
    · subst e0
      subst hi
      clear hR hstep g h
      go_wp2_with fail
      go_ret
      exact ⟨A2, n, c2, rfl, hd.out, st g0.out BW.out (Below.refl _ _)⟩
    · obtain ⟨s, rfl⟩ : ∃ s, t = s + 1 := ⟨t - 1, by omega⟩
      rw [show (((s + 1 : Nat) : Int) - 1) = (s : Int) by omega] at hi
      subst hi
      have hs : s < m := by omega
      obtain ⟨b, off, Aj, nj, cj, hB, hbk, p0, p1, P1⟩ := g.out.at_ BW.out hs
      subst hB
      have hX := hR.out s hs
      have hst := hide (hstep.out s hs)
      generalize (ws.getD s od0).1 = X at *
      generalize (ws.getD s od0).2 = Z at *
      obtain ⟨a, ha⟩ : ∃ a : Nat, X = (a : Int) := ⟨X.toNat, by omega⟩
      subst ha
      rw [Int.toNat_natCast] at hst
      replace P1 := hide P1
      have ht0 : (0 : Int) ≤ (s : Int) := by omega
      have htn : (s : Int) < (m : Int) := by omega
      have n1 := World.new_ne wr ⟨w.heap.size, 1, none⟩ c1
      go_wp2_with fail
      go_region_held3 (fun w' => w'.cell? ⟨w.heap.size, 1, none⟩ = some (.slice (some ⟨b, off, none⟩) m d) ∧ w'.cell? ⟨b, off + s * 2, none⟩ = some (.int .i64 (a : Int)) ∧ w'.cell? ⟨b, off + s * 2 + 1, none⟩ = some (.slice Aj nj cj))
        (first | (refine ⟨?_, ?_, ?_⟩ <;> assumption) | go_keep)
        ((go_at_call 30; refine (with_any (hd.out.below (by go_grown)) (P1.out.below (by go_grown)) a (by omega) _ hst.out.symm).mono ?_; rintro e w3 ⟨A5, n5, c5, rfl, P5, _, hb⟩; have D3 : Below wr.heap.size wr w3 := Below.trans (by go_grown) hb; have k1 := (D3.cell (p := ⟨w.heap.size, 1, none⟩) sz).trans c1; have j0 := (D3.cell (p := ⟨b, off + s * 2, none⟩) hbk).trans p0; have j1 := (D3.cell (p := ⟨b, off + s * 2 + 1, none⟩) hbk).trans p1))
      have hn5 : n5 = n := by have := P5.1; rw [hsl.out] at this; exact this.symm
      subst hn5
      have BV := hide (BW.out.trans (D3.mono BW.out.size))
      have sz2 : w.heap.size < w3.heap.size := Nat.lt_of_lt_of_le sz D3.size
      replace P5 := hide P5
      clear c1 p0 p1 P1 D3 hb j0 j1 n1
      go_wp2_with fail
      go_roundw
      case rel => exact ⟨s, A5, c5, by omega, rfl, rfl, P5, BV, sz2, k1⟩
      case measure => simp [intOf] <;> omega
end Go.Proofs.Ytfmgmpelgnickaa

/-
  Chapter 31: writes: its rounds.
-/
import Derived.Test.YtfmgmpelgnickaaFun3
namespace Go.Proofs.Ytfmgmpelgnickaa
open Go.RowKit Go.Shelf Plain
set_option linter.unusedSimpArgs false
set_option linter.unusedVariables false
attribute [local go_sem] Oper.semAt_some

set_option maxRecDepth 100000 in
set_option maxHeartbeats 4000000 in
theorem writes1_in (k : Nat) (hk : 1 ≤ k) (l Bs N g h : Nat) (A B : Option Addr) (n c m d : Nat) (ps : List Pg) (ws : List Od) (pv vs : List Value) (w : World) (D : Disk w A B n c m d pv vs ps ws) (R : Rt ps ws) (hm : m ≤ 100000)
    (hN : w.heap.size ≤ N) (hg : w.heap.size ≤ g) (hh : w.heap.size ≤ h) (hBs : Bs < N) (hBg : Bs ≠ g) (hBh : Bs ≠ h) (J Jx : List Nat → World → Prop)
    (W : World) (hNW : N ≤ W.heap.size) (hJa : AbidesFrom W.heap.size J)
    (hY : ∀ pre x W, J pre W → pre.length < m → YieldAt Fence.wide (k - 1) Try.prog l (encW ws vs pv m x) W fun e W' =>
      (e = .returned (.bool true) ∧ J (pre ++ [x]) W' ∧ But N g h W W') ∨ (e = .returned (.bool false) ∧ Jx (pre ++ [x]) W'))
    (hW : Lies w W) (hc0 : W.cell? ⟨Bs, 0, none⟩ = some (.slice A n c)) (hc1 : W.cell? ⟨Bs, 1, none⟩ = some (.slice B m d)) (h0 : J [] W) :
    CallsIn Fence.wide k Try.prog 42 #[.func (.yield l) #[] #[], .pointer (some ⟨Bs, 0, none⟩)] W fun e W' => (∃ v, e = .returned v) ∧
      ((∃ ys, ys = List.range m ∧ J ys W') ∨ (∃ pre, True ∧ Jx pre W')) := by
  have hmd : m ≤ d := D.or.2.1
  have hdm : d ≤ 9223372036854775807 := by have := D.or.2.2.1; unfold maxLen at this; exact this
  replace D := hide D
  replace R := hide R
  refine callsIn_of_wp Try.func42 rfl trivial ?_ rfl
  simp only [Try.ntmps42, List.size_toArray, List.length_cons, List.length_nil, Nat.reduceAdd, Nat.reduceSub, Array.replicate_succ, Array.replicate_zero, List.push_toArray, List.append_toArray, List.nil_append, List.cons_append]
  gi_wp2
  gi_loopw [10] (fun i wr => ∃ t : Nat, t ≤ m ∧ i = .int .i64 t ∧ J (List.range t) wr ∧ Hid (But N g h W wr)) (fun i _ => m - (intOf i).toNat)
  case atStart => exact ⟨0, by omega, rfl, h0, hide (But.refl _ _ _ _)⟩
  case round =>
    obtain ⟨t, ht, rfl, hJ, BW⟩ := hrel
    have q0 := (BW.out.cell (p := ⟨Bs, 0, none⟩) hBs hBg hBh).trans hc0
    have q1 := (BW.out.cell (p := ⟨Bs, 1, none⟩) hBs hBg hBh).trans hc1
    have szW := BW.out.size
    have LW := hW.but BW.out hN hg hh
    by_cases hlt : t < m
    · have hs0 : (0 : Int) ≤ (t : Int) := by omega
      have hsm : (t : Int) < (m : Int) := by omega
      have Dr := D.out.lies LW
      obtain ⟨b, off, Aj, nj, cj, rfl, hb1, p0, p1, hv⟩ := Dr.old hlt
      have hX := R.out.old t (by rw [D.out.ol]; exact hlt)
      rw [D.out.pl] at hX
      obtain ⟨X, hXe⟩ : ∃ X, X = (ws.getD t od0).1 := ⟨_, rfl⟩
      rw [← hXe] at p0 hX
      obtain ⟨a, ha⟩ : ∃ a : Nat, X = (a : Int) := ⟨X.toNat, by omega⟩
      subst ha
      have han : a < n := by omega
      obtain ⟨b2, off2, Ap, np, cp, rfl, hb2, t1, hpv⟩ := Dr.page han
      have ha0 : (0 : Int) ≤ (a : Int) := by omega
      have han2 : (a : Int) < (n : Int) := by omega
      replace hXe := hide hXe
      replace Dr := hide Dr
      replace LW := hide LW
      replace hpv := hide hpv
      clear hv hX
      have hBw : Bs < wr.heap.size := by omega
      by_cases hd : d = t + 1
      · have hm0 : m - (t + 1) = 0 := by omega
        have hsub : Hid (Olds wr (some ⟨b, off, none⟩) 0 0 (ws.drop (t + 1))) := hide (by rw [List.drop_of_length_le (by rw [D.out.ol]; omega)]; exact olds_none _ _)
        subst hd
        clear hm0
        gi_wp2_with fail
        refine ⟨trivial, ?_⟩
        have hz := hide (show (wr.alloc (.cells #[.int .i64 (a : Int), .slice Aj nj cj] 47)).cell? ⟨wr.heap.size, 0, none⟩ = some (.int .i64 (a : Int)) by go_side)
        with_reducible refine (callsIn_wide.2 (index_mine (B1 := wr.heap.size) (q := (a : Int)) (hsub.out.below (by go_grown)) hz.out (by simp))).mono ?_
        rintro e w3 ⟨rfl, hb⟩
        have D3 : Below wr.heap.size wr w3 := Below.trans (by go_grown) (hb.mono (by simp))
        have x0 : w3.cell? ⟨wr.heap.size, 0, none⟩ = some (.int .i64 (a : Int)) := (hb.cell (p := ⟨wr.heap.size, 0, none⟩) (by simp)).trans (by go_side)
        have x1 := (D3.cell (p := ⟨Bs, 1, none⟩) hBw).trans q1
        have hJ3 := abides_below hJa hJ D3
        have hBV := hide (show bV ws vs pv t = if 0 ≤ firstI (mineP (a : Int)) (ws.drop (t + 1)) then vs.getD ((t + 1 + (firstI (mineP (a : Int)) (ws.drop (t + 1))).toNat) * 2 + 1) nul else pv.getD a nul by unfold bV; rw [← hXe.out, Int.toNat_natCast])
        have hr := first_in (mineP (a : Int)) (ws.drop (t + 1))
        have hrl := first_lt (mineP (a : Int)) (ws.drop (t + 1))
        rw [List.length_drop, D.out.ol] at hrl
        generalize firstI (mineP (a : Int)) (ws.drop (t + 1)) = r at *
        have hr2 : r = -1 ∨ 0 ≤ r := by rcases hr with h | h; exact .inl h.1; exact .inr h.1
        clear hr hb
        obtain ⟨fn, tmps, assign, body, hy, hR⟩ := hY _ t w3 hJ3 (by rw [List.length_range]; exact hlt)
        have hen : encW ws vs pv m t = #[.int .i64 (a : Int), bV ws vs pv t] := by unfold encW; rw [ix_self hlt, ← hXe.out]
        rw [hen, hBV.out] at hy
        clear hen hBV
        rcases hr2 with r1 | r1
        · subst r1
          rw [if_neg (by omega), hpv.out] at hy
          clear hrl
          gi_wp2
          refine hR.mono ?_
          rintro e W3 (⟨rfl, hJ4, hk3⟩ | ⟨rfl, hJx3⟩)
          · have BW2 := hide ((BW.out.below hNW D3).trans hk3)
            have hJ5 : J (List.range (t + 1)) W3 := by rw [List.range_succ]; exact hJ4
            clear hk3 hy hR hJ4 q0 q1 p0 p1 t1 x0 x1 D3
            gi_wp2
            go_roundw
            case rel => exact ⟨t + 1, by omega, by simp, hJ5, BW2⟩
            case measure => simp [intOf]; omega
          · clear hy hR
            gi_wp2
            refine bodyPost_ret (results_none rfl _ _ _) rfl ?_
            exact ⟨⟨_, rfl⟩, .inr ⟨_, trivial, hJx3⟩⟩
        · exfalso
          have := hrl r1
          omega
      · have hsub := hide (Dr.out.tail (q := t + 1) (by omega) (by omega))
        have hd2 : ¬ (d : Int) = (t : Int) + 1 := by omega
        gi_wp2_with fail
        refine ⟨trivial, ?_⟩
        have hz := hide (show (wr.alloc (.cells #[.int .i64 (a : Int), .slice Aj nj cj] 47)).cell? ⟨wr.heap.size, 0, none⟩ = some (.int .i64 (a : Int)) by go_side)
        with_reducible refine (callsIn_wide.2 (index_mine (B1 := wr.heap.size) (q := (a : Int)) (hsub.out.below (by go_grown)) hz.out (by simp))).mono ?_
        rintro e w3 ⟨rfl, hb⟩
        have D3 : Below wr.heap.size wr w3 := Below.trans (by go_grown) (hb.mono (by simp))
        have x0 : w3.cell? ⟨wr.heap.size, 0, none⟩ = some (.int .i64 (a : Int)) := (hb.cell (p := ⟨wr.heap.size, 0, none⟩) (by simp)).trans (by go_side)
        have x1 := (D3.cell (p := ⟨Bs, 1, none⟩) hBw).trans q1
        have hJ3 := abides_below hJa hJ D3
        have hBV := hide (show bV ws vs pv t = if 0 ≤ firstI (mineP (a : Int)) (ws.drop (t + 1)) then vs.getD ((t + 1 + (firstI (mineP (a : Int)) (ws.drop (t + 1))).toNat) * 2 + 1) nul else pv.getD a nul by unfold bV; rw [← hXe.out, Int.toNat_natCast])
        have hr := first_in (mineP (a : Int)) (ws.drop (t + 1))
        have hrl := first_lt (mineP (a : Int)) (ws.drop (t + 1))
        rw [List.length_drop, D.out.ol] at hrl
        generalize firstI (mineP (a : Int)) (ws.drop (t + 1)) = r at *
        have hr2 : r = -1 ∨ 0 ≤ r := by rcases hr with h | h; exact .inl h.1; exact .inr h.1
        clear hr hb
        obtain ⟨fn, tmps, assign, body, hy, hR⟩ := hY _ t w3 hJ3 (by rw [List.length_range]; exact hlt)
        have hen : encW ws vs pv m t = #[.int .i64 (a : Int), bV ws vs pv t] := by unfold encW; rw [ix_self hlt, ← hXe.out]
        rw [hen, hBV.out] at hy
        clear hen hBV
        rcases hr2 with r1 | r1
        · subst r1
          rw [if_neg (by omega), hpv.out] at hy
          clear hrl
          gi_wp2
          refine hR.mono ?_
          rintro e W3 (⟨rfl, hJ4, hk3⟩ | ⟨rfl, hJx3⟩)
          · have BW2 := hide ((BW.out.below hNW D3).trans hk3)
            have hJ5 : J (List.range (t + 1)) W3 := by rw [List.range_succ]; exact hJ4
            clear hk3 hy hR hJ4 q0 q1 p0 p1 t1 x0 x1 D3
            gi_wp2
            go_roundw
            case rel => exact ⟨t + 1, by omega, by simp, hJ5, BW2⟩
            case measure => simp [intOf]; omega
          · clear hy hR
            gi_wp2
            refine bodyPost_ret (results_none rfl _ _ _) rfl ?_
            exact ⟨⟨_, rfl⟩, .inr ⟨_, trivial, hJx3⟩⟩
        · obtain ⟨q, rfl⟩ : ∃ q : Nat, r = (q : Int) := ⟨r.toNat, by omega⟩
          have hql := hrl r1
          have hqm : t + 1 + q < m := by omega
          obtain ⟨b5, off5, A5, n5, c5, hB5, hb5, y0, y1, yv⟩ := (D.out.lies (hW.but (BW.out.below hNW D3) hN hg hh)).old hqm
          injection hB5 with hB5
          injection hB5 with hB6 hB7
          subst hB6 hB7
          rw [if_pos r1, Int.toNat_natCast, yv] at hy
          have z0 : (0 : Int) ≤ (t : Int) + 1 + (q : Int) := by omega
          have z1 : (t : Int) + 1 + (q : Int) < (m : Int) := by omega
          have z2 : ((t : Int) + 1 + (q : Int)).toNat = t + 1 + q := by omega
          have z3 : IntKind.i64.wrap ((t : Int) + 1 + (q : Int)) = (t : Int) + 1 + (q : Int) := IntWalk.i64_in _ (by omega)
          clear hrl yv y0
          gi_wp2
          refine hR.mono ?_
          rintro e W3 (⟨rfl, hJ4, hk3⟩ | ⟨rfl, hJx3⟩)
          · have BW2 := hide ((BW.out.below hNW D3).trans hk3)
            have hJ5 : J (List.range (t + 1)) W3 := by rw [List.range_succ]; exact hJ4
            clear hk3 hy hR hJ4 q0 q1 p0 p1 t1 x0 x1 D3
            gi_wp2
            go_roundw
            case rel => exact ⟨t + 1, by omega, by simp, hJ5, BW2⟩
            case measure => simp [intOf]; omega
          · clear hy hR
            gi_wp2
            refine bodyPost_ret (results_none rfl _ _ _) rfl ?_
            exact ⟨⟨_, rfl⟩, .inr ⟨_, trivial, hJx3⟩⟩
    · obtain rfl : t = m := by omega
      gi_wp2
      go_end0
      exact ⟨⟨_, rfl⟩, .inl ⟨_, rfl, hJ⟩⟩
end Go.Proofs.Ytfmgmpelgnickaa

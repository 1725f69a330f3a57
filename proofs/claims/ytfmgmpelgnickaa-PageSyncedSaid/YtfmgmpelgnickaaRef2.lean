/-
  Chapter 31: Right, Read and Sync, by the reference.
-/
import Derived.Test.YtfmgmpelgnickaaSame2
namespace Go.Proofs.Ytfmgmpelgnickaa
open Go.RowKit Plain
set_option linter.unusedSimpArgs false
set_option linter.unusedVariables false
attribute [local go_sem ↓] Go.wp_at_zero Go.wp_at_succ


set_option maxRecDepth 10000 in
set_option maxHeartbeats 2000000 in
theorem ref_right_any {A B : Option Addr} {n c m d : Nat} {ps : List Pg} {ws : List Od} {w : World} (h : Pags w A n c ps) (g : Olds w B m d ws) (b : Bool) (hb : rightB ps ws = b) :
    Calls Try.prog 18 #[.agg #[.slice A n c, .slice B m d]] w fun e w' => e = .returned (.bool b) ∧ Below w.heap.size w w' := by
  subst hb
  have g0 : Below w.heap.size w (w.alloc (.cells #[.slice A n c, .slice B m d] 25)) := by go_grown
  have hn := h.max
  have hm := g.max
  have hl := hide h.1
  have gl := hide g.1
  have hf : Hid (rightB ps ws = true ↔ Rt ps ws) := hide (right_iff ps ws)
  obtain ⟨fb, hfb⟩ : ∃ x, x = rightB ps ws := ⟨_, rfl⟩
  rw [← hfb] at hf ⊢
  clear hfb
  replace h := hide (h.below g0)
  replace g := hide (g.below g0)
  replace g0 := hide g0
  go_enter Try.func18, Try.ntmps18
  go_wp2_with fail
  go_loop [3] (fun i => ∃ k : Nat, k ≤ n ∧ i = .int .i64 k ∧ Hid (∀ j, j < k → (ps.getD j []).length = 256)) (fun i => n - (intOf i).toNat)
  case atStart => exact ⟨0, by omega, rfl, hide (fun j hj => by omega)⟩
  case round =>
    obtain ⟨k, hk, rfl, hd⟩ := hrel
    by_cases hlt : k < n
    · obtain ⟨b, off, Aj, nj, cj, rfl, hbk, p1, p2⟩ := h.out.at_ (Below.refl _ _) hlt
      have hk0 : (0 : Int) ≤ (k : Int) := by omega
      have hkn : (k : Int) < (n : Int) := by omega
      have hlj := hide p2.len
      clear p2
      by_cases big : nj = 256
      · have hnext : Hid (∀ j, j < k + 1 → (ps.getD j []).length = 256) := hide (fun j hj => by
          by_cases e : j = k
          · rw [e]; have := hlj.out; omega
          · exact hd.out j (by omega))
        subst big
        clear hd hlj
        go_wp2_with fail
        go_round
        case rel => exact ⟨k + 1, by omega, by go_num, hnext⟩
        case measure => simp [intOf]; omega
      · have hno : Hid (fb = false) := hide (by
          cases e : fb with
          | false => rfl
          | true => exact absurd ((hf.out.1 e).page k (by rw [hl.out]; exact hlt)) (by have := hlj.out; omega))
        have hq : ((nj : Int) != 256) = true := by simp; omega
        have hq2 : ¬ (nj : Int) = 256 := by omega
        clear hd hf hlj big
        go_wp2_with fail
        go_ret
        exact ⟨ret_b hno.out.symm, g0.out⟩
    · obtain rfl : k = n := by omega
      obtain ⟨w0, hw0⟩ : ∃ w0, w0 = w.alloc (.cells #[.slice A k c, .slice B m d] 25) := ⟨_, rfl⟩
      have c0 : w0.cell? ⟨w.heap.size, 0, none⟩ = some (.slice A k c) := by rw [hw0]; go_side
      have c1 : w0.cell? ⟨w.heap.size, 1, none⟩ = some (.slice B m d) := by rw [hw0]; go_side
      have sz : w.heap.size < w0.heap.size := by rw [hw0]; simp
      go_wp2_with fail
      rw [← hw0] at g g0 ⊢
      clear h hlt hw0
      go_loopw [4] (fun i wr => ∃ t : Nat, t ≤ m ∧ i = .int .i64 t ∧ Hid (∀ j, j < t → 0 ≤ (ws.getD j od0).1 ∧ (ws.getD j od0).1 < (k : Int) ∧ (ws.getD j od0).2.length = 256) ∧ Hid (Below w0.heap.size w0 wr) ∧ w.heap.size < wr.heap.size ∧ wr.cell? ⟨w.heap.size, 0, none⟩ = some (.slice A k c) ∧ wr.cell? ⟨w.heap.size, 1, none⟩ = some (.slice B m d)) (fun i _ => m - (intOf i).toNat)
      case atStart => exact ⟨0, by omega, rfl, hide (fun j hj => by omega), hide (Below.refl _ _), sz, c0, c1⟩
      case round =>
        clear c0 c1 sz
        obtain ⟨t, ht, rfl, hd2, BW, sz, c0, c1⟩ := hrel
        by_cases hlt : t < m
        · obtain ⟨b, off, Aj, nj, cj, rfl, hbk, p0, p1, P1⟩ := g.out.at_ BW.out hlt
          have hk0 : (0 : Int) ≤ (t : Int) := by omega
          have hkn : (t : Int) < (m : Int) := by omega
          have hlj := hide P1.len
          clear P1
          have hno : Hid (¬ (0 ≤ (ws.getD t od0).1 ∧ (ws.getD t od0).1 < (k : Int) ∧ (ws.getD t od0).2.length = 256) → fb = false) := hide (fun q => by
            cases e : fb with
            | false => rfl
            | true => exact absurd ((hf.out.1 e).old t (by rw [gl.out]; exact hlt)) (by rw [hl.out]; exact q))
          have hnext : Hid ((0 ≤ (ws.getD t od0).1 ∧ (ws.getD t od0).1 < (k : Int) ∧ (ws.getD t od0).2.length = 256) → ∀ j, j < t + 1 → 0 ≤ (ws.getD j od0).1 ∧ (ws.getD j od0).1 < (k : Int) ∧ (ws.getD j od0).2.length = 256) := hide (fun q j hj => by
            by_cases e : j = t
            · rw [e]; exact q
            · exact hd2.out j (by omega))
          clear hd2
          rw [hlj.out] at hno hnext
          clear hlj
          generalize (ws.getD t od0).1 = X at *
          by_cases x1 : X < 0
          · have d1 : decide (X < 0) = true := decide_eq_true x1
            replace hno := hide (hno.out (fun q => by omega))
            clear hnext
            go_wp2_with fail
            refine wp_region_calm (fun w' => Below wr.heap.size wr w') (by kernel_rfl) (by kernel_rfl) (below_drewN (Below.refl _ _) 1) ?_
            repeat (first
              | go_big_quiet_skip
              | (go_big_quiet_want
                 first
                   | (go_big_quiet_op; go_big_quiet_on)
                   | (apply Exists.intro
                      refine ⟨fun w' hw' => ?_, ?_⟩
                      focus
                        obtain ⟨hc', hf'⟩ := bcell hw'
                        go_simp
                        try first
                          | rfl
                          | (with_reducible rfl)
                      go_big_quiet_on)
                 try simp only [Act.put, List.setIfInBounds_toArray, List.set_cons_zero, List.set_cons_succ]))
            refine wpQuiet_nil ?_
            intro V HV
            have BV := hide (st g0.out (BW.out.trans (HV.mono BW.out.size)) (Below.refl _ _))
            clear HV c0 c1 p0 p1
            go_wp2_with fail
            go_ret
            exact ⟨ret_b hno.out.symm, BV.out⟩
          · have d1 : decide (X < 0) = false := decide_eq_false x1
            by_cases x2 : (k : Int) ≤ X
            · have d2 : decide ((k : Int) ≤ X) = true := decide_eq_true x2
              replace hno := hide (hno.out (fun q => by omega))
              clear hnext
              go_wp2_with fail
              refine wp_region_calm (fun w' => Below wr.heap.size wr w') (by kernel_rfl) (by kernel_rfl) (below_drewN (Below.refl _ _) 1) ?_
              repeat (first
                | go_big_quiet_skip
                | (go_big_quiet_want
                   first
                     | (go_big_quiet_op; go_big_quiet_on)
                     | (apply Exists.intro
                        refine ⟨fun w' hw' => ?_, ?_⟩
                        focus
                          obtain ⟨hc', hf'⟩ := bcell hw'
                          go_simp
                          try first
                            | rfl
                            | (with_reducible rfl)
                        go_big_quiet_on)
                   try simp only [Act.put, List.setIfInBounds_toArray, List.set_cons_zero, List.set_cons_succ]))
              refine wpQuiet_nil ?_
              intro V HV
              have BV := hide (st g0.out (BW.out.trans (HV.mono BW.out.size)) (Below.refl _ _))
              clear HV c0 c1 p0 p1
              go_wp2_with fail
              go_ret
              exact ⟨ret_b hno.out.symm, BV.out⟩
            · have d2 : decide ((k : Int) ≤ X) = false := decide_eq_false x2
              by_cases big : nj = 256
              · subst big
                replace hnext := hide (hnext.out ⟨by omega, by omega, rfl⟩)
                clear hno
                go_wp2_with fail
                refine wp_region_calm (fun w' => Below wr.heap.size wr w') (by kernel_rfl) (by kernel_rfl) (below_drewN (Below.refl _ _) 1) ?_
                repeat (first
                  | go_big_quiet_skip
                  | (go_big_quiet_want
                     first
                       | (go_big_quiet_op; go_big_quiet_on)
                       | (apply Exists.intro
                          refine ⟨fun w' hw' => ?_, ?_⟩
                          focus
                            obtain ⟨hc', hf'⟩ := bcell hw'
                            go_simp
                            try first
                              | rfl
                              | (with_reducible rfl)
                          go_big_quiet_on)
                     try simp only [Act.put, List.setIfInBounds_toArray, List.set_cons_zero, List.set_cons_succ]))
                refine wpQuiet_nil ?_
                intro V HV
                have BV := hide (BW.out.trans (HV.mono BW.out.size))
                have k0 := (HV.cell (p := ⟨w.heap.size, 0, none⟩) sz).trans c0
                have k1 := (HV.cell (p := ⟨w.heap.size, 1, none⟩) sz).trans c1
                have sz2 : w.heap.size < V.heap.size := Nat.lt_of_lt_of_le sz HV.size
                clear HV c0 c1 p0 p1
                go_wp2_with fail
                go_roundw
                case rel => exact ⟨t + 1, by omega, by go_num, hnext, BV, sz2, k0, k1⟩
                case measure => simp [intOf]; omega
              · replace hno := hide (hno.out (fun q => big q.2.2))
                have hq : ((nj : Int) != 256) = true := by simp; omega
                have hq2 : ¬ (nj : Int) = 256 := by omega
                clear hnext big
                go_wp2_with fail
                refine wp_region_calm (fun w' => Below wr.heap.size wr w') (by kernel_rfl) (by kernel_rfl) (below_drewN (Below.refl _ _) 1) ?_
                repeat (first
                  | go_big_quiet_skip
                  | (go_big_quiet_want
                     first
                       | (go_big_quiet_op; go_big_quiet_on)
                       | (apply Exists.intro
                          refine ⟨fun w' hw' => ?_, ?_⟩
                          focus
                            obtain ⟨hc', hf'⟩ := bcell hw'
                            go_simp
                            try first
                              | rfl
                              | (with_reducible rfl)
                          go_big_quiet_on)
                     try simp only [Act.put, List.setIfInBounds_toArray, List.set_cons_zero, List.set_cons_succ]))
                refine wpQuiet_nil ?_
                intro V HV
                have BV := hide (st g0.out (BW.out.trans (HV.mono BW.out.size)) (Below.refl _ _))
                clear HV c0 c1 p0 p1
                go_wp2_with fail
                go_ret
                exact ⟨ret_b hno.out.symm, BV.out⟩
        · obtain rfl : t = m := by omega
          have BV := hide (st g0.out BW.out (Below.refl _ _))
          have hfin : Hid (fb = (decide (1 ≤ k) && decide (k ≤ 4096))) := hide (by
            cases e : fb with
            | true =>
              have R := hf.out.1 e
              have r1 := R.lo
              have r2 := R.hi
              rw [hl.out] at r1 r2
              rw [decide_eq_true r1, decide_eq_true r2]; rfl
            | false =>
              by_cases r1 : 1 ≤ k
              · by_cases r2 : k ≤ 4096
                · exfalso
                  have : fb = true := hf.out.2 ⟨by rw [hl.out]; exact r1, by rw [hl.out]; exact r2, fun j hj => hd.out j (by rw [← hl.out]; exact hj), fun j hj => by rw [hl.out]; exact hd2.out j (by rw [← gl.out]; exact hj)⟩
                  rw [e] at this; cases this
                · rw [decide_eq_false r2, Bool.and_false]
              · rw [decide_eq_false r1]; rfl)
          clear hf hd hd2 hl gl
          by_cases r1 : 1 ≤ k
          · have r1I : (1 : Int) ≤ (k : Int) := by omega
            by_cases r2 : k ≤ 4096
            · have r2I : (k : Int) ≤ 4096 := by omega
              rw [decide_eq_true r1, decide_eq_true r2] at hfin
              go_wp2_with fail
              go_ret
              exact ⟨ret_b hfin.out.symm, BV.out⟩
            · have r2I : ¬ (k : Int) ≤ 4096 := by omega
              rw [decide_eq_true r1, decide_eq_false r2] at hfin
              go_wp2_with fail
              go_ret
              exact ⟨ret_b hfin.out.symm, BV.out⟩
          · rw [decide_eq_false r1] at hfin
            obtain rfl : k = 0 := by omega
            go_wp2_with fail
            go_ret
            exact ⟨ret_b hfin.out.symm, BV.out⟩
theorem ref_sync_any {A B : Option Addr} {n c m d : Nat} {ps : List Pg} {w : World} (h : Pags w A n c ps) : Calls Try.prog 22 #[.agg #[.slice A n c, .slice B m d]] w (RetD w ps []) := by
  have g0 : Below w.heap.size w (((w.alloc (.cells #[.slice A n c, .slice B m d] 25)).alloc (.cells #[.slice A n c, .slice none 0 0] 25))) := by go_grown
  replace h := hide (h.below g0)
  replace g0 := hide g0
  go_enter Try.func22, Try.ntmps22
  go_wp2_with fail
  refine bodyPost_ret (v := .agg #[.slice A n c, .slice none 0 0]) (by simp [results, Try.results22, go_sem]) rfl ?_
  exact ⟨A, n, c, none, 0, 0, rfl, h.out, olds_nil _, g0.out⟩
theorem ref_read_any {A B : Option Addr} {n c m d : Nat} {ps : List Pg} {ws : List Od} {w : World} (h : Pags w A n c ps) (g : Olds w B m d ws) (p : Int) (Z : Pg) (E : Int) (hZ : readB ps ws p = Z) (hE : readE ps ws p = E) :
    Calls Try.prog 12 #[.agg #[.slice A n c, .slice B m d], .int .i64 p] w (RetBE w Z E) := by
  subst hZ hE
  have g0 : Below w.heap.size w (w.alloc (.cells #[.slice A n c, .slice B m d] 25)) := by go_grown
  have hn := h.max
  have hl := h.1
  replace h := hide (h.below g0)
  replace g := hide (g.below g0)
  cases hr : rightB ps ws with
  | false =>
    have e1 : readE ps ws p = 1 := by unfold readE; rw [hr]; rfl
    have e2 : readB ps ws p = [] := by unfold readB; rw [e1]; rfl
    rw [e1, e2]
    clear e1 e2 hl
    replace hr := hide hr
    replace g0 := hide g0
    go_enter Try.func12, Try.ntmps12
    go_wp2_with fail
    refine (ref_right_any h.out g.out false hr.out).mono ?_
    rintro e w1 ⟨rfl, hb⟩
    have DB := hide (g0.out.trans (hb.mono g0.out.size))
    clear hb
    go_wp2_with fail
    go_ret2
    exact ⟨none, 0, 0, rfl, byt_nil _, DB.out⟩
  | true =>
    have R := (right_iff ps ws).1 hr
    replace hr := hide hr
    by_cases p1 : 0 ≤ p ∧ p < (n : Int)
    · obtain ⟨a, rfl⟩ : ∃ a : Nat, p = (a : Int) := ⟨p.toNat, by omega⟩
      have e1 : readE ps ws (a : Int) = 0 := readE_zero.2 ⟨R, by omega, by omega⟩
      have e2 : readB ps ws (a : Int) = ps.getD a [] := by unfold readB; rw [e1]; rfl
      rw [e1, e2]
      have hpl := R.page a (by omega)
      have ha : (a : Int) < (n : Int) := by omega
      have ha0 : (0 : Int) ≤ (a : Int) := by omega
      have hna : ¬ (n : Int) ≤ (a : Int) := by omega
      have hna0 : ¬ (a : Int) < 0 := by omega
      clear e1 e2 p1 hl R
      replace hpl := hide hpl
      replace g0 := hide g0
      go_enter Try.func12, Try.ntmps12
      go_wp2_with fail
      refine (ref_right_any h.out g.out true hr.out).mono ?_
      rintro e w1 ⟨rfl, hb⟩
      have DB := hide (g0.out.trans (hb.mono g0.out.size))
      have c0 : w1.cell? ⟨w.heap.size, 0, none⟩ = some (.slice A n c) := (hb.cell (p := ⟨w.heap.size, 0, none⟩) (by simp)).trans (by go_side)
      have h2 := h.out.below hb
      obtain ⟨b, off, Aj, nj, cj, rfl, hlt, c1, P1⟩ := h2.at_ (Below.refl _ _) (k := a) (by omega)
      clear hb h2
      replace P1 := hide P1
      clear hpl
      go_wp2_with fail
      go_ret2
      exact ⟨Aj, nj, cj, rfl, P1.out, DB.out⟩
    · have e1 : readE ps ws p = 4 := by unfold readE; rw [hr.out, if_pos rfl, if_neg (by rw [hl]; exact p1)]
      have e2 : readB ps ws p = [] := by unfold readB; rw [e1]; rfl
      rw [e1, e2]
      clear e1 e2 hl R
      replace g0 := hide g0
      by_cases p2 : p < 0
      · clear p1
        go_enter Try.func12, Try.ntmps12
        go_wp2_with fail
        refine (ref_right_any h.out g.out true hr.out).mono ?_
        rintro e w1 ⟨rfl, hb⟩
        have DB := hide (g0.out.trans (hb.mono g0.out.size))
        clear hb
        go_wp2_with fail
        go_ret2
        exact ⟨none, 0, 0, rfl, byt_nil _, DB.out⟩
      · have p3 : (n : Int) ≤ p := by omega
        have p4 : ¬ p < (n : Int) := by omega
        clear p1
        go_enter Try.func12, Try.ntmps12
        go_wp2_with fail
        refine (ref_right_any h.out g.out true hr.out).mono ?_
        rintro e w1 ⟨rfl, hb⟩
        have DB := hide (g0.out.trans (hb.mono g0.out.size))
        have c0 : w1.cell? ⟨w.heap.size, 0, none⟩ = some (.slice A n c) := (hb.cell (p := ⟨w.heap.size, 0, none⟩) (by simp)).trans (by go_side)
        clear hb
        go_wp2_with fail
        go_ret2
        exact ⟨none, 0, 0, rfl, byt_nil _, DB.out⟩
end Go.Proofs.Ytfmgmpelgnickaa

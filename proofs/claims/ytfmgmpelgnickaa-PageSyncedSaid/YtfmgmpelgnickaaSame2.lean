/-
  Chapter 31: whether two disks are the same, by the reference.
-/
import Derived.Test.YtfmgmpelgnickaaSame
namespace Go.Proofs.Ytfmgmpelgnickaa
open Go.RowKit Plain
set_option linter.unusedSimpArgs false
set_option linter.unusedVariables false
attribute [local go_sem ↓] Go.wp_at_zero Go.wp_at_succ

theorem od_eq {a b : Od} : a = b ↔ a.1 = b.1 ∧ a.2 = b.2 := ⟨fun e => by rw [e]; exact ⟨rfl, rfl⟩, fun ⟨h1, h2⟩ => by cases a; cases b; simp at h1 h2; rw [h1, h2]⟩
def sameD (ps : List Pg) (ws : List Od) (qs : List Pg) (vs : List Od) : Bool := decide (ps = qs) && decide (ws = vs)
theorem sameD_refl (ps : List Pg) (ws : List Od) : sameD ps ws ps ws = true := by simp [sameD]

set_option maxRecDepth 10000 in
set_option maxHeartbeats 2000000 in
theorem same_any {A B A2 B2 : Option Addr} {n c m d n2 c2 m2 d2 : Nat} {ps qs : List Pg} {ws vs : List Od} {w : World} (h : Pags w A n c ps) (g : Olds w B m d ws) (h2 : Pags w A2 n2 c2 qs) (g2 : Olds w B2 m2 d2 vs) (b : Bool) (hb : sameD ps ws qs vs = b) :
    Calls Try.prog 20 #[.agg #[.slice A n c, .slice B m d], .agg #[.slice A2 n2 c2, .slice B2 m2 d2]] w fun e w' => e = .returned (.bool b) ∧ Below w.heap.size w w' := by
  subst hb
  have g0 : Below w.heap.size w ((w.alloc (.cells #[.slice A n c, .slice B m d] 25)).alloc (.cells #[.slice A2 n2 c2, .slice B2 m2 d2] 25)) := by go_grown
  have hm := g.max
  have hm2 := g2.max
  have gl := hide g.1
  have gl2 := hide g2.1
  replace h := hide (h.below g0)
  replace h2 := hide (h2.below g0)
  replace g := hide (g.below g0)
  replace g2 := hide (g2.below g0)
  replace g0 := hide g0
  unfold sameD
  cases hp : decide (ps = qs) with
  | false =>
    replace hp := hide hp
    clear gl gl2 g g2
    go_enter Try.func20, Try.ntmps20
    go_wp2_with fail
    refine (pages_to h.out h2.out false hp.out).mono ?_
    rintro e w1 ⟨rfl, hb⟩
    have DB := hide (g0.out.trans (hb.mono g0.out.size))
    clear hb
    go_wp2_with fail
    go_ret
    exact ⟨rfl, DB.out⟩
  | true =>
    replace hp := hide hp
    simp only [Bool.true_and]
    by_cases hmm : m = m2
    · subst hmm
      have hyes : Hid ((∀ j, j < m → ws.getD j od0 = vs.getD j od0) → ws = vs) := hide (fun hh => ext_getD od0 (gl.out.trans gl2.out.symm) (by rw [gl.out]; exact hh))
      have hno : Hid (∀ k, ws.getD k od0 ≠ vs.getD k od0 → ws ≠ vs) := hide (fun k hk => getD_other od0 hk)
      go_enter Try.func20, Try.ntmps20
      go_wp2_with fail
      refine (pages_to h.out h2.out true hp.out).mono ?_
      rintro e w1 ⟨rfl, hb⟩
      have DB := hide (g0.out.trans (hb.mono g0.out.size))
      have c1 : w1.cell? ⟨w.heap.size, 1, none⟩ = some (.slice B m d) := (hb.cell (p := ⟨w.heap.size, 1, none⟩) (by simp; omega)).trans (by go_side)
      have c2' : w1.cell? ⟨w.heap.size + 1, 1, none⟩ = some (.slice B2 m d2) := (hb.cell (p := ⟨w.heap.size + 1, 1, none⟩) (by simp)).trans (by go_side)
      have sz : w.heap.size + 2 ≤ w1.heap.size := by have := hb.size; simp at this; omega
      replace g := hide (g.out.below hb)
      replace g2 := hide (g2.out.below hb)
      clear hb h h2 hp gl gl2 g0
      go_wp2_with fail
      go_loopw [5] (fun i wr => ∃ k : Nat, k ≤ m ∧ i = .int .i64 k ∧ Hid (∀ j, j < k → ws.getD j od0 = vs.getD j od0) ∧ Hid (Below w1.heap.size w1 wr) ∧ w.heap.size + 2 ≤ wr.heap.size ∧ wr.cell? ⟨w.heap.size, 1, none⟩ = some (.slice B m d) ∧ wr.cell? ⟨w.heap.size + 1, 1, none⟩ = some (.slice B2 m d2)) (fun i _ => m - (intOf i).toNat)
      case atStart => exact ⟨0, Nat.zero_le _, rfl, hide (fun j hj => by omega), hide (Below.refl _ _), sz, c1, c2'⟩
      case round =>
        clear c1 c2' sz
        obtain ⟨k, hk, rfl, hd, BW, sz, c1, c2'⟩ := hrel
        have l0 : w.heap.size < wr.heap.size := by omega
        have l1 : w.heap.size + 1 < wr.heap.size := by omega
        by_cases hlt : k < m
        · obtain ⟨b, off, Aj, nj, cj, rfl, hbb, p0, p1, P1⟩ := g.out.at_ BW.out hlt
          obtain ⟨b2, off2, Bj, mj, dj, rfl, hb2, q0, q1, Q1⟩ := g2.out.at_ BW.out hlt
          replace P1 := hide P1
          replace Q1 := hide Q1
          have hk0 : (0 : Int) ≤ (k : Int) := by omega
          have hkn : (k : Int) < (m : Int) := by omega
          replace hno := hide (hno.out k)
          have hnext : Hid (ws.getD k od0 = vs.getD k od0 → ∀ j, j < k + 1 → ws.getD j od0 = vs.getD j od0) := hide (fun hh j hj => by
            by_cases e : j = k
            · rw [e]; exact hh
            · exact hd.out j (by omega))
          clear hd
          generalize ws.getD k od0 = s at *
          generalize vs.getD k od0 = t at *
          have hiff := hide (od_eq (a := s) (b := t))
          generalize s.2 = s2 at *
          generalize t.2 = t2 at *
          obtain ⟨X, hX⟩ : ∃ X, X = s.1 := ⟨_, rfl⟩
          obtain ⟨Y, hY⟩ : ∃ X, X = t.1 := ⟨_, rfl⟩
          rw [← hX] at p0 hiff
          rw [← hY] at q0 hiff
          clear hX hY
          by_cases hXY : X = Y
          · subst hXY
            have hx : (X != X) = false := by simp
            by_cases hst : s2 = t2
            · replace hnext := hide (hnext.out (hiff.out.2 ⟨rfl, hst⟩))
              replace hst := hide (decide_eq_true hst)
              clear hno hiff
              go_wp2_with fail
              refine wp_region_calm (fun w' => Below wr.heap.size wr w') (by kernel_rfl) (by kernel_rfl) (below_drewN (Below.refl _ _) 1) ?_
              repeat (first
                | go_big_quiet_skip
                | (go_big_quiet_want
                   first
                     | (go_big_quiet_op; go_big_quiet_on)
                     | (apply Exists.intro
                        refine ⟨fun w' hw' => ?_, ?_⟩
                        focus
                          obtain ⟨hc', hf'⟩ := bcell hw'
                          go_simp
                          try first
                            | rfl
                            | (with_reducible rfl)
                            | (with_reducible refine (bytes_to (P1.out.below hw') (Q1.out.below hw') true hst.out).mono ?_; exact fun _ _ h => ⟨h.1, st hw' h.2 (Below.refl _ _)⟩)
                        go_big_quiet_on)
                   try simp only [Act.put, List.setIfInBounds_toArray, List.set_cons_zero, List.set_cons_succ]))
              refine wpQuiet_nil ?_
              intro V HV
              have BV := hide (BW.out.trans (HV.mono BW.out.size))
              have k1 := (HV.cell (p := ⟨w.heap.size, 1, none⟩) l0).trans c1
              have k2 := (HV.cell (p := ⟨w.heap.size + 1, 1, none⟩) l1).trans c2'
              have sz2 : w.heap.size + 2 ≤ V.heap.size := Nat.le_trans sz HV.size
              clear HV c1 c2' p0 p1 q0 q1 P1 Q1
              go_wp2_with fail
              go_roundw
              case rel => exact ⟨k + 1, by omega, by go_num, hnext, BV, sz2, k1, k2⟩
              case measure => simp [intOf]; omega
            · replace hno := hide (hno.out (fun e => hst (hiff.out.1 e).2))
              replace hst := hide (decide_eq_false hst)
              clear hnext hiff
              go_wp2_with fail
              refine wp_region_calm (fun w' => Below wr.heap.size wr w') (by kernel_rfl) (by kernel_rfl) (below_drewN (Below.refl _ _) 1) ?_
              repeat (first
                | go_big_quiet_skip
                | (go_big_quiet_want
                   first
                     | (go_big_quiet_op; go_big_quiet_on)
                     | (apply Exists.intro
                        refine ⟨fun w' hw' => ?_, ?_⟩
                        focus
                          obtain ⟨hc', hf'⟩ := bcell hw'
                          go_simp
                          try first
                            | rfl
                            | (with_reducible rfl)
                            | (with_reducible refine (bytes_to (P1.out.below hw') (Q1.out.below hw') false hst.out).mono ?_; exact fun _ _ h => ⟨h.1, st hw' h.2 (Below.refl _ _)⟩)
                        go_big_quiet_on)
                   try simp only [Act.put, List.setIfInBounds_toArray, List.set_cons_zero, List.set_cons_succ]))
              refine wpQuiet_nil ?_
              intro V HV
              have BV := hide (st DB.out (BW.out.trans (HV.mono BW.out.size)) (Below.refl _ _))
              clear HV c1 c2' p0 p1 q0 q1 P1 Q1
              go_wp2_with fail
              go_ret
              exact ⟨ret_b (decide_eq_false hno.out).symm, BV.out⟩
          · replace hno := hide (hno.out (fun e => hXY (hiff.out.1 e).1))
            have hx : (X != Y) = true := by simpa using hXY
            have hx2 : (X == Y) = false := by simpa using hXY
            clear hnext hiff
            go_wp2_with fail
            refine wp_region_calm (fun w' => Below wr.heap.size wr w') (by kernel_rfl) (by kernel_rfl) (below_drewN (Below.refl _ _) 1) ?_
            repeat (first
              | go_big_quiet_skip
              | (go_big_quiet_want
                 first
                   | (go_big_quiet_op; go_big_quiet_on)
                   | (apply Exists.intro
                      refine ⟨fun w' hw' => ?_, ?_⟩
                      focus
                        obtain ⟨hc', hf'⟩ := bcell hw'
                        go_simp
                        try first
                          | rfl
                          | (with_reducible rfl)
                      go_big_quiet_on)
                 try simp only [Act.put, List.setIfInBounds_toArray, List.set_cons_zero, List.set_cons_succ]))
            refine wpQuiet_nil ?_
            intro V HV
            have BV := hide (st DB.out (BW.out.trans (HV.mono BW.out.size)) (Below.refl _ _))
            clear HV c1 c2' p0 p1 q0 q1 P1 Q1
            go_wp2_with fail
            go_ret
            exact ⟨ret_b (decide_eq_false hno.out).symm, BV.out⟩
        · obtain rfl : k = m := by omega
          have hyes := hide (hyes.out hd.out)
          have BV := hide (st DB.out BW.out (Below.refl _ _))
          go_wp2_with fail
          go_ret
          exact ⟨ret_b (decide_eq_true hyes.out).symm, BV.out⟩
    · have hno : Hid (ws ≠ vs) := hide (fun e => hmm (by rw [← gl.out, ← gl2.out, e]))
      have hq : ((m : Int) != (m2 : Int)) = true := by simpa using (fun e => hmm (Int.ofNat.inj e))
      have hq2 : ¬ (m : Int) = (m2 : Int) := fun e => hmm (Int.ofNat.inj e)
      clear gl gl2 g g2
      go_enter Try.func20, Try.ntmps20
      go_wp2_with fail
      refine (pages_to h.out h2.out true hp.out).mono ?_
      rintro e w1 ⟨rfl, hb⟩
      have DB := hide (g0.out.trans (hb.mono g0.out.size))
      have c1 : w1.cell? ⟨w.heap.size, 1, none⟩ = some (.slice B m d) := (hb.cell (p := ⟨w.heap.size, 1, none⟩) (by simp; omega)).trans (by go_side)
      have c2' : w1.cell? ⟨w.heap.size + 1, 1, none⟩ = some (.slice B2 m2 d2) := (hb.cell (p := ⟨w.heap.size + 1, 1, none⟩) (by simp)).trans (by go_side)
      clear hb
      go_wp2_with fail
      go_ret
      exact ⟨ret_b (decide_eq_false hno.out).symm, DB.out⟩
end Go.Proofs.Ytfmgmpelgnickaa

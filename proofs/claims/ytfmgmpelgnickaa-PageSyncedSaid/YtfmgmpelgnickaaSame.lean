/-
  Chapter 31: whether bytes, pages, and disks are the same, by the references.
-/
import Derived.Test.YtfmgmpelgnickaaRef1
namespace Go.Proofs.Ytfmgmpelgnickaa
open Go.RowKit Plain
set_option linter.unusedSimpArgs false
set_option linter.unusedVariables false
attribute [local go_sem ↓] Go.wp_at_zero Go.wp_at_succ

theorem getD_other {α : Type} (d : α) {a b : List α} {k : Nat} (h : a.getD k d ≠ b.getD k d) : a ≠ b := fun e => h (by rw [e])

set_option maxHeartbeats 1000000 in
theorem bytes_any {A B : Option Addr} {n c m d : Nat} {ss ts : Pg} {w : World} (h : Byt w A n c ss) (g : Byt w B m d ts) : Calls Try.prog 19 #[.slice A n c, .slice B m d] w fun e w' => e = .returned (.bool (decide (ss = ts))) ∧ Below w.heap.size w w' := by
  have hn := h.max
  have hm := g.max
  have hl : Hid (ss.length = n) := hide h.len
  have gl : Hid (ts.length = m) := hide g.len
  replace h := hide h
  replace g := hide g
  by_cases hnm : n = m
  · subst hnm
    have hyes : Hid ((∀ j, j < n → ss.getD j 0 = ts.getD j 0) → ss = ts) := hide (fun hh => ext_getD 0 (hl.out.trans gl.out.symm) (by rw [hl.out]; exact hh))
    have hno : Hid (∀ k, ss.getD k 0 ≠ ts.getD k 0 → ss ≠ ts) := hide (fun k hk => getD_other 0 hk)
    go_enter Try.func19, Try.ntmps19
    go_wp2
    go_loopw [5] (fun i wr => ∃ k : Nat, k ≤ n ∧ i = .int .i64 k ∧ Hid (∀ j, j < k → ss.getD j 0 = ts.getD j 0) ∧ Below w.heap.size w wr) (fun i _ => n - (intOf i).toNat)
    case atStart => exact ⟨0, Nat.zero_le _, rfl, hide (fun j hj => by omega), Below.refl _ _⟩
    case round =>
      obtain ⟨k, hk, rfl, hd, BW⟩ := hrel
      by_cases hlt : k < n
      · obtain ⟨b, off, rfl, hb, p1⟩ := h.out.at_ BW hlt
        obtain ⟨b2, off2, rfl, hb2, q1⟩ := g.out.at_ BW hlt
        have hk0 : (0 : Int) ≤ (k : Int) := by omega
        have hkn : (k : Int) < (n : Int) := by omega
        replace hno := hide (hno.out k)
        have hnext : Hid (ss.getD k 0 = ts.getD k 0 → ∀ j, j < k + 1 → ss.getD j 0 = ts.getD j 0) := hide (fun hh j hj => by
          by_cases e : j = k
          · rw [e]; exact hh
          · exact hd.out j (by omega))
        clear hd
        generalize ss.getD k 0 = s at *
        generalize ts.getD k 0 = t at *
        replace BW := hide BW
        by_cases hst : s = t
        · replace hnext := hide (hnext.out hst)
          clear hno
          subst hst
          have hq : (s != s) = false := by simp
          go_wp2_with fail
          refine wp_region_calm (fun w' => Below wr.heap.size wr w') (by kernel_rfl) (by kernel_rfl) (below_drewN (Below.refl _ _) 1) ?_
          repeat (first
            | go_big_quiet_skip
            | (go_big_quiet_want
               first
                 | (go_big_quiet_op; go_big_quiet_on)
                 | (apply Exists.intro
                    refine ⟨fun w' hw' => ?_, ?_⟩
                    focus
                      obtain ⟨hc', hf'⟩ := bcell hw'
                      go_simp
                      try first
                        | rfl
                        | (with_reducible rfl)
                    go_big_quiet_on)
               try simp only [Act.put, List.setIfInBounds_toArray, List.set_cons_zero, List.set_cons_succ]))
          refine wpQuiet_nil ?_
          intro V HV
          have BV : Below w.heap.size w V := BW.out.trans (HV.mono BW.out.size)
          go_wp2_with fail
          go_roundw
          case rel => exact ⟨k + 1, by omega, by go_num, hnext, BV⟩
          case measure => simp [intOf]; omega
        · replace hno := hide (hno.out hst)
          clear hnext
          have hq : (s != t) = true := by simpa using hst
          have hq3 : (s == t) = false := by simpa using hst
          clear hst
          go_wp2_with fail
          refine wp_region_calm (fun w' => Below wr.heap.size wr w') (by kernel_rfl) (by kernel_rfl) (below_drewN (Below.refl _ _) 1) ?_
          repeat (first
            | go_big_quiet_skip
            | (go_big_quiet_want
               first
                 | (go_big_quiet_op; go_big_quiet_on)
                 | (apply Exists.intro
                    refine ⟨fun w' hw' => ?_, ?_⟩
                    focus
                      obtain ⟨hc', hf'⟩ := bcell hw'
                      go_simp
                      try first
                        | rfl
                        | (with_reducible rfl)
                    go_big_quiet_on)
               try simp only [Act.put, List.setIfInBounds_toArray, List.set_cons_zero, List.set_cons_succ]))
          refine wpQuiet_nil ?_
          intro V HV
          have BV : Below w.heap.size w V := BW.out.trans (HV.mono BW.out.size)
          go_wp2_with fail
          go_ret
          exact ⟨ret_b (decide_eq_false hno.out).symm, BV⟩
      · obtain rfl : k = n := by omega
        have hyes := hide (hyes.out hd.out)
        go_wp2_with fail
        go_ret
        exact ⟨ret_b (decide_eq_true hyes.out).symm, BW⟩
  · have hno : Hid (ss ≠ ts) := hide (fun e => hnm (by rw [← hl.out, ← gl.out, e]))
    have hq : ((n : Int) != (m : Int)) = true := by simpa using (fun e => hnm (Int.ofNat.inj e))
    have hq2 : ¬ (n : Int) = (m : Int) := fun e => hnm (Int.ofNat.inj e)
    clear hl gl h g
    go_enter Try.func19, Try.ntmps19
    go_wp2_with fail
    go_ret
    exact ⟨ret_b (decide_eq_false hno.out).symm, Below.refl _ _⟩
theorem bytes_to {w : World} {A B : Option Addr} {n m c d : Nat} {ss ts : Pg} (h : Byt w A n c ss) (g : Byt w B m d ts) (b : Bool) (hb : decide (ss = ts) = b) : Calls Try.prog 19 #[.slice A n c, .slice B m d] w fun e w' => e = .returned (.bool b) ∧ Below w.heap.size w w' := by
  subst hb; exact bytes_any h g

set_option maxHeartbeats 1000000 in
theorem pages_any {A B : Option Addr} {n c m d : Nat} {ss ts : List Pg} {w : World} (h : Pags w A n c ss) (g : Pags w B m d ts) : Calls Try.prog 35 #[.slice A n c, .slice B m d] w fun e w' => e = .returned (.bool (decide (ss = ts))) ∧ Below w.heap.size w w' := by
  have hn := h.max
  have hm := g.max
  have hl : Hid (ss.length = n) := hide h.1
  have gl : Hid (ts.length = m) := hide g.1
  replace h := hide h
  replace g := hide g
  by_cases hnm : n = m
  · subst hnm
    have hyes : Hid ((∀ j, j < n → ss.getD j [] = ts.getD j []) → ss = ts) := hide (fun hh => ext_getD [] (hl.out.trans gl.out.symm) (by rw [hl.out]; exact hh))
    have hno : Hid (∀ k, ss.getD k [] ≠ ts.getD k [] → ss ≠ ts) := hide (fun k hk => getD_other [] hk)
    go_enter Try.func35, Try.ntmps35
    go_wp2
    go_loopw [5] (fun i wr => ∃ k : Nat, k ≤ n ∧ i = .int .i64 k ∧ Hid (∀ j, j < k → ss.getD j [] = ts.getD j []) ∧ Below w.heap.size w wr) (fun i _ => n - (intOf i).toNat)
    case atStart => exact ⟨0, Nat.zero_le _, rfl, hide (fun j hj => by omega), Below.refl _ _⟩
    case round =>
      obtain ⟨k, hk, rfl, hd, BW⟩ := hrel
      by_cases hlt : k < n
      · obtain ⟨b, off, Aj, nj, cj, rfl, hb, p1, P1⟩ := h.out.at_ BW hlt
        obtain ⟨b2, off2, Bj, mj, dj, rfl, hb2, q1, Q1⟩ := g.out.at_ BW hlt
        replace P1 := hide P1
        replace Q1 := hide Q1
        have hk0 : (0 : Int) ≤ (k : Int) := by omega
        have hkn : (k : Int) < (n : Int) := by omega
        replace hno := hide (hno.out k)
        have hnext : Hid (ss.getD k [] = ts.getD k [] → ∀ j, j < k + 1 → ss.getD j [] = ts.getD j []) := hide (fun hh j hj => by
          by_cases e : j = k
          · rw [e]; exact hh
          · exact hd.out j (by omega))
        clear hd
        generalize ss.getD k [] = s at *
        generalize ts.getD k [] = t at *
        replace BW := hide BW
        by_cases hst : s = t
        · replace hnext := hide (hnext.out hst)
          clear hno
          replace hst := hide (decide_eq_true hst)
          go_wp2_with fail
          refine wp_region_calm (fun w' => Below wr.heap.size wr w') (by kernel_rfl) (by kernel_rfl) (below_drewN (Below.refl _ _) 1) ?_
          repeat (first
            | go_big_quiet_skip
            | (go_big_quiet_want
               first
                 | (go_big_quiet_op; go_big_quiet_on)
                 | (apply Exists.intro
                    refine ⟨fun w' hw' => ?_, ?_⟩
                    focus
                      obtain ⟨hc', hf'⟩ := bcell hw'
                      go_simp
                      try first
                        | rfl
                        | (with_reducible rfl)
                        | (with_reducible refine (bytes_to (P1.out.below hw') (Q1.out.below hw') true hst.out).mono ?_; exact fun _ _ h => ⟨h.1, st hw' h.2 (Below.refl _ _)⟩)
                    go_big_quiet_on)
               try simp only [Act.put, List.setIfInBounds_toArray, List.set_cons_zero, List.set_cons_succ]))
          refine wpQuiet_nil ?_
          intro V HV
          have BV : Below w.heap.size w V := BW.out.trans (HV.mono BW.out.size)
          go_wp2_with fail
          go_roundw
          case rel => exact ⟨k + 1, by omega, by go_num, hnext, BV⟩
          case measure => simp [intOf]; omega
        · replace hno := hide (hno.out hst)
          clear hnext
          replace hst := hide (decide_eq_false hst)
          go_wp2_with fail
          refine wp_region_calm (fun w' => Below wr.heap.size wr w') (by kernel_rfl) (by kernel_rfl) (below_drewN (Below.refl _ _) 1) ?_
          repeat (first
            | go_big_quiet_skip
            | (go_big_quiet_want
               first
                 | (go_big_quiet_op; go_big_quiet_on)
                 | (apply Exists.intro
                    refine ⟨fun w' hw' => ?_, ?_⟩
                    focus
                      obtain ⟨hc', hf'⟩ := bcell hw'
                      go_simp
                      try first
                        | rfl
                        | (with_reducible rfl)
                        | (with_reducible refine (bytes_to (P1.out.below hw') (Q1.out.below hw') false hst.out).mono ?_; exact fun _ _ h => ⟨h.1, st hw' h.2 (Below.refl _ _)⟩)
                    go_big_quiet_on)
               try simp only [Act.put, List.setIfInBounds_toArray, List.set_cons_zero, List.set_cons_succ]))
          refine wpQuiet_nil ?_
          intro V HV
          have BV : Below w.heap.size w V := BW.out.trans (HV.mono BW.out.size)
          go_wp2_with fail
          go_ret
          exact ⟨ret_b (decide_eq_false hno.out).symm, BV⟩
      · obtain rfl : k = n := by omega
        have hyes := hide (hyes.out hd.out)
        go_wp2_with fail
        go_ret
        exact ⟨ret_b (decide_eq_true hyes.out).symm, BW⟩
  · have hno : Hid (ss ≠ ts) := hide (fun e => hnm (by rw [← hl.out, ← gl.out, e]))
    have hq : ((n : Int) != (m : Int)) = true := by simpa using (fun e => hnm (Int.ofNat.inj e))
    have hq2 : ¬ (n : Int) = (m : Int) := fun e => hnm (Int.ofNat.inj e)
    clear hl gl h g
    go_enter Try.func35, Try.ntmps35
    go_wp2_with fail
    go_ret
    exact ⟨ret_b (decide_eq_false hno.out).symm, Below.refl _ _⟩
theorem pages_to {w : World} {A B : Option Addr} {n m c d : Nat} {ss ts : List Pg} (h : Pags w A n c ss) (g : Pags w B m d ts) (b : Bool) (hb : decide (ss = ts) = b) : Calls Try.prog 35 #[.slice A n c, .slice B m d] w fun e w' => e = .returned (.bool b) ∧ Below w.heap.size w w' := by
  subst hb; exact pages_any h g
end Go.Proofs.Ytfmgmpelgnickaa

/-
  Chapter 34: rows compared; is a symbol of one number alone; is any symbol not nought.
-/
import Derived.Test.YtabgenhednhagaaWalks2
import Derived.WalkSpells
namespace Go.Proofs.Ytabgenhednhagaa
open Go.RowKit Plain
set_option linter.unusedSimpArgs false
set_option linter.unusedVariables false
attribute [local go_sem ↓] Go.wp_at_zero Go.wp_at_succ

theorem Nums.at_ {w wr : World} {A : Option Addr} {n c : Nat} {zs : List W} (h : Nums w A n c zs) (hB : Below w.heap.size w wr) {k : Nat} (hk : k < n) :
    ∃ b off, A = some ⟨b, off, none⟩ ∧ b < wr.heap.size ∧ wr.cell? ⟨b, off + k, none⟩ = some (.int .u64 ((zs.getD k 0#64).toNat : Int)) := by
  obtain ⟨b, off, e, hlt, hc⟩ := h.2.2.2.2 (by omega)
  exact ⟨b, off, e, Nat.lt_of_lt_of_le hlt hB.size, (hB.cell (p := ⟨b, off + k, none⟩) hlt).trans (hc k hk)⟩
theorem Syms.at_ {w wr : World} {A : Option Addr} {n c : Nat} {ss : List Sym} (h : Syms w A n c ss) (hB : Below w.heap.size w wr) {k : Nat} (hk : k < n) :
    ∃ b off, A = some ⟨b, off, none⟩ ∧ b < wr.heap.size ∧ wr.cell? ⟨b, off + k * 3, none⟩ = some (.int .i64 (ss.getD k Sym.zero).many.toInt) ∧ wr.cell? ⟨b, off + k * 3 + 1, none⟩ = some (.int .u64 ((ss.getD k Sym.zero).sum.toNat : Int)) ∧ wr.cell? ⟨b, off + k * 3 + 2, none⟩ = some (.int .u64 ((ss.getD k Sym.zero).check.toNat : Int)) := by
  obtain ⟨b, off, e, hlt, hc⟩ := h.2.2.2.2 (by omega)
  obtain ⟨c1, c2, c3⟩ := hc k hk
  exact ⟨b, off, e, Nat.lt_of_lt_of_le hlt hB.size, (hB.cell (p := ⟨b, off + k * 3, none⟩) hlt).trans c1, (hB.cell (p := ⟨b, off + k * 3 + 1, none⟩) hlt).trans c2, (hB.cell (p := ⟨b, off + k * 3 + 2, none⟩) hlt).trans c3⟩
theorem sym_parts {s t : Sym} : s = t ↔ s.many.toInt = t.many.toInt ∧ (s.sum.toNat : Int) = (t.sum.toNat : Int) ∧ (s.check.toNat : Int) = (t.check.toNat : Int) := by
  obtain ⟨a, b, c⟩ := s
  obtain ⟨d, e, f⟩ := t
  constructor
  · intro h; cases h; exact ⟨rfl, rfl, rfl⟩
  · rintro ⟨h1, h2, h3⟩
    have e1 : a = d := BitVec.eq_of_toInt_eq h1
    have e2 : b = e := BitVec.eq_of_toNat_eq (Int.ofNat.inj h2)
    have e3 : c = f := BitVec.eq_of_toNat_eq (Int.ofNat.inj h3)
    rw [e1, e2, e3]
theorem three {a b c d e f : Int} : (a = d ∧ b = e ∧ c = f) ∨ a ≠ d ∨ (a = d ∧ b ≠ e) ∨ (a = d ∧ b = e ∧ c ≠ f) := by
  by_cases h1 : a = d
  · by_cases h2 : b = e
    · by_cases h3 : c = f
      · exact .inl ⟨h1, h2, h3⟩
      · exact .inr (.inr (.inr ⟨h1, h2, h3⟩))
    · exact .inr (.inr (.inl ⟨h1, h2⟩))
  · exact .inr (.inl h1)
theorem list_same {α : Type} (d : α) {a b : List α} (hl : a.length = b.length) (h : ∀ j, j < a.length → a.getD j d = b.getD j d) : a = b := by
  apply List.ext_getElem hl
  intro i h1 h2
  have := h i h1
  rwa [List.getD_eq_getElem?_getD, List.getD_eq_getElem?_getD, List.getElem?_eq_getElem h1, List.getElem?_eq_getElem h2] at this
theorem list_other {α : Type} (d : α) {a b : List α} {k : Nat} (h : a.getD k d ≠ b.getD k d) : a ≠ b := fun e => h (by rw [e])

set_option maxHeartbeats 2000000 in
theorem same_any {A B : Option Addr} {n c m d : Nat} {ss ts : List Sym} {w : World} (h : Syms w A n c ss) (g : Syms w B m d ts) : Calls Try.prog 15 #[.slice A n c, .slice B m d] w fun e w' => e = .returned (.bool (decide (ss = ts))) ∧ Below w.heap.size w w' := by
  have hn := h.max
  have hm := g.max
  have hl := hide h.1
  have gl := hide g.1
  replace h := hide h
  replace g := hide g
  by_cases hnm : n = m
  · subst hnm
    have hyes : Hid ((∀ j, j < n → ss.getD j Sym.zero = ts.getD j Sym.zero) → ss = ts) := hide (fun hh => list_same Sym.zero (hl.out.trans gl.out.symm) (by rw [hl.out]; exact hh))
    have hno : Hid (∀ k, ss.getD k Sym.zero ≠ ts.getD k Sym.zero → ss ≠ ts) := hide (fun k hk => list_other Sym.zero hk)
    go_enter Try.func15, Try.ntmps15
    go_wp2
    go_loopw [5] (fun i wr => ∃ k : Nat, k ≤ n ∧ i = .int .i64 k ∧ Hid (∀ j, j < k → ss.getD j Sym.zero = ts.getD j Sym.zero) ∧ Below w.heap.size w wr) (fun i _ => n - (intOf i).toNat)
    case atStart => exact ⟨0, Nat.zero_le _, rfl, hide (fun j hj => by omega), Below.refl _ _⟩
    case round =>
      obtain ⟨k, hk, rfl, hd, BW⟩ := hrel
      by_cases hlt : k < n
      · obtain ⟨b, off, rfl, hb, p1, p2, p3⟩ := h.out.at_ BW hlt
        obtain ⟨b2, off2, rfl, hb2, q1, q2, q3⟩ := g.out.at_ BW hlt
        have hk0 : (0 : Int) ≤ (k : Int) := by omega
        have hkn : (k : Int) < (n : Int) := by omega
        have hno := hide (hno.out k)
        have hnext : Hid (ss.getD k Sym.zero = ts.getD k Sym.zero → ∀ j, j < k + 1 → ss.getD j Sym.zero = ts.getD j Sym.zero) := hide (fun hh j hj => by
          by_cases e : j = k
          · rw [e]; exact hh
          · exact hd.out j (by omega))
        clear hd
        generalize ss.getD k Sym.zero = s at *
        generalize ts.getD k Sym.zero = t at *
        have hcase := @three s.many.toInt (s.sum.toNat : Int) (s.check.toNat : Int) t.many.toInt (t.sum.toNat : Int) (t.check.toNat : Int)
        have hiff := hide (@sym_parts s t)
        generalize s.many.toInt = M1 at *
        generalize (s.sum.toNat : Int) = S1 at *
        generalize (s.check.toNat : Int) = K1 at *
        generalize t.many.toInt = M2 at *
        generalize (t.sum.toNat : Int) = S2 at *
        generalize (t.check.toNat : Int) = K2 at *
        replace BW := hide BW
        rcases hcase with ⟨rfl, rfl, rfl⟩ | hM | ⟨rfl, hM⟩ | ⟨rfl, rfl, hM⟩
        · have hst : s = t := hiff.out.2 ⟨rfl, rfl, rfl⟩
          clear hiff
          have hnext := hide (hnext.out hst)
          clear hno hst
          go_wp2_with fail
          refine wp_region_calm (fun w' => Below wr.heap.size wr w') (by kernel_rfl) (by kernel_rfl) (below_drewN (Below.refl _ _) 1) ?_
          repeat (first
            | go_big_quiet_skip
            | (go_big_quiet_want
               first
                 | (go_big_quiet_op; go_big_quiet_on)
                 | (apply Exists.intro
                    refine ⟨fun w' hw' => ?_, ?_⟩
                    focus
                      obtain ⟨hc', hf'⟩ := bcell hw'
                      go_simp
                      try first
                        | rfl
                        | (with_reducible rfl)
                    go_big_quiet_on)
               try simp only [Act.put, List.setIfInBounds_toArray, List.set_cons_zero, List.set_cons_succ]))
          refine wpQuiet_nil ?_
          intro V HV
          have BV : Below w.heap.size w V := BW.out.trans (HV.mono BW.out.size)
          go_wp2_with fail
          go_roundw
          case rel => exact ⟨k + 1, by omega, by go_num, hnext, BV⟩
          case measure => simp [intOf]; omega
        · have hst : s ≠ t := fun e => hM (hiff.out.1 e).1
          clear hiff
          have hno := hide (hno.out hst)
          clear hnext hst
          go_wp2_with fail
          refine wp_region_calm (fun w' => Below wr.heap.size wr w') (by kernel_rfl) (by kernel_rfl) (below_drewN (Below.refl _ _) 1) ?_
          repeat (first
            | go_big_quiet_skip
            | (go_big_quiet_want
               first
                 | (go_big_quiet_op; go_big_quiet_on)
                 | (apply Exists.intro
                    refine ⟨fun w' hw' => ?_, ?_⟩
                    focus
                      obtain ⟨hc', hf'⟩ := bcell hw'
                      go_simp
                      try first
                        | rfl
                        | (with_reducible rfl)
                    go_big_quiet_on)
               try simp only [Act.put, List.setIfInBounds_toArray, List.set_cons_zero, List.set_cons_succ]))
          refine wpQuiet_nil ?_
          intro V HV
          have BV : Below w.heap.size w V := BW.out.trans (HV.mono BW.out.size)
          go_wp2_with fail
          go_ret
          exact ⟨ret_b (decide_eq_false hno.out).symm, BV⟩
        · have hst : s ≠ t := fun e => hM (hiff.out.1 e).2.1
          clear hiff
          have hno := hide (hno.out hst)
          clear hnext hst
          go_wp2_with fail
          refine wp_region_calm (fun w' => Below wr.heap.size wr w') (by kernel_rfl) (by kernel_rfl) (below_drewN (Below.refl _ _) 1) ?_
          repeat (first
            | go_big_quiet_skip
            | (go_big_quiet_want
               first
                 | (go_big_quiet_op; go_big_quiet_on)
                 | (apply Exists.intro
                    refine ⟨fun w' hw' => ?_, ?_⟩
                    focus
                      obtain ⟨hc', hf'⟩ := bcell hw'
                      go_simp
                      try first
                        | rfl
                        | (with_reducible rfl)
                    go_big_quiet_on)
               try simp only [Act.put, List.setIfInBounds_toArray, List.set_cons_zero, List.set_cons_succ]))
          refine wpQuiet_nil ?_
          intro V HV
          have BV : Below w.heap.size w V := BW.out.trans (HV.mono BW.out.size)
          go_wp2_with fail
          go_ret
          exact ⟨ret_b (decide_eq_false hno.out).symm, BV⟩
        · have hst : s ≠ t := fun e => hM (hiff.out.1 e).2.2
          clear hiff
          have hno := hide (hno.out hst)
          clear hnext hst
          go_wp2_with fail
          refine wp_region_calm (fun w' => Below wr.heap.size wr w') (by kernel_rfl) (by kernel_rfl) (below_drewN (Below.refl _ _) 1) ?_
          repeat (first
            | go_big_quiet_skip
            | (go_big_quiet_want
               first
                 | (go_big_quiet_op; go_big_quiet_on)
                 | (apply Exists.intro
                    refine ⟨fun w' hw' => ?_, ?_⟩
                    focus
                      obtain ⟨hc', hf'⟩ := bcell hw'
                      go_simp
                      try first
                        | rfl
                        | (with_reducible rfl)
                    go_big_quiet_on)
               try simp only [Act.put, List.setIfInBounds_toArray, List.set_cons_zero, List.set_cons_succ]))
          refine wpQuiet_nil ?_
          intro V HV
          have BV : Below w.heap.size w V := BW.out.trans (HV.mono BW.out.size)
          go_wp2_with fail
          go_ret
          exact ⟨ret_b (decide_eq_false hno.out).symm, BV⟩
      · obtain rfl : k = n := by omega
        have hyes := hide (hyes.out hd.out)
        go_wp2_with fail
        go_ret
        exact ⟨ret_b (decide_eq_true hyes.out).symm, BW⟩
  · have hno : Hid (ss ≠ ts) := hide (fun e => hnm (by rw [← hl.out, ← gl.out, e]))
    have hq : ((n : Int) != (m : Int)) = true := by simpa using (fun e => hnm (Int.ofNat.inj e))
    have hq2 : ¬ (n : Int) = (m : Int) := fun e => hnm (Int.ofNat.inj e)
    clear hl gl h g
    go_enter Try.func15, Try.ntmps15
    go_wp2_with fail
    go_ret
    exact ⟨ret_b (decide_eq_false hno.out).symm, Below.refl _ _⟩

set_option maxHeartbeats 2000000 in
theorem numbers_any {A B : Option Addr} {n c m d : Nat} {ss ts : List W} {w : World} (h : Nums w A n c ss) (g : Nums w B m d ts) : Calls Try.prog 20 #[.slice A n c, .slice B m d] w fun e w' => e = .returned (.bool (decide (ss = ts))) ∧ Below w.heap.size w w' := by
  have hn := h.max
  have hm := g.max
  have hl := hide h.1
  have gl := hide g.1
  replace h := hide h
  replace g := hide g
  by_cases hnm : n = m
  · subst hnm
    have hyes : Hid ((∀ j, j < n → ss.getD j 0#64 = ts.getD j 0#64) → ss = ts) := hide (fun hh => list_same 0#64 (hl.out.trans gl.out.symm) (by rw [hl.out]; exact hh))
    have hno : Hid (∀ k, ss.getD k 0#64 ≠ ts.getD k 0#64 → ss ≠ ts) := hide (fun k hk => list_other 0#64 hk)
    go_enter Try.func20, Try.ntmps20
    go_wp2
    go_loopw [5] (fun i wr => ∃ k : Nat, k ≤ n ∧ i = .int .i64 k ∧ Hid (∀ j, j < k → ss.getD j 0#64 = ts.getD j 0#64) ∧ Below w.heap.size w wr) (fun i _ => n - (intOf i).toNat)
    case atStart => exact ⟨0, Nat.zero_le _, rfl, hide (fun j hj => by omega), Below.refl _ _⟩
    case round =>
      obtain ⟨k, hk, rfl, hd, BW⟩ := hrel
      by_cases hlt : k < n
      · obtain ⟨b, off, rfl, hb, p1⟩ := h.out.at_ BW hlt
        obtain ⟨b2, off2, rfl, hb2, q1⟩ := g.out.at_ BW hlt
        have hk0 : (0 : Int) ≤ (k : Int) := by omega
        have hkn : (k : Int) < (n : Int) := by omega
        have hno := hide (hno.out k)
        have hnext : Hid (ss.getD k 0#64 = ts.getD k 0#64 → ∀ j, j < k + 1 → ss.getD j 0#64 = ts.getD j 0#64) := hide (fun hh j hj => by
          by_cases e : j = k
          · rw [e]; exact hh
          · exact hd.out j (by omega))
        clear hd
        generalize ss.getD k 0#64 = s at *
        generalize ts.getD k 0#64 = t at *
        have hcase : (s.toNat : Int) = (t.toNat : Int) ∨ (s.toNat : Int) ≠ (t.toNat : Int) := by by_cases e : (s.toNat : Int) = (t.toNat : Int); exact .inl e; exact .inr e
        have hiff : Hid (s = t ↔ (s.toNat : Int) = (t.toNat : Int)) := hide ⟨fun e => by rw [e], fun e => BitVec.eq_of_toNat_eq (Int.ofNat.inj e)⟩
        generalize (s.toNat : Int) = M1 at *
        generalize (t.toNat : Int) = M2 at *
        replace BW := hide BW
        rcases hcase with rfl | hM
        · have hst : s = t := hiff.out.2 rfl
          clear hiff
          have hnext := hide (hnext.out hst)
          clear hno hst
          go_wp2_with fail
          refine wp_region_calm (fun w' => Below wr.heap.size wr w') (by kernel_rfl) (by kernel_rfl) (below_drewN (Below.refl _ _) 1) ?_
          repeat (first
            | go_big_quiet_skip
            | (go_big_quiet_want
               first
                 | (go_big_quiet_op; go_big_quiet_on)
                 | (apply Exists.intro
                    refine ⟨fun w' hw' => ?_, ?_⟩
                    focus
                      obtain ⟨hc', hf'⟩ := bcell hw'
                      go_simp
                      try first
                        | rfl
                        | (with_reducible rfl)
                    go_big_quiet_on)
               try simp only [Act.put, List.setIfInBounds_toArray, List.set_cons_zero, List.set_cons_succ]))
          refine wpQuiet_nil ?_
          intro V HV
          have BV : Below w.heap.size w V := BW.out.trans (HV.mono BW.out.size)
          go_wp2_with fail
          go_roundw
          case rel => exact ⟨k + 1, by omega, by go_num, hnext, BV⟩
          case measure => simp [intOf]; omega
        · have hst : s ≠ t := fun e => hM (hiff.out.1 e)
          clear hiff
          have hno := hide (hno.out hst)
          clear hnext hst
          go_wp2_with fail
          refine wp_region_calm (fun w' => Below wr.heap.size wr w') (by kernel_rfl) (by kernel_rfl) (below_drewN (Below.refl _ _) 1) ?_
          repeat (first
            | go_big_quiet_skip
            | (go_big_quiet_want
               first
                 | (go_big_quiet_op; go_big_quiet_on)
                 | (apply Exists.intro
                    refine ⟨fun w' hw' => ?_, ?_⟩
                    focus
                      obtain ⟨hc', hf'⟩ := bcell hw'
                      go_simp
                      try first
                        | rfl
                        | (with_reducible rfl)
                    go_big_quiet_on)
               try simp only [Act.put, List.setIfInBounds_toArray, List.set_cons_zero, List.set_cons_succ]))
          refine wpQuiet_nil ?_
          intro V HV
          have BV : Below w.heap.size w V := BW.out.trans (HV.mono BW.out.size)
          go_wp2_with fail
          go_ret
          exact ⟨ret_b (decide_eq_false hno.out).symm, BV⟩
      · obtain rfl : k = n := by omega
        have hyes := hide (hyes.out hd.out)
        go_wp2_with fail
        go_ret
        exact ⟨ret_b (decide_eq_true hyes.out).symm, BW⟩
  · have hno : Hid (ss ≠ ts) := hide (fun e => hnm (by rw [← hl.out, ← gl.out, e]))
    have hq : ((n : Int) != (m : Int)) = true := by simpa using (fun e => hnm (Int.ofNat.inj e))
    have hq2 : ¬ (n : Int) = (m : Int) := fun e => hnm (Int.ofNat.inj e)
    clear hl gl h g
    go_enter Try.func20, Try.ntmps20
    go_wp2_with fail
    go_ret
    exact ⟨ret_b (decide_eq_false hno.out).symm, Below.refl _ _⟩

theorem has_any {A : Option Addr} {n c : Nat} {zs : List W} {w : World} (h : Nums w A n c zs) (z : W) : Calls Try.prog 41 #[.slice A n c, .int .u64 (z.toNat : Int)] w fun e w' => e = .returned (.bool (decide (z ∈ zs))) ∧ w = w' := by
  have hn := h.max
  have hl := hide h.1
  replace h := hide h
  have hyes : Hid (∀ k, k < n → zs.getD k 0#64 = z → z ∈ zs) := hide (fun k hk e => by
    rw [← e, List.getD_eq_getElem?_getD, List.getElem?_eq_getElem (by rw [hl.out]; exact hk)]; exact List.getElem_mem _)
  have hno : Hid ((∀ j, j < n → zs.getD j 0#64 ≠ z) → z ∉ zs) := hide (fun hh hz => by
    obtain ⟨j, hj, e⟩ := List.getElem_of_mem hz
    refine hh j (by rw [← hl.out]; exact hj) ?_
    rw [List.getD_eq_getElem?_getD, List.getElem?_eq_getElem hj]; exact e)
  obtain ⟨Z, hZ⟩ : ∃ Z, Z = (z.toNat : Int) := ⟨_, rfl⟩
  rw [← hZ]
  replace hZ := hide hZ
  go_enter Try.func41, Try.ntmps41
  go_wp2
  go_loop [5] (fun i => ∃ k : Nat, k ≤ n ∧ i = .int .i64 k ∧ Hid (∀ j, j < k → zs.getD j 0#64 ≠ z)) (fun i => n - (intOf i).toNat)
  case atStart => exact ⟨0, Nat.zero_le _, rfl, hide (fun j hj => by omega)⟩
  case round =>
    obtain ⟨k, hk, rfl, hd⟩ := hrel
    by_cases hlt : k < n
    · obtain ⟨b, off, rfl, hb, hc⟩ := h.out.at_ (Below.refl _ _) hlt
      have hk0 : (0 : Int) ≤ (k : Int) := by omega
      have hkn : (k : Int) < (n : Int) := by omega
      by_cases hcase : zs.getD k 0#64 = z
      · have hyes := hide (hyes.out k hlt hcase)
        rw [hcase, ← hZ.out] at hc
        clear hcase hd hno
        go_wp2_with fail
        go_ret
        exact ⟨ret_b (decide_eq_true hyes.out).symm, rfl⟩
      · have hnext : Hid (∀ j, j < k + 1 → zs.getD j 0#64 ≠ z) := hide (fun j hj => by
          by_cases e : j = k
          · rw [e]; exact hcase
          · exact hd.out j (by omega))
        have hne : ¬ ((zs.getD k 0#64).toNat : Int) = Z := fun e => hcase (BitVec.eq_of_toNat_eq (Int.ofNat.inj (e.trans hZ.out)))
        clear hcase hd hno hyes
        generalize ((zs.getD k 0#64).toNat : Int) = X at *
        go_wp2_with fail
        go_round
        case rel => exact ⟨k + 1, by omega, by go_num, hnext⟩
        case measure => simp [intOf]; omega
    · obtain rfl : k = n := by omega
      have hno := hide (hno.out hd.out)
      go_wp2_with fail
      go_ret
      exact ⟨ret_b (decide_eq_false hno.out).symm, rfl⟩
/-- Is a symbol not nought? -/
def nz (s : Sym) : Bool := decide (s ≠ Sym.zero)

theorem nz_any (s : Sym) (w : World) : Calls Try.prog 34 #[symV s] w fun e w' => e = .returned (.bool (nz s)) ∧ Below w.heap.size w w' := by
  have hcase := @three s.many.toInt (s.sum.toNat : Int) (s.check.toNat : Int) 0 0 0
  have hiff : Hid (s = Sym.zero ↔ s.many.toInt = 0 ∧ (s.sum.toNat : Int) = 0 ∧ (s.check.toNat : Int) = 0) := hide (@sym_parts s Sym.zero)
  unfold nz symV
  generalize s.many.toInt = M1 at *
  generalize (s.sum.toNat : Int) = S1 at *
  generalize (s.check.toNat : Int) = K1 at *
  rcases hcase with ⟨rfl, rfl, rfl⟩ | hM | ⟨rfl, hM⟩ | ⟨rfl, rfl, hM⟩
  · have hst : Hid (decide (s ≠ Sym.zero) = false) := hide (decide_eq_false (fun h => h (hiff.out.2 ⟨rfl, rfl, rfl⟩)))
    clear hiff
    go_enter Try.func34, Try.ntmps34
    go_wp2_with fail
    go_ret
    exact ⟨ret_b hst.out.symm, by go_grown⟩
  · have hst : Hid (decide (s ≠ Sym.zero) = true) := hide (decide_eq_true (fun e => hM (hiff.out.1 e).1))
    clear hiff
    go_enter Try.func34, Try.ntmps34
    go_wp2_with fail
    go_ret
    exact ⟨ret_b hst.out.symm, by go_grown⟩
  · have hst : Hid (decide (s ≠ Sym.zero) = true) := hide (decide_eq_true (fun e => hM (hiff.out.1 e).2.1))
    clear hiff
    go_enter Try.func34, Try.ntmps34
    go_wp2_with fail
    go_ret
    exact ⟨ret_b hst.out.symm, by go_grown⟩
  · have hst : Hid (decide (s ≠ Sym.zero) = true) := hide (decide_eq_true (fun e => hM (hiff.out.1 e).2.2))
    clear hiff
    go_enter Try.func34, Try.ntmps34
    go_wp2_with fail
    go_ret
    exact ⟨ret_b hst.out.symm, by go_grown⟩

/-- The first place of a symbol that is not nought; -1 where there is none. -/
def firstNz (ss : List Sym) : Int := match ss.findIdx? nz with | some k => k | none => -1
theorem nz_none (ss : List Sym) (h : ∀ j, j < ss.length → nz (ss.getD j Sym.zero) = false) : firstNz ss = -1 := by
  have : ss.findIdx? nz = none := by
    rw [List.findIdx?_eq_none_iff]
    intro x hx
    obtain ⟨j, hj, rfl⟩ := List.getElem_of_mem hx
    have := h j hj
    rw [List.getD_eq_getElem?_getD, List.getElem?_eq_getElem hj] at this
    exact this
  unfold firstNz; rw [this]
theorem nz_some (ss : List Sym) (k : Nat) (hk : k < ss.length) (h : ∀ j, j < k → nz (ss.getD j Sym.zero) = false) (hb : nz (ss.getD k Sym.zero) = true) : firstNz ss = k := by
  have : ss.findIdx? nz = some k := by
    rw [List.findIdx?_eq_some_iff_getElem]
    refine ⟨hk, ?_, ?_⟩
    · rw [List.getD_eq_getElem?_getD, List.getElem?_eq_getElem hk] at hb; exact hb
    · intro j hj
      have := h j hj
      rw [List.getD_eq_getElem?_getD, List.getElem?_eq_getElem (by omega)] at this
      simpa using this
  unfold firstNz; rw [this]
theorem firstNz_in (ss : List Sym) : (firstNz ss = -1 ∧ ss.any nz = false) ∨ (0 ≤ firstNz ss ∧ ss.any nz = true) := by
  unfold firstNz
  cases e : ss.findIdx? nz with
  | none =>
    left
    rw [List.findIdx?_eq_none_iff] at e
    exact ⟨rfl, by simpa using e⟩
  | some k =>
    right
    rw [List.findIdx?_eq_some_iff_getElem] at e
    obtain ⟨hk, hb, _⟩ := e
    exact ⟨by simp, by rw [List.any_eq_true]; exact ⟨_, List.getElem_mem hk, hb⟩⟩
theorem nz_to (M S K : Int) (s : Sym) (b : Bool) (hM : M = s.many.toInt) (hS : S = (s.sum.toNat : Int)) (hK : K = (s.check.toNat : Int)) (hb : nz s = b) (w : World) :
    Calls Try.prog 34 #[.agg #[.int .i64 M, .int .u64 S, .int .u64 K]] w fun e w' => e = .returned (.bool b) ∧ Below w.heap.size w w' := by
  subst hM hS hK hb; exact nz_any s w
theorem index_any {A : Option Addr} {n c : Nat} {ss : List Sym} {w : World} (h : Syms w A n c ss) : Calls Try.prog 40 #[.slice A n c, .func (.func 34) #[] #[]] w fun e w' => e = .returned (.int .i64 (firstNz ss)) ∧ Below w.heap.size w w' := by
  have hn := h.max
  have hl := hide h.1
  replace h := hide h
  go_enter Try.func40, Try.ntmps40
  go_wp2
  go_loopw [8] (fun i wr => ∃ k : Nat, k ≤ n ∧ i = .int .i64 k ∧ Hid (∀ j, j < k → nz (ss.getD j Sym.zero) = false) ∧ Below w.heap.size w wr) (fun i _ => n - (intOf i).toNat)
  case atStart => exact ⟨0, by omega, rfl, hide (fun j hj => by omega), Below.refl _ _⟩
  case round =>
    obtain ⟨k, hk, rfl, hd, BW⟩ := hrel
    by_cases hlt : k < n
    · obtain ⟨b, off, rfl, hb, p1, p2, p3⟩ := h.out.at_ BW hlt
      have hk0 : (0 : Int) ≤ (k : Int) := by omega
      have hkn : (k : Int) < (n : Int) := by omega
      have hfirst : Hid (nz (ss.getD k Sym.zero) = true → firstNz ss = k) := hide (fun e => nz_some ss k (by rw [hl.out]; exact hlt) hd.out e)
      have hnext : Hid (nz (ss.getD k Sym.zero) = false → ∀ j, j < k + 1 → nz (ss.getD j Sym.zero) = false) := hide (fun e0 j hj => by
        by_cases e : j = k
        · rw [e]; exact e0
        · exact hd.out j (by omega))
      generalize ss.getD k Sym.zero = s at *
      obtain ⟨M, hM⟩ : ∃ Z, Z = s.many.toInt := ⟨_, rfl⟩
      obtain ⟨S, hS⟩ : ∃ Z, Z = (s.sum.toNat : Int) := ⟨_, rfl⟩
      obtain ⟨K, hK⟩ : ∃ Z, Z = (s.check.toNat : Int) := ⟨_, rfl⟩
      rw [← hM] at p1
      rw [← hS] at p2
      rw [← hK] at p3
      replace hM := hide hM
      replace hS := hide hS
      replace hK := hide hK
      clear hd
      cases hz : nz s with
      | true =>
        have hfirst := hide (hfirst.out hz)
        replace hz := hide hz
        clear hnext
        go_wp2_with fail
        refine (nz_to _ _ _ s true hM.out hS.out hK.out hz.out _).mono ?_
        rintro e w1 ⟨rfl, hb1⟩
        go_wp2_with fail
        go_ret
        exact ⟨ret_i hfirst.out.symm, st BW hb1 (Below.refl _ _)⟩
      | false =>
        have hnext := hide (hnext.out hz)
        replace hz := hide hz
        clear hfirst
        go_wp2_with fail
        refine (nz_to _ _ _ s false hM.out hS.out hK.out hz.out _).mono ?_
        rintro e w1 ⟨rfl, hb1⟩
        have B1 := st BW hb1 (Below.refl _ _)
        clear hb1
        go_wp2_with fail
        go_roundw
        case rel => exact ⟨k + 1, by omega, by go_num, hnext, B1⟩
        case measure => simp [intOf]; omega
    · obtain rfl : k = n := by omega
      have HF := hide (nz_none ss (by rw [hl.out]; exact hd.out))
      go_wp2
      go_ret
      exact ⟨ret_i HF.out.symm, BW⟩
theorem contains_any {A : Option Addr} {n c : Nat} {ss : List Sym} {w : World} (h : Syms w A n c ss) : Calls Try.prog 33 #[.slice A n c, .func (.func 34) #[] #[]] w fun e w' => e = .returned (.bool (ss.any nz)) ∧ Below w.heap.size w w' := by
  have H := hide (index_any h)
  clear h
  rcases firstNz_in ss with ⟨e1, e2⟩ | ⟨e1, e2⟩
  · rw [e1] at H
    rw [e2]
    clear e1 e2
    go_enter Try.func33, Try.ntmps33
    go_wp2_with fail
    refine H.out.mono ?_
    rintro e w' ⟨rfl, hb⟩
    go_wp2_with fail
    go_ret
    exact ⟨rfl, hb⟩
  · rw [e2]
    clear e2
    go_enter Try.func33, Try.ntmps33
    go_wp2_with fail
    refine H.out.mono ?_
    rintro e w' ⟨rfl, hb⟩
    go_wp2_with fail
    go_ret
    exact ⟨ret_b (by simp [e1]), hb⟩

/-- Is a symbol of one number alone? -/
def pureB (s : Sym) (i : Int) : Bool := (decide (s.many = 1#64) || decide (s.many = -1#64)) && decide (s.check = checkW s.sum) && inI s.sum i
theorem pure_many {s : Sym} (h1 : s.many.toInt ≠ 1) (h2 : s.many.toInt ≠ -1) (i : Int) : pureB s i = false := by
  unfold pureB
  have e1 : ¬ s.many = 1#64 := fun e => h1 (by rw [e]; rfl)
  have e2 : ¬ s.many = -1#64 := fun e => h2 (by rw [e]; rfl)
  simp only [e1, e2, decide_false, Bool.or_false, Bool.false_and]
theorem pure_one {s : Sym} (h : s.many.toInt = 1 ∨ s.many.toInt = -1) (i : Int) : pureB s i = (decide (s.check = checkW s.sum) && inI s.sum i) := by
  unfold pureB
  rcases h with h | h
  · rw [show s.many = 1#64 from BitVec.eq_of_toInt_eq h]; simp
  · rw [show s.many = -1#64 from BitVec.eq_of_toInt_eq h]; simp
set_option maxHeartbeats 2000000 in
theorem pure_any (s : Sym) (i : Int) (w : World) : Calls Try.prog 32 #[symV s, .int .i64 i] w fun e w' => e = .returned (.bool (pureB s i)) ∧ Below w.heap.size w w' := by
  have hp := hide (@pure_one s)
  have hq := hide (@pure_many s)
  have hck : Hid (s.check = checkW s.sum ↔ (s.check.toNat : Int) = ((checkW s.sum).toNat : Int)) := hide ⟨fun e => by rw [e], fun e => BitVec.eq_of_toNat_eq (Int.ofNat.inj e)⟩
  unfold symV
  obtain ⟨M, hM⟩ : ∃ Z, Z = s.many.toInt := ⟨_, rfl⟩
  obtain ⟨S, hS⟩ : ∃ Z, Z = (s.sum.toNat : Int) := ⟨_, rfl⟩
  obtain ⟨K, hK⟩ : ∃ Z, Z = (s.check.toNat : Int) := ⟨_, rfl⟩
  obtain ⟨Q, hQ⟩ : ∃ Z, Z = ((checkW s.sum).toNat : Int) := ⟨_, rfl⟩
  rw [← hM] at hp hq ⊢
  rw [← hS]
  rw [← hK] at hck ⊢
  rw [← hQ] at hck
  replace hM := hide hM
  replace hS := hide hS
  replace hK := hide hK
  replace hQ := hide hQ
  obtain ⟨W0, hW0⟩ : ∃ V, V = w.alloc (.cells #[.int .i64 M, .int .u64 S, .int .u64 K] 41) := ⟨_, rfl⟩
  have BW : Below w.heap.size w W0 := by rw [hW0]; go_grown
  have k0 : W0.cell? ⟨w.heap.size, 0, none⟩ = some (.int .i64 M) := by rw [hW0]; go_side
  have k1 : W0.cell? ⟨w.heap.size, 1, none⟩ = some (.int .u64 S) := by rw [hW0]; go_side
  have k2 : W0.cell? ⟨w.heap.size, 2, none⟩ = some (.int .u64 K) := by rw [hW0]; go_side
  have lt0 : w.heap.size < W0.heap.size := by rw [hW0]; simp
  replace hW0 := hide hW0
  by_cases h1 : M = 1 ∨ M = -1
  · have hp := hide (hp.out h1 i)
    clear hq
    by_cases hc : K = Q
    · have hcd : Hid (decide (s.check = checkW s.sum) = true) := hide (decide_eq_true (hck.out.2 hc))
      cases hin : inI s.sum i
      all_goals
        have hfin : Hid (pureB s i = _) := hide (hp.out.trans (by rw [hcd.out, hin]))
        replace hin := hide hin
        clear hp hck hcd
        subst hc
        rcases h1 with rfl | rfl
        all_goals
          go_enter Try.func32, Try.ntmps32
          go_wp2_with fail
          rw [← hW0.out]
          refine wp_region_calm (fun w' => Below W0.heap.size W0 w') (by kernel_rfl) (by kernel_rfl) (below_drewN (Below.refl _ _) 1) ?_
          repeat (first
            | go_big_quiet_skip
            | (go_big_quiet_want
               first
                 | (go_big_quiet_op; go_big_quiet_on)
                 | (apply Exists.intro
                    refine ⟨fun w' hw' => ?_, ?_⟩
                    focus
                      obtain ⟨hc', hf'⟩ := bcell hw'
                      go_simp
                      try first
                        | rfl
                        | (with_reducible rfl)
                        | (with_reducible refine (check_to _ _ s.sum hS.out hQ.out _).mono ?_; exact fun _ _ h => ⟨h.1, st hw' h.2 (Below.refl _ _)⟩)
                        | (with_reducible refine (in_to _ _ s.sum _ hS.out hin.out _).mono ?_; exact fun _ _ h => ⟨h.1, st hw' h.2 (Below.refl _ _)⟩)
                    go_big_quiet_on)
               try simp only [Act.put, List.setIfInBounds_toArray, List.set_cons_zero, List.set_cons_succ]))
          refine wpQuiet_nil ?_
          intro V HV
          have BV := BW.trans (HV.mono BW.size)
          go_wp2_with fail
          go_ret
          exact ⟨ret_b hfin.out.symm, BV⟩
    · have hcd : Hid (decide (s.check = checkW s.sum) = false) := hide (decide_eq_false (fun e => hc (hck.out.1 e)))
      have hfin : Hid (pureB s i = false) := hide (hp.out.trans (by rw [hcd.out]; rfl))
      have hcb : (K == Q) = false := by simpa using hc
      clear hp hck hcd
      rcases h1 with rfl | rfl
      all_goals
        go_enter Try.func32, Try.ntmps32
        go_wp2_with fail
        rw [← hW0.out]
        refine wp_region_calm (fun w' => Below W0.heap.size W0 w') (by kernel_rfl) (by kernel_rfl) (below_drewN (Below.refl _ _) 1) ?_
        repeat (first
          | go_big_quiet_skip
          | (go_big_quiet_want
             first
               | (go_big_quiet_op; go_big_quiet_on)
               | (apply Exists.intro
                  refine ⟨fun w' hw' => ?_, ?_⟩
                  focus
                    obtain ⟨hc', hf'⟩ := bcell hw'
                    go_simp
                    try first
                      | rfl
                      | (with_reducible rfl)
                      | (with_reducible refine (check_to _ _ s.sum hS.out hQ.out _).mono ?_; exact fun _ _ h => ⟨h.1, st hw' h.2 (Below.refl _ _)⟩)
                  go_big_quiet_on)
             try simp only [Act.put, List.setIfInBounds_toArray, List.set_cons_zero, List.set_cons_succ]))
        refine wpQuiet_nil ?_
        intro V HV
        have BV := BW.trans (HV.mono BW.size)
        go_wp2_with fail
        go_ret
        exact ⟨ret_b hfin.out.symm, BV⟩
  · have hfin := hide (hq.out (fun e => h1 (.inl e)) (fun e => h1 (.inr e)) i)
    have g1 : (M == 1) = false := by simpa using (fun e => h1 (.inl e))
    have g2 : (M == -1) = false := by simpa using (fun e => h1 (.inr e))
    clear hq hp hck h1
    go_enter Try.func32, Try.ntmps32
    go_wp2_with fail
    rw [← hW0.out]
    refine wp_region_calm (fun w' => Below W0.heap.size W0 w') (by kernel_rfl) (by kernel_rfl) (below_drewN (Below.refl _ _) 1) ?_
    repeat (first
      | go_big_quiet_skip
      | (go_big_quiet_want
         first
           | (go_big_quiet_op; go_big_quiet_on)
           | (apply Exists.intro
              refine ⟨fun w' hw' => ?_, ?_⟩
              focus
                obtain ⟨hc', hf'⟩ := bcell hw'
                go_simp
                try first
                  | rfl
                  | (with_reducible rfl)
              go_big_quiet_on)
         try simp only [Act.put, List.setIfInBounds_toArray, List.set_cons_zero, List.set_cons_succ]))
    refine wpQuiet_nil ?_
    intro V HV
    have BV := BW.trans (HV.mono BW.size)
    go_wp2_with fail
    go_ret
    exact ⟨ret_b hfin.out.symm, BV⟩
end Go.Proofs.Ytabgenhednhagaa

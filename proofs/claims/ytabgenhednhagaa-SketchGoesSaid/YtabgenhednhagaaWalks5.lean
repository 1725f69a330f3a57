/-
  Chapter 34: two rows of symbols put together, and one less the other, by package sketch and by the reference; the symbols of a set by the reference.
-/
import Derived.Test.YtabgenhednhagaaWalks4
namespace Go.Proofs.Ytabgenhednhagaa
open Go.RowKit Plain
set_option linter.unusedSimpArgs false
set_option linter.unusedVariables false
attribute [local go_sem ↓] Go.wp_at_zero Go.wp_at_succ

theorem Syms.take {w : World} {A : Option Addr} {n c : Nat} {ss : List Sym} (h : Syms w A n c ss) {k : Nat} (hk : k ≤ n) : Syms w A k c (ss.take k) := by
  refine ⟨by rw [List.length_take, h.1]; omega, Nat.le_trans hk h.2.1, h.2.2.1, h.2.2.2.1, fun hp => ?_⟩
  obtain ⟨b, off, e, hb, hc⟩ := h.2.2.2.2 (by omega)
  refine ⟨b, off, e, hb, fun j hj => ?_⟩
  have e1 : (ss.take k).getD j Sym.zero = ss.getD j Sym.zero := by simp only [List.getD_eq_getElem?_getD, List.getElem?_take, if_pos hj]
  rw [e1]; exact hc j (by omega)
theorem int_lt {a b c : Nat} (h : a < b) (h2 : b ≤ c) : (a : Int) < (c : Int) := by omega
def bothS (y : W) (s t : Sym) : Sym := ⟨s.many + y * t.many, s.sum ^^^ t.sum, s.check ^^^ t.check⟩
def bothF (y : W) (ss ts : List Sym) (t : Nat) : Sym := bothS y (ss.getD t Sym.zero) (ts.getD t Sym.zero)
def bothL (y : W) (ss ts : List Sym) : List Sym := (List.range (min ss.length ts.length)).map (bothF y ss ts)
theorem bothL_len (y : W) (ss ts : List Sym) : (bothL y ss ts).length = min ss.length ts.length := by simp [bothL]
/-- Behind k rounds. -/
def halfF (y : W) (ss ts : List Sym) (k t : Nat) : Sym := if t < k then bothF y ss ts t else ss.getD t Sym.zero
theorem halfF_zero (y : W) (ss ts : List Sym) (t : Nat) : ss.getD t Sym.zero = halfF y ss ts 0 t := by unfold halfF; rw [if_neg (by omega)]
theorem halfF_at (y : W) (ss ts : List Sym) (k : Nat) : halfF y ss ts k k = ss.getD k Sym.zero := by unfold halfF; rw [if_neg (by omega)]
theorem halfF_put (y : W) (ss ts : List Sym) (k t : Nat) : (if t = k then bothS y (ss.getD k Sym.zero) (ts.getD k Sym.zero) else halfF y ss ts k t) = halfF y ss ts (k + 1) t := by
  unfold halfF
  by_cases h1 : t = k
  · subst h1; rw [if_pos rfl, if_pos (by omega)]; rfl
  · rw [if_neg h1]
    by_cases h2 : t < k
    · rw [if_pos h2, if_pos (by omega)]
    · rw [if_neg h2, if_neg (by omega)]
theorem halfF_end (y : W) (ss ts : List Sym) (k t : Nat) (h : t < k) : halfF y ss ts k t = bothF y ss ts t := if_pos h

set_option maxHeartbeats 4000000 in
theorem both_any {w : World} {A B : Option Addr} {n m c d : Nat} {ss ts : List Sym} (h : Syms w A n c ss) (gs : Syms w B m d ts) (hs : n ≤ 100000) (y : W) (Y : Int) (hY : Y = y.toInt) :
    Calls Try.prog 35 #[.slice A n c, .slice B m d, .int .i64 Y] w (RetSyms w (bothL y ss ts)) := by
  have hn := h.max
  have hm := gs.max
  have hnc := h.2.1
  have hcm : c ≤ 9223372036854775807 := by have := h.2.2.1; unfold maxLen at this; exact this
  have hl := hide h.1
  have gl := hide gs.1
  replace hY := hide hY
  obtain ⟨N, hN⟩ : ∃ N, N = min n m := ⟨_, rfl⟩
  have hNn : N ≤ n := by omega
  have hNm : N ≤ m := by omega
  have HC := hide (clone_any (h.take hNn) (by omega))
  have hLen : Hid (min ss.length ts.length = N) := hide (by rw [hl.out, gl.out, hN])
  have hgd : Hid (∀ t, t < N → (ss.take N).getD t Sym.zero = ss.getD t Sym.zero) := hide (fun t ht => by simp only [List.getD_eq_getElem?_getD, List.getElem?_take, if_pos ht])
  replace gs := hide gs
  clear h
  have hcase : (N = n ∧ N ≤ m) ∨ (N = m ∧ N < n) := by omega
  replace hN := hide hN
  rcases hcase with ⟨rfl, hdec⟩ | ⟨rfl, hdec⟩
  all_goals
    go_enter Try.func35, Try.ntmps35
    go_wp2_with fail
    refine HC.out.mono ?_
    rintro e w1 ⟨A', N', c', rfl, hl1, hnc1, hcm1, hA1, hg1, hB1⟩
    obtain rfl : N' = N := by rw [← hl1, List.length_take, hl.out]; omega
    clear HC hl1 hnc
    rcases Nat.eq_zero_or_pos N' with h0 | hpos
    · subst h0
      have hS : Hid (Syms w1 A' 0 c' (bothL y ss ts)) := hide ⟨by rw [bothL_len, hLen.out], hnc1, hcm1, hA1, fun h => by omega⟩
      clear hg1 hnc1 hcm1 hA1 hgd
      go_wp2_with fail
      refine wp_loop_rounds 1 ?_
      rw [rounds_succ]
      go_wp2_with fail
      go_ret
      exact ⟨_, _, _, rfl, hS.out, hB1⟩
    · obtain ⟨g, rfl, hgw, lg, OA⟩ := hg1 hpos
      have OA := hide ((OA.ext (fun t ht => hgd.out t ht)).ext (fun t _ => halfF_zero y ss ts t))
      clear hg1 hgd hA1
      go_wp2_with fail
      go_loopw [19] (fun i wr => ∃ k : Nat, k ≤ N' ∧ i = .int .i64 k ∧ Hid (OwnAt wr g N' (halfF y ss ts k)) ∧ g < wr.heap.size ∧ Hid (Below w.heap.size w wr)) (fun i _ => N' - (intOf i).toNat)
      case atStart => exact ⟨0, Nat.zero_le _, rfl, OA, lg, hide hB1⟩
      case round =>
        clear OA lg hB1
        obtain ⟨k, hk, rfl, OA, lg, Bwr⟩ := hrel
        by_cases hlt : k < N'
        · obtain ⟨b2, off2, rfl, lb, r0, r1, r2⟩ := gs.out.at_ Bwr.out (k := k) (by omega)
          obtain ⟨q0, q1, q2, g0, g1, g2⟩ := OA.out k hlt
          have hk0 : (0 : Int) ≤ (k : Int) := by omega
          have hkN : (k : Int) < (N' : Int) := by omega
          have hkm := int_lt hlt hNm
          rw [halfF_at] at q0 q1 q2
          have hput := hide (halfF_put y ss ts k)
          have hgb : b2 ≠ g := by
            obtain ⟨b3, off3, e3, hb3, _⟩ := gs.out.2.2.2.2 (by omega)
            simp at e3
            omega
          generalize ss.getD k Sym.zero = s at *
          generalize ts.getD k Sym.zero = t at *
          have e1 : IntKind.i64.wrap (Y * t.many.toInt) = (y * t.many).toInt := by rw [hY.out]; exact mul_i64 _ _
          have e2 : IntKind.i64.wrap (s.many.toInt + (y * t.many).toInt) = (bothS y s t).many.toInt := add_i64 _ _
          have e3 : bits .xor .u64 (s.sum.toNat : Int) (t.sum.toNat : Int) = ((bothS y s t).sum.toNat : Int) := bits_xor _ _
          have e4 : bits .xor .u64 (s.check.toNat : Int) (t.check.toNat : Int) = ((bothS y s t).check.toNat : Int) := bits_xor _ _
          obtain ⟨M', hM'⟩ : ∃ Z, Z = (bothS y s t).many.toInt := ⟨_, rfl⟩
          obtain ⟨S', hS'⟩ : ∃ Z, Z = ((bothS y s t).sum.toNat : Int) := ⟨_, rfl⟩
          obtain ⟨K', hK'⟩ : ∃ Z, Z = ((bothS y s t).check.toNat : Int) := ⟨_, rfl⟩
          rw [← hM'] at e2
          rw [← hS'] at e3
          rw [← hK'] at e4
          generalize (y * t.many).toInt = P at *
          generalize s.many.toInt = M1 at *
          generalize (s.sum.toNat : Int) = S1 at *
          generalize (s.check.toNat : Int) = K1 at *
          generalize t.many.toInt = M2 at *
          generalize (t.sum.toNat : Int) = S2 at *
          generalize (t.check.toNat : Int) = K2 at *
          replace hM' := hide hM'
          replace hS' := hide hS'
          replace hK' := hide hK'
          have Awr := hide (Away.refl wr g k)
          have X := hide (fun (V : World) (hV : Away wr V g k) c0 c1 c2 => OA.out.put hV lg hlt hM'.out hS'.out hK'.out c0 c1 c2)
          clear OA
          go_wp2_with fail
          refine wp_region_calm_tail (fun w' => Below wr.heap.size wr w') 15 (by kernel_rfl) (by kernel_rfl) (below_drewN (Below.refl _ _) 1) ?_
          simp only [List.take_succ_cons, List.take_zero, List.drop_succ_cons, List.drop_zero]
          repeat (first
            | go_big_quiet_skip
            | (go_big_quiet_want
               first
                 | (go_big_quiet_op; go_big_quiet_on)
                 | (apply Exists.intro
                    refine ⟨fun w' hw' => ?_, ?_⟩
                    focus
                      obtain ⟨hc', hf'⟩ := bcell hw'
                      go_simp
                      try first
                        | rfl
                        | (with_reducible rfl)
                    go_big_quiet_on)
               try simp only [Act.put, List.setIfInBounds_toArray, List.set_cons_zero, List.set_cons_succ]))
          refine wpQuiet_nil ?_
          intro V HV
          obtain ⟨hc1, hf1⟩ := bcell HV
          have sV := HV.size
          go_wp2_with fail
          obtain ⟨W1, hW1⟩ : ∃ U, U = V.setCell ⟨g, k * 3, none⟩ (.int .i64 M') := ⟨_, rfl⟩
          rw [← hW1]
          have AW1 : Hid (Away wr W1 g k) := by rw [hW1]; exact hide ((Awr.out.below HV).set _ (.inl rfl) _)
          have BW1 : Hid (Below w.heap.size w W1) := by rw [hW1]; exact hide ((st Bwr.out HV (Below.refl _ _)).setCell hgw _)
          have t0 : W1.cell? ⟨g, k * 3, none⟩ = some (.int .i64 M') := by rw [hW1]; simp [*, go_sem]
          have u0 : W1.frozen? ⟨g, k * 3, none⟩ = false := by rw [hW1]; simp [*, go_sem]
          have v0 : W1.cell? ⟨b2, off2 + k * 3, none⟩ = some (.int .i64 M2) := by rw [hW1, World.cell?_setCell_far _ _ _ _ (by exact fun e => hgb e.symm), hc1 _ _ lb]; exact r0
          have t1 : W1.cell? ⟨g, k * 3 + 1, none⟩ = some (.int .u64 S1) := by rw [hW1]; simp [*, go_sem]
          have u1 : W1.frozen? ⟨g, k * 3 + 1, none⟩ = false := by rw [hW1]; simp [*, go_sem]
          have v1 : W1.cell? ⟨b2, off2 + k * 3 + 1, none⟩ = some (.int .u64 S2) := by rw [hW1, World.cell?_setCell_far _ _ _ _ (by exact fun e => hgb e.symm), hc1 _ _ lb]; exact r1
          have t2 : W1.cell? ⟨g, k * 3 + 2, none⟩ = some (.int .u64 K1) := by rw [hW1]; simp [*, go_sem]
          have u2 : W1.frozen? ⟨g, k * 3 + 2, none⟩ = false := by rw [hW1]; simp [*, go_sem]
          have v2 : W1.cell? ⟨b2, off2 + k * 3 + 2, none⟩ = some (.int .u64 K2) := by rw [hW1, World.cell?_setCell_far _ _ _ _ (by exact fun e => hgb e.symm), hc1 _ _ lb]; exact r2
          have lg2 : g < W1.heap.size := by rw [hW1]; simp; omega
          have lb2 : b2 < W1.heap.size := by rw [hW1]; simp; omega
          replace hW1 := hide hW1
          clear q0 q1 q2 g0 g1 g2 r0 r1 r2 lg lb hc1 hf1 sV Awr Bwr
          have q0 := t0; have q1 := t1; have q2 := t2; have g0 := u0; have g1 := u1; have g2 := u2; have r0 := v0; have r1 := v1; have r2 := v2; have lg := lg2; have lb := lb2
          clear t0 t1 t2 u0 u1 u2 v0 v1 v2 lg2 lb2
          refine wp_region_calm_tail (fun w' => Below W1.heap.size W1 w') 13 (by kernel_rfl) (by kernel_rfl) (below_drewN (Below.refl _ _) 1) ?_
          simp only [List.take_succ_cons, List.take_zero, List.drop_succ_cons, List.drop_zero]
          repeat (first
            | go_big_quiet_skip
            | (go_big_quiet_want
               first
                 | (go_big_quiet_op; go_big_quiet_on)
                 | (apply Exists.intro
                    refine ⟨fun w' hw' => ?_, ?_⟩
                    focus
                      obtain ⟨hc', hf'⟩ := bcell hw'
                      go_simp
                      try first
                        | rfl
                        | (with_reducible rfl)
                    go_big_quiet_on)
               try simp only [Act.put, List.setIfInBounds_toArray, List.set_cons_zero, List.set_cons_succ]))
          refine wpQuiet_nil ?_
          intro V HV
          obtain ⟨hc1, hf1⟩ := bcell HV
          have sV := HV.size
          go_wp2_with fail
          obtain ⟨W2, hW2⟩ : ∃ U, U = V.setCell ⟨g, k * 3 + 1, none⟩ (.int .u64 S') := ⟨_, rfl⟩
          rw [← hW2]
          have AW2 : Hid (Away wr W2 g k) := by rw [hW2]; exact hide ((AW1.out.below HV).set _ (.inr (.inl rfl)) _)
          have BW2 : Hid (Below w.heap.size w W2) := by rw [hW2]; exact hide ((st BW1.out HV (Below.refl _ _)).setCell hgw _)
          have t0 : W2.cell? ⟨g, k * 3, none⟩ = some (.int .i64 M') := by rw [hW2]; simp [*, go_sem]
          have u0 : W2.frozen? ⟨g, k * 3, none⟩ = false := by rw [hW2]; simp [*, go_sem]
          have v0 : W2.cell? ⟨b2, off2 + k * 3, none⟩ = some (.int .i64 M2) := by rw [hW2, World.cell?_setCell_far _ _ _ _ (by exact fun e => hgb e.symm), hc1 _ _ lb]; exact r0
          have t1 : W2.cell? ⟨g, k * 3 + 1, none⟩ = some (.int .u64 S') := by rw [hW2]; simp [*, go_sem]
          have u1 : W2.frozen? ⟨g, k * 3 + 1, none⟩ = false := by rw [hW2]; simp [*, go_sem]
          have v1 : W2.cell? ⟨b2, off2 + k * 3 + 1, none⟩ = some (.int .u64 S2) := by rw [hW2, World.cell?_setCell_far _ _ _ _ (by exact fun e => hgb e.symm), hc1 _ _ lb]; exact r1
          have t2 : W2.cell? ⟨g, k * 3 + 2, none⟩ = some (.int .u64 K1) := by rw [hW2]; simp [*, go_sem]
          have u2 : W2.frozen? ⟨g, k * 3 + 2, none⟩ = false := by rw [hW2]; simp [*, go_sem]
          have v2 : W2.cell? ⟨b2, off2 + k * 3 + 2, none⟩ = some (.int .u64 K2) := by rw [hW2, World.cell?_setCell_far _ _ _ _ (by exact fun e => hgb e.symm), hc1 _ _ lb]; exact r2
          have lg2 : g < W2.heap.size := by rw [hW2]; simp; omega
          have lb2 : b2 < W2.heap.size := by rw [hW2]; simp; omega
          replace hW2 := hide hW2
          clear q0 q1 q2 g0 g1 g2 r0 r1 r2 lg lb hc1 hf1 sV AW1 BW1
          have q0 := t0; have q1 := t1; have q2 := t2; have g0 := u0; have g1 := u1; have g2 := u2; have r0 := v0; have r1 := v1; have r2 := v2; have lg := lg2; have lb := lb2
          clear t0 t1 t2 u0 u1 u2 v0 v1 v2 lg2 lb2
          refine wp_region_calm_tail (fun w' => Below W2.heap.size W2 w') 13 (by kernel_rfl) (by kernel_rfl) (below_drewN (Below.refl _ _) 1) ?_
          simp only [List.take_succ_cons, List.take_zero, List.drop_succ_cons, List.drop_zero]
          repeat (first
            | go_big_quiet_skip
            | (go_big_quiet_want
               first
                 | (go_big_quiet_op; go_big_quiet_on)
                 | (apply Exists.intro
                    refine ⟨fun w' hw' => ?_, ?_⟩
                    focus
                      obtain ⟨hc', hf'⟩ := bcell hw'
                      go_simp
                      try first
                        | rfl
                        | (with_reducible rfl)
                    go_big_quiet_on)
               try simp only [Act.put, List.setIfInBounds_toArray, List.set_cons_zero, List.set_cons_succ]))
          refine wpQuiet_nil ?_
          intro V HV
          obtain ⟨hc1, hf1⟩ := bcell HV
          have sV := HV.size
          go_wp2_with fail
          obtain ⟨W3, hW3⟩ : ∃ U, U = V.setCell ⟨g, k * 3 + 2, none⟩ (.int .u64 K') := ⟨_, rfl⟩
          rw [← hW3]
          have AW3 : Hid (Away wr W3 g k) := by rw [hW3]; exact hide ((AW2.out.below HV).set _ (.inr (.inr rfl)) _)
          have BW3 : Hid (Below w.heap.size w W3) := by rw [hW3]; exact hide ((st BW2.out HV (Below.refl _ _)).setCell hgw _)
          have t0 : W3.cell? ⟨g, k * 3, none⟩ = some (.int .i64 M') := by rw [hW3]; simp [*, go_sem]
          have u0 : W3.frozen? ⟨g, k * 3, none⟩ = false := by rw [hW3]; simp [*, go_sem]
          have v0 : W3.cell? ⟨b2, off2 + k * 3, none⟩ = some (.int .i64 M2) := by rw [hW3, World.cell?_setCell_far _ _ _ _ (by exact fun e => hgb e.symm), hc1 _ _ lb]; exact r0
          have t1 : W3.cell? ⟨g, k * 3 + 1, none⟩ = some (.int .u64 S') := by rw [hW3]; simp [*, go_sem]
          have u1 : W3.frozen? ⟨g, k * 3 + 1, none⟩ = false := by rw [hW3]; simp [*, go_sem]
          have v1 : W3.cell? ⟨b2, off2 + k * 3 + 1, none⟩ = some (.int .u64 S2) := by rw [hW3, World.cell?_setCell_far _ _ _ _ (by exact fun e => hgb e.symm), hc1 _ _ lb]; exact r1
          have t2 : W3.cell? ⟨g, k * 3 + 2, none⟩ = some (.int .u64 K') := by rw [hW3]; simp [*, go_sem]
          have u2 : W3.frozen? ⟨g, k * 3 + 2, none⟩ = false := by rw [hW3]; simp [*, go_sem]
          have v2 : W3.cell? ⟨b2, off2 + k * 3 + 2, none⟩ = some (.int .u64 K2) := by rw [hW3, World.cell?_setCell_far _ _ _ _ (by exact fun e => hgb e.symm), hc1 _ _ lb]; exact r2
          have lg2 : g < W3.heap.size := by rw [hW3]; simp; omega
          have lb2 : b2 < W3.heap.size := by rw [hW3]; simp; omega
          replace hW3 := hide hW3
          clear q0 q1 q2 g0 g1 g2 r0 r1 r2 lg lb hc1 hf1 sV AW2 BW2
          have q0 := t0; have q1 := t1; have q2 := t2; have g0 := u0; have g1 := u1; have g2 := u2; have r0 := v0; have r1 := v1; have r2 := v2; have lg := lg2; have lb := lb2
          clear t0 t1 t2 u0 u1 u2 v0 v1 v2 lg2 lb2
          go_roundw
          case rel => exact ⟨k + 1, by omega, by go_num, hide ((X.out _ AW3.out q0 q1 q2).ext (fun t _ => hput.out t)), lg, BW3⟩
          case measure => simp [intOf]; omega
        · obtain rfl : k = N' := by omega
          have hS : Hid (Syms wr (some ⟨g, 0, none⟩) k c' (bothL y ss ts)) := hide (by
            unfold bothL; rw [hLen.out]
            exact (OA.out.ext (fun t ht => halfF_end y ss ts k t ht)).syms lg hnc1 hcm1)
          clear OA
          go_wp2_with fail
          go_ret
          exact ⟨_, _, _, rfl, hS.out, Bwr.out⟩
end Go.Proofs.Ytabgenhednhagaa

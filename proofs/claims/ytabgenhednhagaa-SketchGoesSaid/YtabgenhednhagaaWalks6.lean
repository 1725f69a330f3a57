/-
  Chapter 34: Add, Subtract by package sketch and by the reference; the symbols of a set by the reference.
-/
import Derived.Test.YtabgenhednhagaaWalks5
namespace Go.Proofs.Ytabgenhednhagaa
open Go.RowKit Plain
set_option linter.unusedSimpArgs false
set_option linter.unusedVariables false
attribute [local go_sem ↓] Go.wp_at_zero Go.wp_at_succ

def negOne : W := -1#64
theorem add_any {w : World} {A B : Option Addr} {n m c d : Nat} {ss ts : List Sym} (h : Syms w A n c ss) (g : Syms w B m d ts) (hs : n ≤ 100000) : Calls Try.prog 22 #[.slice A n c, .slice B m d] w (RetSyms w (bothL 1#64 ss ts)) := by
  have H := hide (both_any h g hs 1#64 1 rfl)
  clear h g
  go_enter Try.func22, Try.ntmps22
  go_wp2_with fail
  refine H.out.mono ?_
  rintro e w1 ⟨A', N', c', rfl, hS, hB⟩
  replace hS := hide hS
  go_wp2_with fail
  go_ret
  exact ⟨_, _, _, rfl, hS.out, hB⟩
theorem sub_any {w : World} {A B : Option Addr} {n m c d : Nat} {ss ts : List Sym} (h : Syms w A n c ss) (g : Syms w B m d ts) (hs : n ≤ 100000) : Calls Try.prog 19 #[.slice A n c, .slice B m d] w (RetSyms w (bothL negOne ss ts)) := by
  have H := hide (both_any h g hs negOne (-1) rfl)
  clear h g
  go_enter Try.func19, Try.ntmps19
  go_wp2_with fail
  refine H.out.mono ?_
  rintro e w1 ⟨A', N', c', rfl, hS, hB⟩
  replace hS := hide hS
  go_wp2_with fail
  go_ret
  exact ⟨_, _, _, rfl, hS.out, hB⟩
theorem range_snoc (f : Nat → Sym) (k : Nat) : symsV ((List.range k).map f) ++ symCs (f k) = symsV ((List.range (k + 1)).map f) := by
  rw [symsV_snoc, List.range_succ, List.map_append]; rfl
theorem range_get (f : Nat → Sym) (n t : Nat) (h : t < n) : ((List.range n).map f).getD t Sym.zero = f t := by simp [List.getD_eq_getElem?_getD, List.getElem?_range h]
theorem ret_own {w wr : World} {v : Value} {n : Nat} {ss : List Sym} (h : wr.ownsRow w.heap.size 41 3 v n (symsV ss)) (hB : Below w.heap.size w wr) : RetSyms w ss (.returned v) wr := by
  obtain ⟨A, c, rfl, h1, h2, h3, h4, h5⟩ := own_of h
  exact ret_syms ⟨A, n, c, rfl, h1, h2, h3, h4, h5, hB⟩
theorem own_below {w w' : World} {base n size : Nat} {e : TypeId} {v : Value} {xs : List Value} (h : w.ownsRow base e size v n xs) (hb : Below w.heap.size w w') : w'.ownsRow base e size v n xs :=
  h.kept (row := none) ⟨hb.os, hb.tape, hb.output, hb.size, fun i hi _ => hb.block i hi⟩ (by cases v.ownBlock <;> simp)
theorem sub_one (s t : Sym) : s.many - t.many = (bothS negOne s t).many := by
  show s.many - t.many = s.many + -1#64 * t.many
  rw [BitVec.neg_mul, BitVec.one_mul, BitVec.sub_eq_add_neg]
theorem add_one (s t : Sym) : s.many + t.many = (bothS 1#64 s t).many := by
  show s.many + t.many = s.many + 1#64 * t.many
  rw [BitVec.one_mul]

theorem ref_one_to {w w' : World} {A : Option Addr} {n c : Nat} {zs : List W} (h : Nums w A n c zs) (hB : Below w.heap.size w w') (i : Int) (s : Sym) (hs : oneS zs i = s) : Calls Try.prog 29 #[.slice A n c, .int .i64 i] w' fun e w'' => e = .returned (.agg #[.int .i64 s.many.toInt, .int .u64 (s.sum.toNat : Int), .int .u64 (s.check.toNat : Int)]) ∧ Below w'.heap.size w' w'' := by
  subst hs; exact ref_one_any (h.below hB) i
set_option maxHeartbeats 2000000 in
theorem ref_symbols_yes {w : World} {A : Option Addr} {n c : Nat} {zs : List W} (h : Nums w A n c zs) (f m : Nat) (hfm : f + m ≤ 16384) : Calls Try.prog 17 #[.slice A n c, .int .i64 (f : Int), .int .i64 (m : Int)] w (RetSyms w (symsL zs (f : Int) (m : Int))) := by
  replace h := hide h
  have hL := hide (symsL_yes zs hfm)
  have b1 : (f : Int) ≤ 16384 := by omega
  have b2 : (m : Int) ≤ 16384 - (f : Int) := by omega
  have b3 : 0 ≤ (f : Int) := by omega
  have b4 : 0 ≤ (m : Int) := by omega
  obtain ⟨i0, hi0, hz0, hz1, hz2⟩ := info_parts info41
  obtain ⟨F, hF⟩ : ∃ F, F = fun (t : Nat) => oneS zs ((f : Int) + (t : Int)) := ⟨_, rfl⟩
  have hstep := hide (range_snoc F)
  have hone : Hid (∀ k : Nat, oneS zs ((f : Int) + (k : Int)) = F k) := hide (fun k => by rw [hF])
  rw [← hF] at hL
  clear hF
  go_enter Try.func17, Try.ntmps17
  go_wp2_with fail
  go_loopw [7, 8] (fun out i wr => ∃ k : Nat, k ≤ m ∧ i = .int .i64 ((f : Int) + (k : Int)) ∧ wr.ownsRow w.heap.size 41 3 out k (symsV ((List.range k).map F)) ∧ Below w.heap.size w wr) (fun _ i _ => (f + m) - (intOf i).toNat)
  case atStart => exact ⟨0, Nat.zero_le _, by simp, World.ownsRow_nil _ _ _ _, Below.refl _ _⟩
  case round =>
    obtain ⟨k, hk, rfl, hown, BW⟩ := hrel
    by_cases hlt : k < m
    · have hb5 : (f : Int) + (k : Int) < (f : Int) + (m : Int) := by omega
      have hC := hide (ref_one_to h.out BW _ _ (hone.out k))
      have hst : Hid (symsV ((List.range k).map F) ++ [.int .i64 (F k).many.toInt, .int .u64 ((F k).sum.toNat : Int), .int .u64 ((F k).check.toNat : Int)] = symsV ((List.range (k + 1)).map F)) := hide (hstep.out k)
      generalize (F k).many.toInt = M at *
      generalize ((F k).sum.toNat : Int) = S at *
      generalize ((F k).check.toNat : Int) = K at *
      go_wp2_with fail
      refine hC.out.mono ?_
      rintro e u1 ⟨rfl, hb1⟩
      have B1 := st BW hb1 (Below.refl _ _)
      have hown1 := own_below hown hb1
      clear hb1 hown BW
      go_wp2_with (at_builtin; refine wpList_append_own _ rfl _ _ 28 rfl w.heap.size 41 i0 (.agg #[.int .i64 0, .int .u64 0, .int .u64 0]) 3 24 Try.underlying28 hi0 hz0 hz1 hz2 rfl (by decide) _ _ _ rfl (hown1.alloc _) ⟨u1.heap.size, 0, none⟩ 1 1 [.int .i64 M, .int .u64 S, .int .u64 K] rfl rfl ?c1 ?c2 ?c3 ?c4 ?c5 ?_)
      case c1 =>
        intro q u hu
        match q, hu with
        | 0, hu => simp at hu; subst hu; simp [go_sem, Addr.add]
        | 1, hu => simp at hu; subst hu; simp [go_sem, Addr.add]
        | 2, hu => simp at hu; subst hu; simp [go_sem, Addr.add]
        | q + 3, hu => simp at hu
      case c2 => simp [Value.oneCell']
      case c3 => unfold maxLen; omega
      case c4 => omega
      case c5 => have := B1.size; simp; omega
      intro v' w2 hown2 hg _
      have B2 : Below w.heap.size w w2 := (B1.alloc B1.size _).grown hg (by have := B1.size; simp; omega) (fun k hk => (hown1.lt k hk).1)
      rw [hst.out] at hown2
      clear hown1 hg
      go_wp2_with fail
      go_roundw
      case rel => exact ⟨k + 1, by omega, by go_num, hown2, B2⟩
      case measure => simp [intOf]; omega
    · obtain rfl : k = m := by omega
      have hR := hide (ret_own hown BW)
      rw [← hL.out] at hR
      clear hown BW
      go_wp2_with fail
      go_ret
      exact hR.out
theorem ref_symbols_no {w : World} {A : Option Addr} {n c : Nat} {zs : List W} (f m : Int) (hno : ¬ (0 ≤ f ∧ 0 ≤ m ∧ f ≤ 16384 ∧ m ≤ 16384 - f)) : Calls Try.prog 17 #[.slice A n c, .int .i64 f, .int .i64 m] w (RetSyms w (symsL zs f m)) := by
  rw [symsL_no zs hno]
  by_cases h1 : f < 0
  · clear hno
    go_enter Try.func17, Try.ntmps17
    go_wp2_with fail
    go_ret
    exact ⟨none, 0, 0, rfl, syms_nil _, Below.refl _ _⟩
  · by_cases h2 : m < 0
    · clear hno
      go_enter Try.func17, Try.ntmps17
      go_wp2_with fail
      go_ret
      exact ⟨none, 0, 0, rfl, syms_nil _, Below.refl _ _⟩
    · by_cases h3 : 16384 < f
      · clear hno
        go_enter Try.func17, Try.ntmps17
        go_wp2_with fail
        go_ret
        exact ⟨none, 0, 0, rfl, syms_nil _, Below.refl _ _⟩
      · have h4 : 16384 - f < m := by omega
        clear hno
        go_enter Try.func17, Try.ntmps17
        go_wp2_with fail
        go_ret
        exact ⟨none, 0, 0, rfl, syms_nil _, Below.refl _ _⟩
theorem ref_symbols_any {w : World} {A : Option Addr} {n c : Nat} {zs : List W} (h : Nums w A n c zs) (f m : Int) : Calls Try.prog 17 #[.slice A n c, .int .i64 f, .int .i64 m] w (RetSyms w (symsL zs f m)) := by
  by_cases hy : 0 ≤ f ∧ 0 ≤ m ∧ f ≤ 16384 ∧ m ≤ 16384 - f
  · obtain ⟨a, rfl⟩ : ∃ a : Nat, f = (a : Int) := ⟨f.toNat, by omega⟩
    obtain ⟨b, rfl⟩ : ∃ b : Nat, m = (b : Int) := ⟨m.toNat, by omega⟩
    exact ref_symbols_yes h a b (by omega)
  · exact ref_symbols_no f m hy

set_option maxHeartbeats 4000000 in
theorem ref_sub_any {w : World} {A B : Option Addr} {n m c d : Nat} {ss ts : List Sym} (h : Syms w A n c ss) (gs : Syms w B m d ts) (hs : n ≤ 100000) : Calls Try.prog 24 #[.slice A n c, .slice B m d] w (RetSyms w (bothL (negOne) ss ts)) := by
  have hn := h.max
  have hm := gs.max
  have hLen : Hid (min ss.length ts.length = min n m) := hide (by rw [h.1, gs.1])
  replace h := hide h
  replace gs := hide gs
  obtain ⟨i0, hi0, hz0, hz1, hz2⟩ := info_parts info41
  go_enter Try.func24, Try.ntmps24
  go_wp2_with fail
  go_loopw [5, 6] (fun out i wr => ∃ k : Nat, k ≤ n ∧ k ≤ m ∧ i = .int .i64 (k : Int) ∧ wr.ownsRow w.heap.size 41 3 out k (symsV ((List.range k).map (bothF (negOne) ss ts))) ∧ Below w.heap.size w wr) (fun _ i _ => n - (intOf i).toNat)
  case atStart => exact ⟨0, Nat.zero_le _, Nat.zero_le _, rfl, World.ownsRow_nil _ _ _ _, Below.refl _ _⟩
  case round =>
    obtain ⟨k, hk, hk2, rfl, hown, BW⟩ := hrel
    by_cases hlt : k < n ∧ k < m
    · obtain ⟨hlt, hlt2⟩ := hlt
      obtain ⟨b, off, rfl, lb, q0, q1, q2⟩ := h.out.at_ BW hlt
      obtain ⟨b2, off2, rfl, lb2, r0, r1, r2⟩ := gs.out.at_ BW hlt2
      have hk0 : (0 : Int) ≤ (k : Int) := by omega
      have hkn : (k : Int) < (n : Int) := by omega
      have hkm : (k : Int) < (m : Int) := by omega
      have hst : Hid (symsV ((List.range k).map (bothF (negOne) ss ts)) ++ symCs (bothF (negOne) ss ts k) = symsV ((List.range (k + 1)).map (bothF (negOne) ss ts))) := hide (range_snoc _ k)
      have hF : bothF (negOne) ss ts k = bothS (negOne) (ss.getD k Sym.zero) (ts.getD k Sym.zero) := rfl
      rw [hF] at hst
      clear hF
      generalize ss.getD k Sym.zero = s at *
      generalize ts.getD k Sym.zero = t at *
      have e2 : IntKind.i64.wrap (s.many.toInt - t.many.toInt) = (bothS (negOne) s t).many.toInt := by rw [sub_i64, sub_one]
      unfold symCs at hst
      obtain ⟨M', hM'⟩ : ∃ Z, Z = (bothS (negOne) s t).many.toInt := ⟨_, rfl⟩
      obtain ⟨S', hS'⟩ : ∃ Z, Z = ((bothS (negOne) s t).sum.toNat : Int) := ⟨_, rfl⟩
      obtain ⟨K', hK'⟩ : ∃ Z, Z = ((bothS (negOne) s t).check.toNat : Int) := ⟨_, rfl⟩
      rw [← hM'] at e2 hst
      rw [← hS'] at hst
      rw [← hK'] at hst
      obtain ⟨S1, hS1⟩ : ∃ Z, Z = (s.sum.toNat : Int) := ⟨_, rfl⟩
      obtain ⟨K1, hK1⟩ : ∃ Z, Z = (s.check.toNat : Int) := ⟨_, rfl⟩
      obtain ⟨S2, hS2⟩ : ∃ Z, Z = (t.sum.toNat : Int) := ⟨_, rfl⟩
      obtain ⟨K2, hK2⟩ : ∃ Z, Z = (t.check.toNat : Int) := ⟨_, rfl⟩
      rw [← hS1] at q1
      rw [← hK1] at q2
      rw [← hS2] at r1
      rw [← hK2] at r2
      generalize s.many.toInt = M1 at *
      generalize t.many.toInt = M2 at *
      replace hM' := hide hM'
      replace hS' := hide hS'
      replace hK' := hide hK'
      replace hS1 := hide hS1
      replace hK1 := hide hK1
      replace hS2 := hide hS2
      replace hK2 := hide hK2
      replace BW := hide BW
      go_wp2_with fail
      refine wp_region_calm_move (fun w' => Below wr.heap.size wr w') 35 (.tmp 5) rfl rfl (fun _ _ _ _ h => h) (by kernel_rfl) (by kernel_rfl) (below_drewN (Below.refl _ _) 1) ?_
      simp only [List.take_succ_cons, List.take_zero, List.drop_succ_cons, List.drop_zero]
      repeat (first
        | go_big_quiet_skip
        | (go_big_quiet_want
           first
             | (go_big_quiet_op; go_big_quiet_on)
             | (apply Exists.intro
                refine ⟨fun w' hw' => ?_, ?_⟩
                focus
                  obtain ⟨hc', hf'⟩ := bcell hw'
                  go_simp
                  try first
                    | rfl
                    | (with_reducible rfl)
                    | (with_reducible refine (xor_to _ _ _ s.sum t.sum hS1.out hS2.out hS'.out _).mono ?_; exact fun _ _ h => ⟨h.1, h.2 ▸ hw'⟩)
                    | (with_reducible refine (xor_to _ _ _ s.check t.check hK1.out hK2.out hK'.out _).mono ?_; exact fun _ _ h => ⟨h.1, h.2 ▸ hw'⟩)
                go_big_quiet_on)
           try simp only [Act.put, List.setIfInBounds_toArray, List.set_cons_zero, List.set_cons_succ]))
      refine wpQuiet_nil ?_
      intro V HV
      have B1 := BW.out.trans (HV.mono BW.out.size)
      have hown1 := own_below hown HV
      clear HV hown q0 q1 q2 r0 r1 r2
      go_wp2_with (at_builtin; refine wpList_append_own _ rfl _ _ 28 rfl w.heap.size 41 i0 (.agg #[.int .i64 0, .int .u64 0, .int .u64 0]) 3 24 Try.underlying28 hi0 hz0 hz1 hz2 rfl (by decide) _ _ _ rfl (hown1.alloc _) ⟨V.heap.size, 0, none⟩ 1 1 [.int .i64 M', .int .u64 S', .int .u64 K'] rfl rfl ?c1 ?c2 ?c3 ?c4 ?c5 ?_)
      case c1 =>
        intro q u hu
        match q, hu with
        | 0, hu => simp at hu; subst hu; simp [go_sem, Addr.add]
        | 1, hu => simp at hu; subst hu; simp [go_sem, Addr.add]
        | 2, hu => simp at hu; subst hu; simp [go_sem, Addr.add]
        | q + 3, hu => simp at hu
      case c2 => simp [Value.oneCell']
      case c3 => unfold maxLen; omega
      case c4 => omega
      case c5 => have := B1.size; simp; omega
      intro v' w2 hown2 hg _
      have B2 : Below w.heap.size w w2 := (B1.alloc B1.size _).grown hg (by have := B1.size; simp; omega) (fun k hk => (hown1.lt k hk).1)
      rw [hst.out] at hown2
      clear hown1 hg
      go_wp2_with fail
      go_roundw
      case rel => exact ⟨k + 1, by omega, by omega, by go_num, hown2, B2⟩
      case measure => simp [intOf]; omega
    · have hfin : k = min n m := by omega
      have hR : Hid (RetSyms w (bothL (negOne) ss ts) (.returned u5) wr) := hide (by
        unfold bothL; rw [hLen.out, ← hfin]; exact ret_own hown BW)
      clear hown hfin
      by_cases hln : k < n
      · have hlm : ¬ (k : Int) < (m : Int) := by omega
        clear hlt
        go_wp2_with fail
        go_ret
        exact hR.out
      · clear hlt
        go_wp2_with fail
        go_ret
        exact hR.out

set_option maxHeartbeats 4000000 in
theorem ref_add_any {w : World} {A B : Option Addr} {n m c d : Nat} {ss ts : List Sym} (h : Syms w A n c ss) (gs : Syms w B m d ts) (hs : n ≤ 100000) : Calls Try.prog 23 #[.slice A n c, .slice B m d] w (RetSyms w (bothL (1#64) ss ts)) := by
  have hn := h.max
  have hm := gs.max
  have hLen : Hid (min ss.length ts.length = min n m) := hide (by rw [h.1, gs.1])
  replace h := hide h
  replace gs := hide gs
  obtain ⟨i0, hi0, hz0, hz1, hz2⟩ := info_parts info41
  go_enter Try.func23, Try.ntmps23
  go_wp2_with fail
  go_loopw [5, 6] (fun out i wr => ∃ k : Nat, k ≤ n ∧ k ≤ m ∧ i = .int .i64 (k : Int) ∧ wr.ownsRow w.heap.size 41 3 out k (symsV ((List.range k).map (bothF (1#64) ss ts))) ∧ Below w.heap.size w wr) (fun _ i _ => n - (intOf i).toNat)
  case atStart => exact ⟨0, Nat.zero_le _, Nat.zero_le _, rfl, World.ownsRow_nil _ _ _ _, Below.refl _ _⟩
  case round =>
    obtain ⟨k, hk, hk2, rfl, hown, BW⟩ := hrel
    by_cases hlt : k < n ∧ k < m
    · obtain ⟨hlt, hlt2⟩ := hlt
      obtain ⟨b, off, rfl, lb, q0, q1, q2⟩ := h.out.at_ BW hlt
      obtain ⟨b2, off2, rfl, lb2, r0, r1, r2⟩ := gs.out.at_ BW hlt2
      have hk0 : (0 : Int) ≤ (k : Int) := by omega
      have hkn : (k : Int) < (n : Int) := by omega
      have hkm : (k : Int) < (m : Int) := by omega
      have hst : Hid (symsV ((List.range k).map (bothF (1#64) ss ts)) ++ symCs (bothF (1#64) ss ts k) = symsV ((List.range (k + 1)).map (bothF (1#64) ss ts))) := hide (range_snoc _ k)
      have hF : bothF (1#64) ss ts k = bothS (1#64) (ss.getD k Sym.zero) (ts.getD k Sym.zero) := rfl
      rw [hF] at hst
      clear hF
      generalize ss.getD k Sym.zero = s at *
      generalize ts.getD k Sym.zero = t at *
      have e2 : IntKind.i64.wrap (s.many.toInt + t.many.toInt) = (bothS (1#64) s t).many.toInt := by rw [add_i64, add_one]
      unfold symCs at hst
      obtain ⟨M', hM'⟩ : ∃ Z, Z = (bothS (1#64) s t).many.toInt := ⟨_, rfl⟩
      obtain ⟨S', hS'⟩ : ∃ Z, Z = ((bothS (1#64) s t).sum.toNat : Int) := ⟨_, rfl⟩
      obtain ⟨K', hK'⟩ : ∃ Z, Z = ((bothS (1#64) s t).check.toNat : Int) := ⟨_, rfl⟩
      rw [← hM'] at e2 hst
      rw [← hS'] at hst
      rw [← hK'] at hst
      obtain ⟨S1, hS1⟩ : ∃ Z, Z = (s.sum.toNat : Int) := ⟨_, rfl⟩
      obtain ⟨K1, hK1⟩ : ∃ Z, Z = (s.check.toNat : Int) := ⟨_, rfl⟩
      obtain ⟨S2, hS2⟩ : ∃ Z, Z = (t.sum.toNat : Int) := ⟨_, rfl⟩
      obtain ⟨K2, hK2⟩ : ∃ Z, Z = (t.check.toNat : Int) := ⟨_, rfl⟩
      rw [← hS1] at q1
      rw [← hK1] at q2
      rw [← hS2] at r1
      rw [← hK2] at r2
      generalize s.many.toInt = M1 at *
      generalize t.many.toInt = M2 at *
      replace hM' := hide hM'
      replace hS' := hide hS'
      replace hK' := hide hK'
      replace hS1 := hide hS1
      replace hK1 := hide hK1
      replace hS2 := hide hS2
      replace hK2 := hide hK2
      replace BW := hide BW
      go_wp2_with fail
      refine wp_region_calm_move (fun w' => Below wr.heap.size wr w') 35 (.tmp 5) rfl rfl (fun _ _ _ _ h => h) (by kernel_rfl) (by kernel_rfl) (below_drewN (Below.refl _ _) 1) ?_
      simp only [List.take_succ_cons, List.take_zero, List.drop_succ_cons, List.drop_zero]
      repeat (first
        | go_big_quiet_skip
        | (go_big_quiet_want
           first
             | (go_big_quiet_op; go_big_quiet_on)
             | (apply Exists.intro
                refine ⟨fun w' hw' => ?_, ?_⟩
                focus
                  obtain ⟨hc', hf'⟩ := bcell hw'
                  go_simp
                  try first
                    | rfl
                    | (with_reducible rfl)
                    | (with_reducible refine (xor_to _ _ _ s.sum t.sum hS1.out hS2.out hS'.out _).mono ?_; exact fun _ _ h => ⟨h.1, h.2 ▸ hw'⟩)
                    | (with_reducible refine (xor_to _ _ _ s.check t.check hK1.out hK2.out hK'.out _).mono ?_; exact fun _ _ h => ⟨h.1, h.2 ▸ hw'⟩)
                go_big_quiet_on)
           try simp only [Act.put, List.setIfInBounds_toArray, List.set_cons_zero, List.set_cons_succ]))
      refine wpQuiet_nil ?_
      intro V HV
      have B1 := BW.out.trans (HV.mono BW.out.size)
      have hown1 := own_below hown HV
      clear HV hown q0 q1 q2 r0 r1 r2
      go_wp2_with (at_builtin; refine wpList_append_own _ rfl _ _ 28 rfl w.heap.size 41 i0 (.agg #[.int .i64 0, .int .u64 0, .int .u64 0]) 3 24 Try.underlying28 hi0 hz0 hz1 hz2 rfl (by decide) _ _ _ rfl (hown1.alloc _) ⟨V.heap.size, 0, none⟩ 1 1 [.int .i64 M', .int .u64 S', .int .u64 K'] rfl rfl ?c1 ?c2 ?c3 ?c4 ?c5 ?_)
      case c1 =>
        intro q u hu
        match q, hu with
        | 0, hu => simp at hu; subst hu; simp [go_sem, Addr.add]
        | 1, hu => simp at hu; subst hu; simp [go_sem, Addr.add]
        | 2, hu => simp at hu; subst hu; simp [go_sem, Addr.add]
        | q + 3, hu => simp at hu
      case c2 => simp [Value.oneCell']
      case c3 => unfold maxLen; omega
      case c4 => omega
      case c5 => have := B1.size; simp; omega
      intro v' w2 hown2 hg _
      have B2 : Below w.heap.size w w2 := (B1.alloc B1.size _).grown hg (by have := B1.size; simp; omega) (fun k hk => (hown1.lt k hk).1)
      rw [hst.out] at hown2
      clear hown1 hg
      go_wp2_with fail
      go_roundw
      case rel => exact ⟨k + 1, by omega, by omega, by go_num, hown2, B2⟩
      case measure => simp [intOf]; omega
    · have hfin : k = min n m := by omega
      have hR : Hid (RetSyms w (bothL (1#64) ss ts) (.returned u5) wr) := hide (by
        unfold bothL; rw [hLen.out, ← hfin]; exact ret_own hown BW)
      clear hown hfin
      by_cases hln : k < n
      · have hlm : ¬ (k : Int) < (m : Int) := by omega
        clear hlt
        go_wp2_with fail
        go_ret
        exact hR.out
      · clear hlt
        go_wp2_with fail
        go_ret
        exact hR.out
end Go.Proofs.Ytabgenhednhagaa

/-
  Chapter 34, plain: what symbols of sets are together, what is told of them. No program in sight.
-/
import Derived.Test.YtabgenhednhagaaWalks10
namespace Go.Proofs.Ytabgenhednhagaa
open Plain
set_option linter.unusedSimpArgs false
set_option linter.unusedVariables false

/-! ### Symbols go on -/
theorem symsL_len (zs : List W) {k n : Nat} (h : k + n ≤ 16384) : (symsL zs (k : Int) (n : Int)).length = n := by rw [symsL_yes zs h]; simp
theorem symsL_append (zs : List W) {k n m : Nat} (h : k + (n + m) ≤ 16384) : symsL zs (k : Int) ((n + m : Nat) : Int) = symsL zs (k : Int) (n : Int) ++ symsL zs ((k + n : Nat) : Int) (m : Int) := by
  rw [symsL_yes zs (f := k) (m := n + m) h, symsL_yes zs (f := k) (m := n) (by omega), symsL_yes zs (f := k + n) (m := m) (by omega), List.range_add, List.map_append, List.map_map]
  refine congrArg (_ ++ ·) ?_
  apply List.map_congr_left
  intro t _
  simp only [Function.comp_apply]
  rw [show (k : Int) + ((n + t : Nat) : Int) = ((k + n : Nat) : Int) + (t : Int) by omega]

/-! ### Symbols of all are symbols of both, added -/
theorem bothS_one (s t : Sym) : bothS 1#64 s t = ⟨s.many + t.many, s.sum ^^^ t.sum, s.check ^^^ t.check⟩ := by unfold bothS; rw [BitVec.one_mul]
theorem bothS_neg (s t : Sym) : bothS negOne s t = ⟨s.many - t.many, s.sum ^^^ t.sum, s.check ^^^ t.check⟩ := by
  rw [sub_one]; rfl
theorem both_assoc (s t u : Sym) : bothS 1#64 (bothS 1#64 s t) u = bothS 1#64 s (bothS 1#64 t u) := by
  simp only [bothS_one]
  exact sym_ext (BitVec.add_assoc _ _ _) (BitVec.xor_assoc _ _ _) (BitVec.xor_assoc _ _ _)
theorem both_comm (s t : Sym) : bothS 1#64 s t = bothS 1#64 t s := by
  simp only [bothS_one]
  exact sym_ext (BitVec.add_comm _ _) (BitVec.xor_comm _ _) (BitVec.xor_comm _ _)
theorem both_zero (s : Sym) : bothS 1#64 s Sym.zero = s := by
  rw [bothS_one]
  exact sym_ext (BitVec.add_zero _) (BitVec.xor_zero) (BitVec.xor_zero)
theorem put_both (s : Sym) (z : W) : s.put z 1#64 = bothS 1#64 s (Sym.zero.put z 1#64) := by
  rw [bothS_one]
  refine sym_ext ?_ ?_ ?_
  · show s.many + 1#64 = s.many + (0#64 + 1#64); rw [BitVec.zero_add]
  · show s.sum ^^^ z = s.sum ^^^ (0#64 ^^^ z); rw [BitVec.zero_xor]
  · show s.check ^^^ checkW z = s.check ^^^ (0#64 ^^^ checkW z); rw [BitVec.zero_xor]
theorem fold_both (i : Int) : ∀ (b : List W) (s : Sym), b.foldl (fun s z => if inI z i then s.put z 1#64 else s) s = bothS 1#64 s (oneS b i)
  | [], s => (both_zero s).symm
  | z :: b, s => by
    rw [List.foldl_cons, fold_both i b]
    have e : oneS (z :: b) i = bothS 1#64 (if inI z i then Sym.zero.put z 1#64 else Sym.zero) (oneS b i) := by
      show b.foldl _ _ = _
      rw [fold_both i b]
    rw [e, ← both_assoc]
    congr 1
    split
    · exact put_both s z
    · exact (both_zero s).symm
theorem oneS_append (a b : List W) (i : Int) : oneS (a ++ b) i = bothS 1#64 (oneS a i) (oneS b i) := by
  unfold oneS
  rw [List.foldl_append, fold_both]
  rfl
theorem bothL_map (y : W) (f g : Nat → Sym) (n : Nat) : bothL y ((List.range n).map f) ((List.range n).map g) = (List.range n).map (fun t => bothS y (f t) (g t)) := by
  unfold bothL
  simp only [List.length_map, List.length_range, Nat.min_self]
  apply List.map_congr_left
  intro t ht
  have h := List.mem_range.1 ht
  unfold bothF
  rw [range_get f n t h, range_get g n t h]
theorem symsL_both (a b : List W) {k n : Nat} (h : k + n ≤ 16384) : symsL (a ++ b) (k : Int) (n : Int) = bothL 1#64 (symsL a (k : Int) (n : Int)) (symsL b (k : Int) (n : Int)) := by
  rw [symsL_yes _ h, symsL_yes _ h, symsL_yes _ h, bothL_map]
  apply List.map_congr_left
  intro t _
  exact oneS_append a b _
theorem cancel_mid (s u t : Sym) : bothS negOne (bothS 1#64 s u) (bothS 1#64 u t) = bothS negOne s t := by
  simp only [bothS_one, bothS_neg]
  refine sym_ext ?_ ?_ ?_
  · show s.many + u.many - (u.many + t.many) = s.many - t.many
    rw [← BitVec.sub_sub, BitVec.add_sub_cancel]
  · show s.sum ^^^ u.sum ^^^ (u.sum ^^^ t.sum) = s.sum ^^^ t.sum; exact xor_swap _ _ _
  · show s.check ^^^ u.check ^^^ (u.check ^^^ t.check) = s.check ^^^ t.check; exact xor_swap _ _ _
theorem cancel_end (s t : Sym) : bothS negOne (bothS 1#64 s t) t = s := by
  simp only [bothS_one, bothS_neg]
  refine sym_ext ?_ ?_ ?_
  · show s.many + t.many - t.many = s.many; exact BitVec.add_sub_cancel _ _
  · show s.sum ^^^ t.sum ^^^ t.sum = s.sum; rw [BitVec.xor_assoc, BitVec.xor_self, BitVec.xor_zero]
  · show s.check ^^^ t.check ^^^ t.check = s.check; rw [BitVec.xor_assoc, BitVec.xor_self, BitVec.xor_zero]
theorem linear_less (a b u : List W) {k n : Nat} (h : k + n ≤ 16384) : bothL negOne (symsL (a ++ u) (k : Int) (n : Int)) (symsL (u ++ b) (k : Int) (n : Int)) = bothL negOne (symsL a (k : Int) (n : Int)) (symsL b (k : Int) (n : Int)) := by
  rw [symsL_yes _ h, symsL_yes _ h, symsL_yes _ h, symsL_yes _ h, bothL_map, bothL_map]
  apply List.map_congr_left
  intro t _
  rw [oneS_append, oneS_append, cancel_mid]
theorem linear_back (a b : List W) {k n : Nat} (h : k + n ≤ 16384) : bothL negOne (bothL 1#64 (symsL a (k : Int) (n : Int)) (symsL b (k : Int) (n : Int))) (symsL b (k : Int) (n : Int)) = symsL a (k : Int) (n : Int) := by
  rw [symsL_yes _ h, symsL_yes _ h, bothL_map, bothL_map]
  apply List.map_congr_left
  intro t _
  exact cancel_end _ _

/-! ### What is told as all has just these symbols -/
theorem next_fresh {l : List Sym} {T : List W} {i : Nat} (h : nextI l T = some i) : (l.getD i Sym.zero).sum ∉ T := by
  have := (next_spec h).2.1
  unfold okAt at this
  simp only [Bool.and_eq_true, Bool.not_eq_true', decide_eq_false_iff_not] at this
  exact this.2
theorem go_inv (l0 : List Sym) : ∀ (f : Nat) (ms ts : List W), (ms ++ ts).Nodup → ∀ cur ms' ts', peelGo f (remL l0 ms ts) ms ts = (cur, ms', ts') →
    (ms' ++ ts').Nodup ∧ ms'.length + ts'.length ≤ ms.length + ts.length + f ∧ cur = remL l0 ms' ts'
  | 0, ms, ts, hn, cur, ms', ts', h => by
    rw [peelGo_zero] at h
    injection h with h1 h2
    injection h2 with h2 h3
    subst h1 h2 h3
    exact ⟨hn, by omega, rfl⟩
  | f + 1, ms, ts, hn, cur, ms', ts', h => by
    cases hx : nextI (remL l0 ms ts) (ms ++ ts) with
    | none =>
      rw [peelGo_none hx] at h
      injection h with h1 h2
      injection h2 with h2 h3
      subst h1 h2 h3
      exact ⟨hn, by omega, rfl⟩
    | some i =>
      have hf := next_fresh hx
      have hi : i < l0.length := by have := (next_spec hx).1; rwa [remL_len] at this
      have hm := ok_many_is hx hi
      have hat : (remL l0 ms ts).getD i Sym.zero = remF l0 ms ts i := remL_get _ _ _ _ hi
      by_cases h1 : (remF l0 ms ts i).many = 1#64
      · rw [peelGo_mine hx (by rw [hat]; exact h1), hat, h1, remL_mine] at h
        rw [hat] at hf
        have := go_inv l0 f _ ts (by
          rw [List.append_assoc, List.nodup_append]
          rw [List.nodup_append] at hn
          simp only [List.mem_append, not_or] at hf
          refine ⟨hn.1, ?_, ?_⟩
          · simp only [List.singleton_append, List.nodup_cons]; exact ⟨hf.2, hn.2.1⟩
          · intro a ha b hb
            simp only [List.singleton_append, List.mem_cons] at hb
            rcases hb with rfl | hb
            · intro e; exact hf.1 (e ▸ ha)
            · exact hn.2.2 a ha b hb) _ _ _ h
        refine ⟨this.1, ?_, this.2.2⟩
        have h2 := this.2.1
        rw [List.length_append] at h2
        simp only [List.length_cons, List.length_nil] at h2
        omega
      · have h1' : (remF l0 ms ts i).many = -1#64 := by rcases hm with e | e; exact absurd e h1; exact e
        rw [peelGo_theirs hx (by rw [hat]; exact h1), hat, h1', remL_theirs] at h
        rw [hat] at hf
        have := go_inv l0 f ms _ (by
          rw [← List.append_assoc, List.nodup_append]
          refine ⟨hn, by simp, ?_⟩
          intro a ha b hb
          simp only [List.mem_singleton] at hb
          subst hb
          intro e; exact hf (e ▸ ha)) _ _ _ h
        refine ⟨this.1, ?_, this.2.2⟩
        have h2 := this.2.1
        rw [List.length_append] at h2
        simp only [List.length_cons, List.length_nil] at h2
        omega
theorem peel_inv (l : List Sym) : ((peelL l).2.1 ++ (peelL l).2.2).Nodup ∧ (peelL l).2.1.length + (peelL l).2.2.length ≤ l.length ∧ (peelL l).1 = remL l (peelL l).2.1 (peelL l).2.2 := by
  have h : peelGo l.length (remL l [] []) [] [] = ((peelL l).1, (peelL l).2.1, (peelL l).2.2) := by rw [remL_nil]; rfl
  have := go_inv l l.length [] [] (by simp) _ _ _ h
  exact ⟨this.1, by simpa using this.2.1, this.2.2⟩
theorem peel_empty : doneB (peelL []).1 = false := rfl
theorem rem_sub {s a b : Sym} (h : nz (remS s a b) = false) : bothS negOne a b = s := by
  obtain ⟨h1, h2, h3⟩ := nz_rem.1 h
  rw [bothS_neg]
  exact (sym_ext (BitVec.eq_of_toInt_eq h1) (BitVec.eq_of_toNat_eq (Int.ofNat.inj h2)) (BitVec.eq_of_toNat_eq (Int.ofNat.inj h3))).symm
theorem sums_of (l : List Sym) (hl : l.length ≤ 16384) (hd : doneB (peelL l).1 = true) : bothL negOne (symsL (peelL l).2.1 0 (l.length : Int)) (symsL (peelL l).2.2 0 (l.length : Int)) = l := by
  have hr := (peel_inv l).2.2
  rw [hr] at hd
  generalize (peelL l).2.1 = ms at *
  generalize (peelL l).2.2 = ts at *
  rw [show (0 : Int) = ((0 : Nat) : Int) from rfl, symsL_yes ms (f := 0) (by omega), symsL_yes ts (f := 0) (by omega), bothL_map]
  apply list_same Sym.zero
  · simp
  · intro j hj
    have hj' : j < l.length := by simpa using hj
    rw [range_get _ _ _ hj']
    have hz : nz (remF l ms ts j) = false := by
      unfold doneB at hd
      rw [Bool.and_eq_true] at hd
      have h2 := hd.2
      rw [Bool.not_eq_true', List.any_eq_false] at h2
      have := h2 (remF l ms ts j) (List.mem_map.2 ⟨j, List.mem_range.2 hj', rfl⟩)
      simpa using this
    have := rem_sub hz
    simpa using this

/-! ### Two sets that differ by one number, or none -/
theorem in_first (z : W) : inI z 0 = true := by
  rw [show (0 : Int) = ((0 : Nat) : Int) from rfl, inI_nat z 0 (by omega)]
  unfold inS
  exact decide_eq_true (Nat.mod_lt _ (by omega))
theorem oneS_one (z : W) (i : Int) : oneS [z] i = if inI z i then Sym.zero.put z 1#64 else Sym.zero := by unfold oneS; rw [List.foldl_cons, List.foldl_nil]
def zeros (k : Nat) : List Sym := (List.range k).map fun _ => Sym.zero
def single (z y : W) (k : Nat) : List Sym := (List.range k).map fun (t : Nat) => if inI z (t : Int) then Sym.zero.put z y else Sym.zero
theorem pure_zero (i : Int) : pureB Sym.zero i = false := pure_many (by decide) (by decide) i
theorem zeros_next (k : Nat) (T : List W) : nextI (zeros k) T = none := next_none fun j hj => by
  have hj' : j < k := by simpa [zeros] using hj
  unfold okAt zeros
  rw [range_get _ _ _ hj', pure_zero]; rfl
theorem zeros_done {k : Nat} (h : 0 < k) : doneB (zeros k) = true := by
  unfold doneB zeros
  simp only [List.length_map, List.length_range, h, decide_true, Bool.true_and, Bool.not_eq_true', List.any_eq_false]
  intro x hx
  obtain ⟨_, _, rfl⟩ := List.mem_map.1 hx
  decide
theorem peel_zeros (k : Nat) : peelL (zeros k) = (zeros k, [], []) := by
  unfold peelL
  exact peelGo_none (zeros_next k _)
theorem out_single (z y : W) (k : Nat) : outL (single z y k) z y = zeros k := by
  apply list_same Sym.zero
  · rw [outL_len]; simp [single, zeros]
  · intro j hj
    have hj' : j < k := by rw [outL_len] at hj; simpa [single] using hj
    rw [outL_get _ _ _ _ (by simpa [single] using hj')]
    unfold outF zeros single
    simp only []
    rw [range_get _ _ _ hj', range_get _ _ _ hj']
    by_cases h : inI z (j : Int) = true
    · simp only [if_pos h]
      refine sym_ext ?_ ?_ ?_
      · show 0#64 + y + -y = 0#64; rw [BitVec.zero_add, BitVec.add_right_neg]
      · show 0#64 ^^^ z ^^^ z = 0#64; rw [BitVec.zero_xor, BitVec.xor_self]
      · show 0#64 ^^^ checkW z ^^^ checkW z = 0#64; rw [BitVec.zero_xor, BitVec.xor_self]
    · simp only [if_neg h]
theorem single_first {z y : W} {k : Nat} (hk : 0 < k) (hy : y = 1#64 ∨ y = -1#64) : nextI (single z y k) [] = some 0 ∧ (single z y k).getD 0 Sym.zero = ⟨y, z, checkW z⟩ := by
  have hat : (single z y k).getD 0 Sym.zero = ⟨y, z, checkW z⟩ := by
    unfold single
    rw [range_get _ _ _ hk]
    simp only [Int.ofNat_eq_natCast, Int.natCast_zero, in_first, if_true]
    refine sym_ext ?_ ?_ ?_
    · show 0#64 + y = y; rw [BitVec.zero_add]
    · show 0#64 ^^^ z = z; rw [BitVec.zero_xor]
    · show 0#64 ^^^ checkW z = checkW z; rw [BitVec.zero_xor]
  refine ⟨next_some (by simpa [single] using hk) (fun j hj => by omega) ?_, hat⟩
  unfold okAt pureB
  rw [hat]
  simp only [Int.natCast_zero, in_first, Bool.and_true, decide_true, List.not_mem_nil, decide_false, Bool.not_false]
  rcases hy with rfl | rfl <;> simp
theorem peel_single_mine (z : W) {k : Nat} (hk : 0 < k) : peelL (single z 1#64 k) = (zeros k, [z], []) := by
  obtain ⟨h1, h2⟩ := single_first (z := z) hk (.inl rfl)
  unfold peelL
  obtain ⟨f, hf⟩ : ∃ f, (single z 1#64 k).length = f + 1 := ⟨k - 1, by simp [single]; omega⟩
  rw [hf, peelGo_mine h1 (by rw [h2]), h2]
  simp only [out_single]
  exact peelGo_none (zeros_next k _)
theorem peel_single_theirs (z : W) {k : Nat} (hk : 0 < k) : peelL (single z (-1#64) k) = (zeros k, [], [z]) := by
  obtain ⟨h1, h2⟩ := single_first (z := z) hk (.inr rfl)
  unfold peelL
  obtain ⟨f, hf⟩ : ∃ f, (single z (-1#64) k).length = f + 1 := ⟨k - 1, by simp [single]; omega⟩
  rw [hf, peelGo_theirs h1 (by rw [h2]; show ¬ (-1#64 : W) = 1#64; decide), h2]
  simp only [out_single]
  exact peelGo_none (zeros_next k _)
theorem sub_self (s : Sym) : bothS negOne s s = Sym.zero := by
  rw [bothS_neg]
  refine sym_ext ?_ ?_ ?_
  · show s.many - s.many = 0#64; exact BitVec.sub_self _
  · show s.sum ^^^ s.sum = 0#64; exact BitVec.xor_self
  · show s.check ^^^ s.check = 0#64; exact BitVec.xor_self
theorem one_none (zs : List W) {k : Nat} (h : k ≤ 16384) : bothL negOne (symsL zs 0 (k : Int)) (symsL zs 0 (k : Int)) = zeros k := by
  rw [show (0 : Int) = ((0 : Nat) : Int) from rfl, symsL_yes zs (f := 0) (by omega), bothL_map]
  apply List.map_congr_left
  intro t _
  exact sub_self _
theorem one_more (zs : List W) (z : W) {k : Nat} (h : k ≤ 16384) : bothL negOne (symsL (zs ++ [z]) 0 (k : Int)) (symsL zs 0 (k : Int)) = single z 1#64 k := by
  rw [show (0 : Int) = ((0 : Nat) : Int) from rfl, symsL_yes zs (f := 0) (by omega), symsL_yes (zs ++ [z]) (f := 0) (by omega), bothL_map]
  apply List.map_congr_left
  intro t _
  simp only [Int.natCast_zero, Int.zero_add]
  rw [oneS_append, both_comm, cancel_end, oneS_one]
theorem one_less (zs : List W) (z : W) {k : Nat} (h : k ≤ 16384) : bothL negOne (symsL zs 0 (k : Int)) (symsL (zs ++ [z]) 0 (k : Int)) = single z (-1#64) k := by
  rw [show (0 : Int) = ((0 : Nat) : Int) from rfl, symsL_yes zs (f := 0) (by omega), symsL_yes (zs ++ [z]) (f := 0) (by omega), bothL_map]
  apply List.map_congr_left
  intro t _
  simp only [Int.natCast_zero, Int.zero_add]
  rw [oneS_append, bothS_neg, bothS_one]
  rw [oneS_one]
  generalize oneS zs (t : Int) = s
  by_cases hin : inI z (t : Int) = true
  · simp only [if_pos hin]
    refine sym_ext ?_ ?_ ?_
    · show s.many - (s.many + (0#64 + 1#64)) = 0#64 + -1#64
      rw [← BitVec.sub_sub, BitVec.sub_self]; rfl
    · show s.sum ^^^ (s.sum ^^^ (0#64 ^^^ z)) = 0#64 ^^^ z
      rw [← BitVec.xor_assoc, BitVec.xor_self, BitVec.zero_xor]
    · show s.check ^^^ (s.check ^^^ (0#64 ^^^ checkW z)) = 0#64 ^^^ checkW z
      rw [← BitVec.xor_assoc, BitVec.xor_self, BitVec.zero_xor]
  · simp only [if_neg hin]
    refine sym_ext ?_ ?_ ?_
    · show s.many - (s.many + 0#64) = 0#64; rw [BitVec.add_zero, BitVec.sub_self]
    · show s.sum ^^^ (s.sum ^^^ 0#64) = 0#64; rw [BitVec.xor_zero, BitVec.xor_self]
    · show s.check ^^^ (s.check ^^^ 0#64) = 0#64; rw [BitVec.xor_zero, BitVec.xor_self]

/-! ### Turned round -/
def negS (s : Sym) : Sym := ⟨-s.many, s.sum, s.check⟩
def negL (l : List Sym) : List Sym := l.map negS
theorem negL_get (l : List Sym) (j : Nat) : (negL l).getD j Sym.zero = negS (l.getD j Sym.zero) := by
  unfold negL
  rw [List.getD_eq_getElem?_getD, List.getD_eq_getElem?_getD, List.getElem?_map]
  cases l[j]? <;> rfl
theorem neg_sub (l : List Sym) : bothL negOne (zeros l.length) l = negL l := by
  apply list_same Sym.zero
  · rw [bothL_len]; simp [zeros, negL]
  · intro j hj
    have hj' : j < l.length := by rw [bothL_len] at hj; simpa [zeros] using hj
    rw [negL_get]
    unfold bothL
    rw [range_get _ _ _ (by simpa [zeros] using hj')]
    unfold bothF zeros
    rw [range_get _ _ _ hj', bothS_neg]
    refine sym_ext ?_ ?_ ?_
    · show 0#64 - (l.getD j Sym.zero).many = -(l.getD j Sym.zero).many; rw [BitVec.zero_sub]
    · show 0#64 ^^^ (l.getD j Sym.zero).sum = (l.getD j Sym.zero).sum; rw [BitVec.zero_xor]
    · show 0#64 ^^^ (l.getD j Sym.zero).check = (l.getD j Sym.zero).check; rw [BitVec.zero_xor]
theorem neg_one {a : W} : -a = 1#64 ↔ a = -1#64 := ⟨fun h => by rw [← h, BitVec.neg_neg], fun h => by rw [h, BitVec.neg_neg]⟩
theorem neg_neg_one {a : W} : -a = -1#64 ↔ a = 1#64 := ⟨fun h => by have := congrArg (fun x => -x) h; simpa [BitVec.neg_neg] using this, fun h => by rw [h]⟩
theorem neg_pure (s : Sym) (i : Int) : pureB (negS s) i = pureB s i := by
  unfold pureB negS
  simp only [neg_one, neg_neg_one]
  rw [Bool.or_comm]
theorem neg_next (l : List Sym) {T U : List W} (h : ∀ z, z ∈ T ↔ z ∈ U) : nextI (negL l) T = nextI l U := by
  unfold nextI
  rw [show (negL l).length = l.length by simp [negL]]
  congr 1
  funext j
  unfold okAt
  rw [negL_get, neg_pure]
  congr 2
  exact decide_eq_decide.2 (h _)
theorem neg_out (l : List Sym) (z y : W) : outL (negL l) z (-y) = negL (outL l z y) := by
  apply list_same Sym.zero
  · rw [outL_len]; simp [negL, outL_len]
  · intro j hj
    have hj' : j < l.length := by rw [outL_len] at hj; simpa [negL] using hj
    rw [negL_get, outL_get _ _ _ _ (by simpa [negL] using hj'), outL_get _ _ _ _ hj']
    unfold outF
    simp only [negL_get]
    split
    · refine sym_ext ?_ rfl rfl
      show -(l.getD j Sym.zero).many + - -y = -((l.getD j Sym.zero).many + -y)
      rw [BitVec.neg_add, BitVec.sub_eq_add_neg]
    · rfl
theorem neg_go : ∀ (f : Nat) (l : List Sym) (ms ts : List W) (cur : List Sym) (ms' ts' : List W), peelGo f l ms ts = (cur, ms', ts') → peelGo f (negL l) ts ms = (negL cur, ts', ms')
  | 0, l, ms, ts, cur, ms', ts', h => by
    rw [peelGo_zero] at h ⊢
    injection h with h1 h2
    injection h2 with h2 h3
    subst h1 h2 h3
    rfl
  | f + 1, l, ms, ts, cur, ms', ts', h => by
    have hn : nextI (negL l) (ts ++ ms) = nextI l (ms ++ ts) := neg_next l (fun z => by simp [or_comm])
    cases hx : nextI l (ms ++ ts) with
    | none =>
      rw [peelGo_none hx] at h
      rw [hx] at hn
      rw [peelGo_none hn]
      injection h with h1 h2
      injection h2 with h2 h3
      subst h1 h2 h3
      rfl
    | some i =>
      rw [hx] at hn
      have hp : (l.getD i Sym.zero).many = 1#64 ∨ (l.getD i Sym.zero).many = -1#64 := by
        have := (next_spec hx).2.1
        unfold okAt at this
        rw [Bool.and_eq_true] at this
        exact pure_many_is this.1
      by_cases h1 : (l.getD i Sym.zero).many = 1#64
      · rw [peelGo_mine hx h1] at h
        rw [peelGo_theirs hn (by rw [negL_get]; show ¬ -(l.getD i Sym.zero).many = 1#64; rw [h1]; decide), negL_get]
        show peelGo f (outL (negL l) (l.getD i Sym.zero).sum (-(l.getD i Sym.zero).many)) (ts) (ms ++ [(l.getD i Sym.zero).sum]) = _
        rw [neg_out]
        exact neg_go f _ _ _ _ _ _ h
      · have h2 : (l.getD i Sym.zero).many = -1#64 := by rcases hp with e | e; exact absurd e h1; exact e
        rw [peelGo_theirs hx h1] at h
        rw [peelGo_mine hn (by rw [negL_get]; show -(l.getD i Sym.zero).many = 1#64; rw [h2, BitVec.neg_neg]), negL_get]
        show peelGo f (outL (negL l) (l.getD i Sym.zero).sum (-(l.getD i Sym.zero).many)) (ts ++ [(l.getD i Sym.zero).sum]) ms = _
        rw [neg_out]
        exact neg_go f _ _ _ _ _ _ h
theorem neg_nz (s : Sym) : nz (negS s) = nz s := by
  unfold nz
  apply decide_eq_decide.2
  constructor
  · intro h e; exact h (by rw [e]; rfl)
  · intro h e
    apply h
    have e2 : (negS s).sum = Sym.zero.sum := congrArg Sym.sum e
    have e3 : (negS s).check = Sym.zero.check := congrArg Sym.check e
    refine sym_ext ?_ e2 e3
    have : -s.many = 0#64 := congrArg Sym.many e
    show s.many = 0#64
    have h2 := congrArg (fun x => -x) this
    simpa [BitVec.neg_neg] using h2
theorem neg_peel (l : List Sym) : (peelL (negL l)).2.1 = (peelL l).2.2 ∧ (peelL (negL l)).2.2 = (peelL l).2.1 ∧ doneB (peelL (negL l)).1 = doneB (peelL l).1 := by
  have h := neg_go l.length l [] [] (peelL l).1 (peelL l).2.1 (peelL l).2.2 rfl
  have e : peelL (negL l) = (negL (peelL l).1, (peelL l).2.2, (peelL l).2.1) := by
    unfold peelL at h ⊢
    rw [show (negL l).length = l.length by simp [negL]]
    exact h
  rw [e]
  refine ⟨rfl, rfl, ?_⟩
  unfold doneB
  congr 1
  · simp [negL]
  · unfold negL
    rw [List.any_map]
    congr 2
    funext s
    exact neg_nz s
end Go.Proofs.Ytabgenhednhagaa

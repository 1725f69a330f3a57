/-
  A region that draws its order: all operations ahead of the last ones are quiet in a class of worlds (one value each, whatever the world of the class), and the last ones wait for all of them: one walk serves every order. No function of the program in sight.
-/
import Derived.Test.YtfmgmpelgnickaaBase
import Derived.StillTail
import Derived.Deep.Quiet
import Derived.BigQuiet
namespace Go.Proofs.Ytfmgmpelgnickaa

theorem run_more {P : Program} {md : Region.Mode} {ops : Array Oper} {Q : Exit → Act → World → Prop} (d : Nat) :
    ∀ (f : Nat) (listed : Array Bool) (a : Act) (w : World), wpAny P md ops Q f listed a w → wpAny P md ops Q (f + d) listed a w
  | 0, listed, a, w, h => by
    cases d with
    | zero => exact h
    | succ d =>
      rw [Nat.zero_add]
      exact ⟨fun _ => h.2, fun i hi => by rw [h.1] at hi; cases hi⟩
  | f + 1, listed, a, w, h => by
    rw [show f + 1 + d = (f + d) + 1 by omega]
    exact ⟨h.1, fun i hi => wpOp_mono (fun a' w' h' => run_more d f _ a' w' h') (h.2 i hi)⟩

/-- Each of the first n operations waits for earlier ones alone, and its guard is an earlier one's. -/
def soonerB (l : List Oper) (n : Nat) : Bool :=
  (List.range n).all fun i => match l[i]? with
    | some o => (o.after.all fun e => !Region.binds .any e || decide (e.on < i)) && (match o.guard with | some (j, _) => decide (j < n) | none => true)
    | none => false
def firstN (l : List Oper) (n : Nat) : Array Bool := ((List.range l.length).map fun i => decide (i < n)).toArray
def sinkFrom (z : Nat) (l : List Oper) (n : Nat) : Bool :=
  (List.range n).all fun i => decide (i < z) || (List.range (n + 1)).any fun j => decide (i < j) && Region.waitsFor .any l.toArray j i
def calmB (l : List Oper) (n : Nat) : Bool :=
  decide (n < l.length) && Region.lexB .any (l.take n).toArray && sinkFrom 0 l n && Region.chainB .any l.toArray n && soonerB l n && Region.seqB .any l.toArray (l.length - n) n (firstN l n)

section
variable {P : Program} {C : World → Prop} {l : List Oper} {n : Nat}
theorem sooner_spec (h : soonerB l n = true) {i : Nat} {o : Oper} (hi : i < n) (ho : l[i]? = some o) :
    (∀ e ∈ o.after, Region.binds .any e = true → e.on < i) ∧ ∀ j b, o.guard = some (j, b) → j < n := by
  have h1 := List.all_eq_true.1 h i (List.mem_range.2 hi)
  rw [ho] at h1
  simp only [Bool.and_eq_true, Array.all_eq_true_iff_forall_mem, Bool.or_eq_true, Bool.not_eq_true', decide_eq_true_eq] at h1
  refine ⟨fun e he hb => ?_, fun j b hg => ?_⟩
  · rcases h1.1 e he with h2 | h2
    · rw [hb] at h2; cases h2
    · exact h2
  · have h2 := h1.2
    rw [hg] at h2
    simpa using h2
theorem pre_get (i : Nat) (hi : i < n) : ((l.take n).toArray)[i]? = (l.toArray)[i]? := by simp [List.getElem?_take, hi]
theorem pre_wanted {o : Oper} {a : Act} (h : ∀ j b, o.guard = some (j, b) → j < n) : Region.wanted o (yielded (l.take n).toArray a.tmps) = Region.wanted o (yielded l.toArray a.tmps) := by
  unfold Region.wanted
  cases hg : o.guard with
  | none => rfl
  | some p =>
    obtain ⟨j, b⟩ := p
    have hj := h j b hg
    simp only [yielded, pre_get j hj]
/-- The listed ones of the whole region, and of its beginning. -/
structure Twin (l : List Oper) (n : Nat) (lp listed : Array Bool) : Prop where
  pre : lp.size = n
  same : ∀ i, i < n → lp.getD i false = listed.getD i false
  inv : HeadInv .any l.toArray n listed
theorem Twin.same_true {lp listed : Array Bool} (h : Twin l n lp listed) (hn : n < l.length) {i : Nat} (hi : i < n) : lp.getD i true = listed.getD i true := by
  have h1 := h.same i hi
  have s1 : i < lp.size := by rw [h.pre]; exact hi
  have s2 : i < listed.size := by rw [h.inv.size]; simp; omega
  simpa [s1, s2] using h1
theorem Twin.tail {lp listed : Array Bool} (h : Twin l n lp listed) {i : Nat} (hi : n ≤ i) : listed.getD i false = false := by
  rcases Nat.lt_or_ge i l.length with h1 | h1
  · exact getD_both (h.inv.tail i hi (by simpa using h1))
  · have s : listed.size ≤ i := by rw [h.inv.size]; simpa using h1
    simp [Array.getElem?_eq_none s]
theorem Twin.ready {lp listed : Array Bool} (h : Twin l n lp listed) (hs : soonerB l n = true) (hn : n < l.length) {i : Nat} (hi : i < n) :
    i ∈ Region.ready .any (l.take n).toArray lp ↔ i ∈ Region.ready .any l.toArray listed := by
  rw [mem_ready, mem_ready, h.same_true hn hi, pre_get i hi]
  constructor
  · rintro ⟨h0, o, ho, ha⟩
    refine ⟨h0, o, ho, fun e he hb => ?_⟩
    have hlt := (sooner_spec hs hi (by simpa using ho)).1 e he hb
    rw [← h.same _ (by omega)]
    exact ha e he hb
  · rintro ⟨h0, o, ho, ha⟩
    refine ⟨h0, o, ho, fun e he hb => ?_⟩
    have hlt := (sooner_spec hs hi (by simpa using ho)).1 e he hb
    rw [h.same _ (by omega)]
    exact ha e he hb
/-- Where one of the first is not listed, one of the first may come up. -/
theorem some_ready {listed : Array Bool} (inv : HeadInv .any l.toArray n listed) (hs : soonerB l n = true) (hn : n < l.length) :
    ∀ i, i < n → listed.getD i false = false → ∃ j, j < n ∧ j ∈ Region.ready .any l.toArray listed := by
  intro i
  induction i using Nat.strongRecOn with
  | _ i ih =>
    intro hi hun
    by_cases hb : ∃ j, j < i ∧ listed.getD j false = false
    · obtain ⟨j, hj, hj2⟩ := hb
      exact ih j hj (by omega) hj2
    · refine ⟨i, hi, mem_ready.2 ⟨getD_in (by rw [inv.size]; simp; omega) hun, l[i]'(by omega), by simp, fun e he hbd => ?_⟩⟩
      have hlt := (sooner_spec hs hi (List.getElem?_eq_getElem (by omega))).1 e he hbd
      cases hc : listed.getD e.on false with
      | true => rfl
      | false => exact absurd ⟨e.on, hlt, hc⟩ hb
theorem all_listed {lp listed : Array Bool} (h : Twin l n lp listed) (hall : ∀ i, i < n → listed.getD i false = true) : listed = firstN l n := by
  apply Array.ext
  · rw [h.inv.size]; simp [firstN]
  · intro i h1 h2
    have hl : i < l.length := by rw [h.inv.size] at h1; simpa using h1
    have e1 : listed.getD i false = listed[i] := by simp [h1]
    have e2 : (firstN l n)[i] = decide (i < n) := by simp [firstN]
    rw [e2, ← e1]
    by_cases hi : i < n
    · rw [hall i hi]; simp [hi]
    · rw [h.tail (by omega)]; simp [hi]
theorem wpOp_of_pre {i : Nat} {a : Act} {K : Act → Prop} {K' : Act → World → Prop} {Q' : Exit → Act → World → Prop} {w : World} (hs : soonerB l n = true) (hi : i < n) (hil : i < l.length) (hC : C w) (h : ∀ a w', C w' → K a → K' a w')
    (hh : qOp P (l.take n).toArray C i K a) : wpOp P l.toArray Q' i K' a w := by
  have ho : l.toArray[i]? = some (l[i]'hil) := by simp
  unfold qOp at hh
  unfold wpOp
  rw [pre_get i hi] at hh
  simp only [ho] at hh ⊢
  rw [pre_wanted (sooner_spec hs hi (List.getElem?_eq_getElem hil)).2] at hh
  split
  · rename_i hw; simp only [hw, if_true] at hh; exact .inl (Oper.wp_of_quiet hC h hh)
  · rename_i hw; simp only [hw] at hh; exact h _ _ hC hh
theorem sink_spec {z : Nat} (h : sinkFrom z l n = true) {i : Nat} (hi : i < n) (hz : z ≤ i) : ∃ j, i < j ∧ j ≤ n ∧ Region.waitsFor .any l.toArray j i = true := by
  have h1 := List.all_eq_true.1 h i (List.mem_range.2 hi)
  simp only [Bool.or_eq_true, decide_eq_true_eq] at h1
  rcases h1 with h1 | h1
  · omega
  · obtain ⟨j, hj, hj2⟩ := List.any_eq_true.1 h1
    simp only [Bool.and_eq_true, decide_eq_true_eq] at hj2
    exact ⟨j, hj2.1, by have := List.mem_range.1 hj; omega, hj2.2⟩
/-- While one of the first is not listed, none of the last may come up. -/
theorem tail_waits_from {z : Nat} {listed : Array Bool} (hs : sinkFrom z l n = true) (hc : Region.chainB .any l.toArray n = true) (hn : n < l.length) (inv : HeadInv .any l.toArray n listed) (hz : ∀ i, i < z → listed.getD i false = true)
    {i : Nat} (hi : i < n) (hun : listed.getD i false = false) : ∀ t, n ≤ t → t ∉ Region.ready .any l.toArray listed := by
  intro t ht hr
  obtain ⟨_, ot, hot, hall⟩ := mem_ready.1 hr
  have htl : t < l.toArray.size := (Array.getElem?_eq_some_iff.1 hot).1
  rcases Nat.eq_or_lt_of_le ht with e | hlt
  · subst e
    -- all that waits is listed, from the last one down
    have key : ∀ d i, n - i = d → i < n → listed.getD i false = true := by
      intro d
      induction d using Nat.strongRecOn with
      | _ d ih =>
        intro i hd hi
        by_cases hiz : i < z
        · exact hz i hiz
        · obtain ⟨j, h1, h2, h3⟩ := sink_spec hs hi (by omega)
          obtain ⟨oj, hoj, e, he, hb, hon⟩ := Region.waitsFor_spec h3
          rcases Nat.eq_or_lt_of_le h2 with e2 | h2
          · subst e2
            have : oj = ot := Option.some.inj (hoj.symm.trans hot)
            subst this
            rw [← hon]; exact hall e he hb
          · rw [← hon]; exact inv.closed j oj hoj (ih (n - j) (by omega) j rfl h2) e he hb
    rw [key _ i rfl hi] at hun
    cases hun
  · have h1 := List.all_eq_true.1 hc t (List.mem_range.2 htl)
    simp only [Bool.or_eq_true, decide_eq_true_eq] at h1
    rcases h1 with h1 | h1
    · omega
    · obtain ⟨o', ho', e, he, hb, hon⟩ := Region.waitsFor_spec h1
      have : o' = ot := Option.some.inj (ho'.symm.trans hot)
      subst this
      have h2 := hall e he hb
      rw [hon, getD_both (inv.tail (t - 1) (by omega) (by omega))] at h2
      cases h2
theorem any_of_pre {K : Act → Prop} {Q' : Exit → Act → World → Prop} (hn : n < l.length) {z : Nat} (hsink : sinkFrom z l n = true) (hchain : Region.chainB .any l.toArray n = true) (hs : soonerB l n = true)
    (hseq : Region.seqB .any l.toArray (l.length - n) n (firstN l n) = true) (hK : ∀ a w, C w → K a → wpList P l.toArray Q' (l.drop n) a w) :
    ∀ (f : Nat) (lp listed : Array Bool) (a : Act) (w : World), C w → Twin l n lp listed → (∀ i, i < z → listed.getD i false = true) → wpAnyQ P .any (l.take n).toArray C K f lp a → wpAny P .any l.toArray Q' (l.length - n + f) listed a w := by
  have done : ∀ (f : Nat) (lp listed : Array Bool) (a : Act) (w : World), C w → Twin l n lp listed → (∀ i, i < n → listed.getD i false = true) → K a → wpAny P .any l.toArray Q' (l.length - n + f) listed a w := by
    intro f lp listed a w hC ht hall hk
    refine run_more f _ _ _ _ ?_
    have hd : (l.drop n).length = l.length - n := by simp
    have := wpAny_of_seq (P := P) (md := .any) (ops := l.toArray) (Q' := Q') (l.drop n) n listed a w (fun j => by simp [List.getElem?_drop]) (by rw [hd, all_listed ht hall]; exact hseq) (hK a w hC hk)
    rwa [hd] at this
  intro f
  induction f with
  | zero =>
    intro lp listed a w hC ht hz h
    refine done 0 lp listed a w hC ht (fun i hi => ?_) h.2
    cases hc : listed.getD i false with
    | true => rfl
    | false =>
      obtain ⟨j, hj, hr⟩ := some_ready ht.inv hs hn i hi hc
      have := (ht.ready hs hn hj).2 hr
      rw [h.1] at this
      cases this
  | succ f ih =>
    intro lp listed a w hC ht hz h
    by_cases hall : ∀ i, i < n → listed.getD i false = true
    · refine done (f + 1) lp listed a w hC ht hall (h.1 ?_)
      cases hr : Region.ready .any (l.take n).toArray lp with
      | nil => rfl
      | cons j rs =>
        have hj : j ∈ Region.ready .any (l.take n).toArray lp := by rw [hr]; exact List.mem_cons_self ..
        obtain ⟨h0, o, ho, _⟩ := mem_ready.1 hj
        have hjn : j < n := by
          have := (Array.getElem?_eq_some_iff.1 ho).1
          simp at this; omega
        rw [ht.same_true hn hjn] at h0
        have := hall j hjn
        rw [getD_both h0] at this
        cases this
    · obtain ⟨i, hi, hun⟩ : ∃ i, i < n ∧ listed.getD i false = false := by
        apply Classical.byContradiction
        intro hno
        refine hall fun i hi => ?_
        cases hc : listed.getD i false with
        | true => rfl
        | false => exact absurd ⟨i, hi, hc⟩ hno
      have hiT : listed.getD i true = false := getD_in (by rw [ht.inv.size]; simp; omega) hun
      have hno := tail_waits_from hsink hchain hn ht.inv hz hi hun
      rw [show l.length - n + (f + 1) = (l.length - n + f) + 1 by omega]
      refine ⟨fun h0 => ?_, fun j hj => ?_⟩
      · obtain ⟨j, _, hr⟩ := some_ready ht.inv hs hn i hi hun
        rw [h0] at hr; cases hr
      · have hjn : j < n := by
          rcases Nat.lt_or_ge j n with h1 | h1
          · exact h1
          · exact absurd hj (hno j h1)
        refine wpOp_of_pre hs hjn (by omega) hC (fun a' w' hw' hk => ih _ _ a' w' hw' ?_ (fun i hi => getD_set_true (hz i hi)) hk) (h.2 j ((ht.ready hs hn hjn).2 hj))
        refine ⟨by simp [ht.pre], fun k hk => ?_, ht.inv.set hj hjn⟩
        by_cases hjk : j = k
        · subst hjk
          have s1 : j < lp.size := by rw [ht.pre]; exact hk
          have s2 : j < listed.size := by rw [ht.inv.size]; simp; omega
          simp [s1, s2]
        · rw [getD_set_ne false hjk, getD_set_ne false hjk]; exact ht.same k hk
/-- **All but the last operations are quiet in the class C; the last ones wait for them: one walk.** -/
theorem wp_region_calm_tail {id : Nat} {Q : Exit → Act → World → Prop} {a : Act} {w : World} (C : World → Prop) (n : Nat) (hm : P.follows .mixedOrders = true) (hB : calmB l n = true) (hC : C (w.drewN 1))
    (h : wpQuiet P (l.take n).toArray C (fun a' => ∀ w', C w' → wpList P l.toArray Q (l.drop n) a' w') (l.take n) a) : (Code.region id l.toArray true).wp P Q a w := by
  simp only [calmB, Bool.and_eq_true, decide_eq_true_eq] at hB
  obtain ⟨⟨⟨⟨⟨hn, hlex⟩, hsink⟩, hchain⟩, hs⟩, hseq⟩ := hB
  simp only [Region.lexB, Bool.and_eq_true] at hlex
  have hq := wpAnyQ_lex (P := P) (C := C) (md := .any) hlex.1 (l.take n) 0 (Array.replicate (l.take n).toArray.size false) a (by simp) (by simpa using hlex.2) h
  have hsz : l.toArray.size = l.length - n + (l.take n).length := by simp; omega
  refine wp_region_any hm ?_
  rw [hsz]
  refine any_of_pre hn hsink hchain hs hseq (fun a' w' hw hk => hk w' hw) _ _ _ _ _ hC ?_ (fun i hi => by omega) hq
  refine ⟨by simp; omega, fun i hi => by rw [getD_replicate_false, getD_replicate_false], ⟨by simp; omega, fun j oj _ hl => (by rw [getD_replicate_false] at hl; cases hl), fun t _ ht => getD_in (by simp at ht ⊢; omega) (getD_replicate_false _ _)⟩⟩
/-- The same where the first operation is a copy, which the last ones but one need not wait for (the slice that is appended to): it is taken first. -/
def calmMoveB (l : List Oper) (n : Nat) : Bool :=
  decide (0 < n) && decide (n < l.length) && Region.noSelect l.toArray && Region.free .any l.toArray (Array.replicate l.toArray.size false) 0 && (Region.ready .any l.toArray (Array.replicate l.toArray.size false)).contains 0 &&
  Region.noSelect (l.take n).toArray && Region.lexFrom .any (l.take n).toArray (n - 1) 1 ((Array.replicate (l.take n).toArray.size false).setIfInBounds 0 true) && sinkFrom 1 l n && Region.chainB .any l.toArray n && soonerB l n && Region.seqB .any l.toArray (l.length - n) n (firstN l n)
theorem wp_region_calm_move {id : Nat} {Q : Exit → Act → World → Prop} {a : Act} {w : World} {o0 : Oper} (C : World → Prop) (n : Nat) (x : Operand) (hop : o0.op = .move x) (hg : o0.guard = none) (hQ : ∀ c a v w, Q (.panic c) (a.put o0.dst v) w → Q (.panic c) a w) (hm : P.follows .mixedOrders = true) (hB : calmMoveB (o0 :: l) n = true) (hC : C (w.drewN 1))
    (h : wpQuiet P ((o0 :: l).take n).toArray C (fun a' => ∀ w', C w' → wpList P (o0 :: l).toArray Q ((o0 :: l).drop n) a' w') ((o0 :: l).take n) a) : (Code.region id (o0 :: l).toArray true).wp P Q a w := by
  generalize hL : o0 :: l = L at *
  simp only [calmMoveB, Bool.and_eq_true, decide_eq_true_eq] at hB
  obtain ⟨⟨⟨⟨⟨⟨⟨⟨⟨⟨hn0, hn⟩, hsel⟩, hfree⟩, hready⟩, hsel2⟩, hlex⟩, hsink⟩, hchain⟩, hs⟩, hseq⟩ := hB
  have h0 : L.toArray[0]? = some o0 := by rw [← hL]; simp
  have hw0 : ∀ b : Act, Region.wanted o0 (yielded L.toArray b.tmps) = true := fun b => by unfold Region.wanted; rw [hg]
  have hw1 : ∀ b : Act, Region.wanted o0 (yielded (L.take n).toArray b.tmps) = true := fun b => by unfold Region.wanted; rw [hg]
  have ht : L.take n = o0 :: (L.take n).drop 1 := by rw [← hL]; cases n with | zero => omega | succ n => simp
  -- the first operation's value is the copy
  have hrest : wpQuiet P (L.take n).toArray C (fun a' => ∀ w', C w' → wpList P L.toArray Q (L.drop n) a' w') ((L.take n).drop 1) (a.put o0.dst (a.eval x)) := by
    generalize (L.take n).toArray = pre at *
    rw [ht] at h
    simp only [wpQuiet, hw1, if_true] at h
    obtain ⟨v, hv, hk⟩ := h
    have := hv _ hC
    unfold Oper.quietAt at this
    rw [BigFrame.run_move x hop] at this
    obtain ⟨_, e⟩ := this
    rw [← e] at hk
    exact hk
  have hlen : ((L.take n).drop 1).length = n - 1 := by simp; omega
  have hq := wpAnyQ_lex (P := P) (C := C) (md := .any) hsel2 ((L.take n).drop 1) 1 ((Array.replicate (L.take n).toArray.size false).setIfInBounds 0 true) (a.put o0.dst (a.eval x)) (fun j => by simp [Nat.add_comm 1 j]) (by rw [hlen]; exact hlex) hrest
  refine wp_region_any hm ?_
  have hsz : L.toArray.size = (L.length - n + ((L.take n).drop 1).length) + 1 := by rw [hlen]; simp; omega
  rw [hsz]
  refine wpAny_take h0 hsel (by rw [← hsz]; exact hfree) (by rw [← hsz]; exact hready) (fun c a w => hQ c a _ w) (.inl ⟨hw0 _, fun w => BigFrame.run_move x hop w⟩) ?_
  rw [← hsz]
  have hr0 : 0 ∈ Region.ready .any L.toArray (Array.replicate L.toArray.size false) := by simpa using hready
  have inv0 : HeadInv .any L.toArray n (Array.replicate L.toArray.size false) :=
    ⟨by simp, fun j oj _ hl => (by rw [getD_replicate_false] at hl; cases hl), fun t _ ht => getD_in (by simpa using ht) (getD_replicate_false _ _)⟩
  refine any_of_pre (z := 1) hn hsink hchain hs hseq (fun a' w' hw hk => hk w' hw) _ _ _ _ _ hC ⟨by simp; omega, fun i hi => ?_, inv0.set hr0 hn0⟩ (fun i hi => ?_) hq
  · by_cases e : 0 = i
    · subst e; simp [hn0]; omega
    · rw [getD_set_ne false e, getD_set_ne false e, getD_replicate_false, getD_replicate_false]
  · obtain rfl : i = 0 := by omega
    simp; omega
/-- All operations are quiet in the class C. -/
theorem wp_region_calm {id : Nat} {Q : Exit → Act → World → Prop} {a : Act} {w : World} (C : World → Prop) (hm : P.follows .mixedOrders = true) (hB : Region.lexB .any l.toArray = true) (hC : C (w.drewN 1))
    (h : wpQuiet P l.toArray C (fun a' => ∀ w', C w' → Q .normal a' w') l a) : (Code.region id l.toArray true).wp P Q a w :=
  wp_region_quiet (C := C) hm hB hC (by simpa using h)
end
end Go.Proofs.Ytfmgmpelgnickaa

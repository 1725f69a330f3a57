/-
  The plain law behind VectorAll: setting what one lacks of another one, dot by dot, comes to the Join; how many they are. No program in sight.
-/
import Derived.Test.YtgjhhnendondcaaMakesPlain
namespace Go.Proofs.Ytgjhhnendondcaa

def aft (a : List Int) (E : List (Int × Int)) : List Int := E.foldl (fun L p => setL L p.1 p.2) a
theorem aft_app (a : List Int) (E F : List (Int × Int)) : aft a (E ++ F) = aft (aft a E) F := by unfold aft; exact List.foldl_append ..
theorem aft_snoc (a : List Int) (E : List (Int × Int)) (p : Int × Int) : aft a (E ++ [p]) = setL (aft a E) p.1 p.2 := by rw [aft_app]; rfl
section
variable (a b : List Int)
theorem seg_zero (k : Nat) : seg a k 0 = [] := rfl
theorem aft_seg (i : Nat) (hi : i < 64) (L : List Int) (hL : L.getD i 0 = a.getD i 0) : ∀ t j, (aft L (seg a i t)).getD j 0 = if j = i then a.getD i 0 + (t : Int) else L.getD j 0
  | 0, j => by
    rw [seg_zero]
    show L.getD j 0 = _
    split
    · rename_i h; rw [h, hL]; simp
    · rfl
  | t + 1, j => by
    rw [seg_step, aft_snoc, setL_get _ i hi, aft_seg i hi L hL t j]
    by_cases h : j = i
    · rw [if_pos h, if_pos h]; push_cast; omega
    · rw [if_neg h, if_neg h, if_neg h]
theorem aft_pre : ∀ i, i ≤ 64 → ∀ j, (aft a (pre a b i)).getD j 0 = if j < i then maxI (a.getD j 0) (b.getD j 0) else a.getD j 0
  | 0, _, j => by rw [if_neg (by omega)]; rfl
  | i + 1, hi, j => by
    rw [pre_succ, aft_app]
    have h0 := aft_pre i (by omega)
    rw [aft_seg a i (by omega) _ (by rw [h0 i, if_neg (by omega)])]
    by_cases h : j = i
    · subst h
      rw [if_pos rfl, if_pos (by omega)]
      unfold cnt maxI
      split <;> omega
    · rw [if_neg h, h0 j]
      by_cases h2 : j < i
      · rw [if_pos h2, if_pos (by omega)]
      · rw [if_neg h2, if_neg (by omega)]
/-- Where a dot of the row stands. -/
theorem loc : ∀ (N k : Nat), k < (pre a b N).length → ∃ i t, i < N ∧ t < cnt a b i ∧ (pre a b N).take k = pre a b i ++ seg a i t ∧ (pre a b N).getD k (0, 0) = ((i : Int) + 1, a.getD i 0 + 1 + (t : Int)) ∧ k = (pre a b i).length + t
  | 0, k, h => by simp [pre] at h
  | N + 1, k, h => by
    rw [pre_succ] at h ⊢
    rw [List.length_append, seg_len] at h
    by_cases hk : k < (pre a b N).length
    · obtain ⟨i, t, h1, h2, h3, h4, h5⟩ := loc N k hk
      refine ⟨i, t, by omega, h2, ?_, ?_, h5⟩
      · rw [List.take_append_of_le_length (by omega), h3]
      · rw [← h4]; simp only [List.getD_eq_getElem?_getD]; rw [List.getElem?_append_left hk]
    · refine ⟨N, k - (pre a b N).length, by omega, by omega, ?_, ?_, by omega⟩
      · rw [List.take_append, List.take_of_length_le (by omega)]
        congr 1
        unfold seg
        rw [← List.map_take, List.take_range]
        congr 2
        omega
      · simp only [List.getD_eq_getElem?_getD]
        rw [List.getElem?_append_right (by omega)]
        unfold seg
        rw [List.getElem?_map, List.getElem?_range (by omega)]
        rfl
theorem pre_mono : ∀ {i j : Nat}, i ≤ j → (pre a b i).length ≤ (pre a b j).length
  | i, 0, h => by have : i = 0 := by omega
                  rw [this]; exact Nat.le_refl _
  | i, j + 1, h => by
    by_cases e : i = j + 1
    · rw [e]; exact Nat.le_refl _
    · have := pre_mono (i := i) (j := j) (by omega)
      rw [pre_succ, List.length_append]; omega
/-- What the law asks of the k-th dot. -/
structure DotFacts (zs ys : List Int) (D : List (Int × Int)) (k : Nat) (x s : Int) : Prop where
  at_ : D.getD k (0, 0) = (x, s)
  dev : 1 ≤ x ∧ x ≤ 64
  seq : 1 ≤ s ∧ s ≤ 1048576
  no : hasB zs x s = false
  yes : hasB ys x s = true
  next : ofL (aft zs (D.take k)) x = s - 1
  step : aft zs (D.take (k + 1)) = setL (aft zs (D.take k)) x s
  order : 0 < k → ∃ x' s', D.getD (k - 1) (0, 0) = (x', s') ∧ 1 ≤ x' ∧ x' ≤ 64 ∧ 1 ≤ s' ∧ s' ≤ 1048576 ∧ (x' < x ∨ x' = x ∧ s' < s)
theorem take_snoc (D : List (Int × Int)) (k : Nat) (h : k < D.length) : D.take (k + 1) = D.take k ++ [D.getD k (0, 0)] := by
  rw [List.take_add_one, List.getD_eq_getElem?_getD, List.getElem?_eq_getElem h]; rfl
theorem dot_facts (ha : rightB a = true) (hb : rightB b = true) (k : Nat) (hk : k < (lacksL a b).length) : ∃ x s, DotFacts a b (lacksL a b) k x s := by
  have fa := (fine_of_right ha).2
  have fb := fine_of_right hb
  have hD : lacksL a b = pre a b b.length := by unfold lacksL; rw [if_pos ⟨ha, hb⟩]
  rw [hD] at hk ⊢
  obtain ⟨i, t, h1, h2, h3, h4, h5⟩ := loc a b b.length k hk
  have g1 := fine_getD fa i
  have g2 := fine_getD fb.2 i
  unfold Fine at g1 g2
  have h2' := h2
  unfold cnt at h2'
  have hi : i < 64 := by omega
  refine ⟨(i : Int) + 1, a.getD i 0 + 1 + (t : Int), h4, by omega, by omega, ?_, ?_, ?_, ?_, ?_⟩
  · unfold hasB; rw [ofL_at, Bool.and_eq_false_iff]; exact Or.inr (decide_eq_false (by omega))
  · unfold hasB; rw [ofL_at, Bool.and_eq_true]; exact ⟨decide_eq_true (by omega), decide_eq_true (by omega)⟩
  · rw [ofL_at, h3, aft_app, aft_seg a i hi _ (by rw [aft_pre a b i (by omega), if_neg (by omega)]), if_pos rfl]; omega
  · rw [take_snoc _ k hk, aft_snoc, h4]
  · intro h0
    obtain ⟨i', t', q1, q2, q3, q4, q5⟩ := loc a b b.length (k - 1) (by omega)
    have r1 := fine_getD fa i'
    have r2 := fine_getD fb.2 i'
    unfold Fine at r1 r2
    have q2' := q2
    unfold cnt at q2'
    refine ⟨_, _, q4, by omega, by omega, by omega, by omega, ?_⟩
    have hle : i' ≤ i := by
      by_cases h : i < i'
      · have := pre_mono a b (i := i + 1) (j := i') (by omega)
        rw [pre_succ, List.length_append, seg_len] at this
        omega
      · omega
    by_cases e : i' = i
    · subst e; right; exact ⟨rfl, by omega⟩
    · left; omega
theorem all_end (ha : rightB a = true) (hb : rightB b = true) : eachB eqB (aft a (lacksL a b)) (bothL maxI a b) = true := by
  have fa := (fine_of_right ha).2
  have fb := fine_of_right hb
  have hD : lacksL a b = pre a b b.length := by unfold lacksL; rw [if_pos ⟨ha, hb⟩]
  rw [hD, eq_iff]
  intro j
  rw [aft_pre a b _ (by omega), join_get]
  split
  · rfl
  · have := fine_getD fa j
    unfold Fine at this
    rw [show b.getD j 0 = 0 from getD_beyond (by omega)]
    unfold maxI; split <;> omega
/-- A sum of places. -/
def psum (f : Nat → Int) : Nat → Int
  | 0 => 0
  | k + 1 => psum f k + f k
theorem psum_take (zs : List Int) : ∀ k, (zs.take k).sum = psum (fun j => zs.getD j 0) k
  | 0 => by simp [psum]
  | k + 1 => by
    by_cases h : k < zs.length
    · rw [take_sum_step zs k h, psum_take zs k]; rfl
    · have e : zs.take (k + 1) = zs.take k := by rw [List.take_of_length_le (by omega), List.take_of_length_le (by omega)]
      have := psum_take zs k
      show _ = psum _ k + zs.getD k 0
      rw [e, this, getD_beyond (by omega)]; omega
theorem psum_sum (zs : List Int) (k : Nat) (h : zs.length ≤ k) : zs.sum = psum (fun j => zs.getD j 0) k := by
  rw [← psum_take, List.take_of_length_le h]
theorem psum_add (f g h : Nat → Int) (e : ∀ j, f j = g j + h j) : ∀ k, psum f k = psum g k + psum h k
  | 0 => rfl
  | k + 1 => by show psum f k + f k = (psum g k + g k) + (psum h k + h k); rw [psum_add f g h e k, e k]; omega
theorem pre_count : ∀ k, ((pre a b k).length : Int) = psum (fun j => (cnt a b j : Int)) k
  | 0 => rfl
  | k + 1 => by
    rw [pre_succ, List.length_append, seg_len]
    show _ = psum _ k + (cnt a b k : Int)
    rw [← pre_count k]; push_cast; rfl
theorem psum_zero (f : Nat → Int) (k : Nat) (h : ∀ j, k ≤ j → f j = 0) : ∀ d, psum f (k + d) = psum f k
  | 0 => rfl
  | d + 1 => by show psum f (k + d) + f (k + d) = _; rw [psum_zero f k h d, h _ (by omega)]; omega
theorem all_sum (ha : rightB a = true) (hb : rightB b = true) : (bothL maxI a b).sum = a.sum + ((lacksL a b).length : Int) := by
  have fa := fine_of_right ha
  have fb := fine_of_right hb
  have hD : lacksL a b = pre a b b.length := by unfold lacksL; rw [if_pos ⟨ha, hb⟩]
  have lj := bothL_len maxI a b
  rw [psum_sum (bothL maxI a b) 64 (by omega), psum_sum a 64 (by omega), hD, pre_count,
    psum_add (fun j => (bothL maxI a b).getD j 0) (fun j => a.getD j 0) (fun j => (cnt a b j : Int)) (fun j => by
      have := fine_getD fa.2 j
      simp only [join_get]
      unfold maxI cnt; split <;> omega)]
  congr 1
  have := psum_zero (fun j => (cnt a b j : Int)) b.length (fun j hj => by
    have := fine_getD fa.2 j
    unfold Fine at this
    simp only [cnt]
    rw [getD_beyond (zs := b) hj]; omega) (64 - b.length)
  rw [← this]; congr 1; omega
theorem join_fine (ha : rightB a = true) (hb : rightB b = true) : ∀ z ∈ bothL maxI a b, Fine z := by
  intro z hz
  obtain ⟨k, hk, rfl⟩ := List.getElem_of_mem hz
  have e : (bothL maxI a b)[k] = (bothL maxI a b).getD k 0 := by rw [List.getD_eq_getElem?_getD, List.getElem?_eq_getElem hk]; rfl
  rw [e, join_get]
  have h1 := fine_getD (fine_of_right ha).2 k
  have h2 := fine_getD (fine_of_right hb).2 k
  unfold maxI; split <;> assumption
end
end Go.Proofs.Ytgjhhnendondcaa

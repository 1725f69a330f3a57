/-
  Plain laws of chapter 5 (vector): the joins and meets of lists, place by place. No program in sight.
-/
import Derived.Test.YtgjhhnendondcaaWalks9
namespace Go.Proofs.Ytgjhhnendondcaa

theorem getD_take (zs : List Int) (n k : Nat) : (zs.take n).getD k 0 = if k < n then zs.getD k 0 else 0 := by
  simp only [List.getD_eq_getElem?_getD, List.getElem?_take]
  split <;> rfl
theorem trimTo_zeros (zs : List Int) : ∀ n k, trimTo zs n ≤ k → k < n → zs.getD k 0 = 0
  | 0, k, _, h => by omega
  | n + 1, k, h1, h2 => by
    by_cases hz : zs.getD n 0 = 0
    · rw [trimTo_zero hz] at h1
      by_cases e : k = n
      · rw [e]; exact hz
      · exact trimTo_zeros zs n k h1 (by omega)
    · rw [trimTo_not hz] at h1; omega
theorem trimL_get (zs : List Int) (k : Nat) : (trimL zs).getD k 0 = zs.getD k 0 := by
  unfold trimL
  rw [getD_take]
  split
  · rfl
  · rename_i h
    by_cases hk : k < zs.length
    · exact (trimTo_zeros zs zs.length k (by omega) hk).symm
    · rw [List.getD_eq_getElem?_getD, List.getElem?_eq_none (by omega)]; rfl
theorem outL_getD (f : Nat → Int) (n k : Nat) (h : n ≤ k → f k = 0) : (outL f n).getD k 0 = f k := by
  by_cases hk : k < n
  · exact outL_get f n k hk
  · rw [List.getD_eq_getElem?_getD, List.getElem?_eq_none (by rw [outL_len]; omega), h (by omega)]; rfl
theorem getD_beyond {zs : List Int} {k : Nat} (h : zs.length ≤ k) : zs.getD k 0 = 0 := by
  rw [List.getD_eq_getElem?_getD, List.getElem?_eq_none h]; rfl
theorem bothL_get (op : Int → Int → Int) (h0 : op 0 0 = 0) (a b : List Int) (k : Nat) : (bothL op a b).getD k 0 = op (a.getD k 0) (b.getD k 0) := by
  unfold bothL
  rw [trimL_get, outL_getD]
  · rfl
  · intro hk
    unfold combine
    rw [getD_beyond (by omega), getD_beyond (by omega), h0]
theorem join_get (a b : List Int) (k : Nat) : (bothL maxI a b).getD k 0 = maxI (a.getD k 0) (b.getD k 0) := bothL_get maxI rfl a b k
theorem meet_get (a b : List Int) (k : Nat) : (bothL minI a b).getD k 0 = minI (a.getD k 0) (b.getD k 0) := bothL_get minI rfl a b k
theorem eq_iff (a b : List Int) : eachB eqB a b = true ↔ ∀ k, a.getD k 0 = b.getD k 0 := by
  constructor
  · intro h k
    unfold eachB at h
    rw [List.all_eq_true] at h
    by_cases hk : k < max a.length b.length
    · simpa [eqB] using h k (by simpa using hk)
    · rw [getD_beyond (by omega), getD_beyond (by omega)]
  · intro h
    exact each_yes _ _ _ fun j _ => by unfold eqB; rw [h j]; simp
theorem le_iff (a b : List Int) : eachB leB a b = true ↔ ∀ k, a.getD k 0 ≤ b.getD k 0 := by
  constructor
  · intro h k
    unfold eachB at h
    rw [List.all_eq_true] at h
    by_cases hk : k < max a.length b.length
    · simpa [leB] using h k (by simpa using hk)
    · rw [getD_beyond (by omega), getD_beyond (by omega)]; exact Int.le_refl _
  · intro h
    exact each_yes _ _ _ fun j _ => by simp only [leB, decide_eq_true_eq]; exact h j
theorem setL_get (zs : List Int) (i : Nat) (hi : i < 64) (x : Int) (k : Nat) : (setL zs ((i : Int) + 1) x).getD k 0 = if k = i then x else zs.getD k 0 := by
  rw [setL_in zs i hi x, trimL_get, outL_getD]
  · rfl
  · intro hk
    unfold setF
    rw [if_neg (by omega), getD_beyond (by omega)]
/-! ### The laws of joins and meets -/
section
variable (a b c : List Int)
theorem join_comm : eachB eqB (bothL maxI a b) (bothL maxI b a) = true := by
  rw [eq_iff]; intro k; simp only [join_get, maxI]; split <;> split <;> omega
theorem meet_comm : eachB eqB (bothL minI a b) (bothL minI b a) = true := by
  rw [eq_iff]; intro k; simp only [meet_get, minI]; split <;> split <;> omega
theorem join_assoc : eachB eqB (bothL maxI (bothL maxI a b) c) (bothL maxI a (bothL maxI b c)) = true := by
  rw [eq_iff]; intro k; simp only [join_get]
  generalize a.getD k 0 = x; generalize b.getD k 0 = y; generalize c.getD k 0 = z
  simp only [maxI]; repeat' split
  all_goals omega
theorem meet_assoc : eachB eqB (bothL minI (bothL minI a b) c) (bothL minI a (bothL minI b c)) = true := by
  rw [eq_iff]; intro k; simp only [meet_get]
  generalize a.getD k 0 = x; generalize b.getD k 0 = y; generalize c.getD k 0 = z
  simp only [minI]; repeat' split
  all_goals omega
theorem join_meet : eachB eqB (bothL maxI a (bothL minI a b)) a = true := by
  rw [eq_iff]; intro k; simp only [join_get, meet_get]
  generalize a.getD k 0 = x; generalize b.getD k 0 = y
  simp only [minI, maxI]; repeat' split
  all_goals omega
theorem meet_join : eachB eqB (bothL minI a (bothL maxI a b)) a = true := by
  rw [eq_iff]; intro k; simp only [join_get, meet_get]
  generalize a.getD k 0 = x; generalize b.getD k 0 = y
  simp only [minI, maxI]; repeat' split
  all_goals omega
theorem meet_dist : eachB eqB (bothL minI a (bothL maxI b c)) (bothL maxI (bothL minI a b) (bothL minI a c)) = true := by
  rw [eq_iff]; intro k; simp only [join_get, meet_get]
  generalize a.getD k 0 = x; generalize b.getD k 0 = y; generalize c.getD k 0 = z
  simp only [minI, maxI]; repeat' split
  all_goals omega
theorem bool_ext {p q : Bool} (h : p = true ↔ q = true) : p = q := by cases p <;> cases q <;> simp_all
theorem up_join : eachB leB a b = eachB eqB (bothL maxI a b) b := by
  apply bool_ext
  rw [le_iff, eq_iff]
  constructor
  · intro h k; have := h k; rw [join_get]; unfold maxI; split <;> omega
  · intro h k; have := h k; rw [join_get] at this; unfold maxI at this; split at this <;> omega
theorem up_meet : eachB leB a b = eachB eqB (bothL minI a b) a := by
  apply bool_ext
  rw [le_iff, eq_iff]
  constructor
  · intro h k; have := h k; rw [meet_get]; unfold minI; split <;> omega
  · intro h k; have := h k; rw [meet_get] at this; unfold minI at this; split at this <;> omega
theorem up_both : (eachB leB a b && eachB leB b a) = eachB eqB a b := by
  apply bool_ext
  rw [Bool.and_eq_true, le_iff, le_iff, eq_iff]
  constructor
  · intro h k; exact Int.le_antisymm (h.1 k) (h.2 k)
  · intro h; exact ⟨fun k => by rw [h k]; exact Int.le_refl _, fun k => by rw [h k]; exact Int.le_refl _⟩
theorem up_trans (h1 : eachB leB a b = true) (h2 : eachB leB b c = true) : eachB leB a c = true := by
  rw [le_iff] at *
  intro k; exact Int.le_trans (h1 k) (h2 k)
theorem ofL_nat (zs : List Int) (dev : Int) : ofL zs dev = if 1 ≤ dev then zs.getD (dev - 1).toNat 0 else 0 := by
  unfold ofL
  by_cases h1 : 1 ≤ dev
  · rw [if_pos h1]
    split
    · rfl
    · rw [getD_beyond (by omega)]
  · rw [if_neg h1, if_neg (by omega)]
theorem has_join (dev seq : Int) : hasB (bothL maxI a b) dev seq = (hasB a dev seq || hasB b dev seq) := by
  unfold hasB
  simp only [ofL_nat]
  by_cases h1 : 1 ≤ dev
  · simp only [if_pos h1, join_get, maxI]
    apply bool_ext
    simp only [Bool.and_eq_true, Bool.or_eq_true, decide_eq_true_eq]
    split <;> omega
  · simp only [if_neg h1]
    apply bool_ext
    simp only [Bool.and_eq_true, Bool.or_eq_true, decide_eq_true_eq]
    omega
theorem has_meet (dev seq : Int) : hasB (bothL minI a b) dev seq = (hasB a dev seq && hasB b dev seq) := by
  unfold hasB
  simp only [ofL_nat]
  by_cases h1 : 1 ≤ dev
  · simp only [if_pos h1, meet_get, minI]
    apply bool_ext
    simp only [Bool.and_eq_true, decide_eq_true_eq]
    split <;> omega
  · simp only [if_neg h1]
    apply bool_ext
    simp only [Bool.and_eq_true, decide_eq_true_eq]
    omega
theorem has_up (dev seq : Int) (h : eachB leB a b = true) (hx : hasB a dev seq = true) : hasB b dev seq = true := by
  rw [le_iff] at h
  unfold hasB at hx ⊢
  simp only [ofL_nat] at hx ⊢
  simp only [Bool.and_eq_true, decide_eq_true_eq] at hx ⊢
  split at hx
  · rename_i h1
    rw [if_pos h1]
    exact ⟨hx.1, Int.le_trans hx.2 (h _)⟩
  · omega
end
end Go.Proofs.Ytgjhhnendondcaa

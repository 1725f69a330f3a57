/-
  Chapter 31: slices.IndexFunc and slices.ContainsFunc, at what Right and writes ask.
-/
import Derived.Test.YtfmgmpelgnickaaWalks
namespace Go.Proofs.Ytfmgmpelgnickaa
open Go.RowKit Plain
set_option linter.unusedSimpArgs false
set_option linter.unusedVariables false
attribute [local go_sem ↓] Go.wp_at_zero Go.wp_at_succ

/-- The first place at which p holds; -1 where there is none. -/
def firstI {α : Type} (p : α → Bool) (l : List α) : Int := match l.findIdx? p with | some k => k | none => -1
theorem first_none {α : Type} (d : α) (p : α → Bool) (ss : List α) (h : ∀ j, j < ss.length → p (ss.getD j d) = false) : firstI p ss = -1 := by
  have : ss.findIdx? p = none := by
    rw [List.findIdx?_eq_none_iff]
    intro x hx
    obtain ⟨j, hj, rfl⟩ := List.getElem_of_mem hx
    have := h j hj
    rw [List.getD_eq_getElem?_getD, List.getElem?_eq_getElem hj] at this
    exact this
  unfold firstI; rw [this]
theorem first_some {α : Type} (d : α) (p : α → Bool) (ss : List α) (k : Nat) (hk : k < ss.length) (h : ∀ j, j < k → p (ss.getD j d) = false) (hb : p (ss.getD k d) = true) : firstI p ss = k := by
  have : ss.findIdx? p = some k := by
    rw [List.findIdx?_eq_some_iff_getElem]
    refine ⟨hk, ?_, ?_⟩
    · rw [List.getD_eq_getElem?_getD, List.getElem?_eq_getElem hk] at hb; exact hb
    · intro j hj
      have := h j hj
      rw [List.getD_eq_getElem?_getD, List.getElem?_eq_getElem (by omega)] at this
      simpa using this
  unfold firstI; rw [this]
theorem first_in {α : Type} (p : α → Bool) (ss : List α) : (firstI p ss = -1 ∧ ss.any p = false) ∨ (0 ≤ firstI p ss ∧ ss.any p = true) := by
  unfold firstI
  cases e : ss.findIdx? p with
  | none =>
    left
    rw [List.findIdx?_eq_none_iff] at e
    exact ⟨rfl, by simpa using e⟩
  | some k =>
    right
    rw [List.findIdx?_eq_some_iff_getElem] at e
    obtain ⟨hk, hb, _⟩ := e
    exact ⟨by simp, by rw [List.any_eq_true]; exact ⟨_, List.getElem_mem hk, hb⟩⟩
def oddP (z : Pg) : Bool := !okP z
def amissP (N : Nat) (o : Od) : Bool := !okW N o
def mineP (q : Int) (o : Od) : Bool := decide (o.1 = q)
theorem oddP_is {z : Pg} {n : Nat} {b : Bool} (hl : z.length = n) (h : oddP z = b) : decide (n = 256) = !b := by
  subst hl h; simp [oddP, okP]
theorem amissP_is {N : Nat} {o : Od} {n : Nat} {b : Bool} (hl : o.2.length = n) (h : amissP N o = b) : amissB N o.1 n = b := by
  subst hl h
  unfold amissP amissB okW okP
  rw [Bool.not_and, Bool.not_and]
  congr 1
  congr 1
  · by_cases e : 0 ≤ o.1
    · simp [e, show ¬ o.1 < 0 by omega]
    · simp [e, show o.1 < 0 by omega]
  · by_cases e : o.1 < (N : Int)
    · simp [e, show ¬ (N : Int) ≤ o.1 by omega]
    · simp [e, show (N : Int) ≤ o.1 by omega]
theorem wroteAt_first (ps : List Pg) (r : List Od) (p : Int) : wroteAt ps r p = if 0 ≤ firstI (mineP p) r then (r.getD (firstI (mineP p) r).toNat od0).2 else ps.getD p.toNat [] := by
  induction r with
  | nil => rfl
  | cons o r ih =>
    unfold wroteAt
    by_cases e : o.1 = p
    · have h0 : firstI (mineP p) (o :: r) = 0 := by unfold firstI; rw [List.findIdx?_cons, if_pos (by simpa [mineP] using e)]; rfl
      rw [if_pos e, h0, if_pos (Int.le_refl _)]; rfl
    · rw [if_neg e, ih]
      have hs : firstI (mineP p) (o :: r) = if 0 ≤ firstI (mineP p) r then firstI (mineP p) r + 1 else -1 := by
        unfold firstI
        rw [List.findIdx?_cons, if_neg (by simpa [mineP] using e)]
        cases r.findIdx? (mineP p) with
        | none => rfl
        | some k => simp
      rw [hs]
      by_cases h0 : 0 ≤ firstI (mineP p) r
      · rw [if_pos h0, if_pos h0, if_pos (by omega), show (firstI (mineP p) r + 1).toNat = (firstI (mineP p) r).toNat + 1 by omega]; rfl
      · rw [if_neg h0, if_neg h0, if_neg (by omega)]

set_option maxHeartbeats 1000000 in
theorem index_odd {A : Option Addr} {n c : Nat} {ss : List Pg} {w : World} (h : Pags w A n c ss) : Calls Try.prog 39 #[.slice A n c, .func (.func 31) #[] #[]] w fun e w' => e = .returned (.int .i64 (firstI oddP ss)) ∧ Below w.heap.size w w' := by
  have hn := h.max
  have hl := hide h.1
  replace h := hide h
  go_enter Try.func39, Try.ntmps39
  go_wp2
  go_loopw [8] (fun i wr => ∃ k : Nat, k ≤ n ∧ i = .int .i64 k ∧ Hid (∀ j, j < k → oddP (ss.getD j []) = false) ∧ Below w.heap.size w wr) (fun i _ => n - (intOf i).toNat)
  case atStart => exact ⟨0, by omega, rfl, hide (fun j hj => by omega), Below.refl _ _⟩
  case round =>
    obtain ⟨k, hk, rfl, hd, BW⟩ := hrel
    by_cases hlt : k < n
    · obtain ⟨b, off, Aj, nj, cj, rfl, hb, p1, p2⟩ := h.out.at_ BW hlt
      have hk0 : (0 : Int) ≤ (k : Int) := by omega
      have hkn : (k : Int) < (n : Int) := by omega
      have hfirst : Hid (oddP (ss.getD k []) = true → firstI oddP ss = k) := hide (fun e => first_some [] oddP ss k (by rw [hl.out]; exact hlt) hd.out e)
      have hnext : Hid (oddP (ss.getD k []) = false → ∀ j, j < k + 1 → oddP (ss.getD j []) = false) := hide (fun e0 j hj => by
        by_cases e : j = k
        · rw [e]; exact e0
        · exact hd.out j (by omega))
      generalize ss.getD k [] = s at *
      have hlj := hide p2.len
      clear p2
      clear hd
      cases hz : oddP s with
      | true =>
        have hfirst := hide (hfirst.out hz)
        replace hz := hide hz
        clear hnext
        go_wp2_with fail
        refine (odd_any true (oddP_is hlj.out hz.out) _).mono ?_
        rintro e w1 ⟨rfl, rfl⟩
        go_wp2_with fail
        go_ret
        exact ⟨ret_i hfirst.out.symm, BW⟩
      | false =>
        have hnext := hide (hnext.out hz)
        replace hz := hide hz
        clear hfirst
        go_wp2_with fail
        refine (odd_any false (oddP_is hlj.out hz.out) _).mono ?_
        rintro e w1 ⟨rfl, rfl⟩
        have B1 : Hid (Below w.heap.size w wr) := hide BW
        go_wp2_with fail
        go_roundw
        case rel => exact ⟨k + 1, by omega, by go_num, hnext, B1.out⟩
        case measure => simp [intOf]; omega
    · obtain rfl : k = n := by omega
      have HF := hide (first_none [] oddP ss (by rw [hl.out]; exact hd.out))
      go_wp2
      go_ret
      exact ⟨ret_i HF.out.symm, BW⟩

theorem contains_odd {A : Option Addr} {n c : Nat} {ss : List Pg} {w : World} (h : Pags w A n c ss) (b : Bool) (hb : ss.any oddP = b) : Calls Try.prog 33 #[.slice A n c, .func (.func 31) #[] #[]] w fun e w' => e = .returned (.bool b) ∧ Below w.heap.size w w' := by
  have H := hide (index_odd h)
  subst hb
  clear h
  rcases first_in oddP ss with ⟨e1, e2⟩ | ⟨e1, e2⟩
  · rw [e1] at H
    rw [e2]
    clear e1 e2
    go_enter Try.func33, Try.ntmps33
    go_wp2_with fail
    refine H.out.mono ?_
    rintro e w' ⟨rfl, hb⟩
    go_wp2_with fail
    go_ret
    exact ⟨rfl, hb⟩
  · rw [e2]
    clear e2
    go_enter Try.func33, Try.ntmps33
    go_wp2_with fail
    refine H.out.mono ?_
    rintro e w' ⟨rfl, hb⟩
    go_wp2_with fail
    go_ret
    exact ⟨ret_b (by simp [e1]), hb⟩

set_option maxHeartbeats 1000000 in
theorem index_amiss {A : Option Addr} {n c N B1 B2 : Nat} {ss : List Od} {w : World} (h : Olds w A n c ss) (h1 : w.cell? ⟨B1, 0, none⟩ = some (.int .i64 (N : Int))) (h2 : w.cell? ⟨B2, 0, none⟩ = some (.func (.func 31) #[] #[])) (l1 : B1 < w.heap.size) (l2 : B2 < w.heap.size) : Calls Try.prog 40 #[.slice A n c, .func (.func 32) #[] #[.pointer (some ⟨B1, 0, none⟩), .pointer (some ⟨B2, 0, none⟩)]] w fun e w' => e = .returned (.int .i64 (firstI (amissP N) ss)) ∧ Below w.heap.size w w' := by
  have hn := h.max
  have hl := hide h.1
  replace h := hide h
  replace h1 := hide h1
  replace h2 := hide h2
  go_enter Try.func40, Try.ntmps40
  go_wp2
  go_loopw [8] (fun i wr => ∃ k : Nat, k ≤ n ∧ i = .int .i64 k ∧ Hid (∀ j, j < k → (amissP N) (ss.getD j od0) = false) ∧ Below w.heap.size w wr) (fun i _ => n - (intOf i).toNat)
  case atStart => exact ⟨0, by omega, rfl, hide (fun j hj => by omega), Below.refl _ _⟩
  case round =>
    obtain ⟨k, hk, rfl, hd, BW⟩ := hrel
    by_cases hlt : k < n
    · obtain ⟨b, off, Aj, nj, cj, rfl, hb, p1, p3, p2⟩ := h.out.at_ BW hlt
      have hk0 : (0 : Int) ≤ (k : Int) := by omega
      have hkn : (k : Int) < (n : Int) := by omega
      have hfirst : Hid ((amissP N) (ss.getD k od0) = true → firstI (amissP N) ss = k) := hide (fun e => first_some od0 (amissP N) ss k (by rw [hl.out]; exact hlt) hd.out e)
      have hnext : Hid ((amissP N) (ss.getD k od0) = false → ∀ j, j < k + 1 → (amissP N) (ss.getD j od0) = false) := hide (fun e0 j hj => by
        by_cases e : j = k
        · rw [e]; exact e0
        · exact hd.out j (by omega))
      generalize ss.getD k od0 = s at *
      have hlj := hide p2.len
      clear p2
      obtain ⟨X, hX⟩ : ∃ X, X = s.1 := ⟨_, rfl⟩
      rw [← hX] at p1
      replace hX := hide hX
      have hc1 := hide ((BW.cell (p := ⟨B1, 0, none⟩) l1).trans h1.out)
      have hc2 := hide ((BW.cell (p := ⟨B2, 0, none⟩) l2).trans h2.out)
      have hl1 : B1 < wr.heap.size := Nat.lt_of_lt_of_le l1 BW.size
      have hl2 : B2 < wr.heap.size := Nat.lt_of_lt_of_le l2 BW.size
      clear hd
      cases hz : (amissP N) s with
      | true =>
        have hfirst := hide (hfirst.out hz)
        replace hz := hide hz
        clear hnext
        go_wp2_with fail
        refine (amiss_any (N := N) (B1 := B1) (B2 := B2) hc1.out hc2.out hl1 hl2 true (by rw [hX.out]; exact amissP_is hlj.out hz.out)).mono ?_
        rintro e w1 ⟨rfl, hb1⟩
        go_wp2_with fail
        go_ret
        exact ⟨ret_i hfirst.out.symm, (st BW hb1 (Below.refl _ _))⟩
      | false =>
        have hnext := hide (hnext.out hz)
        replace hz := hide hz
        clear hfirst
        go_wp2_with fail
        refine (amiss_any (N := N) (B1 := B1) (B2 := B2) hc1.out hc2.out hl1 hl2 false (by rw [hX.out]; exact amissP_is hlj.out hz.out)).mono ?_
        rintro e w1 ⟨rfl, hb1⟩
        have B1 : Hid (Below w.heap.size w w1) := hide (st BW hb1 (Below.refl _ _))
        clear hb1
        go_wp2_with fail
        go_roundw
        case rel => exact ⟨k + 1, by omega, by go_num, hnext, B1.out⟩
        case measure => simp [intOf]; omega
    · obtain rfl : k = n := by omega
      have HF := hide (first_none od0 (amissP N) ss (by rw [hl.out]; exact hd.out))
      go_wp2
      go_ret
      exact ⟨ret_i HF.out.symm, BW⟩

theorem contains_amiss {A : Option Addr} {n c N B1 B2 : Nat} {ss : List Od} {w : World} (h : Olds w A n c ss) (h1 : w.cell? ⟨B1, 0, none⟩ = some (.int .i64 (N : Int))) (h2 : w.cell? ⟨B2, 0, none⟩ = some (.func (.func 31) #[] #[])) (l1 : B1 < w.heap.size) (l2 : B2 < w.heap.size) (b : Bool) (hb : ss.any (amissP N) = b) : Calls Try.prog 34 #[.slice A n c, .func (.func 32) #[] #[.pointer (some ⟨B1, 0, none⟩), .pointer (some ⟨B2, 0, none⟩)]] w fun e w' => e = .returned (.bool b) ∧ Below w.heap.size w w' := by
  have H := hide (index_amiss (N := N) h h1 h2 l1 l2)
  subst hb
  clear h
  rcases first_in (amissP N) ss with ⟨e1, e2⟩ | ⟨e1, e2⟩
  · rw [e1] at H
    rw [e2]
    clear e1 e2
    go_enter Try.func34, Try.ntmps34
    go_wp2_with fail
    refine H.out.mono ?_
    rintro e w' ⟨rfl, hb⟩
    go_wp2_with fail
    go_ret
    exact ⟨rfl, hb⟩
  · rw [e2]
    clear e2
    go_enter Try.func34, Try.ntmps34
    go_wp2_with fail
    refine H.out.mono ?_
    rintro e w' ⟨rfl, hb⟩
    go_wp2_with fail
    go_ret
    exact ⟨ret_b (by simp [e1]), hb⟩

set_option maxHeartbeats 1000000 in
theorem index_mine {A : Option Addr} {n c B1 : Nat} {q : Int} {ss : List Od} {w : World} (h : Olds w A n c ss) (h1 : w.cell? ⟨B1, 0, none⟩ = some (.int .i64 q)) (l1 : B1 < w.heap.size) : Calls Try.prog 40 #[.slice A n c, .func (.func 43) #[] #[.pointer (some ⟨B1, 0, none⟩)]] w fun e w' => e = .returned (.int .i64 (firstI (mineP q) ss)) ∧ Below w.heap.size w w' := by
  have hn := h.max
  have hl := hide h.1
  replace h := hide h
  replace h1 := hide h1
  go_enter Try.func40, Try.ntmps40
  go_wp2
  go_loopw [8] (fun i wr => ∃ k : Nat, k ≤ n ∧ i = .int .i64 k ∧ Hid (∀ j, j < k → (mineP q) (ss.getD j od0) = false) ∧ Below w.heap.size w wr) (fun i _ => n - (intOf i).toNat)
  case atStart => exact ⟨0, by omega, rfl, hide (fun j hj => by omega), Below.refl _ _⟩
  case round =>
    obtain ⟨k, hk, rfl, hd, BW⟩ := hrel
    by_cases hlt : k < n
    · obtain ⟨b, off, Aj, nj, cj, rfl, hb, p1, p3, p2⟩ := h.out.at_ BW hlt
      have hk0 : (0 : Int) ≤ (k : Int) := by omega
      have hkn : (k : Int) < (n : Int) := by omega
      have hfirst : Hid ((mineP q) (ss.getD k od0) = true → firstI (mineP q) ss = k) := hide (fun e => first_some od0 (mineP q) ss k (by rw [hl.out]; exact hlt) hd.out e)
      have hnext : Hid ((mineP q) (ss.getD k od0) = false → ∀ j, j < k + 1 → (mineP q) (ss.getD j od0) = false) := hide (fun e0 j hj => by
        by_cases e : j = k
        · rw [e]; exact e0
        · exact hd.out j (by omega))
      generalize ss.getD k od0 = s at *
      clear p2
      obtain ⟨X, hX⟩ : ∃ X, X = s.1 := ⟨_, rfl⟩
      rw [← hX] at p1
      replace hX := hide hX
      have hc1 := hide ((BW.cell (p := ⟨B1, 0, none⟩) l1).trans h1.out)
      have hl1 : B1 < wr.heap.size := Nat.lt_of_lt_of_le l1 BW.size
      clear hd
      cases hz : (mineP q) s with
      | true =>
        have hfirst := hide (hfirst.out hz)
        replace hz := hide hz
        clear hnext
        go_wp2_with fail
        refine (mine_any (B := B1) hc1.out hl1 true (by rw [hX.out]; exact hz.out)).mono ?_
        rintro e w1 ⟨rfl, hb1⟩
        go_wp2_with fail
        go_ret
        exact ⟨ret_i hfirst.out.symm, (st BW hb1 (Below.refl _ _))⟩
      | false =>
        have hnext := hide (hnext.out hz)
        replace hz := hide hz
        clear hfirst
        go_wp2_with fail
        refine (mine_any (B := B1) hc1.out hl1 false (by rw [hX.out]; exact hz.out)).mono ?_
        rintro e w1 ⟨rfl, hb1⟩
        have B1 : Hid (Below w.heap.size w w1) := hide (st BW hb1 (Below.refl _ _))
        clear hb1
        go_wp2_with fail
        go_roundw
        case rel => exact ⟨k + 1, by omega, by go_num, hnext, B1.out⟩
        case measure => simp [intOf]; omega
    · obtain rfl : k = n := by omega
      have HF := hide (first_none od0 (mineP q) ss (by rw [hl.out]; exact hd.out))
      go_wp2
      go_ret
      exact ⟨ret_i HF.out.symm, BW⟩
end Go.Proofs.Ytfmgmpelgnickaa

/-
  More walks over chapter 5: how a vector stands to another one, by package vector and by its reference.
-/
import Derived.Test.YtgjhhnendondcaaWalks
namespace Go.Proofs.Ytgjhhnendondcaa
open Go.RowKit
set_option linter.unusedSimpArgs false
set_option linter.unusedVariables false

/-- Does something hold of what two have, of each device? -/
def eachB (f : Int → Int → Bool) (a b : List Int) : Bool := (List.range (max a.length b.length)).all fun k => f (a.getD k 0) (b.getD k 0)
def eqB (x y : Int) : Bool := x == y
def leB (x y : Int) : Bool := decide (x ≤ y)
theorem each_no (f : Int → Int → Bool) (a b : List Int) (k : Nat) (hk : k < max a.length b.length) (h : f (a.getD k 0) (b.getD k 0) = false) : eachB f a b = false := by
  unfold eachB
  rw [List.all_eq_false]
  exact ⟨k, by simpa using hk, by simp only [h]; simp⟩
theorem each_yes (f : Int → Int → Bool) (a b : List Int) (h : ∀ j, j < max a.length b.length → f (a.getD j 0) (b.getD j 0) = true) : eachB f a b = true := by
  unfold eachB
  rw [List.all_eq_true]
  intro j hj
  exact h j (by simpa using hj)
theorem eq_any (x y : Int) (w : World) : Calls Try.prog 39 #[.int .i64 x, .int .i64 y] w fun e w' => e = .returned (.bool (eqB x y)) ∧ w = w' := by
  go_enter Try.func39, Try.ntmps39
  go_wp2
  go_ret
  exact ⟨rfl, rfl⟩
theorem le_any (x y : Int) (w : World) : Calls Try.prog 41 #[.int .i64 x, .int .i64 y] w fun e w' => e = .returned (.bool (leB x y)) ∧ w = w' := by
  go_enter Try.func41, Try.ntmps41
  go_wp2
  go_ret
  exact ⟨rfl, rfl⟩
section
variable {w : World} {A B : Option Addr} {n c m d : Nat} {zs ys : List Int}
theorem long_any (h : Vec w A n c zs) (g : Vec w B m d ys) : Calls Try.prog 40 #[.slice A n c, .slice B m d] w fun e w' => e = .returned (.int .i64 ((max n m : Nat) : Int)) ∧ w = w' := by
  have hn := h.max
  have hm := g.max
  clear h g
  by_cases hnm : m < n
  · have e : max n m = n := by omega
    rw [e]
    clear e
    go_enter Try.func40, Try.ntmps40
    go_wp2
    go_ret
    exact ⟨rfl, rfl⟩
  · have e : max n m = m := by omega
    rw [e]
    clear e
    go_enter Try.func40, Try.ntmps40
    go_wp2
    go_ret
    exact ⟨rfl, rfl⟩
theorem each_eq (h : Vec w A n c zs) (g : Vec w B m d ys) : Calls Try.prog 38 #[.slice A n c, .slice B m d, .func (.func 39) #[] #[]] w fun e w' => e = .returned (.bool (eachB eqB zs ys)) ∧ w = w' := by
  have hn := h.max
  have hm := g.max
  have hl := hide h.len
  have gl := hide g.len
  have O1 := fun dev hd => hide (of_dev dev hd h)
  have O2 := fun dev hd => hide (of_dev dev hd g)
  have E := hide (each_no eqB zs ys)
  have T := hide (each_yes eqB zs ys)
  rw [hl.out, gl.out] at E T
  clear h g
  by_cases hnm : m ≤ n
  · have hc : (m : Int) ≤ (n : Int) := by omega
    have hNe : max n m = n := by omega
    rw [hNe] at E T
    clear hNe
    go_enter Try.func38, Try.ntmps38
    go_wp2
    go_loop [7, 13] (fun _ i => ∃ k : Nat, k ≤ n ∧ i = .int .i64 k ∧ Hid (∀ j, j < k → eqB (zs.getD j 0) (ys.getD j 0) = true)) (fun _ i => n - (intOf i).toNat)
    case atStart => exact ⟨0, by omega, rfl, fun j hj => by omega⟩
    case round =>
      obtain ⟨k, hk, rfl, hd⟩ := hrel
      by_cases hlt : k < n
      · have e1 := hide (ofL_at zs k)
        have e2 := hide (ofL_at ys k)
        have hI : I64 ((k : Int) + 1) := ⟨by omega, by omega⟩
        replace hI := hide hI
        have P1 := O1 _ hI.out
        have P2 := O2 _ hI.out
        rw [e1.out] at P1
        rw [e2.out] at P2
        cases hb : eqB (zs.getD k 0) (ys.getD k 0) with
        | false =>
          have HF := hide (E.out k hlt hb)
          go_wp2_with fail
          refine P1.out.mono ?_
          rintro e w1 ⟨rfl, rfl⟩
          go_wp2_with fail
          refine P2.out.mono ?_
          rintro e w1 ⟨rfl, rfl⟩
          go_wp2_with fail
          refine (eq_any _ _ _).mono ?_
          rintro e w1 ⟨rfl, rfl⟩
          have hb' := hb
          simp only [List.getD_eq_getElem?_getD] at hb'
          simp only [List.getD_eq_getElem?_getD]
          rw [hb']
          clear hb'
          replace hb := hide hb
          go_wp2_with fail
          go_ret
          exact ⟨ret_b HF.out.symm, rfl⟩
        | true =>
          go_wp2_with fail
          refine P1.out.mono ?_
          rintro e w1 ⟨rfl, rfl⟩
          go_wp2_with fail
          refine P2.out.mono ?_
          rintro e w1 ⟨rfl, rfl⟩
          go_wp2_with fail
          refine (eq_any _ _ _).mono ?_
          rintro e w1 ⟨rfl, rfl⟩
          have hb' := hb
          simp only [List.getD_eq_getElem?_getD] at hb'
          simp only [List.getD_eq_getElem?_getD]
          rw [hb']
          clear hb'
          replace hb := hide hb
          go_wp2_with fail
          go_round
          case rel => exact ⟨k + 1, by omega, by go_num, fun j hj => by
            by_cases e : j = k
            · rw [e]; exact hb.out
            · exact hd.out j (by omega)⟩
          case measure => simp [intOf]; omega
      · obtain rfl : k = n := by omega
        have HF := hide (T.out hd.out)
        go_wp2
        go_ret
        exact ⟨ret_b HF.out.symm, rfl⟩
  · have hc : (n : Int) < (m : Int) := by omega
    have hNe : max n m = m := by omega
    rw [hNe] at E T
    clear hNe
    go_enter Try.func38, Try.ntmps38
    go_wp2
    go_loop [7, 13] (fun _ i => ∃ k : Nat, k ≤ m ∧ i = .int .i64 k ∧ Hid (∀ j, j < k → eqB (zs.getD j 0) (ys.getD j 0) = true)) (fun _ i => m - (intOf i).toNat)
    case atStart => exact ⟨0, by omega, rfl, fun j hj => by omega⟩
    case round =>
      obtain ⟨k, hk, rfl, hd⟩ := hrel
      by_cases hlt : k < m
      · have e1 := hide (ofL_at zs k)
        have e2 := hide (ofL_at ys k)
        have hI : I64 ((k : Int) + 1) := ⟨by omega, by omega⟩
        replace hI := hide hI
        have P1 := O1 _ hI.out
        have P2 := O2 _ hI.out
        rw [e1.out] at P1
        rw [e2.out] at P2
        cases hb : eqB (zs.getD k 0) (ys.getD k 0) with
        | false =>
          have HF := hide (E.out k hlt hb)
          go_wp2_with fail
          refine P1.out.mono ?_
          rintro e w1 ⟨rfl, rfl⟩
          go_wp2_with fail
          refine P2.out.mono ?_
          rintro e w1 ⟨rfl, rfl⟩
          go_wp2_with fail
          refine (eq_any _ _ _).mono ?_
          rintro e w1 ⟨rfl, rfl⟩
          have hb' := hb
          simp only [List.getD_eq_getElem?_getD] at hb'
          simp only [List.getD_eq_getElem?_getD]
          rw [hb']
          clear hb'
          replace hb := hide hb
          go_wp2_with fail
          go_ret
          exact ⟨ret_b HF.out.symm, rfl⟩
        | true =>
          go_wp2_with fail
          refine P1.out.mono ?_
          rintro e w1 ⟨rfl, rfl⟩
          go_wp2_with fail
          refine P2.out.mono ?_
          rintro e w1 ⟨rfl, rfl⟩
          go_wp2_with fail
          refine (eq_any _ _ _).mono ?_
          rintro e w1 ⟨rfl, rfl⟩
          have hb' := hb
          simp only [List.getD_eq_getElem?_getD] at hb'
          simp only [List.getD_eq_getElem?_getD]
          rw [hb']
          clear hb'
          replace hb := hide hb
          go_wp2_with fail
          go_round
          case rel => exact ⟨k + 1, by omega, by go_num, fun j hj => by
            by_cases e : j = k
            · rw [e]; exact hb.out
            · exact hd.out j (by omega)⟩
          case measure => simp [intOf]; omega
      · obtain rfl : k = m := by omega
        have HF := hide (T.out hd.out)
        go_wp2
        go_ret
        exact ⟨ret_b HF.out.symm, rfl⟩
theorem each_le (h : Vec w A n c zs) (g : Vec w B m d ys) : Calls Try.prog 38 #[.slice A n c, .slice B m d, .func (.func 41) #[] #[]] w fun e w' => e = .returned (.bool (eachB leB zs ys)) ∧ w = w' := by
  have hn := h.max
  have hm := g.max
  have hl := hide h.len
  have gl := hide g.len
  have O1 := fun dev hd => hide (of_dev dev hd h)
  have O2 := fun dev hd => hide (of_dev dev hd g)
  have E := hide (each_no leB zs ys)
  have T := hide (each_yes leB zs ys)
  rw [hl.out, gl.out] at E T
  clear h g
  by_cases hnm : m ≤ n
  · have hc : (m : Int) ≤ (n : Int) := by omega
    have hNe : max n m = n := by omega
    rw [hNe] at E T
    clear hNe
    go_enter Try.func38, Try.ntmps38
    go_wp2
    go_loop [7, 13] (fun _ i => ∃ k : Nat, k ≤ n ∧ i = .int .i64 k ∧ Hid (∀ j, j < k → leB (zs.getD j 0) (ys.getD j 0) = true)) (fun _ i => n - (intOf i).toNat)
    case atStart => exact ⟨0, by omega, rfl, fun j hj => by omega⟩
    case round =>
      obtain ⟨k, hk, rfl, hd⟩ := hrel
      by_cases hlt : k < n
      · have e1 := hide (ofL_at zs k)
        have e2 := hide (ofL_at ys k)
        have hI : I64 ((k : Int) + 1) := ⟨by omega, by omega⟩
        replace hI := hide hI
        have P1 := O1 _ hI.out
        have P2 := O2 _ hI.out
        rw [e1.out] at P1
        rw [e2.out] at P2
        cases hb : leB (zs.getD k 0) (ys.getD k 0) with
        | false =>
          have HF := hide (E.out k hlt hb)
          go_wp2_with fail
          refine P1.out.mono ?_
          rintro e w1 ⟨rfl, rfl⟩
          go_wp2_with fail
          refine P2.out.mono ?_
          rintro e w1 ⟨rfl, rfl⟩
          go_wp2_with fail
          refine (le_any _ _ _).mono ?_
          rintro e w1 ⟨rfl, rfl⟩
          have hb' := hb
          simp only [List.getD_eq_getElem?_getD] at hb'
          simp only [List.getD_eq_getElem?_getD]
          rw [hb']
          clear hb'
          replace hb := hide hb
          go_wp2_with fail
          go_ret
          exact ⟨ret_b HF.out.symm, rfl⟩
        | true =>
          go_wp2_with fail
          refine P1.out.mono ?_
          rintro e w1 ⟨rfl, rfl⟩
          go_wp2_with fail
          refine P2.out.mono ?_
          rintro e w1 ⟨rfl, rfl⟩
          go_wp2_with fail
          refine (le_any _ _ _).mono ?_
          rintro e w1 ⟨rfl, rfl⟩
          have hb' := hb
          simp only [List.getD_eq_getElem?_getD] at hb'
          simp only [List.getD_eq_getElem?_getD]
          rw [hb']
          clear hb'
          replace hb := hide hb
          go_wp2_with fail
          go_round
          case rel => exact ⟨k + 1, by omega, by go_num, fun j hj => by
            by_cases e : j = k
            · rw [e]; exact hb.out
            · exact hd.out j (by omega)⟩
          case measure => simp [intOf]; omega
      · obtain rfl : k = n := by omega
        have HF := hide (T.out hd.out)
        go_wp2
        go_ret
        exact ⟨ret_b HF.out.symm, rfl⟩
  · have hc : (n : Int) < (m : Int) := by omega
    have hNe : max n m = m := by omega
    rw [hNe] at E T
    clear hNe
    go_enter Try.func38, Try.ntmps38
    go_wp2
    go_loop [7, 13] (fun _ i => ∃ k : Nat, k ≤ m ∧ i = .int .i64 k ∧ Hid (∀ j, j < k → leB (zs.getD j 0) (ys.getD j 0) = true)) (fun _ i => m - (intOf i).toNat)
    case atStart => exact ⟨0, by omega, rfl, fun j hj => by omega⟩
    case round =>
      obtain ⟨k, hk, rfl, hd⟩ := hrel
      by_cases hlt : k < m
      · have e1 := hide (ofL_at zs k)
        have e2 := hide (ofL_at ys k)
        have hI : I64 ((k : Int) + 1) := ⟨by omega, by omega⟩
        replace hI := hide hI
        have P1 := O1 _ hI.out
        have P2 := O2 _ hI.out
        rw [e1.out] at P1
        rw [e2.out] at P2
        cases hb : leB (zs.getD k 0) (ys.getD k 0) with
        | false =>
          have HF := hide (E.out k hlt hb)
          go_wp2_with fail
          refine P1.out.mono ?_
          rintro e w1 ⟨rfl, rfl⟩
          go_wp2_with fail
          refine P2.out.mono ?_
          rintro e w1 ⟨rfl, rfl⟩
          go_wp2_with fail
          refine (le_any _ _ _).mono ?_
          rintro e w1 ⟨rfl, rfl⟩
          have hb' := hb
          simp only [List.getD_eq_getElem?_getD] at hb'
          simp only [List.getD_eq_getElem?_getD]
          rw [hb']
          clear hb'
          replace hb := hide hb
          go_wp2_with fail
          go_ret
          exact ⟨ret_b HF.out.symm, rfl⟩
        | true =>
          go_wp2_with fail
          refine P1.out.mono ?_
          rintro e w1 ⟨rfl, rfl⟩
          go_wp2_with fail
          refine P2.out.mono ?_
          rintro e w1 ⟨rfl, rfl⟩
          go_wp2_with fail
          refine (le_any _ _ _).mono ?_
          rintro e w1 ⟨rfl, rfl⟩
          have hb' := hb
          simp only [List.getD_eq_getElem?_getD] at hb'
          simp only [List.getD_eq_getElem?_getD]
          rw [hb']
          clear hb'
          replace hb := hide hb
          go_wp2_with fail
          go_round
          case rel => exact ⟨k + 1, by omega, by go_num, fun j hj => by
            by_cases e : j = k
            · rw [e]; exact hb.out
            · exact hd.out j (by omega)⟩
          case measure => simp [intOf]; omega
      · obtain rfl : k = m := by omega
        have HF := hide (T.out hd.out)
        go_wp2
        go_ret
        exact ⟨ret_b HF.out.symm, rfl⟩
theorem same_any (h : Vec w A n c zs) (g : Vec w B m d ys) : Calls Try.prog 19 #[.slice A n c, .slice B m d] w fun e w' => e = .returned (.bool (eachB eqB zs ys)) ∧ w = w' := by
  have H := hide (each_eq h g)
  go_enter Try.func19, Try.ntmps19
  go_wp2_with (go_at_call 38; refine H.out.mono ?_; rintro e w' ⟨rfl, rfl⟩)
  go_ret
  exact ⟨rfl, rfl⟩
theorem upto_any (h : Vec w A n c zs) (g : Vec w B m d ys) : Calls Try.prog 21 #[.slice A n c, .slice B m d] w fun e w' => e = .returned (.bool (eachB leB zs ys)) ∧ w = w' := by
  have H := hide (each_le h g)
  go_enter Try.func21, Try.ntmps21
  go_wp2_with (go_at_call 38; refine H.out.mono ?_; rintro e w' ⟨rfl, rfl⟩)
  go_ret
  exact ⟨rfl, rfl⟩
theorem ref_same_any (h : Vec w A n c zs) (g : Vec w B m d ys) (hs : max n m ≤ 1000000) : Calls Try.prog 20 #[.slice A n c, .slice B m d] w fun e w' => e = .returned (.bool (eachB eqB zs ys)) ∧ w = w' := by
  have hl := hide h.len
  have gl := hide g.len
  have O1 := fun dev hd => hide (ref_of_dev dev hd h)
  have O2 := fun dev hd => hide (ref_of_dev dev hd g)
  have E := hide (each_no eqB zs ys)
  have T := hide (each_yes eqB zs ys)
  have L := hide (long_any h g)
  rw [hl.out, gl.out] at E T
  clear h g
  generalize max n m = N at E T L hs
  go_enter Try.func20, Try.ntmps20
  go_wp2
  go_loop [5] (fun i => ∃ k : Nat, k ≤ N ∧ i = .int .i64 ((k : Int) + 1) ∧ Hid (∀ j, j < k → eqB (zs.getD j 0) (ys.getD j 0) = true)) (fun i => N + 1 - (intOf i).toNat)
  case atStart => exact ⟨0, by omega, rfl, fun j hj => by omega⟩
  case round =>
    obtain ⟨k, hk, rfl, hd⟩ := hrel
    by_cases hlt : k < N
    · have e1 := hide (ofL_at zs k)
      have e2 := hide (ofL_at ys k)
      have hI : I64 ((k : Int) + 1) := ⟨by omega, by omega⟩
      replace hI := hide hI
      have P1 := O1 _ hI.out
      have P2 := O2 _ hI.out
      rw [e1.out] at P1
      rw [e2.out] at P2
      have hlt' : (k : Int) + 1 ≤ (N : Int) := by omega
      by_cases hb : zs.getD k 0 = ys.getD k 0
      · have t : (zs[k]?.getD 0 != ys[k]?.getD 0) = false := by simpa using hb
        replace hb := hide hb
        go_wp2_with fail
        refine L.out.mono ?_
        rintro e w1 ⟨rfl, rfl⟩
        go_wp2_with fail
        refine P1.out.mono ?_
        rintro e w1 ⟨rfl, rfl⟩
        go_wp2_with fail
        refine P2.out.mono ?_
        rintro e w1 ⟨rfl, rfl⟩
        simp only [List.getD_eq_getElem?_getD]
        go_wp2_with fail
        go_round
        case rel => exact ⟨k + 1, by omega, by go_num, fun j hj => by
          by_cases e : j = k
          · rw [e]; simpa [eqB] using hb.out
          · exact hd.out j (by omega)⟩
        case measure => simp [intOf]; omega
      · have HF := hide (E.out k hlt (by simpa [eqB] using hb))
        have t : (zs[k]?.getD 0 != ys[k]?.getD 0) = true := by simpa using hb
        clear hb
        go_wp2_with fail
        refine L.out.mono ?_
        rintro e w1 ⟨rfl, rfl⟩
        go_wp2_with fail
        refine P1.out.mono ?_
        rintro e w1 ⟨rfl, rfl⟩
        go_wp2_with fail
        refine P2.out.mono ?_
        rintro e w1 ⟨rfl, rfl⟩
        simp only [List.getD_eq_getElem?_getD]
        go_wp2_with fail
        go_ret
        exact ⟨ret_b HF.out.symm, rfl⟩
    · obtain rfl : k = N := by omega
      have HF := hide (T.out hd.out)
      go_wp2_with (go_at_call 40; refine L.out.mono ?_; rintro e w1 ⟨rfl, rfl⟩)
      go_ret
      exact ⟨ret_b HF.out.symm, rfl⟩
theorem ref_upto_any (h : Vec w A n c zs) (g : Vec w B m d ys) (hs : max n m ≤ 1000000) : Calls Try.prog 22 #[.slice A n c, .slice B m d] w fun e w' => e = .returned (.bool (eachB leB zs ys)) ∧ w = w' := by
  have hl := hide h.len
  have gl := hide g.len
  have O1 := fun dev hd => hide (ref_of_dev dev hd h)
  have O2 := fun dev hd => hide (ref_of_dev dev hd g)
  have E := hide (each_no leB zs ys)
  have T := hide (each_yes leB zs ys)
  have L := hide (long_any h g)
  rw [hl.out, gl.out] at E T
  clear h g
  generalize max n m = N at E T L hs
  go_enter Try.func22, Try.ntmps22
  go_wp2
  go_loop [5] (fun i => ∃ k : Nat, k ≤ N ∧ i = .int .i64 ((k : Int) + 1) ∧ Hid (∀ j, j < k → leB (zs.getD j 0) (ys.getD j 0) = true)) (fun i => N + 1 - (intOf i).toNat)
  case atStart => exact ⟨0, by omega, rfl, fun j hj => by omega⟩
  case round =>
    obtain ⟨k, hk, rfl, hd⟩ := hrel
    by_cases hlt : k < N
    · have e1 := hide (ofL_at zs k)
      have e2 := hide (ofL_at ys k)
      have hI : I64 ((k : Int) + 1) := ⟨by omega, by omega⟩
      replace hI := hide hI
      have P1 := O1 _ hI.out
      have P2 := O2 _ hI.out
      rw [e1.out] at P1
      rw [e2.out] at P2
      have hlt' : (k : Int) + 1 ≤ (N : Int) := by omega
      by_cases hb : zs.getD k 0 ≤ ys.getD k 0
      · have t : ¬ ys[k]?.getD 0 < zs[k]?.getD 0 := by simp only [List.getD_eq_getElem?_getD] at hb; omega
        replace hb := hide hb
        go_wp2_with fail
        refine L.out.mono ?_
        rintro e w1 ⟨rfl, rfl⟩
        go_wp2_with fail
        refine P1.out.mono ?_
        rintro e w1 ⟨rfl, rfl⟩
        go_wp2_with fail
        refine P2.out.mono ?_
        rintro e w1 ⟨rfl, rfl⟩
        simp only [List.getD_eq_getElem?_getD]
        go_wp2_with fail
        go_round
        case rel => exact ⟨k + 1, by omega, by go_num, fun j hj => by
          by_cases e : j = k
          · rw [e]; simpa [leB] using hb.out
          · exact hd.out j (by omega)⟩
        case measure => simp [intOf]; omega
      · have HF := hide (E.out k hlt (by simpa [leB] using hb))
        have t : ys[k]?.getD 0 < zs[k]?.getD 0 := by simp only [List.getD_eq_getElem?_getD] at hb; omega
        clear hb
        go_wp2_with fail
        refine L.out.mono ?_
        rintro e w1 ⟨rfl, rfl⟩
        go_wp2_with fail
        refine P1.out.mono ?_
        rintro e w1 ⟨rfl, rfl⟩
        go_wp2_with fail
        refine P2.out.mono ?_
        rintro e w1 ⟨rfl, rfl⟩
        simp only [List.getD_eq_getElem?_getD]
        go_wp2_with fail
        go_ret
        exact ⟨ret_b HF.out.symm, rfl⟩
    · obtain rfl : k = N := by omega
      have HF := hide (T.out hd.out)
      go_wp2_with (go_at_call 40; refine L.out.mono ?_; rintro e w1 ⟨rfl, rfl⟩)
      go_ret
      exact ⟨ret_b HF.out.symm, rfl⟩
end
end Go.Proofs.Ytgjhhnendondcaa

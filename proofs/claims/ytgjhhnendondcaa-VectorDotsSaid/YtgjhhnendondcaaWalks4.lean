/-
  More walks over chapter 5: what two vectors come to, by package vector and by its reference.
-/
import Derived.Test.YtgjhhnendondcaaWalks3
namespace Go.Proofs.Ytgjhhnendondcaa
open Go.RowKit
set_option linter.unusedSimpArgs false
set_option linter.unusedVariables false

/-- What was gathered up to place k. -/
def outL (f : Nat → Int) (k : Nat) : List Int := (List.range k).map f
def outV (f : Nat → Int) (k : Nat) : List Value := (outL f k).map (Value.int .i64)
theorem outV_step (f : Nat → Int) (k : Nat) : outV f k ++ [.int .i64 (f k)] = outV f (k + 1) := by
  unfold outV outL
  rw [List.range_succ, List.map_append, List.map_append]
  rfl
theorem outL_in (f : Nat → Int) (k : Nat) (h : ∀ j, j < k → I64 (f j)) : ∀ z ∈ outL f k, I64 z := by
  intro z hz
  obtain ⟨j, hj, rfl⟩ := List.mem_map.1 hz
  exact h j (by simpa using hj)
def combine (op : Int → Int → Int) (a b : List Int) (k : Nat) : Int := op (a.getD k 0) (b.getD k 0)
def bothL (op : Int → Int → Int) (a b : List Int) : List Int := trimL (outL (combine op a b) (max a.length b.length))
def maxI (x y : Int) : Int := if x < y then y else x
def minI (x y : Int) : Int := if y < x then y else x
theorem maxI_in {x y : Int} (hx : I64 x) (hy : I64 y) : I64 (maxI x y) := by unfold maxI; split <;> assumption
theorem minI_in {x y : Int} (hx : I64 x) (hy : I64 y) : I64 (minI x y) := by unfold minI; split <;> assumption
theorem vec_getD {w : World} {A : Option Addr} {n c : Nat} {zs : List Int} (h : Vec w A n c zs) (k : Nat) : I64 (zs.getD k 0) := getD_in h.2.2.2.2 k
theorem max_any (x y : Int) (w : World) : Calls Try.prog 43 #[.int .i64 x, .int .i64 y] w fun e w' => e = .returned (.int .i64 (maxI x y)) ∧ w = w' := by
  by_cases h : x < y
  all_goals
    go_enter Try.func43, Try.ntmps43
    go_wp2
    all_goals go_ret
    all_goals exact ⟨ret_i (by unfold maxI; first | rw [if_pos h] | rw [if_neg h] | omega), rfl⟩
theorem min_any (x y : Int) (w : World) : Calls Try.prog 44 #[.int .i64 x, .int .i64 y] w fun e w' => e = .returned (.int .i64 (minI x y)) ∧ w = w' := by
  by_cases h : y < x
  all_goals
    go_enter Try.func44, Try.ntmps44
    go_wp2
    all_goals go_ret
    all_goals exact ⟨ret_i (by unfold minI; first | rw [if_pos h] | rw [if_neg h] | omega), rfl⟩
section
variable {w : World} {A B : Option Addr} {n c m d : Nat} {zs ys : List Int}
theorem ref_trim_any (h : Vec w A n c zs) (hs : n ≤ 1000000) : ∀ k, k ≤ n → Calls Try.prog 29 #[.slice A k c] w fun e w' => e = .returned (.slice A (trimTo zs k) c) ∧ w = w' := by
  have hnc := h.2.1
  have hcm : c ≤ 9223372036854775807 := by have := h.2.2.1; unfold maxLen at this; exact this
  intro k
  induction k with
  | zero =>
    intro _
    go_enter Try.func29, Try.ntmps29
    go_wp2_with fail
    go_ret
    exact ⟨rfl, rfl⟩
  | succ j ih =>
    intro hk
    have IH := hide (ih (by omega))
    obtain ⟨b, off, rfl, hcell⟩ := h.at_ (k := j) (by omega)
    have hpos : (0 : Int) < ((j + 1 : Nat) : Int) := by omega
    by_cases hz0 : zs[j]?.getD 0 = 0
    · have t : (zs[j]?.getD 0 == 0) = true := by simp [hz0]
      have e := hide (trimTo_zero (zs := zs) (k := j) (by rw [List.getD_eq_getElem?_getD]; exact hz0))
      rw [e.out]
      have hjc : j ≤ c := by omega
      have hs' : j + 1 ≤ 1000000 := by omega
      clear ih hz0 h hk hs
      go_enter Try.func29, Try.ntmps29
      go_wp2_with fail
      refine IH.out.mono ?_
      rintro e w1 ⟨rfl, rfl⟩
      go_wp2_with fail
      go_ret
      exact ⟨rfl, rfl⟩
    · have t : (zs[j]?.getD 0 == 0) = false := by simp [hz0]
      have e := hide (trimTo_not (zs := zs) (k := j) (by rw [List.getD_eq_getElem?_getD]; exact hz0))
      rw [e.out]
      have hs' : j + 1 ≤ 1000000 := by omega
      clear ih hz0 h hk hs
      go_enter Try.func29, Try.ntmps29
      go_wp2_with fail
      go_ret
      exact ⟨rfl, rfl⟩
set_option maxHeartbeats 600000 in
theorem both_max (h : Vec w A n c zs) (g : Vec w B m d ys) (hs : n ≤ 100000 ∧ m ≤ 100000) : Calls Try.prog 42 #[.slice A n c, .slice B m d, .func (.func 43) #[] #[]] w (RetVec w (bothL maxI zs ys)) := by
  have hn := h.max
  have hm := g.max
  have hl := hide h.len
  have gl := hide g.len
  obtain ⟨hs1, hs2⟩ := hs
  obtain ⟨i0, hi0, hzz0, hzz1, hzz2⟩ := info_parts info3
  have hio := hide (fun j => maxI_in (vec_getD h j) (vec_getD g j) : ∀ j, I64 (combine maxI zs ys j))
  have O1 := fun dev hd W (hB : Below w.heap.size w W) => hide (of_dev dev hd (h.below hB))
  have O2 := fun dev hd W (hB : Below w.heap.size w W) => hide (of_dev dev hd (g.below hB))
  clear h g
  by_cases hnm : m ≤ n
  · have hc : (m : Int) ≤ (n : Int) := by omega
    have hNe : max zs.length ys.length = n := by rw [hl.out, gl.out]; omega
    replace hNe := hide hNe
    clear hnm
    go_enter Try.func42, Try.ntmps42
    go_wp2
    go_loopw [7, 8, 14] (fun out _ i wr => ∃ k : Nat, k ≤ n ∧ i = .int .i64 k ∧ wr.ownsRow w.heap.size 3 1 out k (outV (combine maxI zs ys) k) ∧ Below w.heap.size w wr) (fun _ _ i _ => n - (intOf i).toNat)
    case atStart => exact ⟨0, by omega, rfl, World.ownsRow_nil _ _ _ _, Below.refl _ _⟩
    case round =>
      obtain ⟨k, hk, rfl, hown, hB⟩ := hrel
      by_cases hlt : k < n
      · have e1 := hide (ofL_at zs k)
        have e2 := hide (ofL_at ys k)
        have hI : I64 ((k : Int) + 1) := ⟨by omega, by omega⟩
        replace hI := hide hI
        have P1 := O1 _ hI.out wr hB
        have P2 := O2 _ hI.out wr hB
        rw [e1.out] at P1
        rw [e2.out] at P2
        have hst := hide (outV_step (combine maxI zs ys) k)
        go_wp2_with fail
        refine P1.out.mono ?_
        rintro e w1 ⟨rfl, rfl⟩
        go_wp2_with fail
        refine P2.out.mono ?_
        rintro e w1 ⟨rfl, rfl⟩
        go_wp2_with fail
        refine (max_any _ _ _).mono ?_
        rintro e w1 ⟨rfl, rfl⟩
        go_wp2_with (at_builtin; refine wpList_append_own _ rfl _ _ 23 rfl w.heap.size 3 i0 (.int .i64 0) 1 8 Try.underlying23 hi0 hzz0 hzz1 hzz2 rfl (by decide) _ _ _ rfl (hown.alloc _) ⟨wr.heap.size, 0, none⟩ 1 1 [.int .i64 (maxI (zs[k]?.getD 0) (ys[k]?.getD 0))] rfl rfl ?c1 ?c2 ?c3 ?c4 ?c5 ?_)
        case c1 => exact cell_one_new _ _ _
        case c2 => simp [Value.oneCell']
        case c3 => unfold maxLen; omega
        case c4 => omega
        case c5 => have := hB.size; simp; omega
        intro v' w2 hown2 hg _
        have hB2 : Below w.heap.size w w2 := (hB.alloc hB.size _).grown hg (by have := hB.size; simp; omega) (fun k hk => (hown.lt k hk).1)
        have hst' : outV (combine maxI zs ys) k ++ [Value.int .i64 (maxI (zs[k]?.getD 0) (ys[k]?.getD 0))] = outV (combine maxI zs ys) (k + 1) := by
          have := hst.out; simpa [combine] using this
        rw [hst'] at hown2
        clear hown hg hst' P1 P2
        go_wp2
        go_roundw
        case rel => exact ⟨k + 1, by omega, by go_num, hown2, hB2⟩
        case measure => simp [intOf]; omega
      · obtain rfl : k = n := by omega
        obtain ⟨A2, c2, hv, hV⟩ := vec_own (zs := outL (combine maxI zs ys) k) hown (outL_in _ _ fun j _ => hio.out j)
        replace hV := hide hV
        have F : Hid (bothL maxI zs ys = trimL (outL (combine maxI zs ys) k)) := by unfold bothL; rw [hNe.out]; exact hide rfl
        clear hown
        subst hv
        go_wp2_with fail
        refine (trim_any hV.out (by omega)).mono ?_
        rintro e w1 ⟨A3, n3, c3, rfl, hV3, hB3⟩
        replace hV3 := hide hV3
        go_wp2_with fail
        go_ret
        rw [F.out]
        exact ⟨A3, n3, c3, rfl, hV3.out, hB.trans (hB3.mono hB.size)⟩
  · have hc : (n : Int) < (m : Int) := by omega
    have hNe : max zs.length ys.length = m := by rw [hl.out, gl.out]; omega
    replace hNe := hide hNe
    clear hnm
    go_enter Try.func42, Try.ntmps42
    go_wp2
    go_loopw [7, 8, 14] (fun out _ i wr => ∃ k : Nat, k ≤ m ∧ i = .int .i64 k ∧ wr.ownsRow w.heap.size 3 1 out k (outV (combine maxI zs ys) k) ∧ Below w.heap.size w wr) (fun _ _ i _ => m - (intOf i).toNat)
    case atStart => exact ⟨0, by omega, rfl, World.ownsRow_nil _ _ _ _, Below.refl _ _⟩
    case round =>
      obtain ⟨k, hk, rfl, hown, hB⟩ := hrel
      by_cases hlt : k < m
      · have e1 := hide (ofL_at zs k)
        have e2 := hide (ofL_at ys k)
        have hI : I64 ((k : Int) + 1) := ⟨by omega, by omega⟩
        replace hI := hide hI
        have P1 := O1 _ hI.out wr hB
        have P2 := O2 _ hI.out wr hB
        rw [e1.out] at P1
        rw [e2.out] at P2
        have hst := hide (outV_step (combine maxI zs ys) k)
        go_wp2_with fail
        refine P1.out.mono ?_
        rintro e w1 ⟨rfl, rfl⟩
        go_wp2_with fail
        refine P2.out.mono ?_
        rintro e w1 ⟨rfl, rfl⟩
        go_wp2_with fail
        refine (max_any _ _ _).mono ?_
        rintro e w1 ⟨rfl, rfl⟩
        go_wp2_with (at_builtin; refine wpList_append_own _ rfl _ _ 23 rfl w.heap.size 3 i0 (.int .i64 0) 1 8 Try.underlying23 hi0 hzz0 hzz1 hzz2 rfl (by decide) _ _ _ rfl (hown.alloc _) ⟨wr.heap.size, 0, none⟩ 1 1 [.int .i64 (maxI (zs[k]?.getD 0) (ys[k]?.getD 0))] rfl rfl ?c1 ?c2 ?c3 ?c4 ?c5 ?_)
        case c1 => exact cell_one_new _ _ _
        case c2 => simp [Value.oneCell']
        case c3 => unfold maxLen; omega
        case c4 => omega
        case c5 => have := hB.size; simp; omega
        intro v' w2 hown2 hg _
        have hB2 : Below w.heap.size w w2 := (hB.alloc hB.size _).grown hg (by have := hB.size; simp; omega) (fun k hk => (hown.lt k hk).1)
        have hst' : outV (combine maxI zs ys) k ++ [Value.int .i64 (maxI (zs[k]?.getD 0) (ys[k]?.getD 0))] = outV (combine maxI zs ys) (k + 1) := by
          have := hst.out; simpa [combine] using this
        rw [hst'] at hown2
        clear hown hg hst' P1 P2
        go_wp2
        go_roundw
        case rel => exact ⟨k + 1, by omega, by go_num, hown2, hB2⟩
        case measure => simp [intOf]; omega
      · obtain rfl : k = m := by omega
        obtain ⟨A2, c2, hv, hV⟩ := vec_own (zs := outL (combine maxI zs ys) k) hown (outL_in _ _ fun j _ => hio.out j)
        replace hV := hide hV
        have F : Hid (bothL maxI zs ys = trimL (outL (combine maxI zs ys) k)) := by unfold bothL; rw [hNe.out]; exact hide rfl
        clear hown
        subst hv
        go_wp2_with fail
        refine (trim_any hV.out (by omega)).mono ?_
        rintro e w1 ⟨A3, n3, c3, rfl, hV3, hB3⟩
        replace hV3 := hide hV3
        go_wp2_with fail
        go_ret
        rw [F.out]
        exact ⟨A3, n3, c3, rfl, hV3.out, hB.trans (hB3.mono hB.size)⟩
set_option maxHeartbeats 600000 in
theorem both_min (h : Vec w A n c zs) (g : Vec w B m d ys) (hs : n ≤ 100000 ∧ m ≤ 100000) : Calls Try.prog 42 #[.slice A n c, .slice B m d, .func (.func 44) #[] #[]] w (RetVec w (bothL minI zs ys)) := by
  have hn := h.max
  have hm := g.max
  have hl := hide h.len
  have gl := hide g.len
  obtain ⟨hs1, hs2⟩ := hs
  obtain ⟨i0, hi0, hzz0, hzz1, hzz2⟩ := info_parts info3
  have hio := hide (fun j => minI_in (vec_getD h j) (vec_getD g j) : ∀ j, I64 (combine minI zs ys j))
  have O1 := fun dev hd W (hB : Below w.heap.size w W) => hide (of_dev dev hd (h.below hB))
  have O2 := fun dev hd W (hB : Below w.heap.size w W) => hide (of_dev dev hd (g.below hB))
  clear h g
  by_cases hnm : m ≤ n
  · have hc : (m : Int) ≤ (n : Int) := by omega
    have hNe : max zs.length ys.length = n := by rw [hl.out, gl.out]; omega
    replace hNe := hide hNe
    clear hnm
    go_enter Try.func42, Try.ntmps42
    go_wp2
    go_loopw [7, 8, 14] (fun out _ i wr => ∃ k : Nat, k ≤ n ∧ i = .int .i64 k ∧ wr.ownsRow w.heap.size 3 1 out k (outV (combine minI zs ys) k) ∧ Below w.heap.size w wr) (fun _ _ i _ => n - (intOf i).toNat)
    case atStart => exact ⟨0, by omega, rfl, World.ownsRow_nil _ _ _ _, Below.refl _ _⟩
    case round =>
      obtain ⟨k, hk, rfl, hown, hB⟩ := hrel
      by_cases hlt : k < n
      · have e1 := hide (ofL_at zs k)
        have e2 := hide (ofL_at ys k)
        have hI : I64 ((k : Int) + 1) := ⟨by omega, by omega⟩
        replace hI := hide hI
        have P1 := O1 _ hI.out wr hB
        have P2 := O2 _ hI.out wr hB
        rw [e1.out] at P1
        rw [e2.out] at P2
        have hst := hide (outV_step (combine minI zs ys) k)
        go_wp2_with fail
        refine P1.out.mono ?_
        rintro e w1 ⟨rfl, rfl⟩
        go_wp2_with fail
        refine P2.out.mono ?_
        rintro e w1 ⟨rfl, rfl⟩
        go_wp2_with fail
        refine (min_any _ _ _).mono ?_
        rintro e w1 ⟨rfl, rfl⟩
        go_wp2_with (at_builtin; refine wpList_append_own _ rfl _ _ 23 rfl w.heap.size 3 i0 (.int .i64 0) 1 8 Try.underlying23 hi0 hzz0 hzz1 hzz2 rfl (by decide) _ _ _ rfl (hown.alloc _) ⟨wr.heap.size, 0, none⟩ 1 1 [.int .i64 (minI (zs[k]?.getD 0) (ys[k]?.getD 0))] rfl rfl ?c1 ?c2 ?c3 ?c4 ?c5 ?_)
        case c1 => exact cell_one_new _ _ _
        case c2 => simp [Value.oneCell']
        case c3 => unfold maxLen; omega
        case c4 => omega
        case c5 => have := hB.size; simp; omega
        intro v' w2 hown2 hg _
        have hB2 : Below w.heap.size w w2 := (hB.alloc hB.size _).grown hg (by have := hB.size; simp; omega) (fun k hk => (hown.lt k hk).1)
        have hst' : outV (combine minI zs ys) k ++ [Value.int .i64 (minI (zs[k]?.getD 0) (ys[k]?.getD 0))] = outV (combine minI zs ys) (k + 1) := by
          have := hst.out; simpa [combine] using this
        rw [hst'] at hown2
        clear hown hg hst' P1 P2
        go_wp2
        go_roundw
        case rel => exact ⟨k + 1, by omega, by go_num, hown2, hB2⟩
        case measure => simp [intOf]; omega
      · obtain rfl : k = n := by omega
        obtain ⟨A2, c2, hv, hV⟩ := vec_own (zs := outL (combine minI zs ys) k) hown (outL_in _ _ fun j _ => hio.out j)
        replace hV := hide hV
        have F : Hid (bothL minI zs ys = trimL (outL (combine minI zs ys) k)) := by unfold bothL; rw [hNe.out]; exact hide rfl
        clear hown
        subst hv
        go_wp2_with fail
        refine (trim_any hV.out (by omega)).mono ?_
        rintro e w1 ⟨A3, n3, c3, rfl, hV3, hB3⟩
        replace hV3 := hide hV3
        go_wp2_with fail
        go_ret
        rw [F.out]
        exact ⟨A3, n3, c3, rfl, hV3.out, hB.trans (hB3.mono hB.size)⟩
  · have hc : (n : Int) < (m : Int) := by omega
    have hNe : max zs.length ys.length = m := by rw [hl.out, gl.out]; omega
    replace hNe := hide hNe
    clear hnm
    go_enter Try.func42, Try.ntmps42
    go_wp2
    go_loopw [7, 8, 14] (fun out _ i wr => ∃ k : Nat, k ≤ m ∧ i = .int .i64 k ∧ wr.ownsRow w.heap.size 3 1 out k (outV (combine minI zs ys) k) ∧ Below w.heap.size w wr) (fun _ _ i _ => m - (intOf i).toNat)
    case atStart => exact ⟨0, by omega, rfl, World.ownsRow_nil _ _ _ _, Below.refl _ _⟩
    case round =>
      obtain ⟨k, hk, rfl, hown, hB⟩ := hrel
      by_cases hlt : k < m
      · have e1 := hide (ofL_at zs k)
        have e2 := hide (ofL_at ys k)
        have hI : I64 ((k : Int) + 1) := ⟨by omega, by omega⟩
        replace hI := hide hI
        have P1 := O1 _ hI.out wr hB
        have P2 := O2 _ hI.out wr hB
        rw [e1.out] at P1
        rw [e2.out] at P2
        have hst := hide (outV_step (combine minI zs ys) k)
        go_wp2_with fail
        refine P1.out.mono ?_
        rintro e w1 ⟨rfl, rfl⟩
        go_wp2_with fail
        refine P2.out.mono ?_
        rintro e w1 ⟨rfl, rfl⟩
        go_wp2_with fail
        refine (min_any _ _ _).mono ?_
        rintro e w1 ⟨rfl, rfl⟩
        go_wp2_with (at_builtin; refine wpList_append_own _ rfl _ _ 23 rfl w.heap.size 3 i0 (.int .i64 0) 1 8 Try.underlying23 hi0 hzz0 hzz1 hzz2 rfl (by decide) _ _ _ rfl (hown.alloc _) ⟨wr.heap.size, 0, none⟩ 1 1 [.int .i64 (minI (zs[k]?.getD 0) (ys[k]?.getD 0))] rfl rfl ?c1 ?c2 ?c3 ?c4 ?c5 ?_)
        case c1 => exact cell_one_new _ _ _
        case c2 => simp [Value.oneCell']
        case c3 => unfold maxLen; omega
        case c4 => omega
        case c5 => have := hB.size; simp; omega
        intro v' w2 hown2 hg _
        have hB2 : Below w.heap.size w w2 := (hB.alloc hB.size _).grown hg (by have := hB.size; simp; omega) (fun k hk => (hown.lt k hk).1)
        have hst' : outV (combine minI zs ys) k ++ [Value.int .i64 (minI (zs[k]?.getD 0) (ys[k]?.getD 0))] = outV (combine minI zs ys) (k + 1) := by
          have := hst.out; simpa [combine] using this
        rw [hst'] at hown2
        clear hown hg hst' P1 P2
        go_wp2
        go_roundw
        case rel => exact ⟨k + 1, by omega, by go_num, hown2, hB2⟩
        case measure => simp [intOf]; omega
      · obtain rfl : k = m := by omega
        obtain ⟨A2, c2, hv, hV⟩ := vec_own (zs := outL (combine minI zs ys) k) hown (outL_in _ _ fun j _ => hio.out j)
        replace hV := hide hV
        have F : Hid (bothL minI zs ys = trimL (outL (combine minI zs ys) k)) := by unfold bothL; rw [hNe.out]; exact hide rfl
        clear hown
        subst hv
        go_wp2_with fail
        refine (trim_any hV.out (by omega)).mono ?_
        rintro e w1 ⟨A3, n3, c3, rfl, hV3, hB3⟩
        replace hV3 := hide hV3
        go_wp2_with fail
        go_ret
        rw [F.out]
        exact ⟨A3, n3, c3, rfl, hV3.out, hB.trans (hB3.mono hB.size)⟩
theorem join_any (h : Vec w A n c zs) (g : Vec w B m d ys) (hs : n ≤ 100000 ∧ m ≤ 100000) : Calls Try.prog 24 #[.slice A n c, .slice B m d] w (RetVec w (bothL maxI zs ys)) := by
  have H := hide (both_max h g hs)
  clear h g
  go_enter Try.func24, Try.ntmps24
  go_wp2_with fail
  refine H.out.mono ?_
  rintro e w1 ⟨A3, n3, c3, rfl, hV3, hB3⟩
  replace hV3 := hide hV3
  go_wp2_with fail
  go_ret
  exact ⟨A3, n3, c3, rfl, hV3.out, hB3⟩
theorem meet_any (h : Vec w A n c zs) (g : Vec w B m d ys) (hs : n ≤ 100000 ∧ m ≤ 100000) : Calls Try.prog 26 #[.slice A n c, .slice B m d] w (RetVec w (bothL minI zs ys)) := by
  have H := hide (both_min h g hs)
  clear h g
  go_enter Try.func26, Try.ntmps26
  go_wp2_with fail
  refine H.out.mono ?_
  rintro e w1 ⟨A3, n3, c3, rfl, hV3, hB3⟩
  replace hV3 := hide hV3
  go_wp2_with fail
  go_ret
  exact ⟨A3, n3, c3, rfl, hV3.out, hB3⟩
end
end Go.Proofs.Ytgjhhnendondcaa

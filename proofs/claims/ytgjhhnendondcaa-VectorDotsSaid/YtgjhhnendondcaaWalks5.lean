/-
  More walks over chapter 5: what two vectors come to by the reference; are two the same place by place; how many transactions a vector has.
-/
import Derived.Test.YtgjhhnendondcaaWalks4
namespace Go.Proofs.Ytgjhhnendondcaa
open Go.RowKit
set_option linter.unusedSimpArgs false
set_option linter.unusedVariables false

section
variable {w : World} {A B : Option Addr} {n c m d : Nat} {zs ys : List Int}
set_option maxHeartbeats 1000000 in
theorem ref_join_any (h : Vec w A n c zs) (g : Vec w B m d ys) (hs : n ≤ 100000 ∧ m ≤ 100000) : Calls Try.prog 25 #[.slice A n c, .slice B m d] w (RetVec w (bothL maxI zs ys)) := by
  have hl := hide h.len
  have gl := hide g.len
  obtain ⟨hs1, hs2⟩ := hs
  obtain ⟨i0, hi0, hzz0, hzz1, hzz2⟩ := info_parts info3
  have hio := hide (fun j => maxI_in (vec_getD h j) (vec_getD g j) : ∀ j, I64 (combine maxI zs ys j))
  have O1 := fun dev hd W (hB : Below w.heap.size w W) => hide (ref_of_dev dev hd (h.below hB))
  have O2 := fun dev hd W (hB : Below w.heap.size w W) => hide (ref_of_dev dev hd (g.below hB))
  have OL := fun W (hB : Below w.heap.size w W) => hide (long_any (h.below hB) (g.below hB))
  have hNe : max zs.length ys.length = max n m := by rw [hl.out, gl.out]
  replace hNe := hide hNe
  have hN : max n m ≤ 100000 := by omega
  clear h g
  generalize max n m = N at OL hNe hN
  go_enter Try.func25, Try.ntmps25
  go_wp2
  go_loopw [5, 6, 7] (fun out i _ wr => ∃ k : Nat, k ≤ N ∧ i = .int .i64 ((k : Int) + 1) ∧ wr.ownsRow w.heap.size 3 1 out k (outV (combine maxI zs ys) k) ∧ Below w.heap.size w wr) (fun _ i _ _ => N + 1 - (intOf i).toNat)
  case atStart => exact ⟨0, by omega, rfl, World.ownsRow_nil _ _ _ _, Below.refl _ _⟩
  case round =>
    obtain ⟨k, hk, rfl, hown, hB⟩ := hrel
    have L := OL wr hB
    by_cases hlt : k < N
    · have e1 := hide (ofL_at zs k)
      have e2 := hide (ofL_at ys k)
      have hI : I64 ((k : Int) + 1) := ⟨by omega, by omega⟩
      replace hI := hide hI
      have P1 := O1 _ hI.out wr hB
      have P2 := O2 _ hI.out wr hB
      rw [e1.out] at P1
      rw [e2.out] at P2
      have hst := hide (outV_step (combine maxI zs ys) k)
      have hlt' : (k : Int) + 1 ≤ (N : Int) := by omega
      by_cases hb : zs[k]?.getD 0 < ys[k]?.getD 0
      · have t : zs[k]?.getD 0 < ys[k]?.getD 0 := hb
        replace hb := hide hb
        go_wp2_with fail
        refine L.out.mono ?_
        rintro e w1 ⟨rfl, rfl⟩
        go_wp2_with fail
        refine P1.out.mono ?_
        rintro e w1 ⟨rfl, rfl⟩
        go_wp2_with fail
        refine P2.out.mono ?_
        rintro e w1 ⟨rfl, rfl⟩
        simp only [List.getD_eq_getElem?_getD]
        go_wp2_with fail
        refine P2.out.mono ?_
        rintro e w1 ⟨rfl, rfl⟩
        simp only [List.getD_eq_getElem?_getD]
        go_wp2_with (at_builtin; refine wpList_append_own _ rfl _ _ 23 rfl w.heap.size 3 i0 (.int .i64 0) 1 8 Try.underlying23 hi0 hzz0 hzz1 hzz2 rfl (by decide) _ _ _ rfl (hown.alloc _) ⟨wr.heap.size, 0, none⟩ 1 1 [.int .i64 (ys[k]?.getD 0)] rfl rfl ?c1 ?c2 ?c3 ?c4 ?c5 ?_)
        case c1 => exact cell_one_new _ _ _
        case c2 => simp [Value.oneCell']
        case c3 => unfold maxLen; omega
        case c4 => omega
        case c5 => have := hB.size; simp; omega
        intro v' w2 hown2 hg _
        have hB2 : Below w.heap.size w w2 := (hB.alloc hB.size _).grown hg (by have := hB.size; simp; omega) (fun k hk => (hown.lt k hk).1)
        have hst' : outV (combine maxI zs ys) k ++ [Value.int .i64 (ys[k]?.getD 0)] = outV (combine maxI zs ys) (k + 1) := by
          have h1 := hst.out
          have h2 : combine maxI zs ys k = ys[k]?.getD 0 := by unfold combine maxI; simp only [List.getD_eq_getElem?_getD]; have hbo := hb.out; first | rw [if_pos hbo] | rw [if_neg (by omega)]
          rw [h2] at h1
          exact h1
        rw [hst'] at hown2
        clear hown hg hst' P1 P2
        go_wp2
        go_roundw
        case rel => exact ⟨k + 1, by omega, by go_num, hown2, hB2⟩
        case measure => simp [intOf]; omega
      · have t : ¬ zs[k]?.getD 0 < ys[k]?.getD 0 := hb
        replace hb := hide hb
        go_wp2_with fail
        refine L.out.mono ?_
        rintro e w1 ⟨rfl, rfl⟩
        go_wp2_with fail
        refine P1.out.mono ?_
        rintro e w1 ⟨rfl, rfl⟩
        go_wp2_with fail
        refine P2.out.mono ?_
        rintro e w1 ⟨rfl, rfl⟩
        simp only [List.getD_eq_getElem?_getD]
        go_wp2_with (at_builtin; refine wpList_append_own _ rfl _ _ 23 rfl w.heap.size 3 i0 (.int .i64 0) 1 8 Try.underlying23 hi0 hzz0 hzz1 hzz2 rfl (by decide) _ _ _ rfl (hown.alloc _) ⟨wr.heap.size, 0, none⟩ 1 1 [.int .i64 (zs[k]?.getD 0)] rfl rfl ?c1 ?c2 ?c3 ?c4 ?c5 ?_)
        case c1 => exact cell_one_new _ _ _
        case c2 => simp [Value.oneCell']
        case c3 => unfold maxLen; omega
        case c4 => omega
        case c5 => have := hB.size; simp; omega
        intro v' w2 hown2 hg _
        have hB2 : Below w.heap.size w w2 := (hB.alloc hB.size _).grown hg (by have := hB.size; simp; omega) (fun k hk => (hown.lt k hk).1)
        have hst' : outV (combine maxI zs ys) k ++ [Value.int .i64 (zs[k]?.getD 0)] = outV (combine maxI zs ys) (k + 1) := by
          have h1 := hst.out
          have h2 : combine maxI zs ys k = zs[k]?.getD 0 := by unfold combine maxI; simp only [List.getD_eq_getElem?_getD]; have hbo := hb.out; first | rw [if_pos hbo] | rw [if_neg (by omega)]
          rw [h2] at h1
          exact h1
        rw [hst'] at hown2
        clear hown hg hst' P1 P2
        go_wp2
        go_roundw
        case rel => exact ⟨k + 1, by omega, by go_num, hown2, hB2⟩
        case measure => simp [intOf]; omega
    · obtain rfl : k = N := by omega
      obtain ⟨A2, c2, hv, hV⟩ := vec_own (zs := outL (combine maxI zs ys) k) hown (outL_in _ _ fun j _ => hio.out j)
      have F : Hid (bothL maxI zs ys = trimL (outL (combine maxI zs ys) k)) := by unfold bothL; rw [hNe.out]; exact hide rfl
      have hVt := hide (vec_take hV (trimTo_le (outL (combine maxI zs ys) k) k))
      have F2 : Hid (trimL (outL (combine maxI zs ys) k) = (outL (combine maxI zs ys) k).take (trimTo (outL (combine maxI zs ys) k) k)) := by unfold trimL; rw [hV.len]; exact hide rfl
      have T := hide (ref_trim_any hV (by omega) k (Nat.le_refl _))
      clear hown hV
      subst hv
      go_wp2_with fail
      refine L.out.mono ?_
      rintro e w1 ⟨rfl, rfl⟩
      go_wp2_with fail
      refine T.out.mono ?_
      rintro e w1 ⟨rfl, rfl⟩
      go_wp2_with fail
      go_ret
      rw [F.out, F2.out]
      exact ⟨A2, _, c2, rfl, hVt.out, hB⟩
set_option maxHeartbeats 1000000 in
theorem ref_meet_any (h : Vec w A n c zs) (g : Vec w B m d ys) (hs : n ≤ 100000 ∧ m ≤ 100000) : Calls Try.prog 27 #[.slice A n c, .slice B m d] w (RetVec w (bothL minI zs ys)) := by
  have hl := hide h.len
  have gl := hide g.len
  obtain ⟨hs1, hs2⟩ := hs
  obtain ⟨i0, hi0, hzz0, hzz1, hzz2⟩ := info_parts info3
  have hio := hide (fun j => minI_in (vec_getD h j) (vec_getD g j) : ∀ j, I64 (combine minI zs ys j))
  have O1 := fun dev hd W (hB : Below w.heap.size w W) => hide (ref_of_dev dev hd (h.below hB))
  have O2 := fun dev hd W (hB : Below w.heap.size w W) => hide (ref_of_dev dev hd (g.below hB))
  have OL := fun W (hB : Below w.heap.size w W) => hide (long_any (h.below hB) (g.below hB))
  have hNe : max zs.length ys.length = max n m := by rw [hl.out, gl.out]
  replace hNe := hide hNe
  have hN : max n m ≤ 100000 := by omega
  clear h g
  generalize max n m = N at OL hNe hN
  go_enter Try.func27, Try.ntmps27
  go_wp2
  go_loopw [5, 6, 7] (fun out i _ wr => ∃ k : Nat, k ≤ N ∧ i = .int .i64 ((k : Int) + 1) ∧ wr.ownsRow w.heap.size 3 1 out k (outV (combine minI zs ys) k) ∧ Below w.heap.size w wr) (fun _ i _ _ => N + 1 - (intOf i).toNat)
  case atStart => exact ⟨0, by omega, rfl, World.ownsRow_nil _ _ _ _, Below.refl _ _⟩
  case round =>
    obtain ⟨k, hk, rfl, hown, hB⟩ := hrel
    have L := OL wr hB
    by_cases hlt : k < N
    · have e1 := hide (ofL_at zs k)
      have e2 := hide (ofL_at ys k)
      have hI : I64 ((k : Int) + 1) := ⟨by omega, by omega⟩
      replace hI := hide hI
      have P1 := O1 _ hI.out wr hB
      have P2 := O2 _ hI.out wr hB
      rw [e1.out] at P1
      rw [e2.out] at P2
      have hst := hide (outV_step (combine minI zs ys) k)
      have hlt' : (k : Int) + 1 ≤ (N : Int) := by omega
      by_cases hb : ys[k]?.getD 0 < zs[k]?.getD 0
      · have t : ys[k]?.getD 0 < zs[k]?.getD 0 := hb
        replace hb := hide hb
        go_wp2_with fail
        refine L.out.mono ?_
        rintro e w1 ⟨rfl, rfl⟩
        go_wp2_with fail
        refine P1.out.mono ?_
        rintro e w1 ⟨rfl, rfl⟩
        go_wp2_with fail
        refine P2.out.mono ?_
        rintro e w1 ⟨rfl, rfl⟩
        simp only [List.getD_eq_getElem?_getD]
        go_wp2_with fail
        refine P2.out.mono ?_
        rintro e w1 ⟨rfl, rfl⟩
        simp only [List.getD_eq_getElem?_getD]
        go_wp2_with (at_builtin; refine wpList_append_own _ rfl _ _ 23 rfl w.heap.size 3 i0 (.int .i64 0) 1 8 Try.underlying23 hi0 hzz0 hzz1 hzz2 rfl (by decide) _ _ _ rfl (hown.alloc _) ⟨wr.heap.size, 0, none⟩ 1 1 [.int .i64 (ys[k]?.getD 0)] rfl rfl ?c1 ?c2 ?c3 ?c4 ?c5 ?_)
        case c1 => exact cell_one_new _ _ _
        case c2 => simp [Value.oneCell']
        case c3 => unfold maxLen; omega
        case c4 => omega
        case c5 => have := hB.size; simp; omega
        intro v' w2 hown2 hg _
        have hB2 : Below w.heap.size w w2 := (hB.alloc hB.size _).grown hg (by have := hB.size; simp; omega) (fun k hk => (hown.lt k hk).1)
        have hst' : outV (combine minI zs ys) k ++ [Value.int .i64 (ys[k]?.getD 0)] = outV (combine minI zs ys) (k + 1) := by
          have h1 := hst.out
          have h2 : combine minI zs ys k = ys[k]?.getD 0 := by unfold combine minI; simp only [List.getD_eq_getElem?_getD]; have hbo := hb.out; first | rw [if_pos hbo] | rw [if_neg (by omega)]
          rw [h2] at h1
          exact h1
        rw [hst'] at hown2
        clear hown hg hst' P1 P2
        go_wp2
        go_roundw
        case rel => exact ⟨k + 1, by omega, by go_num, hown2, hB2⟩
        case measure => simp [intOf]; omega
      · have t : ¬ ys[k]?.getD 0 < zs[k]?.getD 0 := hb
        replace hb := hide hb
        go_wp2_with fail
        refine L.out.mono ?_
        rintro e w1 ⟨rfl, rfl⟩
        go_wp2_with fail
        refine P1.out.mono ?_
        rintro e w1 ⟨rfl, rfl⟩
        go_wp2_with fail
        refine P2.out.mono ?_
        rintro e w1 ⟨rfl, rfl⟩
        simp only [List.getD_eq_getElem?_getD]
        go_wp2_with (at_builtin; refine wpList_append_own _ rfl _ _ 23 rfl w.heap.size 3 i0 (.int .i64 0) 1 8 Try.underlying23 hi0 hzz0 hzz1 hzz2 rfl (by decide) _ _ _ rfl (hown.alloc _) ⟨wr.heap.size, 0, none⟩ 1 1 [.int .i64 (zs[k]?.getD 0)] rfl rfl ?c1 ?c2 ?c3 ?c4 ?c5 ?_)
        case c1 => exact cell_one_new _ _ _
        case c2 => simp [Value.oneCell']
        case c3 => unfold maxLen; omega
        case c4 => omega
        case c5 => have := hB.size; simp; omega
        intro v' w2 hown2 hg _
        have hB2 : Below w.heap.size w w2 := (hB.alloc hB.size _).grown hg (by have := hB.size; simp; omega) (fun k hk => (hown.lt k hk).1)
        have hst' : outV (combine minI zs ys) k ++ [Value.int .i64 (zs[k]?.getD 0)] = outV (combine minI zs ys) (k + 1) := by
          have h1 := hst.out
          have h2 : combine minI zs ys k = zs[k]?.getD 0 := by unfold combine minI; simp only [List.getD_eq_getElem?_getD]; have hbo := hb.out; first | rw [if_pos hbo] | rw [if_neg (by omega)]
          rw [h2] at h1
          exact h1
        rw [hst'] at hown2
        clear hown hg hst' P1 P2
        go_wp2
        go_roundw
        case rel => exact ⟨k + 1, by omega, by go_num, hown2, hB2⟩
        case measure => simp [intOf]; omega
    · obtain rfl : k = N := by omega
      obtain ⟨A2, c2, hv, hV⟩ := vec_own (zs := outL (combine minI zs ys) k) hown (outL_in _ _ fun j _ => hio.out j)
      have F : Hid (bothL minI zs ys = trimL (outL (combine minI zs ys) k)) := by unfold bothL; rw [hNe.out]; exact hide rfl
      have hVt := hide (vec_take hV (trimTo_le (outL (combine minI zs ys) k) k))
      have F2 : Hid (trimL (outL (combine minI zs ys) k) = (outL (combine minI zs ys) k).take (trimTo (outL (combine minI zs ys) k) k)) := by unfold trimL; rw [hV.len]; exact hide rfl
      have T := hide (ref_trim_any hV (by omega) k (Nat.le_refl _))
      clear hown hV
      subst hv
      go_wp2_with fail
      refine L.out.mono ?_
      rintro e w1 ⟨rfl, rfl⟩
      go_wp2_with fail
      refine T.out.mono ?_
      rintro e w1 ⟨rfl, rfl⟩
      go_wp2_with fail
      go_ret
      rw [F.out, F2.out]
      exact ⟨A2, _, c2, rfl, hVt.out, hB⟩
theorem equal_any (h : Vec w A n c zs) (g : Vec w B m d ys) (hs : max n m ≤ 1000000) : Calls Try.prog 23 #[.slice A n c, .slice B m d] w fun e w' => e = .returned (.bool (decide (n = m) && eachB eqB zs ys)) ∧ w = w' := by
  have H := hide (ref_same_any h g hs)
  have hn := h.max
  have hm := g.max
  clear h g
  by_cases e : n = m
  · subst e
    go_enter Try.func23, Try.ntmps23
    go_wp2_with fail
    refine H.out.mono ?_
    rintro e w1 ⟨rfl, rfl⟩
    go_wp2_with fail
    go_ret
    exact ⟨ret_b (by simp), rfl⟩
  · have t : ((n : Int) == (m : Int)) = false := by simp; omega
    have hd : decide (n = m) = false := by simpa using e
    go_enter Try.func23, Try.ntmps23
    go_wp2_with fail
    go_ret
    exact ⟨ret_b (by rw [hd]; rfl), rfl⟩
end
end Go.Proofs.Ytgjhhnendondcaa

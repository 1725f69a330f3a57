/-
  More walks over chapter 5: the reference's vector with another number of a device; how many transactions a vector has.
-/
import Derived.Test.YtgjhhnendondcaaWalks6
import Derived.Laws.MakeOwn
namespace Go.Proofs.Ytgjhhnendondcaa
open Go.RowKit
set_option linter.unusedSimpArgs false
set_option linter.unusedVariables false

theorem make_ints {P : Program} (t e : TypeId) (i : TypeInfo) (z : Value) (ht : P.underlying t = some (.slice e)) (hi : P.info? e = some i) (hz : i.zero = some z) (h8 : i.bytes = 8)
    (n : Nat) (hn : n ≤ 100000) (w : World) :
    (Instr.makeSlice t (.int .i64 (n : Int)) (.int .i64 (n : Int))).run P w = .ok (.slice (some ⟨w.heap.size, 0, none⟩) n n) (w.alloc (.cells (madeCells z.cells (n * i.size)) e)) := by
  have hr := run_make (P := P) w t e i z ht hi hz .i64 .i64 n n (by omega) (by omega) (by rw [h8]; omega) (by omega)
  simp only [Int.toNat_natCast] at hr
  exact hr
theorem long_len (A B : Option Addr) (n c m d : Nat) (hn : n ≤ 9223372036854775807) (hm : m ≤ 9223372036854775807) (w : World) : Calls Try.prog 40 #[.slice A n c, .slice B m d] w fun e w' => e = .returned (.int .i64 ((max n m : Nat) : Int)) ∧ w = w' := by
  by_cases hnm : m < n
  · have e : max n m = n := by omega
    rw [e]
    clear e
    go_enter Try.func40, Try.ntmps40
    go_wp2
    go_ret
    exact ⟨rfl, rfl⟩
  · have e : max n m = m := by omega
    rw [e]
    clear e
    go_enter Try.func40, Try.ntmps40
    go_wp2
    go_ret
    exact ⟨rfl, rfl⟩
section
variable {w : World} {A B : Option Addr} {n c m d : Nat} {zs ys : List Int}
theorem ref_trim_vec (h : Vec w A n c zs) (hs : n ≤ 1000000) : Calls Try.prog 29 #[.slice A n c] w (RetVec w (trimL zs)) := by
  refine (ref_trim_any h hs n (Nat.le_refl _)).mono ?_
  rintro e w1 ⟨rfl, rfl⟩
  refine ⟨A, _, c, rfl, ?_, Below.refl _ _⟩
  unfold trimL
  rw [h.len]
  exact vec_take h (trimTo_le zs n)
theorem ref_set_out (dev x : Int) (hd : ¬ (1 ≤ dev ∧ dev ≤ 64)) (h : Vec w A n c zs) (hs : n ≤ 100000) : Calls Try.prog 31 #[.slice A n c, .int .i64 dev, .int .i64 x] w (RetVec w (setL zs dev x)) := by
  have C := hide (ref_trim_vec h (by omega))
  have F := hide (setL_out zs dev x hd)
  clear h
  by_cases h1 : 1 ≤ dev
  all_goals
    try have g1 : ¬ dev ≤ 64 := by omega
    try have g2 : dev < 1 := by omega
    go_enter Try.func31, Try.ntmps31
    go_wp2_with fail
    refine C.out.mono ?_
    rintro e w1 ⟨A1, n1, c1, rfl, hV1, hB1⟩
    replace hV1 := hide hV1
    go_wp2_with fail
    go_ret
    rw [F.out]
    exact ⟨A1, n1, c1, rfl, hV1.out, hB1⟩
set_option maxHeartbeats 1000000 in
theorem ref_set_in (i : Nat) (hi : i < 64) (x : Int) (hx : I64 x) (h : Vec w A n c zs) (hs : n ≤ 100000) : Calls Try.prog 31 #[.slice A n c, .int .i64 ((i : Int) + 1), .int .i64 x] w (RetVec w (setL zs ((i : Int) + 1) x)) := by
  have F := hide (setL_in zs i hi x)
  have hl := hide h.len
  have hz := hide (vec_getD h)
  obtain ⟨i0, hi0, hzz0, hzz1, hzz2⟩ := info_parts info3
  have hmk := fun W => make_ints (P := Try.prog) 23 3 i0 _ Try.underlying23 hi0 hzz0 hzz2 (i + 1) (by omega) W
  have ec : ((i + 1 : Nat) : Int) = (i : Int) + 1 := by omega
  rw [ec] at hmk
  have O1 := fun dev hd W (hB : Below w.heap.size w W) => hide (ref_of_dev dev hd (h.below hB))
  have hn9 : n ≤ 9223372036854775807 := by omega
  have hi9 : i + 1 ≤ 9223372036854775807 := by omega
  have hNs : max n (i + 1) ≤ 100064 := by omega
  rw [hl.out] at F
  obtain ⟨N, hNN⟩ : ∃ N, max n (i + 1) = N := ⟨_, rfl⟩
  rw [hNN] at F hNs
  have hd1 : decide (64 < (i : Int) + 1) = false := by simp; omega
  have hd2 : decide ((i : Int) + 1 < 1) = false := by simp; omega
  clear h ec
  replace hNN := hide hNN
  replace hx := hide hx
  go_enter Try.func31, Try.ntmps31
  go_wp2_with fail
  go_loopw [7, 8] (fun out dv wr => ∃ k : Nat, k ≤ N ∧ dv = .int .i64 ((k : Int) + 1) ∧ wr.ownsRow w.heap.size 3 1 out k (outV (setF zs i x) k) ∧ Below w.heap.size w wr) (fun _ dv _ => N + 1 - (intOf dv).toNat)
  case atStart => exact ⟨0, by omega, rfl, World.ownsRow_nil _ _ _ _, Below.refl _ _⟩
  case round =>
    obtain ⟨k, hk, rfl, hown, hB⟩ := hrel
    by_cases hlt : k < N
    · have e1 := hide (ofL_at zs k)
      have hI : I64 ((k : Int) + 1) := ⟨by omega, by omega⟩
      replace hI := hide hI
      have hst := hide (outV_step (setF zs i x) k)
      have hlt' : (k : Int) + 1 ≤ (N : Int) := by omega
      by_cases hki : k = i
      · have t : ((k : Int) + 1 == (i : Int) + 1) = true := by simp; omega
        replace hki := hide hki
        go_wp2_with fail
        generalize hX : wr.alloc _ = X
        have hBX : Below w.heap.size w X := by rw [← hX]; exact hB.alloc hB.size _
        have hownX : X.ownsRow w.heap.size 3 1 u7 k (outV (setF zs i x) k) := by rw [← hX]; exact hown.alloc _
        have OX := O1 _ hI.out X hBX
        rw [e1.out] at OX
        clear hX
        refine (long_len _ _ _ _ _ _ hn9 hi9 _).mono ?_
        rintro e w1 ⟨rfl, rfl⟩
        rw [hNN.out]
        clear OX
        go_wp2_with (at_builtin; refine wpList_append_own _ rfl _ _ 23 rfl w.heap.size 3 i0 (.int .i64 0) 1 8 Try.underlying23 hi0 hzz0 hzz1 hzz2 rfl (by decide) _ _ _ rfl (hownX.alloc _) ⟨X.heap.size, 0, none⟩ 1 1 [.int .i64 (x)] rfl rfl ?c1 ?c2 ?c3 ?c4 ?c5 ?_)
        case c1 => exact cell_one_new _ _ _
        case c2 => simp [Value.oneCell']
        case c3 => unfold maxLen; omega
        case c4 => omega
        case c5 => have := hBX.size; simp; omega
        intro v' w2 hown2 hg _
        have hB2 : Below w.heap.size w w2 := (hBX.alloc hBX.size _).grown hg (by have := hBX.size; simp; omega) (fun k hk => (hownX.lt k hk).1)
        have hst' : outV (setF zs i x) k ++ [Value.int .i64 (x)] = outV (setF zs i x) (k + 1) := by
          have h1 := hst.out
          have h2 : setF zs i x k = x := by unfold setF; rw [if_pos hki.out]
          rw [h2] at h1
          exact h1
        rw [hst'] at hown2
        clear hown hownX hg hst'
        go_wp2
        go_roundw
        case rel => exact ⟨k + 1, by omega, by go_num, hown2, hB2⟩
        case measure => simp [intOf]; omega
      · have t : ((k : Int) + 1 == (i : Int) + 1) = false := by simp; omega
        replace hki := hide hki
        go_wp2_with fail
        generalize hX : wr.alloc _ = X
        have hBX : Below w.heap.size w X := by rw [← hX]; exact hB.alloc hB.size _
        have hownX : X.ownsRow w.heap.size 3 1 u7 k (outV (setF zs i x) k) := by rw [← hX]; exact hown.alloc _
        have OX := O1 _ hI.out X hBX
        rw [e1.out] at OX
        clear hX
        refine (long_len _ _ _ _ _ _ hn9 hi9 _).mono ?_
        rintro e w1 ⟨rfl, rfl⟩
        rw [hNN.out]
        go_wp2_with fail
        refine OX.out.mono ?_
        rintro e w1 ⟨rfl, rfl⟩
        clear OX
        simp only [List.getD_eq_getElem?_getD]
        go_wp2_with (at_builtin; refine wpList_append_own _ rfl _ _ 23 rfl w.heap.size 3 i0 (.int .i64 0) 1 8 Try.underlying23 hi0 hzz0 hzz1 hzz2 rfl (by decide) _ _ _ rfl (hownX.alloc _) ⟨X.heap.size, 0, none⟩ 1 1 [.int .i64 (zs[k]?.getD 0)] rfl rfl ?d1 ?d2 ?d3 ?d4 ?d5 ?_)
        case d1 => exact cell_one_new _ _ _
        case d2 => simp [Value.oneCell']
        case d3 => unfold maxLen; omega
        case d4 => omega
        case d5 => have := hBX.size; simp; omega
        intro v' w2 hown2 hg _
        have hB2 : Below w.heap.size w w2 := (hBX.alloc hBX.size _).grown hg (by have := hBX.size; simp; omega) (fun k hk => (hownX.lt k hk).1)
        have hst' : outV (setF zs i x) k ++ [Value.int .i64 (zs[k]?.getD 0)] = outV (setF zs i x) (k + 1) := by
          have h1 := hst.out
          have h2 : setF zs i x k = zs[k]?.getD 0 := by unfold setF; rw [if_neg hki.out, List.getD_eq_getElem?_getD]
          rw [h2] at h1
          exact h1
        rw [hst'] at hown2
        clear hown hownX hg hst'
        go_wp2
        go_roundw
        case rel => exact ⟨k + 1, by omega, by go_num, hown2, hB2⟩
        case measure => simp [intOf]; omega
    · obtain rfl : k = N := by omega
      obtain ⟨A2, c2, hv, hV⟩ := vec_own (zs := outL (setF zs i x) k) hown (outL_in _ _ fun j _ => by unfold setF; split; exact hx.out; exact hz.out j)
      replace hV := hide hV
      clear hown
      subst hv
      go_wp2_with fail
      generalize hX : wr.alloc _ = X
      have hVX := hide (hV.out.below (by rw [← hX]; exact (Below.refl _ _).alloc (Nat.le_refl _) _ : Below wr.heap.size wr X))
      have hBX : Below w.heap.size w X := by rw [← hX]; exact hB.alloc hB.size _
      clear hX
      refine (long_len _ _ _ _ _ _ hn9 hi9 _).mono ?_
      rintro e w1 ⟨rfl, rfl⟩
      rw [hNN.out]
      go_wp2_with fail
      refine (ref_trim_vec hVX.out (by omega)).mono ?_
      rintro e w2 ⟨A3, n3, c3, rfl, hV3, hB3⟩
      replace hV3 := hide hV3
      go_wp2_with fail
      go_ret
      rw [F.out]
      exact ⟨A3, n3, c3, rfl, hV3.out, hBX.trans (hB3.mono hBX.size)⟩
end
end Go.Proofs.Ytgjhhnendondcaa

/-
  More walks over chapter 5: a vector with another number of a device, by package vector and by its reference; how many transactions a vector has.
-/
import Derived.Test.YtgjhhnendondcaaWalks5
namespace Go.Proofs.Ytgjhhnendondcaa
open Go.RowKit
set_option linter.unusedSimpArgs false
set_option linter.unusedVariables false

def padF (zs : List Int) (j : Nat) : Int := zs.getD j 0
def setF (zs : List Int) (i : Nat) (x : Int) (j : Nat) : Int := if j = i then x else zs.getD j 0
theorem outL_len (f : Nat → Int) (k : Nat) : (outL f k).length = k := by simp [outL]
theorem outL_get (f : Nat → Int) (k j : Nat) (h : j < k) : (outL f k).getD j 0 = f j := by
  rw [List.getD_eq_getElem?_getD, List.getElem?_eq_getElem (by rw [outL_len]; exact h)]
  simp [outL]
theorem pad_self (zs : List Int) : outL (padF zs) zs.length = zs := by
  apply List.ext_getElem
  · rw [outL_len]
  · intro j h1 h2
    have := outL_get (padF zs) zs.length j h2
    rw [List.getD_eq_getElem?_getD, List.getElem?_eq_getElem h1] at this
    simp only [Option.getD_some] at this
    rw [this]
    unfold padF
    rw [List.getD_eq_getElem?_getD, List.getElem?_eq_getElem h2]
    rfl
theorem set_pad (zs : List Int) (i k : Nat) (x : Int) : (outV (padF zs) k).set i (.int .i64 x) = outV (setF zs i x) k := by
  apply List.ext_getElem
  · simp [outV, outL]
  · intro j h1 h2
    simp only [outV, outL, List.getElem_set, List.getElem_map, List.getElem_range, setF, padF]
    split
    · rename_i e; rw [if_pos e.symm]
    · rename_i e; rw [if_neg (fun h => e h.symm)]
def lenV : Value → Nat | .slice _ n _ => n | _ => 0
/-- A vector with another number of a device. -/
def setL (zs : List Int) (dev x : Int) : List Int := if 1 ≤ dev ∧ dev ≤ 64 then trimL (outL (setF zs (dev - 1).toNat x) (max zs.length dev.toNat)) else trimL zs
theorem setL_in (zs : List Int) (i : Nat) (hi : i < 64) (x : Int) : setL zs ((i : Int) + 1) x = trimL (outL (setF zs i x) (max zs.length (i + 1))) := by
  unfold setL
  rw [if_pos (by omega)]
  congr 2
  · congr 1; omega
theorem setL_out (zs : List Int) (dev x : Int) (h : ¬ (1 ≤ dev ∧ dev ≤ 64)) : setL zs dev x = trimL zs := if_neg h
section
variable {w : World} {A B : Option Addr} {n c m d : Nat} {zs ys : List Int}
theorem set_out (dev x : Int) (hd : ¬ (1 ≤ dev ∧ dev ≤ 64)) (h : Vec w A n c zs) (hs : n ≤ 100000) : Calls Try.prog 30 #[.slice A n c, .int .i64 dev, .int .i64 x] w (RetVec w (setL zs dev x)) := by
  have C := hide (clone_any h (by omega))
  have F := hide (setL_out zs dev x hd)
  have hl := hide h.len
  clear h
  by_cases h1 : 1 ≤ dev
  all_goals
    try have g1 : ¬ dev ≤ 64 := by omega
    go_enter Try.func30, Try.ntmps30
    go_wp2_with fail
    refine C.out.mono ?_
    rintro e w1 ⟨A1, n1, c1, rfl, hV1, hB1⟩
    have hn1 : n1 ≤ 100000 := by rw [← hV1.len, hl.out]; exact hs
    replace hV1 := hide hV1
    go_wp2_with fail
    refine (trim_any hV1.out (by omega)).mono ?_
    rintro e w2 ⟨A2, n2, c2, rfl, hV2, hB2⟩
    replace hV2 := hide hV2
    go_wp2_with fail
    go_ret
    rw [F.out]
    exact ⟨A2, n2, c2, rfl, hV2.out, hB1.trans (hB2.mono hB1.size)⟩
set_option maxHeartbeats 1000000 in
theorem set_in (i : Nat) (hi : i < 64) (x : Int) (hx : I64 x) (h : Vec w A n c zs) (hs : n ≤ 100000) : Calls Try.prog 30 #[.slice A n c, .int .i64 ((i : Int) + 1), .int .i64 x] w (RetVec w (setL zs ((i : Int) + 1) x)) := by
  have C := hide (clone_own h (by omega))
  have F := hide (setL_in zs i hi x)
  have hl := hide h.len
  have hz := hide (vec_getD h)
  have P := hide (pad_self zs)
  obtain ⟨i0, hi0, hzz0, hzz1, hzz2⟩ := info_parts info3
  have hNn : n ≤ max n (i + 1) := by omega
  have hNi : i + 1 ≤ max n (i + 1) := by omega
  have hNe : max n (i + 1) = n ∨ max n (i + 1) = i + 1 := by omega
  have hNs : max n (i + 1) ≤ 100064 := by omega
  rw [hl.out] at F P
  have hd1 : decide ((i : Int) + 1 ≤ 64) = true := by simp; omega
  clear h
  generalize max n (i + 1) = N at F hNn hNi hNe hNs
  replace hx := hide hx
  go_enter Try.func30, Try.ntmps30
  go_wp2_with fail
  refine C.out.mono ?_
  rintro e w1 ⟨v1, n1, rfl, hn1, hown1, hB1⟩
  have e1 : n1 = n := by rw [← hn1, hl.out]
  subst e1
  replace hown1 := hide hown1
  go_wp2_with fail
  go_loopw [7] (fun out wr => ∃ k : Nat, n1 ≤ k ∧ (k = n1 ∨ k ≤ i + 1) ∧ wr.ownsRow w.heap.size 3 1 out k (outV (padF zs) k) ∧ Below w.heap.size w wr) (fun out _ => i + 1 - lenV out)
  case atStart => exact ⟨n1, Nat.le_refl _, Or.inl rfl, by unfold outV; rw [P.out]; exact hown1.out, hB1⟩
  case round =>
    obtain ⟨k, hk1, hk2, hown, hB⟩ := hrel
    rcases Joins.ownsRow_forms hown with ⟨hv, hk0⟩ | ⟨g, cap, hv⟩
    · subst hk0
      have hlt : 0 < i + 1 := by omega
      have hst := hide (outV_step (padF zs) 0)
      have hp0 : padF zs 0 = 0 := by unfold padF; rw [List.getD_eq_getElem?_getD, List.getElem?_eq_none (by rw [hl.out]; omega)]; rfl
      rw [hp0] at hst
      clear hp0
      subst hv
      go_wp2_with (at_builtin; refine wpList_append_own _ rfl _ _ 23 rfl w.heap.size 3 i0 (.int .i64 0) 1 8 Try.underlying23 hi0 hzz0 hzz1 hzz2 rfl (by decide) _ _ _ rfl (hown.alloc _) ⟨wr.heap.size, 0, none⟩ 1 1 [.int .i64 0] rfl rfl ?c1 ?c2 ?c3 ?c4 ?c5 ?_)
      try case c1 => exact cell_one_new _ _ _
      try case c2 => simp [Value.oneCell']
      try case c3 => unfold maxLen; omega
      try case c4 => omega
      try case c5 => have := hB.size; simp; omega
      intro v' w2 hown2 hg _
      have hB2 : Below w.heap.size w w2 := (hB.alloc hB.size _).grown hg (by have := hB.size; simp; omega) (fun k hk => (hown.lt k hk).1)
      have hst' : outV (padF zs) 0 ++ [Value.int .i64 0] = outV (padF zs) (0 + 1) := hst.out
      rw [hst'] at hown2
      have hlv : lenV v' = 0 + 1 := by
        rcases Joins.ownsRow_forms hown2 with ⟨_, h⟩ | ⟨_, _, h⟩
        · omega
        · rw [h]; rfl
      replace hlv := hide hlv
      clear hown hg hst'
      go_wp2
      go_roundw
      case rel => exact ⟨0 + 1, by omega, by omega, hown2, hB2⟩
      case measure => rw [hlv.out]; simp [lenV]
    · by_cases hki : k < i + 1
      · have hlt : k < i + 1 := by omega
        have hst := hide (outV_step (padF zs) k)
        have hp0 : padF zs k = 0 := by unfold padF; rw [List.getD_eq_getElem?_getD, List.getElem?_eq_none (by rw [hl.out]; omega)]; rfl
        rw [hp0] at hst
        clear hp0
        subst hv
        go_wp2_with (at_builtin; refine wpList_append_own _ rfl _ _ 23 rfl w.heap.size 3 i0 (.int .i64 0) 1 8 Try.underlying23 hi0 hzz0 hzz1 hzz2 rfl (by decide) _ _ _ rfl (hown.alloc _) ⟨wr.heap.size, 0, none⟩ 1 1 [.int .i64 0] rfl rfl ?d1 ?d2 ?d3 ?d4 ?d5 ?_)
        try case d1 => exact cell_one_new _ _ _
        try case d2 => simp [Value.oneCell']
        try case d3 => unfold maxLen; omega
        try case d4 => omega
        try case d5 => have := hB.size; simp; omega
        intro v' w2 hown2 hg _
        have hB2 : Below w.heap.size w w2 := (hB.alloc hB.size _).grown hg (by have := hB.size; simp; omega) (fun k hk => (hown.lt k hk).1)
        have hst' : outV (padF zs) k ++ [Value.int .i64 0] = outV (padF zs) (k + 1) := hst.out
        rw [hst'] at hown2
        have hlv : lenV v' = k + 1 := by
          rcases Joins.ownsRow_forms hown2 with ⟨_, h⟩ | ⟨_, _, h⟩
          · omega
          · rw [h]; rfl
        replace hlv := hide hlv
        clear hown hg hst'
        go_wp2
        go_roundw
        case rel => exact ⟨k + 1, by omega, by omega, hown2, hB2⟩
        case measure => rw [hlv.out]; simp [lenV]; omega
      · have hkN : k = N := by omega
        subst hkN
        rw [hv] at hown
        have hcell : wr.cell? ⟨g, i, none⟩ = some (.int .i64 (padF zs i)) := by
          rw [hown.cellAt i (by rw [Nat.mul_one]; omega)]
          have hik : i < k := by omega
          simp [outV, outL, hik]
        have hfr := hown.frozenAt i
        obtain ⟨hown2, hg2⟩ := hown.stored i (.int .i64 x)
        rw [set_pad] at hown2
        have hgl := (hown.lt g rfl).1
        have hB2 : Below w.heap.size w (wr.setCell ⟨g, i, none⟩ (.int .i64 x)) := hB.setCell hgl _
        obtain ⟨A2, c2, hv2, hV⟩ := vec_own (zs := outL (setF zs i x) k) hown2 (outL_in _ _ fun j _ => by unfold setF; split; exact hx.out; exact hz.out j)
        injection hv2 with q1 _ q2
        subst q1 q2
        replace hV := hide hV
        have hik : (i : Int) < (k : Int) := by omega
        clear hown hown2 hg2 hki
        subst hv
        go_wp2_with fail
        refine (trim_any hV.out (by omega)).mono ?_
        rintro e w2 ⟨A3, n3, c3, rfl, hV3, hB3⟩
        replace hV3 := hide hV3
        go_wp2_with fail
        go_ret
        rw [F.out]
        exact ⟨A3, n3, c3, rfl, hV3.out, hB2.trans (hB3.mono hB2.size)⟩
end
end Go.Proofs.Ytgjhhnendondcaa

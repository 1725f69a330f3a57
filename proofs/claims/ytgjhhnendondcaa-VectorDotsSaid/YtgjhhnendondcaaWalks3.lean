/-
  More walks over chapter 5: copies, vectors without noughts at their ends, by package vector and by its reference.
-/
import Derived.Test.YtgjhhnendondcaaWalks2
import Derived.Laws.AppendOwn
import Derived.OwnWalk
import Derived.Deep.AppendLies
namespace Go.Proofs.Ytgjhhnendondcaa
open Go.RowKit
set_option linter.unusedSimpArgs false
set_option linter.unusedVariables false

/-- A call returns a vector that reads as zs; the old memory is as it was. -/
def RetVec (w : World) (zs : List Int) (e : Ending) (w' : World) : Prop := ∃ A n c, e = .returned (.slice A n c) ∧ Vec w' A n c zs ∧ Below w.heap.size w w'
/-- A call returns a row of its own that holds zs; the old memory is as it was. -/
def RetOwn (w : World) (zs : List Int) (e : Ending) (w' : World) : Prop := ∃ v n, e = .returned v ∧ zs.length = n ∧ w'.ownsRow w.heap.size 3 1 v n (zs.map (.int .i64)) ∧ Below w.heap.size w w'
theorem vec_nil (w : World) : Vec w none 0 0 [] := ⟨⟨rfl, fun h => by omega⟩, Nat.le_refl _, by unfold maxLen; omega, fun _ => rfl, by simp⟩
theorem vec_own {w : World} {base n : Nat} {v : Value} {zs : List Int} (h : w.ownsRow base 3 1 v n (zs.map (.int .i64))) (hz : ∀ z ∈ zs, I64 z) : ∃ A c, v = .slice A n c ∧ Vec w A n c zs := by
  have hl : zs.length = n := by have := h.1; simpa using this
  rcases h.2 with ⟨rfl, rfl⟩ | ⟨g, cap, cur, rfl, _, hh, hnc, hcm, hcs, hcc⟩
  · exact ⟨none, 0, rfl, ⟨⟨hl, fun h => by omega⟩, Nat.le_refl _, by unfold maxLen; omega, fun _ => rfl, hz⟩⟩
  · refine ⟨_, cap, rfl, ⟨⟨hl, fun hn => ⟨g, 0, rfl, ?_, fun j hj => ?_⟩⟩, hnc, hcm, (fun e => by simp at e), hz⟩⟩
    · exact (h.lt g rfl).2
    · have hc := h.cells (g := g) rfl j (.int .i64 (zs.getD j 0)) (by simp [List.getElem?_eq_getElem (show j < zs.length by omega)])
      rw [Go.WideShapes.add_plain] at hc
      exact hc
theorem info3 : (Try.prog.info? 3).map (fun i => (i.zero, i.size, i.bytes)) = some (some (.int .i64 0), 1, 8) := by kernel_rfl
section
variable {w : World} {A : Option Addr} {n c : Nat} {zs : List Int}
theorem clone_own (h : Vec w A n c zs) (hs : n ≤ 1000000) : Calls Try.prog 45 #[.slice A n c] w (RetOwn w zs) := by
  have hl := hide h.len
  cases A with
  | none =>
    have hn : n = 0 := by
      rcases Nat.eq_zero_or_pos n with h0 | h0
      · exact h0
      · obtain ⟨b, off, e, _⟩ := h.1.2 h0; cases e
    have hc := h.2.2.2.1 rfl
    subst hn hc
    have hz : zs = [] := List.eq_nil_of_length_eq_zero hl.out
    subst hz
    clear h hl
    have hq := fun (W : World) => Lib.run_eql_slice_nil (P := Try.prog) W 23 3 none 0 0 0 0 Try.underlying23
    simp only [Option.isNone_none] at hq
    go_enter Try.func45, Try.ntmps45
    go_wp2
    go_ret
    exact ⟨_, 0, rfl, rfl, World.ownsRow_nil _ _ _ _, Below.refl _ _⟩
  | some ad =>
    obtain ⟨i0, hi0, hz0, hz1, hz2⟩ := info_parts info3
    have hcells : ∀ j u, (zs.map (Value.int .i64))[j]? = some u → (w.alloc (.cells #[] 3)).cell? (ad.add j) = some u := by
      intro j u hu
      have hj : j < zs.length := by
        rcases Nat.lt_or_ge j zs.length with hlt | hge
        · exact hlt
        · rw [List.getElem?_eq_none (by simpa using hge)] at hu; cases hu
      obtain ⟨b, off, e, hb, hcl⟩ := h.1.2 (by rw [← hl.out]; omega)
      injection e with e
      subst e
      have hk := hcl j (by rw [← hl.out]; exact hj)
      rw [Go.WideShapes.add_plain, World.cell?_alloc_lt _ _ _ (by exact hb), hk]
      simpa [hj] using hu
    have hq := fun (W : World) => Lib.run_eql_slice_nil (P := Try.prog) W 23 3 (some ad) n c 0 0 Try.underlying23
    simp only [Option.isNone_some] at hq
    have hlen : (zs.map (Value.int .i64)).length = n * 1 := by simp [hl.out]
    have h1 : ∀ u ∈ zs.map (Value.int .i64), u.oneCell' = true := by
      intro u hu; obtain ⟨z, _, rfl⟩ := List.mem_map.1 hu; rfl
    have hzz := hide h.2.2.2.2
    replace hcells := hide hcells
    replace h1 := hide h1
    replace hlen := hide hlen
    obtain ⟨xs, hxs⟩ : ∃ xs, xs = zs.map (Value.int .i64) := ⟨_, rfl⟩
    rw [← hxs] at hcells h1 hlen
    replace hxs := hide hxs
    clear h
    go_enter Try.func45, Try.ntmps45
    go_wp2_with (at_builtin; refine wpList_append_own _ rfl _ _ 23 rfl w.heap.size 3 i0 (.int .i64 0) 1 8 Try.underlying23 hi0 hz0 hz1 hz2 rfl (by decide) _ 0 [] rfl (World.ownsRow_made w #[] 0 (Nat.le_refl _) (by unfold maxLen; omega) rfl) ad n c xs rfl hlen.out hcells.out h1.out ?c3 ?c4 ?c5 ?_)
    case c3 => unfold maxLen; omega
    case c4 => omega
    case c5 => simp
    intro v' w2 hown2 hg _
    have hB2 : Below w.heap.size w w2 := ((Below.refl _ _).alloc (Nat.le_refl _) _).grown hg (by simp) (fun k hk => by simp [Value.ownBlock] at hk; omega)
    rw [hxs.out] at hown2
    replace hown2 := hide hown2
    clear hg hq
    go_wp2
    go_ret
    exact ⟨v', n, rfl, hl.out, hown2.out, hB2⟩
theorem clone_any (h : Vec w A n c zs) (hs : n ≤ 1000000) : Calls Try.prog 45 #[.slice A n c] w (RetVec w zs) := by
  have hz := h.2.2.2.2
  refine (clone_own h hs).mono ?_
  rintro e w1 ⟨v, k, rfl, hk, hown, hB⟩
  obtain ⟨A2, c2, rfl, hV⟩ := vec_own hown hz
  exact ⟨A2, k, c2, rfl, hV, hB⟩
/-- How many places are left without the noughts at the end of the first k. -/
def trimTo (zs : List Int) : Nat → Nat
  | 0 => 0
  | k + 1 => if zs.getD k 0 = 0 then trimTo zs k else k + 1
theorem trimTo_le (zs : List Int) : ∀ k, trimTo zs k ≤ k
  | 0 => Nat.le_refl _
  | k + 1 => by unfold trimTo; split; exact Nat.le_succ_of_le (trimTo_le zs k); exact Nat.le_refl _
theorem trimTo_zero {zs : List Int} {k : Nat} (h : zs.getD k 0 = 0) : trimTo zs (k + 1) = trimTo zs k := if_pos h
theorem trimTo_not {zs : List Int} {k : Nat} (h : ¬ zs.getD k 0 = 0) : trimTo zs (k + 1) = k + 1 := if_neg h
def trimL (zs : List Int) : List Int := zs.take (trimTo zs zs.length)
theorem vec_take (h : Vec w A n c zs) {k : Nat} (hk : k ≤ n) : Vec w A k c (zs.take k) := by
  refine ⟨⟨by rw [List.length_take, h.len]; omega, fun hp => ?_⟩, Nat.le_trans hk h.2.1, h.2.2.1, h.2.2.2.1, fun z hz => h.2.2.2.2 z (List.mem_of_mem_take hz)⟩
  obtain ⟨b, off, e, hb, hc⟩ := h.1.2 (by omega)
  refine ⟨b, off, e, hb, fun j hj => ?_⟩
  rw [hc j (by omega)]
  simp only [List.getD_eq_getElem?_getD, List.getElem?_take, if_pos hj]
theorem trim_any (h : Vec w A n c zs) (hs : n ≤ 1000000) : Calls Try.prog 28 #[.slice A n c] w (RetVec w (trimL zs)) := by
  have hl := hide h.len
  have hnc := h.2.1
  have hcm : c ≤ 9223372036854775807 := by have := h.2.2.1; unfold maxLen at this; exact this
  have hA := hide h.2.2.2.1
  replace h := hide h
  go_enter Try.func28, Try.ntmps28
  go_wp2
  go_loop [3] (fun i => ∃ k : Nat, k ≤ n ∧ i = .int .i64 k ∧ Hid (trimTo zs n = trimTo zs k)) (fun i => (intOf i).toNat)
  case atStart => exact ⟨n, Nat.le_refl _, rfl, rfl⟩
  case round =>
    obtain ⟨k, hk, rfl, hd⟩ := hrel
    have fin : trimTo zs k = k → Hid (RetVec w (trimL zs) = RetVec w (zs.take k)) := by
      intro e
      unfold trimL
      rw [hl.out, hd.out, e]
      exact hide rfl
    by_cases h0 : k = 0
    · subst h0
      have F := fin rfl
      have hV := hide (vec_take h.out hk)
      clear fin
      go_wp2_with fail
      refine (clone_any hV.out (by omega)).mono ?_
      rintro e w1 ⟨A1, n1, c1, rfl, hV1, hB1⟩
      replace hV1 := hide hV1
      go_wp2_with fail
      go_ret
      rw [F.out]
      exact ⟨A1, n1, c1, rfl, hV1.out, hB1⟩
    · obtain ⟨j, rfl⟩ : ∃ j, k = j + 1 := ⟨k - 1, by omega⟩
      obtain ⟨b, off, rfl, hcell⟩ := h.out.at_ (k := j) (by omega)
      have hj : j < n := by omega
      have hpos : (0 : Int) < ((j + 1 : Nat) : Int) := by omega
      by_cases hz0 : zs[j]?.getD 0 = 0
      · have hd' : Hid (trimTo zs n = trimTo zs j) := by
          rw [hd.out]; exact hide (trimTo_zero (by rw [List.getD_eq_getElem?_getD]; exact hz0))
        have t : (zs[j]?.getD 0 == 0) = true := by simp [hz0]
        clear hd fin hz0
        go_wp2
        go_round
        case rel => exact ⟨j, by omega, by go_num, hd'⟩
        case measure => simp [intOf]
      · have F := fin (trimTo_not (by rw [List.getD_eq_getElem?_getD]; exact hz0))
        have t : (zs[j]?.getD 0 == 0) = false := by simp [hz0]
        have hV := hide (vec_take h.out hk)
        clear fin hz0
        have hkc : j + 1 ≤ c := by omega
        go_wp2_with fail
        refine (clone_any hV.out (by omega)).mono ?_
        rintro e w1 ⟨A1, n1, c1, rfl, hV1, hB1⟩
        replace hV1 := hide hV1
        go_wp2_with fail
        go_ret
        rw [F.out]
        exact ⟨A1, n1, c1, rfl, hV1.out, hB1⟩
end
end Go.Proofs.Ytgjhhnendondcaa

/-
  More walks over chapter 5: what one vector lacks of another one, by the reference.
-/
import Derived.Test.YtgjhhnendondcaaWalks8
namespace Go.Proofs.Ytgjhhnendondcaa
open Go.RowKit
set_option linter.unusedSimpArgs false
set_option linter.unusedVariables false

section
variable {w : World} {A B : Option Addr} {n c m d : Nat} {zs ys : List Int}
set_option maxHeartbeats 1000000 in
theorem ref_lacks_any (h : Vec w A n c zs) (g : Vec w B m d ys) (hs : rightB ys = true → ys.sum ≤ 5000) : Calls Try.prog 35 #[.slice A n c, .slice B m d] w (RetDots w (lacksL zs ys)) := by
  have R1 := hide (ref_right_any h)
  have R2 := hide (ref_right_any g)
  cases hr1 : rightB zs with
  | false =>
    rw [hr1] at R1
    have F : Hid (lacksL zs ys = []) := by unfold lacksL; rw [if_neg (by rw [hr1]; simp)]; exact hide rfl
    clear h g hs hr1 R2
    go_enter Try.func35, Try.ntmps35
    go_wp2_with fail
    refine R1.out.mono ?_
    rintro e w1 ⟨rfl, rfl⟩
    go_wp2_with fail
    go_ret
    rw [F.out]
    exact ⟨none, 0, 0, rfl, Nat.le_refl _, by unfold maxLen; omega, ⟨rfl, fun h => by omega⟩, Below.refl _ _⟩
  | true =>
  cases hr2 : rightB ys with
  | false =>
    rw [hr1] at R1
    rw [hr2] at R2
    have F : Hid (lacksL zs ys = []) := by unfold lacksL; rw [if_neg (by rw [hr2]; simp)]; exact hide rfl
    clear h g hs hr1 hr2
    go_enter Try.func35, Try.ntmps35
    go_wp2_with fail
    refine R1.out.mono ?_
    rintro e w1 ⟨rfl, rfl⟩
    go_wp2_with fail
    refine R2.out.mono ?_
    rintro e w1 ⟨rfl, rfl⟩
    go_wp2_with fail
    go_ret
    rw [F.out]
    exact ⟨none, 0, 0, rfl, Nat.le_refl _, by unfold maxLen; omega, ⟨rfl, fun h => by omega⟩, Below.refl _ _⟩
  | true =>
  rw [hr1] at R1
  rw [hr2] at R2
  have F : Hid (lacksL zs ys = pre zs ys ys.length) := by unfold lacksL; rw [if_pos ⟨hr1, hr2⟩]; exact hide rfl
  have fa := hide (fine_of_right hr1)
  have fb := hide (fine_of_right hr2)
  replace hs := hide (hs hr2)
  have hn := h.max
  have hl := hide h.len
  have gl := hide g.len
  have hm64 : m ≤ 64 := by have := fb.out.1; rw [gl.out] at this; exact this
  obtain ⟨i0, hi0, hzz0, hzz1, hzz2⟩ := info_parts info25
  have O1 := fun dev hd W (hB : Below w.heap.size w W) => hide (ref_of_dev dev hd (h.below hB))
  have O2 := fun dev hd W (hB : Below w.heap.size w W) => hide (ref_of_dev dev hd (g.below hB))
  clear h g hr1 hr2
  go_enter Try.func35, Try.ntmps35
  go_wp2_with fail
  refine R1.out.mono ?_
  rintro e w1 ⟨rfl, rfl⟩
  go_wp2_with fail
  refine R2.out.mono ?_
  rintro e w1 ⟨rfl, rfl⟩
  go_wp2_with fail
  go_loopw [5, 6, 7] (fun out i _ wr => ∃ k : Nat, k ≤ m ∧ i = .int .i64 ((k : Int) + 1) ∧ wr.ownsRow w.heap.size 25 2 out (pre zs ys k).length (dotV (pre zs ys k)) ∧ Below w.heap.size w wr) (fun _ i _ _ => m + 1 - (intOf i).toNat)
  case atStart => exact ⟨0, by omega, rfl, World.ownsRow_nil _ _ _ _, Below.refl _ _⟩
  case round =>
    obtain ⟨k, hk, rfl, hown, hB⟩ := hrel
    by_cases hlt : k < m
    · have e1 := hide (ofL_at zs k)
      have hI : I64 ((k : Int) + 1) := ⟨by omega, by omega⟩
      replace hI := hide hI
      have OX := O1 _ hI.out wr hB
      rw [e1.out] at OX
      have hl1 := pre_len zs ys fa.out.2 fb.out.2 (k + 1) (by rw [gl.out]; omega)
      have hl2 := take_sum_le ys fb.out.2 (k + 1)
      have hl3 : (pre zs ys (k + 1)).length = (pre zs ys k).length + cnt zs ys k := by rw [pre_succ, List.length_append, seg_len]
      have hso := hs.out
      have hbnd : (pre zs ys k).length + cnt zs ys k ≤ 5000 := by omega
      clear hl1 hl2 hl3 hso
      obtain ⟨x1, x2⟩ := fine_getD fa.out.2 k
      obtain ⟨y1, y2⟩ := fine_getD fb.out.2 k
      have hltI : (k : Int) + 1 ≤ (m : Int) := by omega
      have e2 := hide (ofL_at ys k)
      have hcnt : (cnt zs ys k : Int) = if zs.getD k 0 ≤ ys.getD k 0 then ys.getD k 0 - zs.getD k 0 else 0 := by unfold cnt; split <;> omega
      replace hcnt := hide hcnt
      go_wp2_with fail
      refine OX.out.mono ?_
      rintro e w1 ⟨rfl, rfl⟩
      simp only [List.getD_eq_getElem?_getD] at x1 x2 y1 y2 ⊢
      go_wp2_with fail
      obtain ⟨wo, hwo⟩ : ∃ wo : World, wo = wr := ⟨_, rfl⟩
      subst hwo
      obtain ⟨X, hX⟩ : ∃ X, X = zs[k]?.getD 0 := ⟨_, rfl⟩
      obtain ⟨Y, hY⟩ : ∃ Y, Y = ys[k]?.getD 0 := ⟨_, rfl⟩
      have hXd : zs.getD k 0 = X := by rw [hX, List.getD_eq_getElem?_getD]
      have hYd : ys.getD k 0 = Y := by rw [hY, List.getD_eq_getElem?_getD]
      rw [hXd, hYd] at hcnt
      have O3 := fun W hB => hide (O2 _ hI.out W hB).out
      rw [e2.out, hYd] at O3
      rw [← hX] at x1 x2 ⊢
      rw [← hY] at y1 y2
      replace hXd := hide hXd
      clear hX hY hYd e1 e2 hI OX
      go_loopw [5, 7] (fun out nn wr => ∃ j : Nat, j ≤ cnt zs ys k ∧ nn = .int .i64 (X + 1 + (j : Int)) ∧ wr.ownsRow w.heap.size 25 2 out ((pre zs ys k).length + j) (dotV (pre zs ys k ++ seg zs k j)) ∧ Below w.heap.size w wr) (fun _ nn _ => (Y + 1 - intOf nn).toNat)
      case atStart => exact ⟨0, by omega, by simp, by simpa [seg] using hown, hB⟩
      case round =>
        obtain ⟨j, hj, rfl, hown1, hB1⟩ := hrel
        have OY := O3 wr hB1
        have hco := hcnt.out
        by_cases hjc : j < cnt zs ys k
        · have htest : X + 1 + (j : Int) ≤ Y := by split at hco <;> omega
          have hjs : (j : Int) ≤ 5000 := by omega
          have hst : Hid (dotV (pre zs ys k ++ seg zs k j) ++ [Value.int .i64 ((k : Int) + 1), .int .i64 (X + 1 + (j : Int))] = dotV (pre zs ys k ++ seg zs k (j + 1))) := by
            rw [seg_step, ← List.append_assoc, dotV_snoc, hXd.out]; exact hide rfl
          clear hco hown hB
          go_wp2_with fail
          refine OY.out.mono ?_
          rintro e w1 ⟨rfl, rfl⟩
          go_wp2_with (at_builtin; refine wpList_append_own _ rfl _ _ 39 rfl w.heap.size 25 i0 (.agg #[.int .i64 0, .int .i64 0]) 2 16 Try.underlying39 hi0 hzz0 hzz1 hzz2 rfl (by decide) _ _ _ rfl (hown1.alloc _) ⟨wr.heap.size, 0, none⟩ 1 1 [.int .i64 ((k : Int) + 1), .int .i64 (X + 1 + (j : Int))] rfl rfl ?c1 ?c2 ?c3 ?c4 ?c5 ?_)
          case c1 =>
            intro q u hu
            match q, hu with
            | 0, hu => simp at hu; subst hu; simp [go_sem, Addr.add]
            | 1, hu => simp at hu; subst hu; simp [go_sem, Addr.add]
            | q + 2, hu => simp at hu
          case c2 => simp [Value.oneCell']
          case c3 => unfold maxLen; omega
          case c4 => omega
          case c5 => have := hB1.size; simp; omega
          intro v' w2 hown2 hg _
          have hB2 : Below w.heap.size w w2 := (hB1.alloc hB1.size _).grown hg (by have := hB1.size; simp; omega) (fun k hk => (hown1.lt k hk).1)
          rw [hst.out] at hown2
          clear hown1 hg
          go_wp2
          go_roundw
          case rel => exact ⟨j + 1, by omega, by go_num, hown2, hB2⟩
          case measure => simp [intOf]; omega
        · have hjc' : j = cnt zs ys k := by omega
          have htest : ¬ X + 1 + (j : Int) ≤ Y := by split at hco <;> omega
          rw [hjc', ← pre_succ] at hown1
          have hlen : (pre zs ys k).length + cnt zs ys k = (pre zs ys (k + 1)).length := by rw [pre_succ, List.length_append, seg_len]
          rw [hlen] at hown1
          have hk1 : (k : Int) ≤ 64 := by omega
          clear hco hown hB hlen hjc hj hjc'
          go_wp2_with fail
          refine OY.out.mono ?_
          rintro e w1 ⟨rfl, rfl⟩
          go_wp2
          go_roundw
          case rel => exact ⟨k + 1, by omega, by go_num, hown1, hB1⟩
          case measure => simp [intOf]; omega
    · obtain rfl : k = m := by omega
      obtain ⟨A2, c2, hv, hc1, hc2, hD⟩ := dots_own hown
      have hlen : (pre zs ys ys.length).length = (pre zs ys k).length := by rw [gl.out]
      have hD' : Dots wr A2 (pre zs ys k).length (pre zs ys ys.length) := by rw [gl.out]; exact hD
      replace hD' := hide hD'
      clear hown hD hlen
      subst hv
      go_wp2_with fail
      go_ret
      rw [F.out]
      exact ⟨A2, _, c2, rfl, hc1, hc2, hD'.out, hB⟩
end
end Go.Proofs.Ytgjhhnendondcaa

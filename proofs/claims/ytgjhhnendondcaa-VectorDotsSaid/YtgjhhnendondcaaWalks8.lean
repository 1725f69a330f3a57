/-
  More walks over chapter 5: how many transactions a vector has; what one vector lacks of another one.
-/
import Derived.Test.YtgjhhnendondcaaWalks7
namespace Go.Proofs.Ytgjhhnendondcaa
open Go.RowKit
set_option linter.unusedSimpArgs false
set_option linter.unusedVariables false

/-- A number that a vector may have of a device. -/
def Fine (z : Int) : Prop := 0 ≤ z ∧ z ≤ 1048576
theorem fine_of_right {zs : List Int} (h : rightB zs = true) : zs.length ≤ 64 ∧ ∀ z ∈ zs, Fine z := by
  unfold rightB at h
  simp only [Bool.and_eq_true, decide_eq_true_eq, Bool.not_eq_true', List.any_eq_false] at h
  refine ⟨h.1, fun z hz => ?_⟩
  have := h.2 z hz
  unfold badB at this
  simp only [Bool.or_eq_true, decide_eq_true_eq, not_or] at this
  exact ⟨by omega, by omega⟩
theorem fine_getD {zs : List Int} (h : ∀ z ∈ zs, Fine z) (k : Nat) : Fine (zs.getD k 0) := by
  by_cases hk : k < zs.length
  · rw [List.getD_eq_getElem?_getD, List.getElem?_eq_getElem hk]; exact h _ (List.getElem_mem hk)
  · rw [List.getD_eq_getElem?_getD, List.getElem?_eq_none (by omega)]; exact ⟨by decide, by decide⟩
theorem sum_fine : ∀ (zs : List Int), (∀ z ∈ zs, Fine z) → 0 ≤ zs.sum ∧ zs.sum ≤ 1048576 * (zs.length : Int)
  | [], _ => by simp
  | z :: r, h => by
    have h1 := sum_fine r fun x hx => h x (List.mem_cons_of_mem _ hx)
    have h2 := h z (List.mem_cons_self ..)
    unfold Fine at h2
    simp only [List.sum_cons, List.length_cons]
    omega
theorem take_sum_step (zs : List Int) (k : Nat) (hk : k < zs.length) : (zs.take (k + 1)).sum = (zs.take k).sum + zs.getD k 0 := by
  rw [List.take_succ_eq_append_getElem hk, List.sum_append, List.getD_eq_getElem?_getD, List.getElem?_eq_getElem hk]; simp
theorem take_sum_le (zs : List Int) (h : ∀ z ∈ zs, Fine z) (k : Nat) : (zs.take k).sum ≤ zs.sum := by
  have h1 := sum_fine (zs.drop k) fun z hz => h z (List.mem_of_mem_drop hz)
  have h2 : (zs.take k).sum + (zs.drop k).sum = zs.sum := by rw [← List.sum_append, List.take_append_drop]
  omega
section
variable {w : World} {A B : Option Addr} {n c m d : Nat} {zs ys : List Int}
theorem total_any (h : Vec w A n c zs) (hf : ∀ z ∈ zs, Fine z) (hs : n ≤ 1000) : Calls Try.prog 32 #[.slice A n c] w fun e w' => e = .returned (.int .i64 zs.sum) ∧ w = w' := by
  have hl := hide h.len
  replace h := hide h
  replace hf := hide hf
  go_enter Try.func32, Try.ntmps32
  go_wp2
  go_loop [3, 4] (fun s i => ∃ k : Nat, k ≤ n ∧ i = .int .i64 k ∧ s = .int .i64 ((zs.take k).sum)) (fun _ i => n - (intOf i).toNat)
  case atStart => exact ⟨0, by omega, rfl, rfl⟩
  case round =>
    obtain ⟨k, hk, rfl, rfl⟩ := hrel
    by_cases hlt : k < n
    · obtain ⟨b, off, rfl, hcell⟩ := h.out.at_ hlt
      have h1 := sum_fine (zs.take k) fun z hz => hf.out z (List.mem_of_mem_take hz)
      have h2 : (zs.take k).length ≤ 1000 := Nat.le_trans (List.length_take_le ..) (by omega)
      obtain ⟨h3, h4⟩ := fine_getD hf.out k
      have s1 : 0 ≤ (zs.take k).sum := h1.1
      have s2 : (zs.take k).sum ≤ 1048576000 := by omega
      have hst := hide (take_sum_step zs k (by rw [hl.out]; exact hlt))
      simp only [List.getD_eq_getElem?_getD] at h3 h4
      clear h1 h2
      go_wp2
      go_round
      case rel => exact ⟨k + 1, by omega, by go_num, by rw [hst.out]; simp⟩
      case measure => simp [intOf]; omega
    · obtain rfl : k = n := by omega
      go_wp2
      go_ret
      exact ⟨ret_i (by rw [List.take_of_length_le (by rw [hl.out]; omega)]), rfl⟩
end

/-! ### Dots -/
def cnt (a b : List Int) (k : Nat) : Nat := (b.getD k 0 - a.getD k 0).toNat
/-- The first j dots that b has of device k + 1, and a has not. -/
def seg (a : List Int) (k j : Nat) : List (Int × Int) := (List.range j).map fun (t : Nat) => ((k : Int) + 1, a.getD k 0 + 1 + (t : Int))
def pre (a b : List Int) : Nat → List (Int × Int)
  | 0 => []
  | k + 1 => pre a b k ++ seg a k (cnt a b k)
theorem pre_succ (a b : List Int) (k : Nat) : pre a b (k + 1) = pre a b k ++ seg a k (cnt a b k) := rfl
/-- What a lacks of b. -/
def lacksL (a b : List Int) : List (Int × Int) := if rightB a = true ∧ rightB b = true then pre a b b.length else []
theorem seg_step (a : List Int) (k j : Nat) : seg a k (j + 1) = seg a k j ++ [((k : Int) + 1, a.getD k 0 + 1 + (j : Int))] := by
  unfold seg; rw [List.range_succ, List.map_append]; rfl
theorem seg_len (a : List Int) (k j : Nat) : (seg a k j).length = j := by simp [seg]
theorem pre_len (a b : List Int) (ha : ∀ z ∈ a, Fine z) (hb : ∀ z ∈ b, Fine z) : ∀ k, k ≤ b.length → ((pre a b k).length : Int) ≤ (b.take k).sum
  | 0, _ => by simp [pre]
  | k + 1, hk => by
    have h1 := pre_len a b ha hb k (by omega)
    rw [take_sum_step b k (by omega)]
    unfold pre
    rw [List.length_append, seg_len]
    have h2 := fine_getD ha k
    have h3 := fine_getD hb k
    unfold Fine at h2 h3
    unfold cnt
    omega
def dotV (D : List (Int × Int)) : List Value := D.flatMap fun p => [Value.int .i64 p.1, Value.int .i64 p.2]
theorem dotV_len (D : List (Int × Int)) : (dotV D).length = 2 * D.length := by
  induction D with
  | nil => rfl
  | cons p r ih => simp only [dotV, List.flatMap_cons, List.length_append, List.length_cons, List.length_nil] at ih ⊢; omega
theorem dotV_snoc (D : List (Int × Int)) (x y : Int) : dotV D ++ [.int .i64 x, .int .i64 y] = dotV (D ++ [(x, y)]) := by simp [dotV]
theorem dotV_get : ∀ (D : List (Int × Int)) (j : Nat), j < D.length → (dotV D)[2 * j]? = some (.int .i64 (D.getD j (0, 0)).1) ∧ (dotV D)[2 * j + 1]? = some (.int .i64 (D.getD j (0, 0)).2)
  | p :: r, 0, _ => by simp [dotV]
  | p :: r, j + 1, h => by
    have := dotV_get r j (by simpa using h)
    simp only [dotV, List.flatMap_cons] at this ⊢
    constructor
    · rw [List.getElem?_append_right (by simp; omega)]
      simpa [show 2 * (j + 1) - 2 = 2 * j by omega] using this.1
    · rw [List.getElem?_append_right (by simp; omega)]
      simpa [show 2 * (j + 1) + 1 - 2 = 2 * j + 1 by omega] using this.2
theorem info25 : (Try.prog.info? 25).map (fun i => (i.zero, i.size, i.bytes)) = some (some (.agg #[.int .i64 0, .int .i64 0]), 2, 16) := by kernel_rfl
/-- Dots in memory. -/
def Dots (w : World) (A : Option Addr) (n : Nat) (D : List (Int × Int)) : Prop :=
  D.length = n ∧ (0 < n → ∃ b off, A = some ⟨b, off, none⟩ ∧ b < w.heap.size ∧ ∀ j, j < n → w.cell? ⟨b, off + j * 2, none⟩ = some (.int .i64 (D.getD j (0, 0)).1) ∧ w.cell? ⟨b, off + j * 2 + 1, none⟩ = some (.int .i64 (D.getD j (0, 0)).2))
theorem Dots.below {w w' : World} {A : Option Addr} {n : Nat} {D : List (Int × Int)} (h : Dots w A n D) (hb : Below w.heap.size w w') : Dots w' A n D := by
  refine ⟨h.1, fun hn => ?_⟩
  obtain ⟨b, off, e, hlt, hc⟩ := h.2 hn
  exact ⟨b, off, e, Nat.lt_of_lt_of_le hlt hb.size, fun j hj => ⟨(hb.cell (p := ⟨b, off + j * 2, none⟩) hlt).trans (hc j hj).1, (hb.cell (p := ⟨b, off + j * 2 + 1, none⟩) hlt).trans (hc j hj).2⟩⟩
/-- A call returns dots; the old memory is as it was. -/
def RetDots (w : World) (D : List (Int × Int)) (e : Ending) (w' : World) : Prop := ∃ A n c, e = .returned (.slice A n c) ∧ n ≤ c ∧ c ≤ maxLen ∧ Dots w' A n D ∧ Below w.heap.size w w'
theorem dots_own {w : World} {base n : Nat} {v : Value} {D : List (Int × Int)} (h : w.ownsRow base 25 2 v n (dotV D)) : ∃ A c, v = .slice A n c ∧ n ≤ c ∧ c ≤ maxLen ∧ Dots w A n D := by
  have hl : D.length = n := by have := h.1; rw [dotV_len] at this; omega
  rcases h.2 with ⟨rfl, rfl⟩ | ⟨g, cap, cur, rfl, _, hh, hnc, hcm, hcs, hcc⟩
  · exact ⟨none, 0, rfl, Nat.le_refl _, by unfold maxLen; omega, hl, fun h => by omega⟩
  · refine ⟨_, cap, rfl, hnc, hcm, hl, fun hn => ⟨g, 0, rfl, (h.lt g rfl).2, fun j hj => ?_⟩⟩
    have h1 := dotV_get D j (by omega)
    have h2 := h.cells (g := g) rfl (2 * j) _ h1.1
    have h3 := h.cells (g := g) rfl (2 * j + 1) _ h1.2
    rw [Go.WideShapes.add_plain] at h2 h3
    rw [show 0 + j * 2 = 0 + 2 * j by omega, show 0 + 2 * j + 1 = 0 + (2 * j + 1) by omega]
    exact ⟨h2, h3⟩
section
variable {w : World} {A B : Option Addr} {n c m d : Nat} {zs ys : List Int}
set_option maxHeartbeats 1000000 in
theorem lacks_any (h : Vec w A n c zs) (g : Vec w B m d ys) (hs : rightB ys = true → ys.sum ≤ 5000) : Calls Try.prog 34 #[.slice A n c, .slice B m d] w (RetDots w (lacksL zs ys)) := by
  have R1 := hide (right_any h)
  have R2 := hide (right_any g)
  cases hr1 : rightB zs with
  | false =>
    rw [hr1] at R1
    have F : Hid (lacksL zs ys = []) := by unfold lacksL; rw [if_neg (by rw [hr1]; simp)]; exact hide rfl
    clear h g hs hr1 R2
    go_enter Try.func34, Try.ntmps34
    go_wp2_with fail
    refine R1.out.mono ?_
    rintro e w1 ⟨rfl, rfl⟩
    go_wp2_with fail
    go_ret
    rw [F.out]
    exact ⟨none, 0, 0, rfl, Nat.le_refl _, by unfold maxLen; omega, ⟨rfl, fun h => by omega⟩, Below.refl _ _⟩
  | true =>
  cases hr2 : rightB ys with
  | false =>
    rw [hr1] at R1
    rw [hr2] at R2
    have F : Hid (lacksL zs ys = []) := by unfold lacksL; rw [if_neg (by rw [hr2]; simp)]; exact hide rfl
    clear h g hs hr1 hr2
    go_enter Try.func34, Try.ntmps34
    go_wp2_with fail
    refine R1.out.mono ?_
    rintro e w1 ⟨rfl, rfl⟩
    go_wp2_with fail
    refine R2.out.mono ?_
    rintro e w1 ⟨rfl, rfl⟩
    go_wp2_with fail
    go_ret
    rw [F.out]
    exact ⟨none, 0, 0, rfl, Nat.le_refl _, by unfold maxLen; omega, ⟨rfl, fun h => by omega⟩, Below.refl _ _⟩
  | true =>
  rw [hr1] at R1
  rw [hr2] at R2
  have F : Hid (lacksL zs ys = pre zs ys ys.length) := by unfold lacksL; rw [if_pos ⟨hr1, hr2⟩]; exact hide rfl
  have fa := hide (fine_of_right hr1)
  have fb := hide (fine_of_right hr2)
  replace hs := hide (hs hr2)
  have hn := h.max
  have hl := hide h.len
  have gl := hide g.len
  have hm64 : m ≤ 64 := by have := fb.out.1; rw [gl.out] at this; exact this
  obtain ⟨i0, hi0, hzz0, hzz1, hzz2⟩ := info_parts info25
  have O1 := fun dev hd W (hB : Below w.heap.size w W) => hide (of_dev dev hd (h.below hB))
  replace g := hide g
  clear h hr1 hr2
  go_enter Try.func34, Try.ntmps34
  go_wp2_with fail
  refine R1.out.mono ?_
  rintro e w1 ⟨rfl, rfl⟩
  go_wp2_with fail
  refine R2.out.mono ?_
  rintro e w1 ⟨rfl, rfl⟩
  go_wp2_with fail
  go_loopw [5, 6, 7, 18] (fun out _ _ i wr => ∃ k : Nat, k ≤ m ∧ i = .int .i64 k ∧ wr.ownsRow w.heap.size 25 2 out (pre zs ys k).length (dotV (pre zs ys k)) ∧ Below w.heap.size w wr) (fun _ _ _ i _ => m - (intOf i).toNat)
  case atStart => exact ⟨0, by omega, rfl, World.ownsRow_nil _ _ _ _, Below.refl _ _⟩
  case round =>
    obtain ⟨k, hk, rfl, hown, hB⟩ := hrel
    by_cases hlt : k < m
    · have e1 := hide (ofL_at zs k)
      have hI : I64 ((k : Int) + 1) := ⟨by omega, by omega⟩
      replace hI := hide hI
      have OX := O1 _ hI.out wr hB
      rw [e1.out] at OX
      have hl1 := pre_len zs ys fa.out.2 fb.out.2 (k + 1) (by rw [gl.out]; omega)
      have hl2 := take_sum_le ys fb.out.2 (k + 1)
      have hl3 : (pre zs ys (k + 1)).length = (pre zs ys k).length + cnt zs ys k := by rw [pre_succ, List.length_append, seg_len]
      have hso := hs.out
      have hbnd : (pre zs ys k).length + cnt zs ys k ≤ 5000 := by omega
      clear hl1 hl2 hl3 hso
      obtain ⟨x1, x2⟩ := fine_getD fa.out.2 k
      obtain ⟨y1, y2⟩ := fine_getD fb.out.2 k
      obtain ⟨b, off, rfl, hbB, hcl⟩ := g.out.1.2 (by omega)
      have hcellw : w.cell? ⟨b, off + k, none⟩ = some (.int .i64 (ys.getD k 0)) := hcl k hlt
      have hcnt : (cnt zs ys k : Int) = if zs.getD k 0 ≤ ys.getD k 0 then ys.getD k 0 - zs.getD k 0 else 0 := by unfold cnt; split <;> omega
      clear hcl
      replace hcnt := hide hcnt
      replace hcellw := hide hcellw
      go_wp2_with fail
      refine OX.out.mono ?_
      rintro e w1 ⟨rfl, rfl⟩
      simp only [List.getD_eq_getElem?_getD] at x1 x2 y1 y2 ⊢
      go_wp2_with fail
      obtain ⟨wo, hwo⟩ : ∃ wo : World, wo = wr := ⟨_, rfl⟩
      subst hwo
      obtain ⟨X, hX⟩ : ∃ X, X = zs[k]?.getD 0 := ⟨_, rfl⟩
      obtain ⟨Y, hY⟩ : ∃ Y, Y = ys[k]?.getD 0 := ⟨_, rfl⟩
      have hXd : zs.getD k 0 = X := by rw [hX, List.getD_eq_getElem?_getD]
      have hYd : ys.getD k 0 = Y := by rw [hY, List.getD_eq_getElem?_getD]
      rw [hXd, hYd] at hcnt
      rw [hYd] at hcellw
      rw [← hX] at x1 x2 ⊢
      rw [← hY] at y1 y2
      replace hXd := hide hXd
      clear hX hY hYd e1 hI OX
      go_loopw [5, 7] (fun out nn wr => ∃ j : Nat, j ≤ cnt zs ys k ∧ nn = .int .i64 (X + 1 + (j : Int)) ∧ wr.ownsRow w.heap.size 25 2 out ((pre zs ys k).length + j) (dotV (pre zs ys k ++ seg zs k j)) ∧ Below w.heap.size w wr) (fun _ nn _ => (Y + 1 - intOf nn).toNat)
      case atStart => exact ⟨0, by omega, by simp, by simpa [seg] using hown, hB⟩
      case round =>
        obtain ⟨j, hj, rfl, hown1, hB1⟩ := hrel
        have hcell : wr.cell? ⟨b, off + k, none⟩ = some (.int .i64 Y) := (hB1.cell (p := ⟨b, off + k, none⟩) hbB).trans hcellw.out
        have hco := hcnt.out
        by_cases hjc : j < cnt zs ys k
        · have htest : X + 1 + (j : Int) ≤ Y := by split at hco <;> omega
          have hjs : (j : Int) ≤ 5000 := by omega
          have hst : Hid (dotV (pre zs ys k ++ seg zs k j) ++ [Value.int .i64 ((k : Int) + 1), .int .i64 (X + 1 + (j : Int))] = dotV (pre zs ys k ++ seg zs k (j + 1))) := by
            rw [seg_step, ← List.append_assoc, dotV_snoc, hXd.out]; exact hide rfl
          clear hco hown hB
          go_wp2_with (at_builtin; refine wpList_append_own _ rfl _ _ 39 rfl w.heap.size 25 i0 (.agg #[.int .i64 0, .int .i64 0]) 2 16 Try.underlying39 hi0 hzz0 hzz1 hzz2 rfl (by decide) _ _ _ rfl (hown1.alloc _) ⟨wr.heap.size, 0, none⟩ 1 1 [.int .i64 ((k : Int) + 1), .int .i64 (X + 1 + (j : Int))] rfl rfl ?c1 ?c2 ?c3 ?c4 ?c5 ?_)
          case c1 =>
            intro q u hu
            match q, hu with
            | 0, hu => simp at hu; subst hu; simp [go_sem, Addr.add]
            | 1, hu => simp at hu; subst hu; simp [go_sem, Addr.add]
            | q + 2, hu => simp at hu
          case c2 => simp [Value.oneCell']
          case c3 => unfold maxLen; omega
          case c4 => omega
          case c5 => have := hB1.size; simp; omega
          intro v' w2 hown2 hg _
          have hB2 : Below w.heap.size w w2 := (hB1.alloc hB1.size _).grown hg (by have := hB1.size; simp; omega) (fun k hk => (hown1.lt k hk).1)
          rw [hst.out] at hown2
          clear hown1 hg
          go_wp2
          go_roundw
          case rel => exact ⟨j + 1, by omega, by go_num, hown2, hB2⟩
          case measure => simp [intOf]; omega
        · have hjc' : j = cnt zs ys k := by omega
          have htest : ¬ X + 1 + (j : Int) ≤ Y := by split at hco <;> omega
          rw [hjc', ← pre_succ] at hown1
          have hlen : (pre zs ys k).length + cnt zs ys k = (pre zs ys (k + 1)).length := by rw [pre_succ, List.length_append, seg_len]
          rw [hlen] at hown1
          have hk1 : (k : Int) ≤ 64 := by omega
          clear hco hown hB hlen hjc hj hjc'
          go_wp2
          go_roundw
          case rel => exact ⟨k + 1, by omega, by go_num, hown1, hB1⟩
          case measure => simp [intOf]; omega
    · obtain rfl : k = m := by omega
      obtain ⟨A2, c2, hv, hc1, hc2, hD⟩ := dots_own hown
      have hlen : (pre zs ys ys.length).length = (pre zs ys k).length := by rw [gl.out]
      have hD' : Dots wr A2 (pre zs ys k).length (pre zs ys ys.length) := by rw [gl.out]; exact hD
      replace hD' := hide hD'
      clear hown hD hlen
      subst hv
      go_wp2_with fail
      go_ret
      rw [F.out]
      exact ⟨A2, _, c2, rfl, hc1, hc2, hD'.out, hB⟩
end
end Go.Proofs.Ytgjhhnendondcaa

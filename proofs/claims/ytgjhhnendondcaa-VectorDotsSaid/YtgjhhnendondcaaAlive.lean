/-
  The chapter's example (chapter 5, vector), as the laws ask it; are two rows of dots the same.
-/
import Derived.Test.YtgjhhnendondcaaWalks9
namespace Go.Proofs.Ytgjhhnendondcaa
open Go.RowKit
set_option linter.unusedSimpArgs false
set_option linter.unusedVariables false

theorem dots_same (A B : Option Addr) (n c d : Nat) (D : List (Int × Int)) (w : World) (h : Dots w A n D) (g : Dots w B n D) (hs : n ≤ 1000000) :
    Calls Try.prog 33 #[.slice A n c, .slice B n d] w fun e w' => e = .returned (.bool true) ∧ ∃ q, w' = w.drewN q := by
  replace h := hide h
  replace g := hide g
  go_enter Try.func33, Try.ntmps33
  go_wp2
  go_loopw [5] (fun i wr => ∃ k : Nat, k ≤ n ∧ i = .int .i64 k ∧ ∃ q, wr = w.drewN q) (fun i _ => n - (intOf i).toNat)
  case atStart => exact ⟨0, by omega, rfl, 0, rfl⟩
  case round =>
    obtain ⟨k, hk, rfl, q, rfl⟩ := hrel
    by_cases hlt : k < n
    · obtain ⟨b, off, rfl, _, hc⟩ := h.out.2 (by omega)
      obtain ⟨b', off', rfl, _, hc'⟩ := g.out.2 (by omega)
      obtain ⟨x1, x2⟩ := hc k hlt
      obtain ⟨y1, y2⟩ := hc' k hlt
      have hk0 : (0 : Int) ≤ (k : Int) := by omega
      have hk1 : (k : Int) < (n : Int) := by omega
      generalize (D.getD k (0, 0)).1 = u at x1 y1
      generalize (D.getD k (0, 0)).2 = v at x2 y2
      clear hc hc'
      go_wp2_with fail
      go_quiet (fail)
      go_wp2
      go_roundw
      case rel => exact ⟨k + 1, by omega, by go_num, _, rfl⟩
      case measure => simp [intOf]; omega
    · obtain rfl : k = n := by omega
      go_wp2
      go_ret
      exact ⟨rfl, q, rfl⟩
theorem vec_lit (w : World) (C : Array Value) (n : Nat) (zs : List Int) (hC : C = (zs.map (Value.int .i64)).toArray) (hn : zs.length = n) (h1 : n ≤ 1000) (hz : zs.all (fun z => decide (-1000 ≤ z ∧ z ≤ 1000)) = true) :
    Vec (w.alloc (.cells C 3)) (some ⟨w.heap.size, 0, none⟩) n n zs := by
  refine ⟨⟨hn, fun _ => ⟨w.heap.size, 0, rfl, by simp, fun j hj => ?_⟩⟩, Nat.le_refl _, by unfold maxLen; omega, (fun h => by simp at h), fun z hz' => ?_⟩
  · rw [Joins.cell_alloc_mark_at w C 3 (0, 0) _ _ rfl, hC]
    have hj' : j < zs.length := by omega
    simp [hj']
  · have h2 := List.all_eq_true.1 hz z hz'
    simp only [decide_eq_true_eq] at h2
    exact ⟨by omega, by omega⟩
theorem equal_yes (A B : Option Addr) (n c d : Nat) (zs : List Int) (w : World) (h : Vec w A n c zs) (g : Vec w B n d zs) (hs : n ≤ 1000000) : Calls Try.prog 23 #[.slice A n c, .slice B n d] w fun e w' => e = .returned (.bool true) ∧ w = w' := by
  have k := equal_any h g (by omega)
  have e : eachB eqB zs zs = true := each_yes _ _ _ fun j _ => by simp [eqB]
  rw [e] at k
  simpa using k
theorem bool_is {P : Program} {f : FuncId} {args : Array Value} {w : World} {b b' : Bool} {R : World → Prop} (h : Calls P f args w fun e w' => e = .returned (.bool b) ∧ R w') (hb : b = b') : Calls P f args w fun e w' => e = .returned (.bool b') ∧ R w' := by
  subst hb; exact h
theorem int_is {P : Program} {f : FuncId} {args : Array Value} {w : World} {b b' : Int} {R : World → Prop} (h : Calls P f args w fun e w' => e = .returned (.int .i64 b) ∧ R w') (hb : b = b') : Calls P f args w fun e w' => e = .returned (.int .i64 b') ∧ R w' := by
  subst hb; exact h
theorem ex_lacks : lacksL [1, 3] [2, 0, 5] = [(1, 2), (3, 1), (3, 2), (3, 3), (3, 4), (3, 5)] := by decide
theorem ex_join : bothL maxI [2, 0, 5] [1, 3] = [2, 3, 5] := by decide
theorem ex_meet : bothL minI [2, 0, 5] [1, 3] = [1] := by decide
theorem ex_set : setL [1, 3] 2 0 = [1] := by decide
theorem ex_trim : trimL [0, 1, 0] = [0, 1] := by decide
set_option maxHeartbeats 2000000 in
theorem alive_any (w : World) : Calls Try.prog 12 #[] w fun e w' => e = .returned (.bool true) ∧ Below w.heap.size w w' := by
  go_enter Try.func12, Try.ntmps12
  go_wp2_with fail
  have VA0 := (vec_lit w #[.int .i64 2, .int .i64 0, .int .i64 5] 3 [2, 0, 5] rfl rfl (by omega) (by decide)).below ((Below.refl _ _).alloc (Nat.le_refl _) (.cells #[.int .i64 1, .int .i64 3] 3))
  have VB0 := vec_lit (w.alloc (.cells #[.int .i64 2, .int .i64 0, .int .i64 5] 3)) #[.int .i64 1, .int .i64 3] 2 [1, 3] rfl rfl (by omega) (by decide)
  obtain ⟨W, hW⟩ : ∃ V, V = (w.alloc (.cells #[.int .i64 2, .int .i64 0, .int .i64 5] 3)).alloc (.cells #[.int .i64 1, .int .i64 3] 3) := ⟨_, rfl⟩
  rw [← hW] at VA0 VB0
  rw [← hW]
  have BW : Below w.heap.size w W := by rw [hW]; go_grown
  have hsz : (w.alloc (.cells #[.int .i64 2, .int .i64 0, .int .i64 5] 3)).heap.size = w.heap.size + 1 := by simp
  rw [hsz] at VB0
  clear hW hsz
  have VA := fun X (hX : Below W.heap.size W X) => hide (VA0.below hX)
  have VB := fun X (hX : Below W.heap.size W X) => hide (VB0.below hX)
  clear VA0 VB0
  have C0 := Below.refl W.heap.size W
  refine (lacks_any (VB _ C0).out (VA _ C0).out (by decide)).mono ?_
  rintro e w1 ⟨LA, ln, lc, rfl, hl1, hl2, hL, hb1⟩
  rw [ex_lacks] at hL
  obtain rfl := hL.1
  obtain ⟨lb, loff, rfl, hlb, hlc⟩ := hL.2 (by decide)
  have q0 : w1.cell? ⟨lb, loff, none⟩ = some (.int .i64 1) := (hlc 0 (by decide)).1
  have q1 : w1.cell? ⟨lb, loff + 1, none⟩ = some (.int .i64 2) := (hlc 0 (by decide)).2
  have q2 : w1.cell? ⟨lb, loff + 10, none⟩ = some (.int .i64 3) := (hlc 5 (by decide)).1
  have q3 : w1.cell? ⟨lb, loff + 11, none⟩ = some (.int .i64 5) := (hlc 5 (by decide)).2
  have hl6 : 6 ≤ lc := hl1
  clear hlc hL hl1
  have C1 := st C0 hb1 (by go_grown)
  clear hb1 C0
  go_wp2_with fail
  refine (join_any (VA _ C1).out (VB _ C1).out (by omega)).mono ?_
  rintro e w2 ⟨Vj, nj, cj, rfl, hj, hb2⟩
  rw [ex_join] at hj
  obtain rfl := hj.len
  have p0 := (hb2.cell (p := ⟨lb, loff, none⟩) hlb).trans q0
  clear q0
  have q0 := p0
  clear p0
  have p1 := (hb2.cell (p := ⟨lb, loff + 1, none⟩) hlb).trans q1
  clear q1
  have q1 := p1
  clear p1
  have p2 := (hb2.cell (p := ⟨lb, loff + 10, none⟩) hlb).trans q2
  clear q2
  have q2 := p2
  clear p2
  have p3 := (hb2.cell (p := ⟨lb, loff + 11, none⟩) hlb).trans q3
  clear q3
  have q3 := p3
  clear p3
  replace hlb := Nat.lt_of_lt_of_le hlb hb2.size
  have C2 := st C1 hb2 (by go_grown)
  clear hb2 C1
  go_wp2_with fail
  have hlit := vec_lit w2 #[.int .i64 2, .int .i64 3, .int .i64 5] 3 [2, 3, 5] rfl rfl (by omega) (by decide)
  obtain ⟨w3, hX⟩ : ∃ V, V = w2.alloc (.cells #[.int .i64 2, .int .i64 3, .int .i64 5] 3) := ⟨_, rfl⟩
  rw [← hX] at hlit
  rw [← hX]
  have C3 : Below W.heap.size W w3 := by rw [hX]; exact C2.alloc C2.size _
  have p0 := (World.cell?_alloc_lt w2 (.cells #[.int .i64 2, .int .i64 3, .int .i64 5] 3) ⟨lb, loff, none⟩ hlb).trans q0
  rw [← hX] at p0
  clear q0
  have q0 := p0
  clear p0
  have p1 := (World.cell?_alloc_lt w2 (.cells #[.int .i64 2, .int .i64 3, .int .i64 5] 3) ⟨lb, loff + 1, none⟩ hlb).trans q1
  rw [← hX] at p1
  clear q1
  have q1 := p1
  clear p1
  have p2 := (World.cell?_alloc_lt w2 (.cells #[.int .i64 2, .int .i64 3, .int .i64 5] 3) ⟨lb, loff + 10, none⟩ hlb).trans q2
  rw [← hX] at p2
  clear q2
  have q2 := p2
  clear p2
  have p3 := (World.cell?_alloc_lt w2 (.cells #[.int .i64 2, .int .i64 3, .int .i64 5] 3) ⟨lb, loff + 11, none⟩ hlb).trans q3
  rw [← hX] at p3
  clear q3
  have q3 := p3
  clear p3
  replace hlb : lb < w3.heap.size := by rw [hX]; simp; omega
  replace hj := hj.below (by rw [hX]; exact (Below.refl _ _).alloc (Nat.le_refl _) _ : Below w2.heap.size w2 w3)
  clear hX C2
  refine (equal_yes _ _ 3 _ _ _ _ hj hlit (by omega)).mono ?_
  rintro e w9 ⟨rfl, rfl⟩
  go_wp2_with fail
  clear hj hlit
  refine (meet_any (VA _ C3).out (VB _ C3).out (by omega)).mono ?_
  rintro e w4 ⟨Vm, nm, cm, rfl, hm, hb4⟩
  rw [ex_meet] at hm
  obtain rfl := hm.len
  have p0 := (hb4.cell (p := ⟨lb, loff, none⟩) hlb).trans q0
  clear q0
  have q0 := p0
  clear p0
  have p1 := (hb4.cell (p := ⟨lb, loff + 1, none⟩) hlb).trans q1
  clear q1
  have q1 := p1
  clear p1
  have p2 := (hb4.cell (p := ⟨lb, loff + 10, none⟩) hlb).trans q2
  clear q2
  have q2 := p2
  clear p2
  have p3 := (hb4.cell (p := ⟨lb, loff + 11, none⟩) hlb).trans q3
  clear q3
  have q3 := p3
  clear p3
  replace hlb := Nat.lt_of_lt_of_le hlb hb4.size
  have C4 := st C3 hb4 (by go_grown)
  clear hb4 C3
  go_wp2_with fail
  have hlit := vec_lit w4 #[.int .i64 1] 1 [1] rfl rfl (by omega) (by decide)
  obtain ⟨w5, hX⟩ : ∃ V, V = w4.alloc (.cells #[.int .i64 1] 3) := ⟨_, rfl⟩
  rw [← hX] at hlit
  rw [← hX]
  have C5 : Below W.heap.size W w5 := by rw [hX]; exact C4.alloc C4.size _
  have p0 := (World.cell?_alloc_lt w4 (.cells #[.int .i64 1] 3) ⟨lb, loff, none⟩ hlb).trans q0
  rw [← hX] at p0
  clear q0
  have q0 := p0
  clear p0
  have p1 := (World.cell?_alloc_lt w4 (.cells #[.int .i64 1] 3) ⟨lb, loff + 1, none⟩ hlb).trans q1
  rw [← hX] at p1
  clear q1
  have q1 := p1
  clear p1
  have p2 := (World.cell?_alloc_lt w4 (.cells #[.int .i64 1] 3) ⟨lb, loff + 10, none⟩ hlb).trans q2
  rw [← hX] at p2
  clear q2
  have q2 := p2
  clear p2
  have p3 := (World.cell?_alloc_lt w4 (.cells #[.int .i64 1] 3) ⟨lb, loff + 11, none⟩ hlb).trans q3
  rw [← hX] at p3
  clear q3
  have q3 := p3
  clear p3
  replace hlb : lb < w5.heap.size := by rw [hX]; simp; omega
  replace hm := hm.below (by rw [hX]; exact (Below.refl _ _).alloc (Nat.le_refl _) _ : Below w4.heap.size w4 w5)
  clear hX C4
  refine (equal_yes _ _ 1 _ _ _ _ hm hlit (by omega)).mono ?_
  rintro e w9 ⟨rfl, rfl⟩
  go_wp2_with fail
  clear hm hlit
  refine (bool_is (R := Below _ _) (has_any 3 5 (by unfold I64; omega) (VA _ C5).out) (by decide : _ = true)).mono ?_
  rintro e w6 ⟨rfl, hb6⟩
  have p0 := (hb6.cell (p := ⟨lb, loff, none⟩) hlb).trans q0
  clear q0
  have q0 := p0
  clear p0
  have p1 := (hb6.cell (p := ⟨lb, loff + 1, none⟩) hlb).trans q1
  clear q1
  have q1 := p1
  clear p1
  have p2 := (hb6.cell (p := ⟨lb, loff + 10, none⟩) hlb).trans q2
  clear q2
  have q2 := p2
  clear p2
  have p3 := (hb6.cell (p := ⟨lb, loff + 11, none⟩) hlb).trans q3
  clear q3
  have q3 := p3
  clear p3
  replace hlb := Nat.lt_of_lt_of_le hlb hb6.size
  have C6 := st C5 hb6 (by go_grown)
  clear hb6 C5
  go_wp2_with fail
  refine (bool_is (R := Below _ _) (has_any 2 1 (by unfold I64; omega) (VA _ C6).out) (by decide : _ = false)).mono ?_
  rintro e w7 ⟨rfl, hb7⟩
  have p0 := (hb7.cell (p := ⟨lb, loff, none⟩) hlb).trans q0
  clear q0
  have q0 := p0
  clear p0
  have p1 := (hb7.cell (p := ⟨lb, loff + 1, none⟩) hlb).trans q1
  clear q1
  have q1 := p1
  clear p1
  have p2 := (hb7.cell (p := ⟨lb, loff + 10, none⟩) hlb).trans q2
  clear q2
  have q2 := p2
  clear p2
  have p3 := (hb7.cell (p := ⟨lb, loff + 11, none⟩) hlb).trans q3
  clear q3
  have q3 := p3
  clear p3
  replace hlb := Nat.lt_of_lt_of_le hlb hb7.size
  have C7 := st C6 hb7 (by go_grown)
  clear hb7 C6
  go_wp2_with fail
  have hlit := vec_lit w7 #[.int .i64 2, .int .i64 0, .int .i64 5, .int .i64 0] 4 [2, 0, 5, 0] rfl rfl (by omega) (by decide)
  obtain ⟨w8, hX⟩ : ∃ V, V = w7.alloc (.cells #[.int .i64 2, .int .i64 0, .int .i64 5, .int .i64 0] 3) := ⟨_, rfl⟩
  rw [← hX] at hlit
  rw [← hX]
  have C8 : Below W.heap.size W w8 := by rw [hX]; exact C7.alloc C7.size _
  have p0 := (World.cell?_alloc_lt w7 (.cells #[.int .i64 2, .int .i64 0, .int .i64 5, .int .i64 0] 3) ⟨lb, loff, none⟩ hlb).trans q0
  rw [← hX] at p0
  clear q0
  have q0 := p0
  clear p0
  have p1 := (World.cell?_alloc_lt w7 (.cells #[.int .i64 2, .int .i64 0, .int .i64 5, .int .i64 0] 3) ⟨lb, loff + 1, none⟩ hlb).trans q1
  rw [← hX] at p1
  clear q1
  have q1 := p1
  clear p1
  have p2 := (World.cell?_alloc_lt w7 (.cells #[.int .i64 2, .int .i64 0, .int .i64 5, .int .i64 0] 3) ⟨lb, loff + 10, none⟩ hlb).trans q2
  rw [← hX] at p2
  clear q2
  have q2 := p2
  clear p2
  have p3 := (World.cell?_alloc_lt w7 (.cells #[.int .i64 2, .int .i64 0, .int .i64 5, .int .i64 0] 3) ⟨lb, loff + 11, none⟩ hlb).trans q3
  rw [← hX] at p3
  clear q3
  have q3 := p3
  clear p3
  replace hlb : lb < w8.heap.size := by rw [hX]; simp; omega
  clear hX C7
  refine (bool_is (R := fun w' => _ = w') (same_any (VA _ C8).out hlit) (by decide : _ = true)).mono ?_
  rintro e w9 ⟨rfl, rfl⟩
  go_wp2_with fail
  clear hlit
  refine (bool_is (R := fun w' => _ = w') (upto_any (VA _ C8).out (VB _ C8).out) (by decide : _ = false)).mono ?_
  rintro e w9 ⟨rfl, rfl⟩
  go_wp2_with fail
  refine (join_any (VA _ C8).out (VB _ C8).out (by omega)).mono ?_
  rintro e w9 ⟨Vj, nj, cj, rfl, hj, hb9⟩
  rw [ex_join] at hj
  obtain rfl := hj.len
  have p0 := (hb9.cell (p := ⟨lb, loff, none⟩) hlb).trans q0
  clear q0
  have q0 := p0
  clear p0
  have p1 := (hb9.cell (p := ⟨lb, loff + 1, none⟩) hlb).trans q1
  clear q1
  have q1 := p1
  clear p1
  have p2 := (hb9.cell (p := ⟨lb, loff + 10, none⟩) hlb).trans q2
  clear q2
  have q2 := p2
  clear p2
  have p3 := (hb9.cell (p := ⟨lb, loff + 11, none⟩) hlb).trans q3
  clear q3
  have q3 := p3
  clear p3
  replace hlb := Nat.lt_of_lt_of_le hlb hb9.size
  have C9 := st C8 hb9 (by go_grown)
  clear hb9 C8
  go_wp2_with fail
  refine (bool_is (R := fun w' => _ = w') (upto_any (VB _ C9).out hj) (by decide : _ = true)).mono ?_
  rintro e w9 ⟨rfl, rfl⟩
  go_wp2_with fail
  clear hj
  refine (int_is (R := fun w' => _ = w') (of_dev 3 (by unfold I64; omega) (VA _ C9).out) (by decide : ofL [2, 0, 5] 3 = 5)).mono ?_
  rintro e w9 ⟨rfl, rfl⟩
  go_wp2_with fail
  refine (int_is (R := fun w' => _ = w') (of_dev 9 (by unfold I64; omega) (VA _ C9).out) (by decide : ofL [2, 0, 5] 9 = 0)).mono ?_
  rintro e w9 ⟨rfl, rfl⟩
  go_wp2_with fail
  refine (bool_is (R := fun w' => _ = w') (right_any (VA _ C9).out) (by decide : _ = true)).mono ?_
  rintro e w9 ⟨rfl, rfl⟩
  go_wp2_with fail
  have hlit := vec_lit w9 #[.int .i64 (-1)] 1 [-1] rfl rfl (by omega) (by decide)
  obtain ⟨w10, hX⟩ : ∃ V, V = w9.alloc (.cells #[.int .i64 (-1)] 3) := ⟨_, rfl⟩
  rw [← hX] at hlit
  rw [← hX]
  have C10 : Below W.heap.size W w10 := by rw [hX]; exact C9.alloc C9.size _
  have p0 := (World.cell?_alloc_lt w9 (.cells #[.int .i64 (-1)] 3) ⟨lb, loff, none⟩ hlb).trans q0
  rw [← hX] at p0
  clear q0
  have q0 := p0
  clear p0
  have p1 := (World.cell?_alloc_lt w9 (.cells #[.int .i64 (-1)] 3) ⟨lb, loff + 1, none⟩ hlb).trans q1
  rw [← hX] at p1
  clear q1
  have q1 := p1
  clear p1
  have p2 := (World.cell?_alloc_lt w9 (.cells #[.int .i64 (-1)] 3) ⟨lb, loff + 10, none⟩ hlb).trans q2
  rw [← hX] at p2
  clear q2
  have q2 := p2
  clear p2
  have p3 := (World.cell?_alloc_lt w9 (.cells #[.int .i64 (-1)] 3) ⟨lb, loff + 11, none⟩ hlb).trans q3
  rw [← hX] at p3
  clear q3
  have q3 := p3
  clear p3
  replace hlb : lb < w10.heap.size := by rw [hX]; simp; omega
  clear hX C9
  refine (bool_is (R := fun w' => _ = w') (right_any hlit) (by decide : _ = false)).mono ?_
  rintro e w9 ⟨rfl, rfl⟩
  go_wp2_with fail
  clear hlit
  refine (set_in 1 (by omega) 0 (by unfold I64; omega) (VB _ C10).out (by omega)).mono ?_
  rintro e w11 ⟨Vs, ns, cs, rfl, hs, hb11⟩
  change Vec _ _ _ _ (setL [1, 3] 2 0) at hs
  rw [ex_set] at hs
  obtain rfl := hs.len
  have p0 := (hb11.cell (p := ⟨lb, loff, none⟩) hlb).trans q0
  clear q0
  have q0 := p0
  clear p0
  have p1 := (hb11.cell (p := ⟨lb, loff + 1, none⟩) hlb).trans q1
  clear q1
  have q1 := p1
  clear p1
  have p2 := (hb11.cell (p := ⟨lb, loff + 10, none⟩) hlb).trans q2
  clear q2
  have q2 := p2
  clear p2
  have p3 := (hb11.cell (p := ⟨lb, loff + 11, none⟩) hlb).trans q3
  clear q3
  have q3 := p3
  clear p3
  replace hlb := Nat.lt_of_lt_of_le hlb hb11.size
  have C11 := st C10 hb11 (by go_grown)
  clear hb11 C10
  go_wp2_with fail
  have hlit := vec_lit w11 #[.int .i64 1] 1 [1] rfl rfl (by omega) (by decide)
  obtain ⟨w12, hX⟩ : ∃ V, V = w11.alloc (.cells #[.int .i64 1] 3) := ⟨_, rfl⟩
  rw [← hX] at hlit
  rw [← hX]
  have C12 : Below W.heap.size W w12 := by rw [hX]; exact C11.alloc C11.size _
  have p0 := (World.cell?_alloc_lt w11 (.cells #[.int .i64 1] 3) ⟨lb, loff, none⟩ hlb).trans q0
  rw [← hX] at p0
  clear q0
  have q0 := p0
  clear p0
  have p1 := (World.cell?_alloc_lt w11 (.cells #[.int .i64 1] 3) ⟨lb, loff + 1, none⟩ hlb).trans q1
  rw [← hX] at p1
  clear q1
  have q1 := p1
  clear p1
  have p2 := (World.cell?_alloc_lt w11 (.cells #[.int .i64 1] 3) ⟨lb, loff + 10, none⟩ hlb).trans q2
  rw [← hX] at p2
  clear q2
  have q2 := p2
  clear p2
  have p3 := (World.cell?_alloc_lt w11 (.cells #[.int .i64 1] 3) ⟨lb, loff + 11, none⟩ hlb).trans q3
  rw [← hX] at p3
  clear q3
  have q3 := p3
  clear p3
  replace hlb : lb < w12.heap.size := by rw [hX]; simp; omega
  replace hs := hs.below (by rw [hX]; exact (Below.refl _ _).alloc (Nat.le_refl _) _ : Below w11.heap.size w11 w12)
  clear hX C11
  refine (equal_yes _ _ 1 _ _ _ _ hs hlit (by omega)).mono ?_
  rintro e w9 ⟨rfl, rfl⟩
  go_wp2_with fail
  clear hs hlit
  have hlit := vec_lit w12 #[.int .i64 0, .int .i64 1, .int .i64 0] 3 [0, 1, 0] rfl rfl (by omega) (by decide)
  obtain ⟨w13, hX⟩ : ∃ V, V = w12.alloc (.cells #[.int .i64 0, .int .i64 1, .int .i64 0] 3) := ⟨_, rfl⟩
  rw [← hX] at hlit
  rw [← hX]
  have C13 : Below W.heap.size W w13 := by rw [hX]; exact C12.alloc C12.size _
  have p0 := (World.cell?_alloc_lt w12 (.cells #[.int .i64 0, .int .i64 1, .int .i64 0] 3) ⟨lb, loff, none⟩ hlb).trans q0
  rw [← hX] at p0
  clear q0
  have q0 := p0
  clear p0
  have p1 := (World.cell?_alloc_lt w12 (.cells #[.int .i64 0, .int .i64 1, .int .i64 0] 3) ⟨lb, loff + 1, none⟩ hlb).trans q1
  rw [← hX] at p1
  clear q1
  have q1 := p1
  clear p1
  have p2 := (World.cell?_alloc_lt w12 (.cells #[.int .i64 0, .int .i64 1, .int .i64 0] 3) ⟨lb, loff + 10, none⟩ hlb).trans q2
  rw [← hX] at p2
  clear q2
  have q2 := p2
  clear p2
  have p3 := (World.cell?_alloc_lt w12 (.cells #[.int .i64 0, .int .i64 1, .int .i64 0] 3) ⟨lb, loff + 11, none⟩ hlb).trans q3
  rw [← hX] at p3
  clear q3
  have q3 := p3
  clear p3
  replace hlb : lb < w13.heap.size := by rw [hX]; simp; omega
  clear hX C12
  refine (trim_any hlit (by omega)).mono ?_
  rintro e w14 ⟨Vt, nt, ct, rfl, ht, hb14⟩
  rw [ex_trim] at ht
  obtain rfl := ht.len
  have p0 := (hb14.cell (p := ⟨lb, loff, none⟩) hlb).trans q0
  clear q0
  have q0 := p0
  clear p0
  have p1 := (hb14.cell (p := ⟨lb, loff + 1, none⟩) hlb).trans q1
  clear q1
  have q1 := p1
  clear p1
  have p2 := (hb14.cell (p := ⟨lb, loff + 10, none⟩) hlb).trans q2
  clear q2
  have q2 := p2
  clear p2
  have p3 := (hb14.cell (p := ⟨lb, loff + 11, none⟩) hlb).trans q3
  clear q3
  have q3 := p3
  clear p3
  replace hlb := Nat.lt_of_lt_of_le hlb hb14.size
  have C14 := st C13 hb14 (by go_grown)
  clear hb14 C13
  go_wp2_with fail
  clear hlit
  have hlit := vec_lit w14 #[.int .i64 0, .int .i64 1] 2 [0, 1] rfl rfl (by omega) (by decide)
  obtain ⟨w15, hX⟩ : ∃ V, V = w14.alloc (.cells #[.int .i64 0, .int .i64 1] 3) := ⟨_, rfl⟩
  rw [← hX] at hlit
  rw [← hX]
  have C15 : Below W.heap.size W w15 := by rw [hX]; exact C14.alloc C14.size _
  have p0 := (World.cell?_alloc_lt w14 (.cells #[.int .i64 0, .int .i64 1] 3) ⟨lb, loff, none⟩ hlb).trans q0
  rw [← hX] at p0
  clear q0
  have q0 := p0
  clear p0
  have p1 := (World.cell?_alloc_lt w14 (.cells #[.int .i64 0, .int .i64 1] 3) ⟨lb, loff + 1, none⟩ hlb).trans q1
  rw [← hX] at p1
  clear q1
  have q1 := p1
  clear p1
  have p2 := (World.cell?_alloc_lt w14 (.cells #[.int .i64 0, .int .i64 1] 3) ⟨lb, loff + 10, none⟩ hlb).trans q2
  rw [← hX] at p2
  clear q2
  have q2 := p2
  clear p2
  have p3 := (World.cell?_alloc_lt w14 (.cells #[.int .i64 0, .int .i64 1] 3) ⟨lb, loff + 11, none⟩ hlb).trans q3
  rw [← hX] at p3
  clear q3
  have q3 := p3
  clear p3
  replace hlb : lb < w15.heap.size := by rw [hX]; simp; omega
  replace ht := ht.below (by rw [hX]; exact (Below.refl _ _).alloc (Nat.le_refl _) _ : Below w14.heap.size w14 w15)
  clear hX C14
  refine (equal_yes _ _ 2 _ _ _ _ ht hlit (by omega)).mono ?_
  rintro e w9 ⟨rfl, rfl⟩
  go_wp2_with fail
  clear ht hlit
  go_ret
  exact ⟨rfl, BW.trans (C15.mono BW.size)⟩
end Go.Proofs.Ytgjhhnendondcaa

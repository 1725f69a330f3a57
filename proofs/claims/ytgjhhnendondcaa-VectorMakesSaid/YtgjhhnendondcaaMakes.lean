/-
  The walk over the law VectorMakes (chapter 5): it returns true.
-/
import Derived.Test.YtgjhhnendondcaaMakesPlain
import Derived.Deep.RegionHeld3
import Derived.Deep.DrawnRows
namespace Go.Proofs.Ytgjhhnendondcaa
open Go.RowKit
set_option linter.unusedSimpArgs false
set_option linter.unusedVariables false
attribute [local go_sem ↓] Go.wp_at_zero Go.wp_at_succ

set_option maxHeartbeats 8000000 in
theorem makes_walk (A B : Option Addr) (n c m d : Nat) (zs ys : List Int) (x y : Int) (w : World) (h : Vec w A n c zs) (g : Vec w B m d ys) (hx : I64 x) (hy : I64 y) :
    Calls Try.prog 4 #[.slice A n c, .slice B m d, .agg #[.int .i64 x, .int .i64 y]] w fun e w' => e = .returned (.bool true) ∧ Below w.heap.size w w' := by
  have hn := h.max
  have hm := g.max
  cases hfew : (decide (n ≤ 100) && decide (m ≤ 100)) with
  | false =>
    have hb0 : Below w.heap.size w (w.alloc (.cells #[.int .i64 x, .int .i64 y] 32)) := by go_grown
    clear h g hx hy
    go_enter Try.func4, Try.ntmps4
    go_wp2_with fail
    refine (few_any _ _ _ _ _ _ hn hm _).mono ?_
    rintro e w1 ⟨rfl, rfl⟩
    rw [hfew]
    go_wp2_with fail
    refine (alive_any _).mono ?_
    rintro e w2 ⟨rfl, hb⟩
    go_wp2_with fail
    go_ret
    exact ⟨rfl, hb0.trans (hb.mono hb0.size)⟩
  | true =>
    have hs : n ≤ 100 ∧ m ≤ 100 := by simpa using hfew
    have hs5 : n ≤ 100000 ∧ m ≤ 100000 := by omega
    have hs6 : n ≤ 1000000 := by omega
    have hl1 := h.len
    have hl2 := g.len
    have lJ : (bothL maxI zs ys).length ≤ 1000000 := Nat.le_trans (bothL_len _ _ _) (by omega)
    have lM : (bothL minI zs ys).length ≤ 1000000 := Nat.le_trans (bothL_len _ _ _) (by omega)
    have lT : (trimL zs).length ≤ 1000000 := Nat.le_trans (trimL_len _) (by omega)
    have lS : (setL zs x y).length ≤ 1000000 := Nat.le_trans (setL_len _ _ _) (by omega)
    obtain ⟨W0, hW0⟩ : ∃ V, V = w.alloc (.cells #[.int .i64 x, .int .i64 y] 32) := ⟨_, rfl⟩
    have BW : Below w.heap.size w W0 := by rw [hW0]; go_grown
    have k0 : W0.cell? ⟨w.heap.size, 0, none⟩ = some (.int .i64 x) := by rw [hW0]; go_side
    have k1 : W0.cell? ⟨w.heap.size, 1, none⟩ = some (.int .i64 y) := by rw [hW0]; go_side
    have lt0 : w.heap.size < W0.heap.size := by rw [hW0]; simp
    have VA := fun X (hX : Below W0.heap.size W0 X) => hide ((h.below BW).below hX)
    have VB := fun X (hX : Below W0.heap.size W0 X) => hide ((g.below BW).below hX)
    have C0 := Below.refl W0.heap.size W0
    replace hs5 := hide hs5
    replace hs6 := hide hs6
    replace lJ := hide lJ
    replace lM := hide lM
    replace lT := hide lT
    replace lS := hide lS
    replace hy := hide hy
    replace hW0 := hide hW0
    clear h g hx hl1 hl2 hs
    go_enter Try.func4, Try.ntmps4
    go_wp2_with fail
    rw [← hW0.out]
    clear hW0
    refine (few_any _ _ _ _ _ _ hn hm _).mono ?_
    rintro e w1 ⟨rfl, rfl⟩
    rw [hfew]
    clear hfew
    go_wp2_with fail
    go_region_held3 (fun w' => w'.cell? ⟨w.heap.size, 0, none⟩ = some (.int .i64 x) ∧ w'.cell? ⟨w.heap.size, 1, none⟩ = some (.int .i64 y)) ((simp [go_sem, *]; done))
      (first
        | (go_at_call 12; refine (alive_any _).mono ?_; rintro e u1 ⟨rfl, hb1⟩; have C1 := st C0 hb1 (by go_grown); clear hb1 C0; obtain ⟨hc1, hf1⟩ := bcell C1; have sz1 := C1.size)
        | (go_at_call 24; refine (join_any (VA _ C1).out (VB _ C1).out hs5.out).mono ?_; rintro e u2 ⟨A2, n2, c2, rfl, V2, hb2⟩; have C2 := st C1 hb2 (by go_grown); replace V2 := hide V2; clear hb2 C1 hc1 hf1; obtain ⟨hc2, hf2⟩ := bcell C2; have sz2 := C2.size)
        | (go_at_call 25; refine (ref_join_any (VA _ C2).out (VB _ C2).out hs5.out).mono ?_; rintro e u3 ⟨A3, n3, c3, rfl, V3, hb3⟩; have C3 := st C2 hb3 (by go_grown); replace V2 := hide (V2.out.stp hb3 (by go_grown)); replace V3 := hide V3; clear hb3 C2 hc2 hf2; obtain ⟨hc3, hf3⟩ := bcell C3; have sz3 := C3.size)
        | (go_at_call 23; refine (equal_eq V2.out V3.out lJ.out).mono ?_; rintro e u ⟨rfl, rfl⟩; clear V2 V3)
        | (go_at_call 26; refine (meet_any (VA _ C3).out (VB _ C3).out hs5.out).mono ?_; rintro e u4 ⟨A4, n4, c4, rfl, V4, hb4⟩; have C4 := st C3 hb4 (by go_grown); replace V4 := hide V4; clear hb4 C3 hc3 hf3; obtain ⟨hc4, hf4⟩ := bcell C4; have sz4 := C4.size)
        | (go_at_call 27; refine (ref_meet_any (VA _ C4).out (VB _ C4).out hs5.out).mono ?_; rintro e u5 ⟨A5, n5, c5, rfl, V5, hb5⟩; have C5 := st C4 hb5 (by go_grown); replace V4 := hide (V4.out.stp hb5 (by go_grown)); replace V5 := hide V5; clear hb5 C4 hc4 hf4; obtain ⟨hc5, hf5⟩ := bcell C5; have sz5 := C5.size)
        | (go_at_call 23; refine (equal_eq V4.out V5.out lM.out).mono ?_; rintro e u ⟨rfl, rfl⟩; clear V4 V5)
        | (go_at_call 28; refine (trim_any (VA _ C5).out hs6.out).mono ?_; rintro e u6 ⟨A6, n6, c6, rfl, V6, hb6⟩; have C6 := st C5 hb6 (by go_grown); replace V6 := hide V6; clear hb6 C5 hc5 hf5; obtain ⟨hc6, hf6⟩ := bcell C6; have sz6 := C6.size)
        | (go_at_call 29; refine (ref_trim_vec (VA _ C6).out hs6.out).mono ?_; rintro e u7 ⟨A7, n7, c7, rfl, V7, hb7⟩; have C7 := st C6 hb7 (by go_grown); replace V6 := hide (V6.out.stp hb7 (by go_grown)); replace V7 := hide V7; clear hb7 C6 hc6 hf6; obtain ⟨hc7, hf7⟩ := bcell C7; have sz7 := C7.size)
        | (go_at_call 23; refine (equal_eq V6.out V7.out lT.out).mono ?_; rintro e u ⟨rfl, rfl⟩; clear V6 V7)
        | (go_at_call 30; refine (set_any x y hy.out (VA _ C7).out hs5.out.1).mono ?_; rintro e u8 ⟨A8, n8, c8, rfl, V8, hb8⟩; have C8 := st C7 hb8 (by go_grown); replace V8 := hide V8; clear hb8 C7 hc7 hf7; obtain ⟨hc8, hf8⟩ := bcell C8; have sz8 := C8.size)
        | (go_at_call 31; refine (ref_set_any x y hy.out (VA _ C8).out hs5.out.1).mono ?_; rintro e u9 ⟨A9, n9, c9, rfl, V9, hb9⟩; have C9 := st C8 hb9 (by go_grown); replace V8 := hide (V8.out.stp hb9 (by go_grown)); replace V9 := hide V9; clear hb9 C8 hc8 hf8; obtain ⟨hc9, hf9⟩ := bcell C9; have sz9 := C9.size)
        | (go_at_call 23; refine (equal_eq V8.out V9.out lS.out).mono ?_; rintro e u ⟨rfl, rfl⟩; clear V8 V9))
    go_wp2
    go_ret
    exact ⟨rfl, BW.trans (C9.mono BW.size)⟩
end Go.Proofs.Ytgjhhnendondcaa

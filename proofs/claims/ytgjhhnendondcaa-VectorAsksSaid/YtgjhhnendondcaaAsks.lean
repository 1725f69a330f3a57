/-
  The walk over the law VectorAsks (chapter 5): it returns true.
-/
import Derived.Test.YtgjhhnendondcaaAlive
import Derived.Deep.RegionHeld3
import Derived.Deep.DrawnRows
namespace Go.Proofs.Ytgjhhnendondcaa
open Go.RowKit
set_option linter.unusedSimpArgs false
set_option linter.unusedVariables false
attribute [local go_sem ↓] Go.wp_at_zero Go.wp_at_succ

set_option maxHeartbeats 4000000 in
theorem asks_walk (A B : Option Addr) (n c m d : Nat) (zs ys : List Int) (dev seq : Int) (w : World) (h : Vec w A n c zs) (g : Vec w B m d ys) (hd : I64 dev) :
    Calls Try.prog 3 #[.slice A n c, .slice B m d, .agg #[.int .i64 dev, .int .i64 seq]] w fun e w' => e = .returned (.bool true) ∧ Below w.heap.size w w' := by
  have hn := h.max
  have hm := g.max
  cases hfew : (decide (n ≤ 100) && decide (m ≤ 100)) with
  | false =>
    have hb0 : Below w.heap.size w (w.alloc (.cells #[.int .i64 dev, .int .i64 seq] 25)) := by go_grown
    clear h g hd
    go_enter Try.func3, Try.ntmps3
    go_wp2_with fail
    refine (few_any _ _ _ _ _ _ hn hm _).mono ?_
    rintro e w1 ⟨rfl, rfl⟩
    rw [hfew]
    go_wp2_with fail
    refine (alive_any _).mono ?_
    rintro e w2 ⟨rfl, hb⟩
    go_wp2_with fail
    go_ret
    exact ⟨rfl, hb0.trans (hb.mono hb0.size)⟩
  | true =>
    have hs : max n m ≤ 1000000 := by simp at hfew; omega
    obtain ⟨W0, hW0⟩ : ∃ V, V = w.alloc (.cells #[.int .i64 dev, .int .i64 seq] 25) := ⟨_, rfl⟩
    have BW : Below w.heap.size w W0 := by rw [hW0]; go_grown
    have k0 : W0.cell? ⟨w.heap.size, 0, none⟩ = some (.int .i64 dev) := by rw [hW0]; go_side
    have k1 : W0.cell? ⟨w.heap.size, 1, none⟩ = some (.int .i64 seq) := by rw [hW0]; go_side
    have lt0 : w.heap.size < W0.heap.size := by rw [hW0]; simp
    have VA := fun X (hX : Below W0.heap.size W0 X) => hide ((h.below BW).below hX)
    have VB := fun X (hX : Below W0.heap.size W0 X) => hide ((g.below BW).below hX)
    have C0 := Below.refl W0.heap.size W0
    replace hd := hide hd
    replace hW0 := hide hW0
    clear h g
    go_enter Try.func3, Try.ntmps3
    go_wp2_with fail
    rw [← hW0.out]
    clear hW0
    refine (few_any _ _ _ _ _ _ hn hm _).mono ?_
    rintro e w1 ⟨rfl, rfl⟩
    rw [hfew]
    clear hfew
    go_wp2_with fail
    go_region_held3 (fun w' => w'.cell? ⟨w.heap.size, 0, none⟩ = some (.int .i64 dev) ∧ w'.cell? ⟨w.heap.size, 1, none⟩ = some (.int .i64 seq)) ((simp [go_sem, *]; done))
      (first
        | (go_at_call 12; refine (alive_any _).mono ?_; rintro e u1 ⟨rfl, hb1⟩; have C1 := st C0 hb1 (by go_grown); clear hb1 C0; obtain ⟨hc1, hf1⟩ := bcell C1; have sz1 := C1.size)
        | (go_at_call 13; refine (right_any (VA _ C1).out).mono ?_; rintro e u2 ⟨rfl, rfl⟩)
        | (go_at_call 14; refine (ref_right_any (VA _ C1).out).mono ?_; rintro e u2 ⟨rfl, rfl⟩)
        | (go_at_call 15; refine (of_dev dev hd.out (VA _ C1).out).mono ?_; rintro e u2 ⟨rfl, rfl⟩)
        | (go_at_call 16; refine (ref_of_dev dev hd.out (VA _ C1).out).mono ?_; rintro e u2 ⟨rfl, rfl⟩)
        | (go_at_call 17; refine (has_any dev seq hd.out (VA _ C1).out).mono ?_; rintro e u2 ⟨rfl, hb2⟩; have C2 := st C1 hb2 (by go_grown); clear hb2 C1 hc1 hf1; obtain ⟨hc2, hf2⟩ := bcell C2; have sz2 := C2.size)
        | (go_at_call 18; refine (ref_has_any dev seq hd.out (VA _ C2).out).mono ?_; rintro e u3 ⟨rfl, hb3⟩; have C3 := st C2 hb3 (by go_grown); clear hb3 C2 hc2 hf2; obtain ⟨hc3, hf3⟩ := bcell C3; have sz3 := C3.size)
        | (go_at_call 19; refine (same_any (VA _ C3).out (VB _ C3).out).mono ?_; rintro e u2 ⟨rfl, rfl⟩)
        | (go_at_call 20; refine (ref_same_any (VA _ C3).out (VB _ C3).out hs).mono ?_; rintro e u2 ⟨rfl, rfl⟩)
        | (go_at_call 21; refine (upto_any (VA _ C3).out (VB _ C3).out).mono ?_; rintro e u2 ⟨rfl, rfl⟩)
        | (go_at_call 22; refine (ref_upto_any (VA _ C3).out (VB _ C3).out hs).mono ?_; rintro e u2 ⟨rfl, rfl⟩))
    go_wp2
    go_ret
    exact ⟨rfl, BW.trans (C3.mono BW.size)⟩
end Go.Proofs.Ytgjhhnendondcaa

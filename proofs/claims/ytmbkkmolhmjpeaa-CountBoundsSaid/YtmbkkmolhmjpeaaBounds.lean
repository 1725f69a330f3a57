/-
  The walk over the law CountBounds (chapter 8): a counter never is too great; what was added can be taken off again.
-/
import Derived.Test.YtmbkkmolhmjpeaaWalks6
namespace Go.Proofs.Ytmbkkmolhmjpeaa
open Go.RowKit
set_option linter.unusedSimpArgs false
set_option linter.unusedVariables false
attribute [local go_sem ↓] Go.wp_at_zero Go.wp_at_succ

theorem same_parts (n : Int) (A1 A2 : Option Addr) (c1 c2 : Nat) (w : World) : Calls Try.prog 15 #[.agg #[.int .i64 2, .int .i64 1, .int .i64 n, .string ⟨#[]⟩, .slice A1 0 c1], .agg #[.int .i64 2, .int .i64 1, .int .i64 n, .string ⟨#[]⟩, .slice A2 0 c2]] w fun e w' => e = .returned (.bool true) ∧ Below w.heap.size w w' := by
  go_enter Try.func15, Try.ntmps15
  go_wp2_with fail
  go_ret
  exact ⟨rfl, by go_grown⟩
theorem right_parts (n : Int) (hn : fitsB n = true) (A : Option Addr) (c : Nat) (w : World) :
    Calls Try.prog 11 #[.agg #[.int .i64 2, .int .i64 1, .int .i64 n, .string ⟨#[]⟩, .slice A 0 c]] w fun e w' => e = .returned (.int .i64 0) ∧ Below w.heap.size w w' := by
  have k := right_any 2 1 n ⟨#[]⟩ A 0 c w
  rw [rightE_yes hn] at k
  exact k
theorem show_parts (n : Int) (hn : fitsB n = true) (A : Option Addr) (c : Nat) (w : World) :
    Calls Try.prog 13 #[.agg #[.int .i64 2, .int .i64 1, .int .i64 n, .string ⟨#[]⟩, .slice A 0 c]] w fun e w' => e = .returned (.agg #[.int .i64 1, .int .i64 n, .string ⟨#[]⟩]) ∧ Below w.heap.size w w' := by
  have k := show_any 2 1 n ⟨#[]⟩ A 0 c w
  rw [rightE_yes hn, sel_zero _ _ rfl, sel_zero _ _ rfl] at k
  exact k
theorem field_num (x y : Int) (s : ByteArray) (w : World) : (Instr.field 23 (.agg #[.int .i64 x, .int .i64 y, .string s]) 1).run Try.prog w = .ok (.int .i64 y) w := by kernel_rfl
theorem addE_kinds (r cn n : Int) (h : ¬ addE r cn n = 0) : addE r cn n = 20 ∨ addE r cn n = r := by
  by_cases h0 : r = 0
  · left
    unfold addE at h ⊢
    subst h0
    by_cases h1 : fitE n = 0
    · rw [h1] at h ⊢
      by_cases h2 : fitE (cn + n) = 0
      · rw [h2] at h; exact absurd rfl h
      · rw [(fit_not h2).1]; rfl
    · rw [(fit_not h1).1]; rfl
  · right
    unfold addE
    rw [or_not h0, or_not h0]
set_option maxHeartbeats 1000000 in
theorem bounds_walk (kd vk cn : Int) (s : ByteArray) (A : Option Addr) (l c : Nat) (n : Int) (hn : -9223372036854775808 ≤ n ∧ n ≤ 9223372036854775807) (w : World) :
    Calls Try.prog 7 #[.agg #[.int .i64 kd, .int .i64 vk, .int .i64 cn, .string s, .slice A l c], .int .i64 n] w fun e w' => e = .returned (.bool true) ∧ Below w.heap.size w w' := by
  have A1 := fun w => hide (add_any kd vk cn s A l c n hn w)
  by_cases hE : addE (rightE kd vk cn s l) cn n = 0
  · obtain ⟨e12, e3⟩ := or_zero hE
    obtain ⟨e1, e2⟩ := or_zero e12
    obtain ⟨rfl, rfl, rfl, rfl, hf⟩ := right_zero e1
    have hfn := fit_zero e2
    have hfr := fit_zero e3
    obtain ⟨h1, h2⟩ := fits_in _ hfn
    obtain ⟨h3, h4⟩ := fits_in _ hf
    have hfm := fits_neg hfn
    rw [hE, sel_zero _ _ rfl, sel_zero _ _ rfl, sel_zero _ _ rfl] at A1
    have A2 := fun w => hide (add_yes (cn + n) (-n) cn none 0 hfr hfm hf (by omega) w)
    have R1 := fun w => hide (right_parts cn hf A c w)
    have R2 := fun w => hide (right_yes (cn + n) hfr w)
    have S1 := fun w => hide (show_yes (cn + n) hfr w)
    have S2 := fun w => hide (show_parts cn hf A c w)
    have hsub : IntKind.i64.wrap (cn + n - cn) = n := by rw [IntWalk.i64_in _ (by omega)]; omega
    have hfd := field_num
    clear hE e12 e3 e1 e2 hf hfn hfr hfm hn
    go_enter Try.func7, Try.ntmps7
    go_wp2_with fail
    obtain ⟨W0, hW0⟩ : ∃ V, V = w.alloc (.cells #[.int .i64 2, .int .i64 1, .int .i64 cn, .string ⟨#[]⟩, .slice A 0 c] 26) := ⟨_, rfl⟩
    rw [← hW0]
    have sW0 : W0.heap.size = w.heap.size + 1 := by rw [hW0]; simp
    have BW0 : Below w.heap.size w W0 := by rw [hW0]; go_grown
    have k0 : W0.cell? ⟨w.heap.size, 0, none⟩ = some (.int .i64 2) := by rw [hW0]; go_side
    have k1 : W0.cell? ⟨w.heap.size, 1, none⟩ = some (.int .i64 1) := by rw [hW0]; go_side
    have k2 : W0.cell? ⟨w.heap.size, 2, none⟩ = some (.int .i64 cn) := by rw [hW0]; go_side
    have k3 : W0.cell? ⟨w.heap.size, 3, none⟩ = some (.string ⟨#[]⟩) := by rw [hW0]; go_side
    have k4 : W0.cell? ⟨w.heap.size, 4, none⟩ = some (.slice A 0 c) := by rw [hW0]; go_side
    clear hW0
    refine (awake_any _).mono ?_
    rintro e w1 ⟨rfl, hb1⟩
    have lt0 : w.heap.size < W0.heap.size := by omega
    have a0 : w1.cell? ⟨w.heap.size, 0, none⟩ = some (.int .i64 2) := (hb1.cell (p := ⟨w.heap.size, 0, none⟩) lt0).trans k0
    have a1 : w1.cell? ⟨w.heap.size, 1, none⟩ = some (.int .i64 1) := (hb1.cell (p := ⟨w.heap.size, 1, none⟩) lt0).trans k1
    have a2 : w1.cell? ⟨w.heap.size, 2, none⟩ = some (.int .i64 cn) := (hb1.cell (p := ⟨w.heap.size, 2, none⟩) lt0).trans k2
    have a3 : w1.cell? ⟨w.heap.size, 3, none⟩ = some (.string ⟨#[]⟩) := (hb1.cell (p := ⟨w.heap.size, 3, none⟩) lt0).trans k3
    have a4 : w1.cell? ⟨w.heap.size, 4, none⟩ = some (.slice A 0 c) := (hb1.cell (p := ⟨w.heap.size, 4, none⟩) lt0).trans k4
    have B1 := BW0.trans (hb1.mono BW0.size)
    have lt1 : w.heap.size < w1.heap.size := Nat.lt_of_lt_of_le lt0 hb1.size
    clear hb1 k0 k1 k2 k3 k4 sW0 BW0 lt0
    go_wp2_with fail
    refine ((A1 _).out).mono ?_
    rintro e w2 ⟨rfl, hb2⟩
    have b0 : w2.cell? ⟨w.heap.size, 0, none⟩ = some (.int .i64 2) := (hb2.cell (p := ⟨w.heap.size, 0, none⟩) lt1).trans a0
    have b1 : w2.cell? ⟨w.heap.size, 1, none⟩ = some (.int .i64 1) := (hb2.cell (p := ⟨w.heap.size, 1, none⟩) lt1).trans a1
    have b2 : w2.cell? ⟨w.heap.size, 2, none⟩ = some (.int .i64 cn) := (hb2.cell (p := ⟨w.heap.size, 2, none⟩) lt1).trans a2
    have b3 : w2.cell? ⟨w.heap.size, 3, none⟩ = some (.string ⟨#[]⟩) := (hb2.cell (p := ⟨w.heap.size, 3, none⟩) lt1).trans a3
    have b4 : w2.cell? ⟨w.heap.size, 4, none⟩ = some (.slice A 0 c) := (hb2.cell (p := ⟨w.heap.size, 4, none⟩) lt1).trans a4
    have B2 := B1.trans (hb2.mono B1.size)
    have lt2 : w.heap.size < w2.heap.size := Nat.lt_of_lt_of_le lt1 hb2.size
    clear hb2 a0 a1 a2 a3 a4 B1 lt1 A1
    go_wp2_with fail
    obtain ⟨X, hX⟩ : ∃ V, V = w2.alloc (.cells #[.int .i64 2, .int .i64 1, .int .i64 (cn + n), .string ⟨#[]⟩, .slice none 0 0] 26) := ⟨_, rfl⟩
    rw [← hX]
    have sX : X.heap.size = w2.heap.size + 1 := by rw [hX]; simp
    have BX : Below w.heap.size w X := by rw [hX]; exact B2.alloc B2.size _
    have d0 : X.cell? ⟨w.heap.size, 0, none⟩ = some (.int .i64 2) := by rw [hX, World.cell?_alloc_lt _ _ _ lt2]; exact b0
    have d1 : X.cell? ⟨w.heap.size, 1, none⟩ = some (.int .i64 1) := by rw [hX, World.cell?_alloc_lt _ _ _ lt2]; exact b1
    have d2 : X.cell? ⟨w.heap.size, 2, none⟩ = some (.int .i64 cn) := by rw [hX, World.cell?_alloc_lt _ _ _ lt2]; exact b2
    have d3 : X.cell? ⟨w.heap.size, 3, none⟩ = some (.string ⟨#[]⟩) := by rw [hX, World.cell?_alloc_lt _ _ _ lt2]; exact b3
    have d4 : X.cell? ⟨w.heap.size, 4, none⟩ = some (.slice A 0 c) := by rw [hX, World.cell?_alloc_lt _ _ _ lt2]; exact b4
    have e0 : X.cell? ⟨w2.heap.size, 0, none⟩ = some (.int .i64 2) := by rw [hX]; go_side
    have e1 : X.cell? ⟨w2.heap.size, 1, none⟩ = some (.int .i64 1) := by rw [hX]; go_side
    have e2 : X.cell? ⟨w2.heap.size, 2, none⟩ = some (.int .i64 (cn + n)) := by rw [hX]; go_side
    have e3 : X.cell? ⟨w2.heap.size, 3, none⟩ = some (.string ⟨#[]⟩) := by rw [hX]; go_side
    have e4 : X.cell? ⟨w2.heap.size, 4, none⟩ = some (.slice none 0 0) := by rw [hX]; go_side
    have lt3 : w.heap.size < X.heap.size := by omega
    have lt4 : w2.heap.size < X.heap.size := by omega
    clear hX
    refine ((A2 _).out).mono ?_
    rintro e w3 ⟨rfl, hb3⟩
    have g0 : w3.cell? ⟨w.heap.size, 0, none⟩ = some (.int .i64 2) := (hb3.cell (p := ⟨w.heap.size, 0, none⟩) lt3).trans d0
    have g1 : w3.cell? ⟨w.heap.size, 1, none⟩ = some (.int .i64 1) := (hb3.cell (p := ⟨w.heap.size, 1, none⟩) lt3).trans d1
    have g2 : w3.cell? ⟨w.heap.size, 2, none⟩ = some (.int .i64 cn) := (hb3.cell (p := ⟨w.heap.size, 2, none⟩) lt3).trans d2
    have g3 : w3.cell? ⟨w.heap.size, 3, none⟩ = some (.string ⟨#[]⟩) := (hb3.cell (p := ⟨w.heap.size, 3, none⟩) lt3).trans d3
    have g4 : w3.cell? ⟨w.heap.size, 4, none⟩ = some (.slice A 0 c) := (hb3.cell (p := ⟨w.heap.size, 4, none⟩) lt3).trans d4
    have h0 : w3.cell? ⟨w2.heap.size, 0, none⟩ = some (.int .i64 2) := (hb3.cell (p := ⟨w2.heap.size, 0, none⟩) lt4).trans e0
    have h1 : w3.cell? ⟨w2.heap.size, 1, none⟩ = some (.int .i64 1) := (hb3.cell (p := ⟨w2.heap.size, 1, none⟩) lt4).trans e1
    have h2 : w3.cell? ⟨w2.heap.size, 2, none⟩ = some (.int .i64 (cn + n)) := (hb3.cell (p := ⟨w2.heap.size, 2, none⟩) lt4).trans e2
    have h3 : w3.cell? ⟨w2.heap.size, 3, none⟩ = some (.string ⟨#[]⟩) := (hb3.cell (p := ⟨w2.heap.size, 3, none⟩) lt4).trans e3
    have h4 : w3.cell? ⟨w2.heap.size, 4, none⟩ = some (.slice none 0 0) := (hb3.cell (p := ⟨w2.heap.size, 4, none⟩) lt4).trans e4
    have B3 := BX.trans (hb3.mono BX.size)
    have lt5 : w.heap.size < w3.heap.size := Nat.lt_of_lt_of_le lt3 hb3.size
    have lt6 : w2.heap.size < w3.heap.size := Nat.lt_of_lt_of_le lt4 hb3.size
    clear hb3 sX
    go_wp2_with fail
    obtain ⟨V, hV⟩ : ∃ V, V = w3.alloc (.cells #[.int .i64 2, .int .i64 1, .int .i64 cn, .string ⟨#[]⟩, .slice none 0 0] 26) := ⟨_, rfl⟩
    rw [← hV]
    have sV : V.heap.size = w3.heap.size + 1 := by rw [hV]; simp
    have BV : Below w.heap.size w V := by rw [hV]; exact B3.alloc B3.size _
    have m0 : V.cell? ⟨w.heap.size, 0, none⟩ = some (.int .i64 2) := by rw [hV, World.cell?_alloc_lt _ _ _ lt5]; exact g0
    have m1 : V.cell? ⟨w.heap.size, 1, none⟩ = some (.int .i64 1) := by rw [hV, World.cell?_alloc_lt _ _ _ lt5]; exact g1
    have m2 : V.cell? ⟨w.heap.size, 2, none⟩ = some (.int .i64 cn) := by rw [hV, World.cell?_alloc_lt _ _ _ lt5]; exact g2
    have m3 : V.cell? ⟨w.heap.size, 3, none⟩ = some (.string ⟨#[]⟩) := by rw [hV, World.cell?_alloc_lt _ _ _ lt5]; exact g3
    have m4 : V.cell? ⟨w.heap.size, 4, none⟩ = some (.slice A 0 c) := by rw [hV, World.cell?_alloc_lt _ _ _ lt5]; exact g4
    have p0 : V.cell? ⟨w2.heap.size, 0, none⟩ = some (.int .i64 2) := by rw [hV, World.cell?_alloc_lt _ _ _ lt6]; exact h0
    have p1 : V.cell? ⟨w2.heap.size, 1, none⟩ = some (.int .i64 1) := by rw [hV, World.cell?_alloc_lt _ _ _ lt6]; exact h1
    have p2 : V.cell? ⟨w2.heap.size, 2, none⟩ = some (.int .i64 (cn + n)) := by rw [hV, World.cell?_alloc_lt _ _ _ lt6]; exact h2
    have p3 : V.cell? ⟨w2.heap.size, 3, none⟩ = some (.string ⟨#[]⟩) := by rw [hV, World.cell?_alloc_lt _ _ _ lt6]; exact h3
    have p4 : V.cell? ⟨w2.heap.size, 4, none⟩ = some (.slice none 0 0) := by rw [hV, World.cell?_alloc_lt _ _ _ lt6]; exact h4
    have q0 : V.cell? ⟨w3.heap.size, 0, none⟩ = some (.int .i64 2) := by rw [hV]; go_side
    have q1 : V.cell? ⟨w3.heap.size, 1, none⟩ = some (.int .i64 1) := by rw [hV]; go_side
    have q2 : V.cell? ⟨w3.heap.size, 2, none⟩ = some (.int .i64 cn) := by rw [hV]; go_side
    have q3 : V.cell? ⟨w3.heap.size, 3, none⟩ = some (.string ⟨#[]⟩) := by rw [hV]; go_side
    have q4 : V.cell? ⟨w3.heap.size, 4, none⟩ = some (.slice none 0 0) := by rw [hV]; go_side
    have lt7 : w.heap.size < V.heap.size := by omega
    have lt8 : w2.heap.size < V.heap.size := by omega
    have lt9 : w3.heap.size < V.heap.size := by omega
    clear hV A2 B2 B3 BX lt2 lt3 lt4 lt5 lt6 sV b0 b1 b2 b3 b4 d0 d1 d2 d3 d4 e0 e1 e2 e3 e4 g0 g1 g2 g3 g4 h0 h1 h2 h3 h4
    have hx1 : -1099511627776 ≤ n := by assumption
    have hx2 : n ≤ 1099511627776 := by assumption
    have hx3 : -1099511627776 ≤ cn := by assumption
    have hx4 : cn ≤ 1099511627776 := by assumption
    go_region_held3 (fun w' => w'.cell? ⟨w.heap.size, 0, none⟩ = some (.int .i64 2) ∧ w'.cell? ⟨w.heap.size, 1, none⟩ = some (.int .i64 1) ∧ w'.cell? ⟨w.heap.size, 2, none⟩ = some (.int .i64 cn) ∧ w'.cell? ⟨w.heap.size, 3, none⟩ = some (.string ⟨#[]⟩) ∧ w'.cell? ⟨w.heap.size, 4, none⟩ = some (.slice A 0 c) ∧ w'.cell? ⟨w2.heap.size, 0, none⟩ = some (.int .i64 2) ∧ w'.cell? ⟨w2.heap.size, 1, none⟩ = some (.int .i64 1) ∧ w'.cell? ⟨w2.heap.size, 2, none⟩ = some (.int .i64 (cn + n)) ∧ w'.cell? ⟨w2.heap.size, 3, none⟩ = some (.string ⟨#[]⟩) ∧ w'.cell? ⟨w2.heap.size, 4, none⟩ = some (.slice none 0 0) ∧ w'.cell? ⟨w3.heap.size, 0, none⟩ = some (.int .i64 2) ∧ w'.cell? ⟨w3.heap.size, 1, none⟩ = some (.int .i64 1) ∧ w'.cell? ⟨w3.heap.size, 2, none⟩ = some (.int .i64 cn) ∧ w'.cell? ⟨w3.heap.size, 3, none⟩ = some (.string ⟨#[]⟩) ∧ w'.cell? ⟨w3.heap.size, 4, none⟩ = some (.slice none 0 0)) ((simp [go_sem, *]; done))
      (first
        | (go_at_call 11; first | (refine ((R1 _).out).mono ?_; rintro e u1 ⟨rfl, hb1⟩; have D1 := st (Below.refl _ V) hb1 (by go_grown); clear hb1 R1; obtain ⟨hc1, hf1⟩ := bcell D1) | (refine ((R2 _).out).mono ?_; rintro e u2 ⟨rfl, hb2⟩; have D2 := st D1 hb2 (by go_grown); clear hb2 D1 hc1 hf1 R2; obtain ⟨hc2, hf2⟩ := bcell D2))
        | (go_at_call 15; refine (same_parts _ _ _ _ _ _).mono ?_; rintro e u3 ⟨rfl, hb3⟩; have D3 := st D2 hb3 (by go_grown); clear hb3 D2 hc2 hf2; obtain ⟨hc3, hf3⟩ := bcell D3)
        | (go_at_call 13; first | (refine ((S1 _).out).mono ?_; rintro e u4 ⟨rfl, hb4⟩; have D4 := st D3 hb4 (by go_grown); clear hb4 D3 hc3 hf3 S1; obtain ⟨hc4, hf4⟩ := bcell D4) | (refine ((S2 _).out).mono ?_; rintro e u5 ⟨rfl, hb5⟩; have D5 := st D4 hb5 (by go_grown); clear hb5 D4 hc4 hf4 S2; obtain ⟨hc5, hf5⟩ := bcell D5)))
    go_wp2
    go_ret
    exact ⟨rfl, BV.trans (D5.mono BV.size)⟩
  · have hk := addE_kinds _ _ _ hE
    rw [sel_not _ _ hE, sel_not _ _ hE, sel_not _ _ hE] at A1
    have RC := fun w => hide (right_any kd vk cn s A l c w)
    have t1 : (addE (rightE kd vk cn s l) cn n != 0) = true := by simp [hE]
    clear hE hn
    generalize addE (rightE kd vk cn s l) cn n = E at A1 hk t1
    by_cases h20 : E = 20
    · subst h20
      clear hk RC t1
      go_enter Try.func7, Try.ntmps7
      go_wp2_with fail
      obtain ⟨W0, hW0⟩ : ∃ V, V = w.alloc (.cells #[.int .i64 kd, .int .i64 vk, .int .i64 cn, .string s, .slice A l c] 26) := ⟨_, rfl⟩
      rw [← hW0]
      have sW0 : W0.heap.size = w.heap.size + 1 := by rw [hW0]; simp
      have BW0 : Below w.heap.size w W0 := by rw [hW0]; go_grown
      have k0 : W0.cell? ⟨w.heap.size, 0, none⟩ = some (.int .i64 kd) := by rw [hW0]; go_side
      have k1 : W0.cell? ⟨w.heap.size, 1, none⟩ = some (.int .i64 vk) := by rw [hW0]; go_side
      have k2 : W0.cell? ⟨w.heap.size, 2, none⟩ = some (.int .i64 cn) := by rw [hW0]; go_side
      have k3 : W0.cell? ⟨w.heap.size, 3, none⟩ = some (.string s) := by rw [hW0]; go_side
      have k4 : W0.cell? ⟨w.heap.size, 4, none⟩ = some (.slice A l c) := by rw [hW0]; go_side
      clear hW0
      refine (awake_any _).mono ?_
      rintro e w1 ⟨rfl, hb1⟩
      have lt0 : w.heap.size < W0.heap.size := by omega
      have a0 : w1.cell? ⟨w.heap.size, 0, none⟩ = some (.int .i64 kd) := (hb1.cell (p := ⟨w.heap.size, 0, none⟩) lt0).trans k0
      have a1 : w1.cell? ⟨w.heap.size, 1, none⟩ = some (.int .i64 vk) := (hb1.cell (p := ⟨w.heap.size, 1, none⟩) lt0).trans k1
      have a2 : w1.cell? ⟨w.heap.size, 2, none⟩ = some (.int .i64 cn) := (hb1.cell (p := ⟨w.heap.size, 2, none⟩) lt0).trans k2
      have a3 : w1.cell? ⟨w.heap.size, 3, none⟩ = some (.string s) := (hb1.cell (p := ⟨w.heap.size, 3, none⟩) lt0).trans k3
      have a4 : w1.cell? ⟨w.heap.size, 4, none⟩ = some (.slice A l c) := (hb1.cell (p := ⟨w.heap.size, 4, none⟩) lt0).trans k4
      have B1 := BW0.trans (hb1.mono BW0.size)
      have lt1 : w.heap.size < w1.heap.size := Nat.lt_of_lt_of_le lt0 hb1.size
      clear hb1 k0 k1 k2 k3 k4 sW0 BW0 lt0
      go_wp2_with fail
      refine ((A1 _).out).mono ?_
      rintro e w2 ⟨rfl, hb2⟩
      have b0 : w2.cell? ⟨w.heap.size, 0, none⟩ = some (.int .i64 kd) := (hb2.cell (p := ⟨w.heap.size, 0, none⟩) lt1).trans a0
      have b1 : w2.cell? ⟨w.heap.size, 1, none⟩ = some (.int .i64 vk) := (hb2.cell (p := ⟨w.heap.size, 1, none⟩) lt1).trans a1
      have b2 : w2.cell? ⟨w.heap.size, 2, none⟩ = some (.int .i64 cn) := (hb2.cell (p := ⟨w.heap.size, 2, none⟩) lt1).trans a2
      have b3 : w2.cell? ⟨w.heap.size, 3, none⟩ = some (.string s) := (hb2.cell (p := ⟨w.heap.size, 3, none⟩) lt1).trans a3
      have b4 : w2.cell? ⟨w.heap.size, 4, none⟩ = some (.slice A l c) := (hb2.cell (p := ⟨w.heap.size, 4, none⟩) lt1).trans a4
      have B2 := B1.trans (hb2.mono B1.size)
      have lt2 : w.heap.size < w2.heap.size := Nat.lt_of_lt_of_le lt1 hb2.size
      clear hb2 a0 a1 a2 a3 a4 B1 lt1 A1
      go_wp2_with fail
      obtain ⟨X, hX⟩ : ∃ V, V = w2.alloc (.cells #[.int .i64 0, .int .i64 0, .int .i64 0, .string ⟨#[]⟩, .slice none 0 0] 26) := ⟨_, rfl⟩
      rw [← hX]
      have sX : X.heap.size = w2.heap.size + 1 := by rw [hX]; simp
      have BX : Below w.heap.size w X := by rw [hX]; exact B2.alloc B2.size _
      have d0 : X.cell? ⟨w.heap.size, 0, none⟩ = some (.int .i64 kd) := by rw [hX, World.cell?_alloc_lt _ _ _ lt2]; exact b0
      have d1 : X.cell? ⟨w.heap.size, 1, none⟩ = some (.int .i64 vk) := by rw [hX, World.cell?_alloc_lt _ _ _ lt2]; exact b1
      have d2 : X.cell? ⟨w.heap.size, 2, none⟩ = some (.int .i64 cn) := by rw [hX, World.cell?_alloc_lt _ _ _ lt2]; exact b2
      have d3 : X.cell? ⟨w.heap.size, 3, none⟩ = some (.string s) := by rw [hX, World.cell?_alloc_lt _ _ _ lt2]; exact b3
      have d4 : X.cell? ⟨w.heap.size, 4, none⟩ = some (.slice A l c) := by rw [hX, World.cell?_alloc_lt _ _ _ lt2]; exact b4
      have e0 : X.cell? ⟨w2.heap.size, 0, none⟩ = some (.int .i64 0) := by rw [hX]; go_side
      have e1 : X.cell? ⟨w2.heap.size, 1, none⟩ = some (.int .i64 0) := by rw [hX]; go_side
      have e2 : X.cell? ⟨w2.heap.size, 2, none⟩ = some (.int .i64 0) := by rw [hX]; go_side
      have e3 : X.cell? ⟨w2.heap.size, 3, none⟩ = some (.string ⟨#[]⟩) := by rw [hX]; go_side
      have e4 : X.cell? ⟨w2.heap.size, 4, none⟩ = some (.slice none 0 0) := by rw [hX]; go_side
      have lt3 : w.heap.size < X.heap.size := by omega
      have lt4 : w2.heap.size < X.heap.size := by omega
      clear hX
      refine (same_any _ _ _ _).mono ?_
      rintro e w3 ⟨rfl, hb3⟩
      have g0 : w3.cell? ⟨w.heap.size, 0, none⟩ = some (.int .i64 kd) := (hb3.cell (p := ⟨w.heap.size, 0, none⟩) lt3).trans d0
      have g1 : w3.cell? ⟨w.heap.size, 1, none⟩ = some (.int .i64 vk) := (hb3.cell (p := ⟨w.heap.size, 1, none⟩) lt3).trans d1
      have g2 : w3.cell? ⟨w.heap.size, 2, none⟩ = some (.int .i64 cn) := (hb3.cell (p := ⟨w.heap.size, 2, none⟩) lt3).trans d2
      have g3 : w3.cell? ⟨w.heap.size, 3, none⟩ = some (.string s) := (hb3.cell (p := ⟨w.heap.size, 3, none⟩) lt3).trans d3
      have g4 : w3.cell? ⟨w.heap.size, 4, none⟩ = some (.slice A l c) := (hb3.cell (p := ⟨w.heap.size, 4, none⟩) lt3).trans d4
      have h0 : w3.cell? ⟨w2.heap.size, 0, none⟩ = some (.int .i64 0) := (hb3.cell (p := ⟨w2.heap.size, 0, none⟩) lt4).trans e0
      have h1 : w3.cell? ⟨w2.heap.size, 1, none⟩ = some (.int .i64 0) := (hb3.cell (p := ⟨w2.heap.size, 1, none⟩) lt4).trans e1
      have h2 : w3.cell? ⟨w2.heap.size, 2, none⟩ = some (.int .i64 0) := (hb3.cell (p := ⟨w2.heap.size, 2, none⟩) lt4).trans e2
      have h3 : w3.cell? ⟨w2.heap.size, 3, none⟩ = some (.string ⟨#[]⟩) := (hb3.cell (p := ⟨w2.heap.size, 3, none⟩) lt4).trans e3
      have h4 : w3.cell? ⟨w2.heap.size, 4, none⟩ = some (.slice none 0 0) := (hb3.cell (p := ⟨w2.heap.size, 4, none⟩) lt4).trans e4
      have B3 := BX.trans (hb3.mono BX.size)
      go_wp2_with fail
      go_ret
      exact ⟨rfl, B3⟩
    · have hr : E = rightE kd vk cn s l := hk.resolve_left h20
      have t2 : (E == 20) = false := by simp [h20]
      subst hr
      clear hk h20
      go_enter Try.func7, Try.ntmps7
      go_wp2_with fail
      obtain ⟨W0, hW0⟩ : ∃ V, V = w.alloc (.cells #[.int .i64 kd, .int .i64 vk, .int .i64 cn, .string s, .slice A l c] 26) := ⟨_, rfl⟩
      rw [← hW0]
      have sW0 : W0.heap.size = w.heap.size + 1 := by rw [hW0]; simp
      have BW0 : Below w.heap.size w W0 := by rw [hW0]; go_grown
      have k0 : W0.cell? ⟨w.heap.size, 0, none⟩ = some (.int .i64 kd) := by rw [hW0]; go_side
      have k1 : W0.cell? ⟨w.heap.size, 1, none⟩ = some (.int .i64 vk) := by rw [hW0]; go_side
      have k2 : W0.cell? ⟨w.heap.size, 2, none⟩ = some (.int .i64 cn) := by rw [hW0]; go_side
      have k3 : W0.cell? ⟨w.heap.size, 3, none⟩ = some (.string s) := by rw [hW0]; go_side
      have k4 : W0.cell? ⟨w.heap.size, 4, none⟩ = some (.slice A l c) := by rw [hW0]; go_side
      clear hW0
      refine (awake_any _).mono ?_
      rintro e w1 ⟨rfl, hb1⟩
      have lt0 : w.heap.size < W0.heap.size := by omega
      have a0 : w1.cell? ⟨w.heap.size, 0, none⟩ = some (.int .i64 kd) := (hb1.cell (p := ⟨w.heap.size, 0, none⟩) lt0).trans k0
      have a1 : w1.cell? ⟨w.heap.size, 1, none⟩ = some (.int .i64 vk) := (hb1.cell (p := ⟨w.heap.size, 1, none⟩) lt0).trans k1
      have a2 : w1.cell? ⟨w.heap.size, 2, none⟩ = some (.int .i64 cn) := (hb1.cell (p := ⟨w.heap.size, 2, none⟩) lt0).trans k2
      have a3 : w1.cell? ⟨w.heap.size, 3, none⟩ = some (.string s) := (hb1.cell (p := ⟨w.heap.size, 3, none⟩) lt0).trans k3
      have a4 : w1.cell? ⟨w.heap.size, 4, none⟩ = some (.slice A l c) := (hb1.cell (p := ⟨w.heap.size, 4, none⟩) lt0).trans k4
      have B1 := BW0.trans (hb1.mono BW0.size)
      have lt1 : w.heap.size < w1.heap.size := Nat.lt_of_lt_of_le lt0 hb1.size
      clear hb1 k0 k1 k2 k3 k4 sW0 BW0 lt0
      go_wp2_with fail
      refine ((A1 _).out).mono ?_
      rintro e w2 ⟨rfl, hb2⟩
      have b0 : w2.cell? ⟨w.heap.size, 0, none⟩ = some (.int .i64 kd) := (hb2.cell (p := ⟨w.heap.size, 0, none⟩) lt1).trans a0
      have b1 : w2.cell? ⟨w.heap.size, 1, none⟩ = some (.int .i64 vk) := (hb2.cell (p := ⟨w.heap.size, 1, none⟩) lt1).trans a1
      have b2 : w2.cell? ⟨w.heap.size, 2, none⟩ = some (.int .i64 cn) := (hb2.cell (p := ⟨w.heap.size, 2, none⟩) lt1).trans a2
      have b3 : w2.cell? ⟨w.heap.size, 3, none⟩ = some (.string s) := (hb2.cell (p := ⟨w.heap.size, 3, none⟩) lt1).trans a3
      have b4 : w2.cell? ⟨w.heap.size, 4, none⟩ = some (.slice A l c) := (hb2.cell (p := ⟨w.heap.size, 4, none⟩) lt1).trans a4
      have B2 := B1.trans (hb2.mono B1.size)
      have lt2 : w.heap.size < w2.heap.size := Nat.lt_of_lt_of_le lt1 hb2.size
      clear hb2 a0 a1 a2 a3 a4 B1 lt1 A1
      go_wp2_with fail
      obtain ⟨X, hX⟩ : ∃ V, V = w2.alloc (.cells #[.int .i64 0, .int .i64 0, .int .i64 0, .string ⟨#[]⟩, .slice none 0 0] 26) := ⟨_, rfl⟩
      rw [← hX]
      have sX : X.heap.size = w2.heap.size + 1 := by rw [hX]; simp
      have BX : Below w.heap.size w X := by rw [hX]; exact B2.alloc B2.size _
      have d0 : X.cell? ⟨w.heap.size, 0, none⟩ = some (.int .i64 kd) := by rw [hX, World.cell?_alloc_lt _ _ _ lt2]; exact b0
      have d1 : X.cell? ⟨w.heap.size, 1, none⟩ = some (.int .i64 vk) := by rw [hX, World.cell?_alloc_lt _ _ _ lt2]; exact b1
      have d2 : X.cell? ⟨w.heap.size, 2, none⟩ = some (.int .i64 cn) := by rw [hX, World.cell?_alloc_lt _ _ _ lt2]; exact b2
      have d3 : X.cell? ⟨w.heap.size, 3, none⟩ = some (.string s) := by rw [hX, World.cell?_alloc_lt _ _ _ lt2]; exact b3
      have d4 : X.cell? ⟨w.heap.size, 4, none⟩ = some (.slice A l c) := by rw [hX, World.cell?_alloc_lt _ _ _ lt2]; exact b4
      have e0 : X.cell? ⟨w2.heap.size, 0, none⟩ = some (.int .i64 0) := by rw [hX]; go_side
      have e1 : X.cell? ⟨w2.heap.size, 1, none⟩ = some (.int .i64 0) := by rw [hX]; go_side
      have e2 : X.cell? ⟨w2.heap.size, 2, none⟩ = some (.int .i64 0) := by rw [hX]; go_side
      have e3 : X.cell? ⟨w2.heap.size, 3, none⟩ = some (.string ⟨#[]⟩) := by rw [hX]; go_side
      have e4 : X.cell? ⟨w2.heap.size, 4, none⟩ = some (.slice none 0 0) := by rw [hX]; go_side
      have lt3 : w.heap.size < X.heap.size := by omega
      have lt4 : w2.heap.size < X.heap.size := by omega
      clear hX
      refine (same_any _ _ _ _).mono ?_
      rintro e w3 ⟨rfl, hb3⟩
      have g0 : w3.cell? ⟨w.heap.size, 0, none⟩ = some (.int .i64 kd) := (hb3.cell (p := ⟨w.heap.size, 0, none⟩) lt3).trans d0
      have g1 : w3.cell? ⟨w.heap.size, 1, none⟩ = some (.int .i64 vk) := (hb3.cell (p := ⟨w.heap.size, 1, none⟩) lt3).trans d1
      have g2 : w3.cell? ⟨w.heap.size, 2, none⟩ = some (.int .i64 cn) := (hb3.cell (p := ⟨w.heap.size, 2, none⟩) lt3).trans d2
      have g3 : w3.cell? ⟨w.heap.size, 3, none⟩ = some (.string s) := (hb3.cell (p := ⟨w.heap.size, 3, none⟩) lt3).trans d3
      have g4 : w3.cell? ⟨w.heap.size, 4, none⟩ = some (.slice A l c) := (hb3.cell (p := ⟨w.heap.size, 4, none⟩) lt3).trans d4
      have h0 : w3.cell? ⟨w2.heap.size, 0, none⟩ = some (.int .i64 0) := (hb3.cell (p := ⟨w2.heap.size, 0, none⟩) lt4).trans e0
      have h1 : w3.cell? ⟨w2.heap.size, 1, none⟩ = some (.int .i64 0) := (hb3.cell (p := ⟨w2.heap.size, 1, none⟩) lt4).trans e1
      have h2 : w3.cell? ⟨w2.heap.size, 2, none⟩ = some (.int .i64 0) := (hb3.cell (p := ⟨w2.heap.size, 2, none⟩) lt4).trans e2
      have h3 : w3.cell? ⟨w2.heap.size, 3, none⟩ = some (.string ⟨#[]⟩) := (hb3.cell (p := ⟨w2.heap.size, 3, none⟩) lt4).trans e3
      have h4 : w3.cell? ⟨w2.heap.size, 4, none⟩ = some (.slice none 0 0) := (hb3.cell (p := ⟨w2.heap.size, 4, none⟩) lt4).trans e4
      have B3 := BX.trans (hb3.mono BX.size)
      go_wp2_with fail
      refine ((RC _).out).mono ?_
      rintro e w4 ⟨rfl, hb4⟩
      go_wp2_with fail
      go_ret
      exact ⟨rfl, B3.trans (hb4.mono B3.size)⟩
end Go.Proofs.Ytmbkkmolhmjpeaa

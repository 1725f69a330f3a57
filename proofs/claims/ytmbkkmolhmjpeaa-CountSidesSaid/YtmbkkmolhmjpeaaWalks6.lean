/-
  The chapter's examples (chapter 8, count), as the laws ask them.
-/
import Derived.Test.YtmbkkmolhmjpeaaWalks5
namespace Go.Proofs.Ytmbkkmolhmjpeaa
open Go.RowKit
set_option linter.unusedSimpArgs false
set_option linter.unusedVariables false
attribute [local go_sem ↓] Go.wp_at_zero Go.wp_at_succ

theorem fitE_yes {n : Int} (h : fitsB n = true) : fitE n = 0 := by simp [fitE, h]
theorem rightE_yes {n : Int} (h : fitsB n = true) : rightE 2 1 n ⟨#[]⟩ 0 = 0 := by rw [rightE_of, fitE_yes h]
theorem add_yes (a n r : Int) (A : Option Addr) (c : Nat) (ha : fitsB a = true) (hn : fitsB n = true) (hr : fitsB r = true) (h : a + n = r) (w : World) :
    Calls Try.prog 9 #[.agg #[.int .i64 2, .int .i64 1, .int .i64 a, .string ⟨#[]⟩, .slice A 0 c], .int .i64 n] w fun e w' =>
      e = .returned (.tuple #[.agg #[.int .i64 2, .int .i64 1, .int .i64 r, .string ⟨#[]⟩, .slice none 0 0], .int .i64 0]) ∧ Below w.heap.size w w' := by
  obtain ⟨h1, h2⟩ := fits_in _ hn
  have e : addE (rightE 2 1 a ⟨#[]⟩ 0) a n = 0 := by unfold addE; rw [rightE_yes ha, fitE_yes hn, h, fitE_yes hr]; rfl
  have k := add_any 2 1 a ⟨#[]⟩ A 0 c n (by omega) w
  rw [e, sel_zero _ _ rfl, sel_zero _ _ rfl, sel_zero _ _ rfl, h] at k
  exact k
theorem merge_yes (a b o r : Int) (ha : fitsB a = true) (hb : fitsB b = true) (ho : fitsB o = true) (hr : fitsB r = true) (h : a + b - o = r) (w : World) :
    Calls Try.prog 18 #[.agg #[.int .i64 2, .int .i64 1, .int .i64 a, .string ⟨#[]⟩, .slice none 0 0], .agg #[.int .i64 2, .int .i64 1, .int .i64 b, .string ⟨#[]⟩, .slice none 0 0], .agg #[.int .i64 2, .int .i64 1, .int .i64 o, .string ⟨#[]⟩, .slice none 0 0]] w fun e w' =>
      e = .returned (.tuple #[.agg #[.int .i64 2, .int .i64 1, .int .i64 r, .string ⟨#[]⟩, .slice none 0 0], .int .i64 0]) ∧ Below w.heap.size w w' := by
  have e : mergeE (rightE 2 1 a ⟨#[]⟩ 0) (rightE 2 1 b ⟨#[]⟩ 0) (rightE 2 1 o ⟨#[]⟩ 0) a b o = 0 := by
    unfold mergeE; rw [rightE_yes ha, rightE_yes hb, rightE_yes ho, h, fitE_yes hr]; rfl
  have k := merge_any 2 1 a ⟨#[]⟩ none 0 0 2 1 b ⟨#[]⟩ none 0 0 2 1 o ⟨#[]⟩ none 0 0 w
  rw [e, sel_zero _ _ rfl, sel_zero _ _ rfl, sel_zero _ _ rfl, h] at k
  exact k
theorem show_yes (n : Int) (hn : fitsB n = true) (w : World) :
    Calls Try.prog 13 #[.agg #[.int .i64 2, .int .i64 1, .int .i64 n, .string ⟨#[]⟩, .slice none 0 0]] w fun e w' => e = .returned (.agg #[.int .i64 1, .int .i64 n, .string ⟨#[]⟩]) ∧ Below w.heap.size w w' := by
  have k := show_any 2 1 n ⟨#[]⟩ none 0 0 w
  rw [rightE_yes hn, sel_zero _ _ rfl, sel_zero _ _ rfl] at k
  exact k
theorem right_yes (n : Int) (hn : fitsB n = true) (w : World) :
    Calls Try.prog 11 #[.agg #[.int .i64 2, .int .i64 1, .int .i64 n, .string ⟨#[]⟩, .slice none 0 0]] w fun e w' => e = .returned (.int .i64 0) ∧ Below w.heap.size w w' := by
  have k := right_any 2 1 n ⟨#[]⟩ none 0 0 w
  rw [rightE_yes hn] at k
  exact k
theorem awake_any (w : World) : Calls Try.prog 8 #[] w fun e w' => e = .returned (.bool true) ∧ Below w.heap.size w w' := by
  go_enter Try.func8, Try.ntmps8
  go_wp2_with fail
  refine (new_any _).mono ?_
  rintro e w1 ⟨rfl, B1⟩
  go_wp2_with fail
  refine (add_yes 0 5 5 _ _ (by decide) (by decide) (by decide) (by decide) _).mono ?_
  rintro e w2 ⟨rfl, hb2⟩
  have B2 := st B1 hb2 (Below.refl _ _)
  clear B1 hb2
  go_wp2_with fail
  refine (add_yes 5 (-7) (-2) _ _ (by decide) (by decide) (by decide) (by decide) _).mono ?_
  rintro e w3 ⟨rfl, hb3⟩
  have B3 := st B2 hb3 (by go_grown)
  clear B2 hb3
  go_wp2_with fail
  refine (refOf_any _ _).mono ?_
  rintro e w4 ⟨rfl, hb4⟩
  obtain ⟨X, hX⟩ : ∃ X, X = w3.alloc (.cells #[.int .i64 2, .int .i64 1, .int .i64 (-2), .string ⟨#[]⟩, .slice none 0 0] 26) := ⟨_, rfl⟩
  rw [← hX] at hb4
  have BX : Below w.heap.size w X := by rw [hX]; exact B3.alloc B3.size _
  have x0 : X.cell? ⟨w3.heap.size, 0, none⟩ = some (.int .i64 2) := by rw [hX]; go_side
  have x1 : X.cell? ⟨w3.heap.size, 1, none⟩ = some (.int .i64 1) := by rw [hX]; go_side
  have x2 : X.cell? ⟨w3.heap.size, 2, none⟩ = some (.int .i64 (-2)) := by rw [hX]; go_side
  have x3 : X.cell? ⟨w3.heap.size, 3, none⟩ = some (.string ⟨#[]⟩) := by rw [hX]; go_side
  have x4 : X.cell? ⟨w3.heap.size, 4, none⟩ = some (.slice none 0 0) := by rw [hX]; go_side
  have hX3 : w3.heap.size < X.heap.size := by rw [hX]; simp
  clear hX B3
  have C4 := st (Below.refl _ X) hb4 (Below.refl _ _)
  clear hb4
  go_wp2_with fail
  refine (refOf_any _ _).mono ?_
  rintro e w5 ⟨rfl, hb5⟩
  have C5 := st C4 hb5 (Below.refl _ _)
  clear C4 hb5
  go_wp2_with fail
  refine (refOf_any _ _).mono ?_
  rintro e w6 ⟨rfl, hb6⟩
  have C6 := st C5 hb6 (Below.refl _ _)
  clear C5 hb6
  go_wp2_with fail
  refine (merge_yes 8 3 5 6 (by decide) (by decide) (by decide) (by decide) (by decide) _).mono ?_
  rintro e w7 ⟨rfl, hb7⟩
  have C7 := st C6 hb7 (Below.refl _ _)
  clear C6 hb7
  go_wp2_with fail
  obtain ⟨V, hV⟩ : ∃ V, V = w7.alloc (.cells #[.int .i64 2, .int .i64 1, .int .i64 6, .string ⟨#[]⟩, .slice none 0 0] 26) := ⟨_, rfl⟩
  rw [← hV]
  have hz7 := C7.size
  have hlt : w3.heap.size < w7.heap.size := by omega
  have BV : Below w.heap.size w V := by rw [hV]; exact (BX.trans (C7.mono BX.size)).alloc (Nat.le_trans BX.size C7.size) _
  have y0 : V.cell? ⟨w3.heap.size, 0, none⟩ = some (.int .i64 2) := by rw [hV, World.cell?_alloc_lt _ _ _ hlt]; exact (C7.cell (p := ⟨w3.heap.size, 0, none⟩) hX3).trans x0
  have y1 : V.cell? ⟨w3.heap.size, 1, none⟩ = some (.int .i64 1) := by rw [hV, World.cell?_alloc_lt _ _ _ hlt]; exact (C7.cell (p := ⟨w3.heap.size, 1, none⟩) hX3).trans x1
  have y2 : V.cell? ⟨w3.heap.size, 2, none⟩ = some (.int .i64 (-2)) := by rw [hV, World.cell?_alloc_lt _ _ _ hlt]; exact (C7.cell (p := ⟨w3.heap.size, 2, none⟩) hX3).trans x2
  have y3 : V.cell? ⟨w3.heap.size, 3, none⟩ = some (.string ⟨#[]⟩) := by rw [hV, World.cell?_alloc_lt _ _ _ hlt]; exact (C7.cell (p := ⟨w3.heap.size, 3, none⟩) hX3).trans x3
  have y4 : V.cell? ⟨w3.heap.size, 4, none⟩ = some (.slice none 0 0) := by rw [hV, World.cell?_alloc_lt _ _ _ hlt]; exact (C7.cell (p := ⟨w3.heap.size, 4, none⟩) hX3).trans x4
  have v0 : V.cell? ⟨w7.heap.size, 0, none⟩ = some (.int .i64 2) := by rw [hV]; go_side
  have v1 : V.cell? ⟨w7.heap.size, 1, none⟩ = some (.int .i64 1) := by rw [hV]; go_side
  have v2 : V.cell? ⟨w7.heap.size, 2, none⟩ = some (.int .i64 6) := by rw [hV]; go_side
  have v3 : V.cell? ⟨w7.heap.size, 3, none⟩ = some (.string ⟨#[]⟩) := by rw [hV]; go_side
  have v4 : V.cell? ⟨w7.heap.size, 4, none⟩ = some (.slice none 0 0) := by rw [hV]; go_side
  have hV3 : w3.heap.size < V.heap.size := by rw [hV]; simp; omega
  have hV7 : w7.heap.size < V.heap.size := by rw [hV]; simp
  clear hV BX C7 hX3 hz7 hlt x0 x1 x2 x3 x4
  go_region_held3 (fun w' => w'.cell? ⟨w3.heap.size, 0, none⟩ = some (.int .i64 2) ∧ w'.cell? ⟨w3.heap.size, 1, none⟩ = some (.int .i64 1) ∧ w'.cell? ⟨w3.heap.size, 2, none⟩ = some (.int .i64 (-2)) ∧ w'.cell? ⟨w3.heap.size, 3, none⟩ = some (.string ⟨#[]⟩) ∧ w'.cell? ⟨w3.heap.size, 4, none⟩ = some (.slice none 0 0) ∧ w'.cell? ⟨w7.heap.size, 0, none⟩ = some (.int .i64 2) ∧ w'.cell? ⟨w7.heap.size, 1, none⟩ = some (.int .i64 1) ∧ w'.cell? ⟨w7.heap.size, 2, none⟩ = some (.int .i64 6) ∧ w'.cell? ⟨w7.heap.size, 3, none⟩ = some (.string ⟨#[]⟩) ∧ w'.cell? ⟨w7.heap.size, 4, none⟩ = some (.slice none 0 0)) ((simp [go_sem, *]; done))
    (first
      | (go_at_call 13; refine (show_yes (-2) (by decide) _).mono ?_; rintro e u1 ⟨rfl, hb1⟩; have D1 := st (Below.refl _ V) hb1 (by go_grown); obtain ⟨hc1, hf1⟩ := bcell D1)
      | (go_at_call 21; refine (refOf_any _ _).mono ?_; rintro e u2 ⟨rfl, hb2⟩; have D2 := st D1 hb2 (by go_grown); obtain ⟨hc2, hf2⟩ := bcell D2)
      | (go_at_call 15; refine (same_any _ _ _ _).mono ?_; rintro e u3 ⟨rfl, hb3⟩; have D3 := st D2 hb3 (by go_grown); obtain ⟨hc3, hf3⟩ := bcell D3)
      | (go_at_call 16; refine (new_any _).mono ?_; rintro e u4 ⟨rfl, hb4⟩; have D4 := st D3 hb4 (by go_grown); obtain ⟨hc4, hf4⟩ := bcell D4)
      | (go_at_call 11; refine (right_yes 0 (by decide) _).mono ?_; rintro e u5 ⟨rfl, hb5⟩; have D5 := st D4 hb5 (by go_grown); obtain ⟨hc5, hf5⟩ := bcell D5))
  go_wp2
  go_ret
  exact ⟨rfl, BV.trans (D5.mono BV.size)⟩
end Go.Proofs.Ytmbkkmolhmjpeaa

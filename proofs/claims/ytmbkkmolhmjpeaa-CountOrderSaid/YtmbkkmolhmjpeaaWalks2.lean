/-
  More walks over chapter 8: adding, showing, holding one counter against another one.
-/
import Derived.Test.YtmbkkmolhmjpeaaWalks
import Derived.Deep.RegionHeld3
import Derived.Deep.DrawnRows
namespace Go.Proofs.Ytmbkkmolhmjpeaa
open Go.RowKit
set_option linter.unusedSimpArgs false
set_option linter.unusedVariables false
attribute [local go_sem ↓] Go.wp_at_zero Go.wp_at_succ

/-- What a call tells of a number: nothing behind an error. -/
def sel (E x : Int) : Int := if E = 0 then x else 0
theorem sel_zero (E : Int) (x : Int) (h : E = 0) : sel E x = x := by simp [sel, h]
theorem sel_not (E : Int) (x : Int) (h : ¬ E = 0) : sel E x = 0 := by simp [sel, h]
/-- The error of a number. -/
def fitE (n : Int) : Int := if fitsB n = true then 0 else 20
theorem rightE_of (n : Int) : rightE 2 1 n ⟨#[]⟩ 0 = fitE n := by
  have h : (⟨#[]⟩ : ByteArray).toList = [] := by rw [ByteArray.toList_eq]
  simp [rightE, fitE, h]
theorem refOf_any (n : Int) (w : World) : Calls Try.prog 21 #[.int .i64 n] w fun e w' => e = .returned (.agg #[.int .i64 2, .int .i64 1, .int .i64 n, .string ⟨#[]⟩, .slice none 0 0]) ∧ Below w.heap.size w w' := by
  go_enter Try.func21, Try.ntmps21
  go_wp2
  go_returns
  exact ⟨rfl, by go_grown⟩
theorem told_any (n : Int) (w : World) : Calls Try.prog 24 #[.agg #[.int .i64 2, .int .i64 1, .int .i64 n, .string ⟨#[]⟩, .slice none 0 0]] w fun e w' => e = .returned (.tuple #[.agg #[.int .i64 (sel (fitE n) 2), .int .i64 (sel (fitE n) 1), .int .i64 (sel (fitE n) n), .string ⟨#[]⟩, .slice none 0 0], .int .i64 (fitE n)]) ∧ Below w.heap.size w w' := by
  have R := hide (rightE_of n)
  have H := fun b w h0 h1 h2 h3 h4 => hide (right1 b 2 1 n ⟨#[]⟩ none 0 0 w h0 h1 h2 h3 h4)
  rw [R.out] at H
  by_cases e : fitE n = 0
  · have s1 := hide (sel_zero _ 2 e)
    have s2 := hide (sel_zero _ 1 e)
    have s3 := hide (sel_zero _ n e)
    have t : (fitE n != 0) = false := by simp [e]
    rw [s1.out, s2.out, s3.out]
    have e' := hide e
    clear e
    go_enter Try.func24, Try.ntmps24
    go_wp2_with fail
    refine ((H _ _ (by go_cell) (by go_cell) (by go_cell) (by go_cell) (by go_cell)).out).mono ?_
    rintro e w1 ⟨rfl, hb1⟩
    have B1 : Below w.heap.size w w1 := (((Below.refl _ _).alloc (Nat.le_refl _) _).alloc (by simp) _ |>.alloc (by simp; omega) _).trans (hb1.mono (by simp; omega))
    obtain ⟨hc, hf⟩ := bcell hb1
    have hz : w.heap.size + 2 < w1.heap.size := by have := hb1.size; simp at this; omega
    go_wp2_with fail
    refine bodyPost_ret (by simp [results, Try.results24, go_sem, hc]; try rfl) rfl ?_
    exact ⟨by rw [e'.out], by go_grown⟩
  · have s1 := hide (sel_not _ 2 e)
    have s2 := hide (sel_not _ 1 e)
    have s3 := hide (sel_not _ n e)
    have t : (fitE n != 0) = true := by simp [e]
    rw [s1.out, s2.out, s3.out]
    clear e
    go_enter Try.func24, Try.ntmps24
    go_wp2_with fail
    refine ((H _ _ (by go_cell) (by go_cell) (by go_cell) (by go_cell) (by go_cell)).out).mono ?_
    rintro e w1 ⟨rfl, hb1⟩
    have B1 : Below w.heap.size w w1 := (((Below.refl _ _).alloc (Nat.le_refl _) _).alloc (by simp) _ |>.alloc (by simp; omega) _).trans (hb1.mono (by simp; omega))
    obtain ⟨hc, hf⟩ := bcell hb1
    have hz : w.heap.size + 2 < w1.heap.size := by have := hb1.size; simp at this; omega
    go_wp2_with fail
    refine bodyPost_ret (by simp [results, Try.results24, go_sem, hc]; try rfl) rfl ?_
    exact ⟨rfl, by go_grown⟩
theorem new_any (w : World) : Calls Try.prog 16 #[] w fun e w' => e = .returned (.agg #[.int .i64 2, .int .i64 1, .int .i64 0, .string ⟨#[]⟩, .slice none 0 0]) ∧ Below w.heap.size w w' := by
  go_enter Try.func16, Try.ntmps16
  go_wp2_with fail
  refine (of0 _).mono ?_
  rintro e w1 ⟨rfl, hb1⟩
  have B1 : Below w.heap.size w w1 := ((Below.refl _ _).alloc (Nat.le_refl _) _).trans (hb1.mono (by simp))
  obtain ⟨hc, hf⟩ := bcell hb1
  have hz : w.heap.size < w1.heap.size := by have := hb1.size; simp at this; omega
  go_wp2_with fail
  refine bodyPost_ret (by simp [results, Try.results16, go_sem, hc]; try rfl) rfl ?_
  exact ⟨rfl, by go_grown⟩
theorem refNew_any (w : World) : Calls Try.prog 17 #[] w fun e w' => e = .returned (.agg #[.int .i64 2, .int .i64 1, .int .i64 0, .string ⟨#[]⟩, .slice none 0 0]) ∧ Below w.heap.size w w' := by
  go_enter Try.func17, Try.ntmps17
  go_wp2_with fail
  refine (refOf_any _ _).mono ?_
  rintro e w1 ⟨rfl, hb1⟩
  have B1 : Below w.heap.size w w1 := ((Below.refl _ _).alloc (Nat.le_refl _) _).trans (hb1.mono (by simp))
  obtain ⟨hc, hf⟩ := bcell hb1
  have hz : w.heap.size < w1.heap.size := by have := hb1.size; simp at this; omega
  go_wp2_with fail
  refine bodyPost_ret (by simp [results, Try.results17, go_sem, hc]; try rfl) rfl ?_
  exact ⟨rfl, by go_grown⟩
/-- Two cells without parts, alike in all else, are one. -/
theorem same_any (kd vk n : Int) (w : World) : Calls Try.prog 15 #[.agg #[.int .i64 kd, .int .i64 vk, .int .i64 n, .string ⟨#[]⟩, .slice none 0 0], .agg #[.int .i64 kd, .int .i64 vk, .int .i64 n, .string ⟨#[]⟩, .slice none 0 0]] w fun e w' => e = .returned (.bool true) ∧ Below w.heap.size w w' := by
  go_enter Try.func15, Try.ntmps15
  go_wp2_with fail
  go_ret
  exact ⟨rfl, by go_grown⟩
end Go.Proofs.Ytmbkkmolhmjpeaa

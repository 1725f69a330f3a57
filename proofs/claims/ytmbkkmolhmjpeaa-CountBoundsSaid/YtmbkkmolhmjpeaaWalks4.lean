/-
  More walks over chapter 8: the reference's adding; showing a counter.
-/
import Derived.Test.YtmbkkmolhmjpeaaWalks3
namespace Go.Proofs.Ytmbkkmolhmjpeaa
open Go.RowKit
set_option linter.unusedSimpArgs false
set_option linter.unusedVariables false

theorem fit_not {n : Int} (h : ¬ fitE n = 0) : fitE n = 20 ∧ (n < -1099511627776 ∨ 1099511627776 < n) := by
  unfold fitE at h ⊢
  cases e : fitsB n with
  | true => simp [e] at h
  | false =>
    refine ⟨by simp, ?_⟩
    simp [fitsB] at e
    omega
theorem ref_right_of (n : Int) (w : World) : Calls Try.prog 12 #[.agg #[.int .i64 2, .int .i64 1, .int .i64 n, .string ⟨#[]⟩, .slice none 0 0]] w fun e w' => e = .returned (.int .i64 (fitE n)) ∧ Below w.heap.size w w' := by
  have h := ref_right_any 2 1 n ⟨#[]⟩ none 0 0 w
  rw [rightE_of] at h
  exact h
theorem ref_add_any (kd vk cn : Int) (s : ByteArray) (A : Option Addr) (l c : Nat) (n : Int) (w : World) :
    Calls Try.prog 10 #[.agg #[.int .i64 kd, .int .i64 vk, .int .i64 cn, .string s, .slice A l c], .int .i64 n] w fun e w' =>
      e = .returned (.tuple #[.agg #[.int .i64 (sel (addE (rightE kd vk cn s l) cn n) 2), .int .i64 (sel (addE (rightE kd vk cn s l) cn n) 1), .int .i64 (sel (addE (rightE kd vk cn s l) cn n) (cn + n)), .string ⟨#[]⟩, .slice none 0 0],
        .int .i64 (addE (rightE kd vk cn s l) cn n)]) ∧ Below w.heap.size w w' := by
  by_cases e0 : rightE kd vk cn s l = 0
  · obtain ⟨rfl, rfl, rfl, rfl, hf⟩ := right_zero e0
    by_cases e1 : fitE n = 0
    · obtain ⟨hn1, hn2⟩ := fits_in _ (fit_zero e1)
      obtain ⟨hn3, hn4⟩ := fits_in _ hf
      have ea : Hid (addE (rightE 2 1 cn ⟨#[]⟩ 0) cn n = fitE (cn + n)) := by unfold addE; rw [e0, e1]; rfl
      rw [ea.out]
      have t : (rightE 2 1 cn ⟨#[]⟩ 0 != 0) = false := by simp [e0]
      clear e0 e1 hf
      by_cases e : fitE (cn + n) = 0
      · have s1 := hide (sel_zero _ 2 e)
        have s2 := hide (sel_zero _ 1 e)
        have s3 := hide (sel_zero _ (cn + n) e)
        rw [s1.out, s2.out, s3.out]
        have t2 : (fitE (cn + n) != 0) = false := by simp [e]
        replace e := hide e
        go_enter Try.func10, Try.ntmps10
        go_wp2_with fail
        obtain ⟨W0, hW0⟩ : ∃ W0, W0 = (w.alloc (.cells #[.int .i64 2, .int .i64 1, .int .i64 cn, .string ⟨#[]⟩, .slice A 0 c] 26)).alloc (.cells #[.int .i64 0, .int .i64 0, .int .i64 0, .string ⟨#[]⟩, .slice none 0 0] 26) := ⟨_, rfl⟩
        rw [← hW0]
        have hsz : W0.heap.size = w.heap.size + 2 := by rw [hW0]; simp
        have BW : Below w.heap.size w W0 := by rw [hW0]; go_grown
        have k0 : W0.cell? ⟨w.heap.size, 0, none⟩ = some (.int .i64 2) := by rw [hW0]; go_side
        have k1 : W0.cell? ⟨w.heap.size, 1, none⟩ = some (.int .i64 1) := by rw [hW0]; go_side
        have k2 : W0.cell? ⟨w.heap.size, 2, none⟩ = some (.int .i64 cn) := by rw [hW0]; go_side
        have k3 : W0.cell? ⟨w.heap.size, 3, none⟩ = some (.string ⟨#[]⟩) := by rw [hW0]; go_side
        have k4 : W0.cell? ⟨w.heap.size, 4, none⟩ = some (.slice A 0 c) := by rw [hW0]; go_side
        have r0 : W0.cell? ⟨w.heap.size + 1, 0, none⟩ = some (.int .i64 0) := by rw [hW0]; go_side
        have r1 : W0.cell? ⟨w.heap.size + 1, 1, none⟩ = some (.int .i64 0) := by rw [hW0]; go_side
        have r2 : W0.cell? ⟨w.heap.size + 1, 2, none⟩ = some (.int .i64 0) := by rw [hW0]; go_side
        have r3 : W0.cell? ⟨w.heap.size + 1, 3, none⟩ = some (.string ⟨#[]⟩) := by rw [hW0]; go_side
        have r4 : W0.cell? ⟨w.heap.size + 1, 4, none⟩ = some (.slice none 0 0) := by rw [hW0]; go_side
        have f0 : W0.frozen? ⟨w.heap.size + 1, 0, none⟩ = false := by rw [hW0]; simp [go_sem]
        have f1 : W0.frozen? ⟨w.heap.size + 1, 1, none⟩ = false := by rw [hW0]; simp [go_sem]
        have f2 : W0.frozen? ⟨w.heap.size + 1, 2, none⟩ = false := by rw [hW0]; simp [go_sem]
        have f3 : W0.frozen? ⟨w.heap.size + 1, 3, none⟩ = false := by rw [hW0]; simp [go_sem]
        have f4 : W0.frozen? ⟨w.heap.size + 1, 4, none⟩ = false := by rw [hW0]; simp [go_sem]
        clear hW0
        refine (ref_right_any _ _ _ _ _ _ _ _).mono ?_
        rintro e w1 ⟨rfl, hb1⟩
        have B1 := st (Below.refl _ W0) hb1 (by go_grown)
        obtain ⟨hc1, hf1⟩ := bcell B1
        have hz1 := B1.size
        have hy1 : w.heap.size < w1.heap.size := by omega
        have hx1 : w.heap.size + 1 < w1.heap.size := by omega
        go_wp2_with fail
        refine (refOf_any _ _).mono ?_
        rintro e w2 ⟨rfl, hb2⟩
        have B2 := st B1 hb2 (by go_grown)
        obtain ⟨hc2, hf2⟩ := bcell B2
        have hz2 := B2.size
        have hy2 : w.heap.size < w2.heap.size := by omega
        have hx2 : w.heap.size + 1 < w2.heap.size := by omega
        go_wp2_with fail
        refine (ref_right_of _ _).mono ?_
        rintro e w3 ⟨rfl, hb3⟩
        have B3 := st B2 hb3 (by go_grown)
        obtain ⟨hc3, hf3⟩ := bcell B3
        have hz3 := B3.size
        have hy3 : w.heap.size < w3.heap.size := by omega
        have hx3 : w.heap.size + 1 < w3.heap.size := by omega
        obtain ⟨hd3, hg3⟩ := bcell hb3
        have hv3 : w2.heap.size < w3.heap.size := by have h := hb3.size; simp at h; omega
        have BB := BW.trans (B3.mono BW.size)
        go_wp2_with fail
        refine bodyPost_ret (by simp [results, Try.results10, go_sem, *]; try rfl) rfl ?_
        exact ⟨by rw [e.out], by go_grown⟩
      · have s1 := hide (sel_not _ 2 e)
        have s2 := hide (sel_not _ 1 e)
        have s3 := hide (sel_not _ (cn + n) e)
        rw [s1.out, s2.out, s3.out]
        have t2 : (fitE (cn + n) != 0) = true := by simp [e]
        clear e
        go_enter Try.func10, Try.ntmps10
        go_wp2_with fail
        obtain ⟨W0, hW0⟩ : ∃ W0, W0 = (w.alloc (.cells #[.int .i64 2, .int .i64 1, .int .i64 cn, .string ⟨#[]⟩, .slice A 0 c] 26)).alloc (.cells #[.int .i64 0, .int .i64 0, .int .i64 0, .string ⟨#[]⟩, .slice none 0 0] 26) := ⟨_, rfl⟩
        rw [← hW0]
        have hsz : W0.heap.size = w.heap.size + 2 := by rw [hW0]; simp
        have BW : Below w.heap.size w W0 := by rw [hW0]; go_grown
        have k0 : W0.cell? ⟨w.heap.size, 0, none⟩ = some (.int .i64 2) := by rw [hW0]; go_side
        have k1 : W0.cell? ⟨w.heap.size, 1, none⟩ = some (.int .i64 1) := by rw [hW0]; go_side
        have k2 : W0.cell? ⟨w.heap.size, 2, none⟩ = some (.int .i64 cn) := by rw [hW0]; go_side
        have k3 : W0.cell? ⟨w.heap.size, 3, none⟩ = some (.string ⟨#[]⟩) := by rw [hW0]; go_side
        have k4 : W0.cell? ⟨w.heap.size, 4, none⟩ = some (.slice A 0 c) := by rw [hW0]; go_side
        have r0 : W0.cell? ⟨w.heap.size + 1, 0, none⟩ = some (.int .i64 0) := by rw [hW0]; go_side
        have r1 : W0.cell? ⟨w.heap.size + 1, 1, none⟩ = some (.int .i64 0) := by rw [hW0]; go_side
        have r2 : W0.cell? ⟨w.heap.size + 1, 2, none⟩ = some (.int .i64 0) := by rw [hW0]; go_side
        have r3 : W0.cell? ⟨w.heap.size + 1, 3, none⟩ = some (.string ⟨#[]⟩) := by rw [hW0]; go_side
        have r4 : W0.cell? ⟨w.heap.size + 1, 4, none⟩ = some (.slice none 0 0) := by rw [hW0]; go_side
        have f0 : W0.frozen? ⟨w.heap.size + 1, 0, none⟩ = false := by rw [hW0]; simp [go_sem]
        have f1 : W0.frozen? ⟨w.heap.size + 1, 1, none⟩ = false := by rw [hW0]; simp [go_sem]
        have f2 : W0.frozen? ⟨w.heap.size + 1, 2, none⟩ = false := by rw [hW0]; simp [go_sem]
        have f3 : W0.frozen? ⟨w.heap.size + 1, 3, none⟩ = false := by rw [hW0]; simp [go_sem]
        have f4 : W0.frozen? ⟨w.heap.size + 1, 4, none⟩ = false := by rw [hW0]; simp [go_sem]
        clear hW0
        refine (ref_right_any _ _ _ _ _ _ _ _).mono ?_
        rintro e w1 ⟨rfl, hb1⟩
        have B1 := st (Below.refl _ W0) hb1 (by go_grown)
        obtain ⟨hc1, hf1⟩ := bcell B1
        have hz1 := B1.size
        have hy1 : w.heap.size < w1.heap.size := by omega
        have hx1 : w.heap.size + 1 < w1.heap.size := by omega
        go_wp2_with fail
        refine (refOf_any _ _).mono ?_
        rintro e w2 ⟨rfl, hb2⟩
        have B2 := st B1 hb2 (by go_grown)
        obtain ⟨hc2, hf2⟩ := bcell B2
        have hz2 := B2.size
        have hy2 : w.heap.size < w2.heap.size := by omega
        have hx2 : w.heap.size + 1 < w2.heap.size := by omega
        go_wp2_with fail
        refine (ref_right_of _ _).mono ?_
        rintro e w3 ⟨rfl, hb3⟩
        have B3 := st B2 hb3 (by go_grown)
        obtain ⟨hc3, hf3⟩ := bcell B3
        have hz3 := B3.size
        have hy3 : w.heap.size < w3.heap.size := by omega
        have hx3 : w.heap.size + 1 < w3.heap.size := by omega
        have BB := BW.trans (B3.mono BW.size)
        go_wp2_with fail
        refine bodyPost_ret (by simp [results, Try.results10, go_sem, *]; try rfl) rfl ?_
        exact ⟨rfl, by go_grown⟩
    · obtain ⟨e20, hor⟩ := fit_not e1
      have ea : Hid (addE (rightE 2 1 cn ⟨#[]⟩ 0) cn n = 20) := by unfold addE; rw [e0, e20]; rfl
      rw [ea.out]
      have s1 := hide (sel_not 20 2 (by decide))
      have s2 := hide (sel_not 20 1 (by decide))
      have s3 := hide (sel_not 20 (cn + n) (by decide))
      rw [s1.out, s2.out, s3.out]
      have t : (rightE 2 1 cn ⟨#[]⟩ 0 != 0) = false := by simp [e0]
      clear e0 e1 hf e20
      rcases hor with hlo | hhi
      · 
        go_enter Try.func10, Try.ntmps10
        go_wp2_with fail
        obtain ⟨W0, hW0⟩ : ∃ W0, W0 = (w.alloc (.cells #[.int .i64 2, .int .i64 1, .int .i64 cn, .string ⟨#[]⟩, .slice A 0 c] 26)).alloc (.cells #[.int .i64 0, .int .i64 0, .int .i64 0, .string ⟨#[]⟩, .slice none 0 0] 26) := ⟨_, rfl⟩
        rw [← hW0]
        have hsz : W0.heap.size = w.heap.size + 2 := by rw [hW0]; simp
        have BW : Below w.heap.size w W0 := by rw [hW0]; go_grown
        have k0 : W0.cell? ⟨w.heap.size, 0, none⟩ = some (.int .i64 2) := by rw [hW0]; go_side
        have k1 : W0.cell? ⟨w.heap.size, 1, none⟩ = some (.int .i64 1) := by rw [hW0]; go_side
        have k2 : W0.cell? ⟨w.heap.size, 2, none⟩ = some (.int .i64 cn) := by rw [hW0]; go_side
        have k3 : W0.cell? ⟨w.heap.size, 3, none⟩ = some (.string ⟨#[]⟩) := by rw [hW0]; go_side
        have k4 : W0.cell? ⟨w.heap.size, 4, none⟩ = some (.slice A 0 c) := by rw [hW0]; go_side
        have r0 : W0.cell? ⟨w.heap.size + 1, 0, none⟩ = some (.int .i64 0) := by rw [hW0]; go_side
        have r1 : W0.cell? ⟨w.heap.size + 1, 1, none⟩ = some (.int .i64 0) := by rw [hW0]; go_side
        have r2 : W0.cell? ⟨w.heap.size + 1, 2, none⟩ = some (.int .i64 0) := by rw [hW0]; go_side
        have r3 : W0.cell? ⟨w.heap.size + 1, 3, none⟩ = some (.string ⟨#[]⟩) := by rw [hW0]; go_side
        have r4 : W0.cell? ⟨w.heap.size + 1, 4, none⟩ = some (.slice none 0 0) := by rw [hW0]; go_side
        have f0 : W0.frozen? ⟨w.heap.size + 1, 0, none⟩ = false := by rw [hW0]; simp [go_sem]
        have f1 : W0.frozen? ⟨w.heap.size + 1, 1, none⟩ = false := by rw [hW0]; simp [go_sem]
        have f2 : W0.frozen? ⟨w.heap.size + 1, 2, none⟩ = false := by rw [hW0]; simp [go_sem]
        have f3 : W0.frozen? ⟨w.heap.size + 1, 3, none⟩ = false := by rw [hW0]; simp [go_sem]
        have f4 : W0.frozen? ⟨w.heap.size + 1, 4, none⟩ = false := by rw [hW0]; simp [go_sem]
        clear hW0
        refine (ref_right_any _ _ _ _ _ _ _ _).mono ?_
        rintro e w1 ⟨rfl, hb1⟩
        have B1 := st (Below.refl _ W0) hb1 (by go_grown)
        obtain ⟨hc1, hf1⟩ := bcell B1
        have hz1 := B1.size
        have hy1 : w.heap.size < w1.heap.size := by omega
        have hx1 : w.heap.size + 1 < w1.heap.size := by omega
        have BB := BW.trans (B1.mono BW.size)
        go_wp2_with fail
        refine bodyPost_ret (by simp [results, Try.results10, go_sem, *]; try rfl) rfl ?_
        exact ⟨rfl, by go_grown⟩
      · have hlo : ¬ n < -1099511627776 := by omega
        go_enter Try.func10, Try.ntmps10
        go_wp2_with fail
        obtain ⟨W0, hW0⟩ : ∃ W0, W0 = (w.alloc (.cells #[.int .i64 2, .int .i64 1, .int .i64 cn, .string ⟨#[]⟩, .slice A 0 c] 26)).alloc (.cells #[.int .i64 0, .int .i64 0, .int .i64 0, .string ⟨#[]⟩, .slice none 0 0] 26) := ⟨_, rfl⟩
        rw [← hW0]
        have hsz : W0.heap.size = w.heap.size + 2 := by rw [hW0]; simp
        have BW : Below w.heap.size w W0 := by rw [hW0]; go_grown
        have k0 : W0.cell? ⟨w.heap.size, 0, none⟩ = some (.int .i64 2) := by rw [hW0]; go_side
        have k1 : W0.cell? ⟨w.heap.size, 1, none⟩ = some (.int .i64 1) := by rw [hW0]; go_side
        have k2 : W0.cell? ⟨w.heap.size, 2, none⟩ = some (.int .i64 cn) := by rw [hW0]; go_side
        have k3 : W0.cell? ⟨w.heap.size, 3, none⟩ = some (.string ⟨#[]⟩) := by rw [hW0]; go_side
        have k4 : W0.cell? ⟨w.heap.size, 4, none⟩ = some (.slice A 0 c) := by rw [hW0]; go_side
        have r0 : W0.cell? ⟨w.heap.size + 1, 0, none⟩ = some (.int .i64 0) := by rw [hW0]; go_side
        have r1 : W0.cell? ⟨w.heap.size + 1, 1, none⟩ = some (.int .i64 0) := by rw [hW0]; go_side
        have r2 : W0.cell? ⟨w.heap.size + 1, 2, none⟩ = some (.int .i64 0) := by rw [hW0]; go_side
        have r3 : W0.cell? ⟨w.heap.size + 1, 3, none⟩ = some (.string ⟨#[]⟩) := by rw [hW0]; go_side
        have r4 : W0.cell? ⟨w.heap.size + 1, 4, none⟩ = some (.slice none 0 0) := by rw [hW0]; go_side
        have f0 : W0.frozen? ⟨w.heap.size + 1, 0, none⟩ = false := by rw [hW0]; simp [go_sem]
        have f1 : W0.frozen? ⟨w.heap.size + 1, 1, none⟩ = false := by rw [hW0]; simp [go_sem]
        have f2 : W0.frozen? ⟨w.heap.size + 1, 2, none⟩ = false := by rw [hW0]; simp [go_sem]
        have f3 : W0.frozen? ⟨w.heap.size + 1, 3, none⟩ = false := by rw [hW0]; simp [go_sem]
        have f4 : W0.frozen? ⟨w.heap.size + 1, 4, none⟩ = false := by rw [hW0]; simp [go_sem]
        clear hW0
        refine (ref_right_any _ _ _ _ _ _ _ _).mono ?_
        rintro e w1 ⟨rfl, hb1⟩
        have B1 := st (Below.refl _ W0) hb1 (by go_grown)
        obtain ⟨hc1, hf1⟩ := bcell B1
        have hz1 := B1.size
        have hy1 : w.heap.size < w1.heap.size := by omega
        have hx1 : w.heap.size + 1 < w1.heap.size := by omega
        have BB := BW.trans (B1.mono BW.size)
        go_wp2_with fail
        refine bodyPost_ret (by simp [results, Try.results10, go_sem, *]; try rfl) rfl ?_
        exact ⟨rfl, by go_grown⟩
  · have e : ¬ addE (rightE kd vk cn s l) cn n = 0 := fun h => e0 (or_zero (or_zero h).1).1
    have ea : Hid (addE (rightE kd vk cn s l) cn n = rightE kd vk cn s l) := by
      unfold addE; rw [or_not e0, or_not e0]; exact hide rfl
    have s1 := hide (sel_not _ 2 e)
    have s2 := hide (sel_not _ 1 e)
    have s3 := hide (sel_not _ (cn + n) e)
    rw [s1.out, s2.out, s3.out]
    rw [ea.out]
    have t : (rightE kd vk cn s l != 0) = true := by simp [e0]
    clear e e0
    go_enter Try.func10, Try.ntmps10
    go_wp2_with fail
    obtain ⟨W0, hW0⟩ : ∃ W0, W0 = (w.alloc (.cells #[.int .i64 kd, .int .i64 vk, .int .i64 cn, .string s, .slice A l c] 26)).alloc (.cells #[.int .i64 0, .int .i64 0, .int .i64 0, .string ⟨#[]⟩, .slice none 0 0] 26) := ⟨_, rfl⟩
    rw [← hW0]
    have hsz : W0.heap.size = w.heap.size + 2 := by rw [hW0]; simp
    have BW : Below w.heap.size w W0 := by rw [hW0]; go_grown
    have k0 : W0.cell? ⟨w.heap.size, 0, none⟩ = some (.int .i64 kd) := by rw [hW0]; go_side
    have k1 : W0.cell? ⟨w.heap.size, 1, none⟩ = some (.int .i64 vk) := by rw [hW0]; go_side
    have k2 : W0.cell? ⟨w.heap.size, 2, none⟩ = some (.int .i64 cn) := by rw [hW0]; go_side
    have k3 : W0.cell? ⟨w.heap.size, 3, none⟩ = some (.string s) := by rw [hW0]; go_side
    have k4 : W0.cell? ⟨w.heap.size, 4, none⟩ = some (.slice A l c) := by rw [hW0]; go_side
    have r0 : W0.cell? ⟨w.heap.size + 1, 0, none⟩ = some (.int .i64 0) := by rw [hW0]; go_side
    have r1 : W0.cell? ⟨w.heap.size + 1, 1, none⟩ = some (.int .i64 0) := by rw [hW0]; go_side
    have r2 : W0.cell? ⟨w.heap.size + 1, 2, none⟩ = some (.int .i64 0) := by rw [hW0]; go_side
    have r3 : W0.cell? ⟨w.heap.size + 1, 3, none⟩ = some (.string ⟨#[]⟩) := by rw [hW0]; go_side
    have r4 : W0.cell? ⟨w.heap.size + 1, 4, none⟩ = some (.slice none 0 0) := by rw [hW0]; go_side
    have f0 : W0.frozen? ⟨w.heap.size + 1, 0, none⟩ = false := by rw [hW0]; simp [go_sem]
    have f1 : W0.frozen? ⟨w.heap.size + 1, 1, none⟩ = false := by rw [hW0]; simp [go_sem]
    have f2 : W0.frozen? ⟨w.heap.size + 1, 2, none⟩ = false := by rw [hW0]; simp [go_sem]
    have f3 : W0.frozen? ⟨w.heap.size + 1, 3, none⟩ = false := by rw [hW0]; simp [go_sem]
    have f4 : W0.frozen? ⟨w.heap.size + 1, 4, none⟩ = false := by rw [hW0]; simp [go_sem]
    clear hW0
    refine (ref_right_any _ _ _ _ _ _ _ _).mono ?_
    rintro e w1 ⟨rfl, hb1⟩
    have B1 := st (Below.refl _ W0) hb1 (by go_grown)
    obtain ⟨hc1, hf1⟩ := bcell B1
    have hz1 := B1.size
    have hy1 : w.heap.size < w1.heap.size := by omega
    have hx1 : w.heap.size + 1 < w1.heap.size := by omega
    have BB := BW.trans (B1.mono BW.size)
    go_wp2_with fail
    refine bodyPost_ret (by simp [results, Try.results10, go_sem, *]; try rfl) rfl ?_
    exact ⟨rfl, by go_grown⟩
theorem show_any (kd vk n : Int) (s : ByteArray) (A : Option Addr) (l c : Nat) (w : World) : Calls Try.prog 13 #[.agg #[.int .i64 kd, .int .i64 vk, .int .i64 n, .string s, .slice A l c]] w fun e w' => e = .returned (.agg #[.int .i64 (sel (rightE kd vk n s l) 1), .int .i64 (sel (rightE kd vk n s l) n), .string ⟨#[]⟩]) ∧ Below w.heap.size w w' := by
  have H := fun b w h0 h1 h2 h3 h4 => hide (right1 b kd vk n s A l c w h0 h1 h2 h3 h4)
  by_cases e : rightE kd vk n s l = 0
  · have s1 := hide (sel_zero _ 1 e)
    have s2 := hide (sel_zero _ n e)
    rw [s1.out, s2.out]
    obtain ⟨rfl, rfl, rfl, rfl, hf⟩ := right_zero e
    have t : (rightE 2 1 n ⟨#[]⟩ 0 != 0) = false := by simp [e]
    clear e
    go_enter Try.func13, Try.ntmps13
    go_wp2_with fail
    obtain ⟨W0, hW0⟩ : ∃ W0, W0 = (w.alloc (.cells #[.int .i64 2, .int .i64 1, .int .i64 n, .string ⟨#[]⟩, .slice A 0 c] 26)).alloc (.cells #[.int .i64 0, .int .i64 0, .string ⟨#[]⟩] 23) := ⟨_, rfl⟩
    rw [← hW0]
    have hsz : W0.heap.size = w.heap.size + 2 := by rw [hW0]; simp
    have BW : Below w.heap.size w W0 := by rw [hW0]; go_grown
    have k0 : W0.cell? ⟨w.heap.size, 0, none⟩ = some (.int .i64 2) := by rw [hW0]; go_side
    have k1 : W0.cell? ⟨w.heap.size, 1, none⟩ = some (.int .i64 1) := by rw [hW0]; go_side
    have k2 : W0.cell? ⟨w.heap.size, 2, none⟩ = some (.int .i64 n) := by rw [hW0]; go_side
    have k3 : W0.cell? ⟨w.heap.size, 3, none⟩ = some (.string ⟨#[]⟩) := by rw [hW0]; go_side
    have k4 : W0.cell? ⟨w.heap.size, 4, none⟩ = some (.slice A 0 c) := by rw [hW0]; go_side
    have r0 : W0.cell? ⟨w.heap.size + 1, 0, none⟩ = some (.int .i64 0) := by rw [hW0]; go_side
    have r1 : W0.cell? ⟨w.heap.size + 1, 1, none⟩ = some (.int .i64 0) := by rw [hW0]; go_side
    have r2 : W0.cell? ⟨w.heap.size + 1, 2, none⟩ = some (.string ⟨#[]⟩) := by rw [hW0]; go_side
    have f0 : W0.frozen? ⟨w.heap.size + 1, 0, none⟩ = false := by rw [hW0]; simp [go_sem]
    have f1 : W0.frozen? ⟨w.heap.size + 1, 1, none⟩ = false := by rw [hW0]; simp [go_sem]
    have f2 : W0.frozen? ⟨w.heap.size + 1, 2, none⟩ = false := by rw [hW0]; simp [go_sem]
    clear hW0
    refine ((H _ _ (by go_side) (by go_side) (by go_side) (by go_side) (by go_side)).out).mono ?_
    rintro e w1 ⟨rfl, hb1⟩
    have B1 := st (Below.refl _ W0) hb1 (by go_grown)
    obtain ⟨hc1, hf1⟩ := bcell B1
    have hz1 := B1.size
    have hy1 : w.heap.size < w1.heap.size := by omega
    have hx1 : w.heap.size + 1 < w1.heap.size := by omega
    have BB := BW.trans (B1.mono BW.size)
    go_wp2_with fail
    refine bodyPost_ret (by simp [results, Try.results13, go_sem, *]; try rfl) rfl ?_
    exact ⟨rfl, by go_grown⟩
  · have s1 := hide (sel_not _ 1 e)
    have s2 := hide (sel_not _ n e)
    rw [s1.out, s2.out]
    have t : (rightE kd vk n s l != 0) = true := by simp [e]
    clear e
    go_enter Try.func13, Try.ntmps13
    go_wp2_with fail
    obtain ⟨W0, hW0⟩ : ∃ W0, W0 = (w.alloc (.cells #[.int .i64 kd, .int .i64 vk, .int .i64 n, .string s, .slice A l c] 26)).alloc (.cells #[.int .i64 0, .int .i64 0, .string ⟨#[]⟩] 23) := ⟨_, rfl⟩
    rw [← hW0]
    have hsz : W0.heap.size = w.heap.size + 2 := by rw [hW0]; simp
    have BW : Below w.heap.size w W0 := by rw [hW0]; go_grown
    have k0 : W0.cell? ⟨w.heap.size, 0, none⟩ = some (.int .i64 kd) := by rw [hW0]; go_side
    have k1 : W0.cell? ⟨w.heap.size, 1, none⟩ = some (.int .i64 vk) := by rw [hW0]; go_side
    have k2 : W0.cell? ⟨w.heap.size, 2, none⟩ = some (.int .i64 n) := by rw [hW0]; go_side
    have k3 : W0.cell? ⟨w.heap.size, 3, none⟩ = some (.string s) := by rw [hW0]; go_side
    have k4 : W0.cell? ⟨w.heap.size, 4, none⟩ = some (.slice A l c) := by rw [hW0]; go_side
    have r0 : W0.cell? ⟨w.heap.size + 1, 0, none⟩ = some (.int .i64 0) := by rw [hW0]; go_side
    have r1 : W0.cell? ⟨w.heap.size + 1, 1, none⟩ = some (.int .i64 0) := by rw [hW0]; go_side
    have r2 : W0.cell? ⟨w.heap.size + 1, 2, none⟩ = some (.string ⟨#[]⟩) := by rw [hW0]; go_side
    have f0 : W0.frozen? ⟨w.heap.size + 1, 0, none⟩ = false := by rw [hW0]; simp [go_sem]
    have f1 : W0.frozen? ⟨w.heap.size + 1, 1, none⟩ = false := by rw [hW0]; simp [go_sem]
    have f2 : W0.frozen? ⟨w.heap.size + 1, 2, none⟩ = false := by rw [hW0]; simp [go_sem]
    clear hW0
    refine ((H _ _ (by go_side) (by go_side) (by go_side) (by go_side) (by go_side)).out).mono ?_
    rintro e w1 ⟨rfl, hb1⟩
    have B1 := st (Below.refl _ W0) hb1 (by go_grown)
    obtain ⟨hc1, hf1⟩ := bcell B1
    have hz1 := B1.size
    have hy1 : w.heap.size < w1.heap.size := by omega
    have hx1 : w.heap.size + 1 < w1.heap.size := by omega
    have BB := BW.trans (B1.mono BW.size)
    go_wp2_with fail
    refine bodyPost_ret (by simp [results, Try.results13, go_sem, *]; try rfl) rfl ?_
    exact ⟨rfl, by go_grown⟩
theorem ref_show_any (kd vk n : Int) (s : ByteArray) (A : Option Addr) (l c : Nat) (w : World) : Calls Try.prog 14 #[.agg #[.int .i64 kd, .int .i64 vk, .int .i64 n, .string s, .slice A l c]] w fun e w' => e = .returned (.agg #[.int .i64 (sel (rightE kd vk n s l) 1), .int .i64 (sel (rightE kd vk n s l) n), .string ⟨#[]⟩]) ∧ Below w.heap.size w w' := by
  by_cases e : rightE kd vk n s l = 0
  · have s1 := hide (sel_zero _ 1 e)
    have s2 := hide (sel_zero _ n e)
    rw [s1.out, s2.out]
    obtain ⟨rfl, rfl, rfl, rfl, hf⟩ := right_zero e
    have t : (rightE 2 1 n ⟨#[]⟩ 0 != 0) = false := by simp [e]
    clear e
    go_enter Try.func14, Try.ntmps14
    go_wp2_with fail
    obtain ⟨W0, hW0⟩ : ∃ W0, W0 = (w.alloc (.cells #[.int .i64 2, .int .i64 1, .int .i64 n, .string ⟨#[]⟩, .slice A 0 c] 26)).alloc (.cells #[.int .i64 0, .int .i64 0, .string ⟨#[]⟩] 23) := ⟨_, rfl⟩
    rw [← hW0]
    have hsz : W0.heap.size = w.heap.size + 2 := by rw [hW0]; simp
    have BW : Below w.heap.size w W0 := by rw [hW0]; go_grown
    have k0 : W0.cell? ⟨w.heap.size, 0, none⟩ = some (.int .i64 2) := by rw [hW0]; go_side
    have k1 : W0.cell? ⟨w.heap.size, 1, none⟩ = some (.int .i64 1) := by rw [hW0]; go_side
    have k2 : W0.cell? ⟨w.heap.size, 2, none⟩ = some (.int .i64 n) := by rw [hW0]; go_side
    have k3 : W0.cell? ⟨w.heap.size, 3, none⟩ = some (.string ⟨#[]⟩) := by rw [hW0]; go_side
    have k4 : W0.cell? ⟨w.heap.size, 4, none⟩ = some (.slice A 0 c) := by rw [hW0]; go_side
    have r0 : W0.cell? ⟨w.heap.size + 1, 0, none⟩ = some (.int .i64 0) := by rw [hW0]; go_side
    have r1 : W0.cell? ⟨w.heap.size + 1, 1, none⟩ = some (.int .i64 0) := by rw [hW0]; go_side
    have r2 : W0.cell? ⟨w.heap.size + 1, 2, none⟩ = some (.string ⟨#[]⟩) := by rw [hW0]; go_side
    have f0 : W0.frozen? ⟨w.heap.size + 1, 0, none⟩ = false := by rw [hW0]; simp [go_sem]
    have f1 : W0.frozen? ⟨w.heap.size + 1, 1, none⟩ = false := by rw [hW0]; simp [go_sem]
    have f2 : W0.frozen? ⟨w.heap.size + 1, 2, none⟩ = false := by rw [hW0]; simp [go_sem]
    clear hW0
    refine (ref_right_any _ _ _ _ _ _ _ _).mono ?_
    rintro e w1 ⟨rfl, hb1⟩
    have B1 := st (Below.refl _ W0) hb1 (by go_grown)
    obtain ⟨hc1, hf1⟩ := bcell B1
    have hz1 := B1.size
    have hy1 : w.heap.size < w1.heap.size := by omega
    have hx1 : w.heap.size + 1 < w1.heap.size := by omega
    have BB := BW.trans (B1.mono BW.size)
    go_wp2_with fail
    refine bodyPost_ret (by simp [results, Try.results14, go_sem, *]; try rfl) rfl ?_
    exact ⟨rfl, by go_grown⟩
  · have s1 := hide (sel_not _ 1 e)
    have s2 := hide (sel_not _ n e)
    rw [s1.out, s2.out]
    have t : (rightE kd vk n s l != 0) = true := by simp [e]
    clear e
    go_enter Try.func14, Try.ntmps14
    go_wp2_with fail
    obtain ⟨W0, hW0⟩ : ∃ W0, W0 = (w.alloc (.cells #[.int .i64 kd, .int .i64 vk, .int .i64 n, .string s, .slice A l c] 26)).alloc (.cells #[.int .i64 0, .int .i64 0, .string ⟨#[]⟩] 23) := ⟨_, rfl⟩
    rw [← hW0]
    have hsz : W0.heap.size = w.heap.size + 2 := by rw [hW0]; simp
    have BW : Below w.heap.size w W0 := by rw [hW0]; go_grown
    have k0 : W0.cell? ⟨w.heap.size, 0, none⟩ = some (.int .i64 kd) := by rw [hW0]; go_side
    have k1 : W0.cell? ⟨w.heap.size, 1, none⟩ = some (.int .i64 vk) := by rw [hW0]; go_side
    have k2 : W0.cell? ⟨w.heap.size, 2, none⟩ = some (.int .i64 n) := by rw [hW0]; go_side
    have k3 : W0.cell? ⟨w.heap.size, 3, none⟩ = some (.string s) := by rw [hW0]; go_side
    have k4 : W0.cell? ⟨w.heap.size, 4, none⟩ = some (.slice A l c) := by rw [hW0]; go_side
    have r0 : W0.cell? ⟨w.heap.size + 1, 0, none⟩ = some (.int .i64 0) := by rw [hW0]; go_side
    have r1 : W0.cell? ⟨w.heap.size + 1, 1, none⟩ = some (.int .i64 0) := by rw [hW0]; go_side
    have r2 : W0.cell? ⟨w.heap.size + 1, 2, none⟩ = some (.string ⟨#[]⟩) := by rw [hW0]; go_side
    have f0 : W0.frozen? ⟨w.heap.size + 1, 0, none⟩ = false := by rw [hW0]; simp [go_sem]
    have f1 : W0.frozen? ⟨w.heap.size + 1, 1, none⟩ = false := by rw [hW0]; simp [go_sem]
    have f2 : W0.frozen? ⟨w.heap.size + 1, 2, none⟩ = false := by rw [hW0]; simp [go_sem]
    clear hW0
    refine (ref_right_any _ _ _ _ _ _ _ _).mono ?_
    rintro e w1 ⟨rfl, hb1⟩
    have B1 := st (Below.refl _ W0) hb1 (by go_grown)
    obtain ⟨hc1, hf1⟩ := bcell B1
    have hz1 := B1.size
    have hy1 : w.heap.size < w1.heap.size := by omega
    have hx1 : w.heap.size + 1 < w1.heap.size := by omega
    have BB := BW.trans (B1.mono BW.size)
    go_wp2_with fail
    refine bodyPost_ret (by simp [results, Try.results14, go_sem, *]; try rfl) rfl ?_
    exact ⟨rfl, by go_grown⟩
end Go.Proofs.Ytmbkkmolhmjpeaa

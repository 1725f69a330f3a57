/-
  More walks over chapter 8: adding to a counter, showing it.
-/
import Derived.Test.YtmbkkmolhmjpeaaWalks2
namespace Go.Proofs.Ytmbkkmolhmjpeaa
open Go.RowKit
set_option linter.unusedSimpArgs false
set_option linter.unusedVariables false
attribute [local go_sem ↓] Go.wp_at_zero Go.wp_at_succ

theorem bytes_nil {s : ByteArray} (h : s.toList = []) : s = ⟨#[]⟩ := by
  rw [ByteArray.toList_eq] at h
  cases s with | mk d => simp at h; subst h; rfl
theorem right_zero {kd vk n : Int} {s : ByteArray} {l : Nat} (h : rightE kd vk n s l = 0) : kd = 2 ∧ vk = 1 ∧ s = ⟨#[]⟩ ∧ l = 0 ∧ fitsB n = true := by
  unfold rightE at h
  split at h <;> try (split at h <;> try (split at h <;> try (split at h <;> try split at h)))
  all_goals first | omega | skip
  rename_i h1 h2 h3 h4 h5
  refine ⟨h1, by simpa using h2, bytes_nil h3, by omega, h5⟩
theorem fit_zero {n : Int} (h : fitE n = 0) : fitsB n = true := by
  unfold fitE at h; split at h
  · assumption
  · omega
theorem or_zero {a b : Int} (h : orE a b = 0) : a = 0 ∧ b = 0 := by
  unfold orE at h; split at h <;> omega

theorem or_not {a b : Int} (h : ¬ a = 0) : orE a b = a := by simp [orE, h]
def addE (E cn n : Int) : Int := orE (orE E (fitE n)) (fitE (cn + n))
theorem add_any (kd vk cn : Int) (s : ByteArray) (A : Option Addr) (l c : Nat) (n : Int) (hn : -9223372036854775808 ≤ n ∧ n ≤ 9223372036854775807) (w : World) :
    Calls Try.prog 9 #[.agg #[.int .i64 kd, .int .i64 vk, .int .i64 cn, .string s, .slice A l c], .int .i64 n] w fun e w' =>
      e = .returned (.tuple #[.agg #[.int .i64 (sel (addE (rightE kd vk cn s l) cn n) 2), .int .i64 (sel (addE (rightE kd vk cn s l) cn n) 1), .int .i64 (sel (addE (rightE kd vk cn s l) cn n) (cn + n)), .string ⟨#[]⟩, .slice none 0 0],
        .int .i64 (addE (rightE kd vk cn s l) cn n)]) ∧ Below w.heap.size w w' := by
  have R := hide (rightE_of n)
  have H := fun b w h0 h1 h2 h3 h4 h5 h6 h7 h8 h9 => hide (right2 b kd vk cn s A l c 2 1 n ⟨#[]⟩ none 0 0 w h0 h1 h2 h3 h4 h5 h6 h7 h8 h9)
  rw [R.out] at H
  by_cases e : orE (rightE kd vk cn s l) (fitE n) = 0
  · obtain ⟨e1, e2⟩ := or_zero e
    obtain ⟨rfl, rfl, rfl, rfl, hf⟩ := right_zero e1
    obtain ⟨hn1, hn2⟩ := fits_in _ (fit_zero e2)
    obtain ⟨hn3, hn4⟩ := fits_in _ hf
    replace hf := hide hf
    have hg := hide (fit_zero e2)
    have ea : Hid (addE (rightE 2 1 cn ⟨#[]⟩ 0) cn n = fitE (cn + n)) := by
      unfold addE; rw [e]; rfl
    rw [ea.out]
    have t : (orE (rightE 2 1 cn ⟨#[]⟩ 0) (fitE n) != 0) = false := by simp [e]
    clear e e1 e2 hn R
    go_enter Try.func9, Try.ntmps9
    go_wp2_with fail
    obtain ⟨W0, hW0⟩ : ∃ W0, W0 = (w.alloc (.cells #[.int .i64 2, .int .i64 1, .int .i64 cn, .string ⟨#[]⟩, .slice A 0 c] 26)).alloc (.cells #[.int .i64 0, .int .i64 0, .int .i64 0, .string ⟨#[]⟩, .slice none 0 0] 26) := ⟨_, rfl⟩
    rw [← hW0]
    have hsz : W0.heap.size = w.heap.size + 2 := by rw [hW0]; simp
    have BW : Below w.heap.size w W0 := by rw [hW0]; go_grown
    have k0 : W0.cell? ⟨w.heap.size, 0, none⟩ = some (.int .i64 2) := by rw [hW0]; go_side
    have k1 : W0.cell? ⟨w.heap.size, 1, none⟩ = some (.int .i64 1) := by rw [hW0]; go_side
    have k2 : W0.cell? ⟨w.heap.size, 2, none⟩ = some (.int .i64 cn) := by rw [hW0]; go_side
    have k3 : W0.cell? ⟨w.heap.size, 3, none⟩ = some (.string ⟨#[]⟩) := by rw [hW0]; go_side
    have k4 : W0.cell? ⟨w.heap.size, 4, none⟩ = some (.slice A 0 c) := by rw [hW0]; go_side
    have r0 : W0.cell? ⟨w.heap.size + 1, 0, none⟩ = some (.int .i64 0) := by rw [hW0]; go_side
    have r1 : W0.cell? ⟨w.heap.size + 1, 1, none⟩ = some (.int .i64 0) := by rw [hW0]; go_side
    have r2 : W0.cell? ⟨w.heap.size + 1, 2, none⟩ = some (.int .i64 0) := by rw [hW0]; go_side
    have r3 : W0.cell? ⟨w.heap.size + 1, 3, none⟩ = some (.string ⟨#[]⟩) := by rw [hW0]; go_side
    have r4 : W0.cell? ⟨w.heap.size + 1, 4, none⟩ = some (.slice none 0 0) := by rw [hW0]; go_side
    have f0 : W0.frozen? ⟨w.heap.size + 1, 0, none⟩ = false := by rw [hW0]; simp [go_sem]
    have f1 : W0.frozen? ⟨w.heap.size + 1, 1, none⟩ = false := by rw [hW0]; simp [go_sem]
    have f2 : W0.frozen? ⟨w.heap.size + 1, 2, none⟩ = false := by rw [hW0]; simp [go_sem]
    have f3 : W0.frozen? ⟨w.heap.size + 1, 3, none⟩ = false := by rw [hW0]; simp [go_sem]
    have f4 : W0.frozen? ⟨w.heap.size + 1, 4, none⟩ = false := by rw [hW0]; simp [go_sem]
    clear hW0
    go_region_held3 (fun w' => w'.cell? ⟨w.heap.size, 0, none⟩ = some (.int .i64 2) ∧ w'.cell? ⟨w.heap.size, 1, none⟩ = some (.int .i64 1) ∧ w'.cell? ⟨w.heap.size, 2, none⟩ = some (.int .i64 cn) ∧ w'.cell? ⟨w.heap.size, 3, none⟩ = some (.string ⟨#[]⟩) ∧ w'.cell? ⟨w.heap.size, 4, none⟩ = some (.slice A 0 c)) ((simp [go_sem, *]; done))
      (first
        | (go_at_call 23; refine (of1 _ n _ ?_ ?_).mono ?_; (focus omega); (focus go_side); rintro e w1 ⟨rfl, hb1⟩; have B1 := st (Below.refl _ W0) hb1 (by go_grown); obtain ⟨hc1, hf1⟩ := bcell B1; have hz1 := B1.size; have hy1 : w.heap.size < w1.heap.size := by omega)
        | (go_at_call 22; refine ((H _ _ ?_ ?_ ?_ ?_ ?_ ?_ ?_ ?_ ?_ ?_).out).mono ?_; (iterate 10 (focus go_side)); rintro e w2 ⟨rfl, hb2⟩; have B2 := st B1 hb2 (by go_grown); obtain ⟨hc2, hf2⟩ := bcell B2; have hz2 := B2.size; have hy2 : w.heap.size < w2.heap.size := by omega))
    go_wp2_with fail
    refine (of2 _ cn n _ hf.out hg.out ?_ ?_).mono ?_
    · go_side
    · go_side
    rintro e w3 ⟨rfl, hb3⟩
    have B3 := st B2 hb3 (by go_grown)
    go_wp2_with fail
    refine (told_any _ _).mono ?_
    rintro e w4 ⟨rfl, hb4⟩
    have B4 := st B3 hb4 (Below.refl _ _)
    obtain ⟨hc4, hf4⟩ := bcell B4
    have BB := BW.trans (B4.mono BW.size)
    go_wp2_with fail
    refine bodyPost_ret (by simp [results, Try.results9, go_sem, *]; try rfl) rfl ?_
    exact ⟨rfl, by go_grown⟩
  · obtain ⟨hn1, hn2⟩ := hn
    have ea : Hid (addE (rightE kd vk cn s l) cn n = orE (rightE kd vk cn s l) (fitE n)) := or_not e
    rw [ea.out]
    have s1 := hide (sel_not _ 2 e)
    have s2 := hide (sel_not _ 1 e)
    have s3 := hide (sel_not _ (cn + n) e)
    rw [s1.out, s2.out, s3.out]
    have t : (orE (rightE kd vk cn s l) (fitE n) != 0) = true := by simp [e]
    clear e R
    go_enter Try.func9, Try.ntmps9
    go_wp2_with fail
    obtain ⟨W0, hW0⟩ : ∃ W0, W0 = (w.alloc (.cells #[.int .i64 kd, .int .i64 vk, .int .i64 cn, .string s, .slice A l c] 26)).alloc (.cells #[.int .i64 0, .int .i64 0, .int .i64 0, .string ⟨#[]⟩, .slice none 0 0] 26) := ⟨_, rfl⟩
    rw [← hW0]
    have hsz : W0.heap.size = w.heap.size + 2 := by rw [hW0]; simp
    have BW : Below w.heap.size w W0 := by rw [hW0]; go_grown
    have k0 : W0.cell? ⟨w.heap.size, 0, none⟩ = some (.int .i64 kd) := by rw [hW0]; go_side
    have k1 : W0.cell? ⟨w.heap.size, 1, none⟩ = some (.int .i64 vk) := by rw [hW0]; go_side
    have k2 : W0.cell? ⟨w.heap.size, 2, none⟩ = some (.int .i64 cn) := by rw [hW0]; go_side
    have k3 : W0.cell? ⟨w.heap.size, 3, none⟩ = some (.string s) := by rw [hW0]; go_side
    have k4 : W0.cell? ⟨w.heap.size, 4, none⟩ = some (.slice A l c) := by rw [hW0]; go_side
    have r0 : W0.cell? ⟨w.heap.size + 1, 0, none⟩ = some (.int .i64 0) := by rw [hW0]; go_side
    have r1 : W0.cell? ⟨w.heap.size + 1, 1, none⟩ = some (.int .i64 0) := by rw [hW0]; go_side
    have r2 : W0.cell? ⟨w.heap.size + 1, 2, none⟩ = some (.int .i64 0) := by rw [hW0]; go_side
    have r3 : W0.cell? ⟨w.heap.size + 1, 3, none⟩ = some (.string ⟨#[]⟩) := by rw [hW0]; go_side
    have r4 : W0.cell? ⟨w.heap.size + 1, 4, none⟩ = some (.slice none 0 0) := by rw [hW0]; go_side
    have f0 : W0.frozen? ⟨w.heap.size + 1, 0, none⟩ = false := by rw [hW0]; simp [go_sem]
    have f1 : W0.frozen? ⟨w.heap.size + 1, 1, none⟩ = false := by rw [hW0]; simp [go_sem]
    have f2 : W0.frozen? ⟨w.heap.size + 1, 2, none⟩ = false := by rw [hW0]; simp [go_sem]
    have f3 : W0.frozen? ⟨w.heap.size + 1, 3, none⟩ = false := by rw [hW0]; simp [go_sem]
    have f4 : W0.frozen? ⟨w.heap.size + 1, 4, none⟩ = false := by rw [hW0]; simp [go_sem]
    clear hW0
    go_region_held3 (fun w' => w'.cell? ⟨w.heap.size, 0, none⟩ = some (.int .i64 kd) ∧ w'.cell? ⟨w.heap.size, 1, none⟩ = some (.int .i64 vk) ∧ w'.cell? ⟨w.heap.size, 2, none⟩ = some (.int .i64 cn) ∧ w'.cell? ⟨w.heap.size, 3, none⟩ = some (.string s) ∧ w'.cell? ⟨w.heap.size, 4, none⟩ = some (.slice A l c)) ((simp [go_sem, *]; done))
      (first
        | (go_at_call 23; refine (of1 _ n _ ?_ ?_).mono ?_; (focus omega); (focus go_side); rintro e w1 ⟨rfl, hb1⟩; have B1 := st (Below.refl _ W0) hb1 (by go_grown); obtain ⟨hc1, hf1⟩ := bcell B1; have hz1 := B1.size; have hy1 : w.heap.size < w1.heap.size := by omega)
        | (go_at_call 22; refine ((H _ _ ?_ ?_ ?_ ?_ ?_ ?_ ?_ ?_ ?_ ?_).out).mono ?_; (iterate 10 (focus go_side)); rintro e w2 ⟨rfl, hb2⟩; have B2 := st B1 hb2 (by go_grown); obtain ⟨hc2, hf2⟩ := bcell B2; have hz2 := B2.size; have hy2 : w.heap.size < w2.heap.size := by omega))
    obtain ⟨hc2, hf2⟩ := bcell B2
    have BB := BW.trans (B2.mono BW.size)
    go_wp2_with fail
    refine bodyPost_ret (by simp [results, Try.results9, go_sem, *]; try rfl) rfl ?_
    exact ⟨rfl, by go_grown⟩
end Go.Proofs.Ytmbkkmolhmjpeaa

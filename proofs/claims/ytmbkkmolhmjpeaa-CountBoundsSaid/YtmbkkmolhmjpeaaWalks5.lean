/-
  More walks over chapter 8: what two counters are together, by package count and by its reference.
-/
import Derived.Test.YtmbkkmolhmjpeaaWalks4
namespace Go.Proofs.Ytmbkkmolhmjpeaa
open Go.RowKit
set_option linter.unusedSimpArgs false
set_option linter.unusedVariables false

/-- The error of two counters together, that came of a third one. -/
def mergeE (e f g a b o : Int) : Int := orE (orE e (orE f g)) (fitE (a + b - o))
theorem fits_neg {n : Int} (h : fitsB n = true) : fitsB (-n) = true := by
  obtain ⟨h1, h2⟩ := fits_in n h
  exact fits_yes _ (by omega) (by omega)
theorem merge_any (kd1 vk1 n1 : Int) (s1 : ByteArray) (A1 : Option Addr) (l1 c1 : Nat) (kd2 vk2 n2 : Int) (s2 : ByteArray) (A2 : Option Addr) (l2 c2 : Nat) (kd3 vk3 n3 : Int) (s3 : ByteArray) (A3 : Option Addr) (l3 c3 : Nat) (w : World) :
    Calls Try.prog 18 #[.agg #[.int .i64 kd1, .int .i64 vk1, .int .i64 n1, .string s1, .slice A1 l1 c1], .agg #[.int .i64 kd2, .int .i64 vk2, .int .i64 n2, .string s2, .slice A2 l2 c2], .agg #[.int .i64 kd3, .int .i64 vk3, .int .i64 n3, .string s3, .slice A3 l3 c3]] w fun e w' => e = .returned (.tuple #[.agg #[.int .i64 (sel (mergeE (rightE kd1 vk1 n1 s1 l1) (rightE kd2 vk2 n2 s2 l2) (rightE kd3 vk3 n3 s3 l3) n1 n2 n3) 2), .int .i64 (sel (mergeE (rightE kd1 vk1 n1 s1 l1) (rightE kd2 vk2 n2 s2 l2) (rightE kd3 vk3 n3 s3 l3) n1 n2 n3) 1), .int .i64 (sel (mergeE (rightE kd1 vk1 n1 s1 l1) (rightE kd2 vk2 n2 s2 l2) (rightE kd3 vk3 n3 s3 l3) n1 n2 n3) (n1 + n2 - n3)), .string ⟨#[]⟩, .slice none 0 0], .int .i64 (mergeE (rightE kd1 vk1 n1 s1 l1) (rightE kd2 vk2 n2 s2 l2) (rightE kd3 vk3 n3 s3 l3) n1 n2 n3)]) ∧ Below w.heap.size w w' := by
  have H := fun b w h10 h11 h12 h13 h14 h20 h21 h22 h23 h24 h30 h31 h32 h33 h34 => hide (right3 b kd1 vk1 n1 s1 A1 l1 c1 kd2 vk2 n2 s2 A2 l2 c2 kd3 vk3 n3 s3 A3 l3 c3 w h10 h11 h12 h13 h14 h20 h21 h22 h23 h24 h30 h31 h32 h33 h34)
  by_cases e0 : orE (rightE kd1 vk1 n1 s1 l1) (orE (rightE kd2 vk2 n2 s2 l2) (rightE kd3 vk3 n3 s3 l3)) = 0
  · obtain ⟨e1, e23⟩ := or_zero e0
    obtain ⟨e2, e3⟩ := or_zero e23
    obtain ⟨rfl, rfl, rfl, rfl, gf1⟩ := right_zero e1
    obtain ⟨rfl, rfl, rfl, rfl, gf2⟩ := right_zero e2
    obtain ⟨rfl, rfl, rfl, rfl, gf3⟩ := right_zero e3
    obtain ⟨a1, a2⟩ := fits_in _ gf1
    obtain ⟨a3, a4⟩ := fits_in _ gf2
    obtain ⟨a5, a6⟩ := fits_in _ gf3
    have ea : Hid (mergeE (rightE 2 1 n1 ⟨#[]⟩ 0) (rightE 2 1 n2 ⟨#[]⟩ 0) (rightE 2 1 n3 ⟨#[]⟩ 0) n1 n2 n3 = fitE (n1 + n2 - n3)) := by unfold mergeE; rw [e0]; rfl
    rw [ea.out]
    have t : (orE (rightE 2 1 n1 ⟨#[]⟩ 0) (orE (rightE 2 1 n2 ⟨#[]⟩ 0) (rightE 2 1 n3 ⟨#[]⟩ 0)) != 0) = false := by simp [e0]
    have hs : n1 + n2 - n3 = n1 + n2 + -n3 := by omega
    replace hs := hide hs
    rw [hs.out]
    replace gf3 := hide (fits_neg gf3)
    replace gf1 := hide gf1
    replace gf2 := hide gf2
    have T := fun w => hide (told_any (n1 + n2 + -n3) w)
    clear e0 e1 e23 e2 e3
    go_enter Try.func18, Try.ntmps18
    go_wp2_with fail
    obtain ⟨W0, hW0⟩ : ∃ W0, W0 = (((w.alloc (.cells #[.int .i64 2, .int .i64 1, .int .i64 n1, .string ⟨#[]⟩, .slice A1 0 c1] 26)).alloc (.cells #[.int .i64 2, .int .i64 1, .int .i64 n2, .string ⟨#[]⟩, .slice A2 0 c2] 26)).alloc (.cells #[.int .i64 2, .int .i64 1, .int .i64 n3, .string ⟨#[]⟩, .slice A3 0 c3] 26)).alloc (.cells #[.int .i64 0, .int .i64 0, .int .i64 0, .string ⟨#[]⟩, .slice none 0 0] 26) := ⟨_, rfl⟩
    rw [← hW0]
    have hsz : W0.heap.size = w.heap.size + 4 := by rw [hW0]; simp
    have BW : Below w.heap.size w W0 := by rw [hW0]; go_grown
    have k10 : W0.cell? ⟨w.heap.size, 0, none⟩ = some (.int .i64 2) := by rw [hW0]; go_side
    have k11 : W0.cell? ⟨w.heap.size, 1, none⟩ = some (.int .i64 1) := by rw [hW0]; go_side
    have k12 : W0.cell? ⟨w.heap.size, 2, none⟩ = some (.int .i64 n1) := by rw [hW0]; go_side
    have k13 : W0.cell? ⟨w.heap.size, 3, none⟩ = some (.string ⟨#[]⟩) := by rw [hW0]; go_side
    have k14 : W0.cell? ⟨w.heap.size, 4, none⟩ = some (.slice A1 0 c1) := by rw [hW0]; go_side
    have k20 : W0.cell? ⟨w.heap.size + 1, 0, none⟩ = some (.int .i64 2) := by rw [hW0]; go_side
    have k21 : W0.cell? ⟨w.heap.size + 1, 1, none⟩ = some (.int .i64 1) := by rw [hW0]; go_side
    have k22 : W0.cell? ⟨w.heap.size + 1, 2, none⟩ = some (.int .i64 n2) := by rw [hW0]; go_side
    have k23 : W0.cell? ⟨w.heap.size + 1, 3, none⟩ = some (.string ⟨#[]⟩) := by rw [hW0]; go_side
    have k24 : W0.cell? ⟨w.heap.size + 1, 4, none⟩ = some (.slice A2 0 c2) := by rw [hW0]; go_side
    have k30 : W0.cell? ⟨w.heap.size + 1 + 1, 0, none⟩ = some (.int .i64 2) := by rw [hW0]; go_side
    have k31 : W0.cell? ⟨w.heap.size + 1 + 1, 1, none⟩ = some (.int .i64 1) := by rw [hW0]; go_side
    have k32 : W0.cell? ⟨w.heap.size + 1 + 1, 2, none⟩ = some (.int .i64 n3) := by rw [hW0]; go_side
    have k33 : W0.cell? ⟨w.heap.size + 1 + 1, 3, none⟩ = some (.string ⟨#[]⟩) := by rw [hW0]; go_side
    have k34 : W0.cell? ⟨w.heap.size + 1 + 1, 4, none⟩ = some (.slice A3 0 c3) := by rw [hW0]; go_side
    have r0 : W0.cell? ⟨w.heap.size + 1 + 1 + 1, 0, none⟩ = some (.int .i64 0) := by rw [hW0]; go_side
    have r1 : W0.cell? ⟨w.heap.size + 1 + 1 + 1, 1, none⟩ = some (.int .i64 0) := by rw [hW0]; go_side
    have r2 : W0.cell? ⟨w.heap.size + 1 + 1 + 1, 2, none⟩ = some (.int .i64 0) := by rw [hW0]; go_side
    have r3 : W0.cell? ⟨w.heap.size + 1 + 1 + 1, 3, none⟩ = some (.string ⟨#[]⟩) := by rw [hW0]; go_side
    have r4 : W0.cell? ⟨w.heap.size + 1 + 1 + 1, 4, none⟩ = some (.slice none 0 0) := by rw [hW0]; go_side
    have f0 : W0.frozen? ⟨w.heap.size + 1 + 1 + 1, 0, none⟩ = false := by rw [hW0]; simp [go_sem]
    have f1 : W0.frozen? ⟨w.heap.size + 1 + 1 + 1, 1, none⟩ = false := by rw [hW0]; simp [go_sem]
    have f2 : W0.frozen? ⟨w.heap.size + 1 + 1 + 1, 2, none⟩ = false := by rw [hW0]; simp [go_sem]
    have f3 : W0.frozen? ⟨w.heap.size + 1 + 1 + 1, 3, none⟩ = false := by rw [hW0]; simp [go_sem]
    have f4 : W0.frozen? ⟨w.heap.size + 1 + 1 + 1, 4, none⟩ = false := by rw [hW0]; simp [go_sem]
    clear hW0
    refine ((H _ _ (by go_side) (by go_side) (by go_side) (by go_side) (by go_side) (by go_side) (by go_side) (by go_side) (by go_side) (by go_side) (by go_side) (by go_side) (by go_side) (by go_side) (by go_side)).out).mono ?_
    rintro e w1 ⟨rfl, hb1⟩
    have B1 := st (Below.refl _ W0) hb1 (by go_grown)
    obtain ⟨hc1, hf1⟩ := bcell B1
    have hz1 := B1.size
    have hy1 : w.heap.size < w1.heap.size := by omega
    have hx1 : w.heap.size + 1 < w1.heap.size := by omega
    have hv1 : w.heap.size + 1 + 1 < w1.heap.size := by omega
    have hu1 : w.heap.size + 1 + 1 + 1 < w1.heap.size := by omega
    go_wp2_with fail
    refine (of3 _ n1 n2 (-n3) _ gf1.out gf2.out gf3.out (by go_side) (by go_side) (by go_side)).mono ?_
    rintro e w2 ⟨rfl, hb2⟩
    have B2 := st B1 hb2 (by go_grown)
    obtain ⟨hc2, hf2⟩ := bcell B2
    have hz2 := B2.size
    have hy2 : w.heap.size < w2.heap.size := by omega
    have hx2 : w.heap.size + 1 < w2.heap.size := by omega
    have hv2 : w.heap.size + 1 + 1 < w2.heap.size := by omega
    have hu2 : w.heap.size + 1 + 1 + 1 < w2.heap.size := by omega
    go_wp2_with fail
    refine ((T _).out).mono ?_
    rintro e w3 ⟨rfl, hb3⟩
    have B3 := st B2 hb3 (by go_grown)
    obtain ⟨hc3, hf3⟩ := bcell B3
    have hz3 := B3.size
    have hy3 : w.heap.size < w3.heap.size := by omega
    have hx3 : w.heap.size + 1 < w3.heap.size := by omega
    have hv3 : w.heap.size + 1 + 1 < w3.heap.size := by omega
    have hu3 : w.heap.size + 1 + 1 + 1 < w3.heap.size := by omega
    go_wp2_with fail
    have BB := BW.trans (B3.mono BW.size)
    refine bodyPost_ret (by simp [results, Try.results18, go_sem, *]; try rfl) rfl ?_
    exact ⟨rfl, by go_grown⟩
  · have e : ¬ (mergeE (rightE kd1 vk1 n1 s1 l1) (rightE kd2 vk2 n2 s2 l2) (rightE kd3 vk3 n3 s3 l3) n1 n2 n3) = 0 := fun h => e0 (or_zero h).1
    have ea : Hid ((mergeE (rightE kd1 vk1 n1 s1 l1) (rightE kd2 vk2 n2 s2 l2) (rightE kd3 vk3 n3 s3 l3) n1 n2 n3) = orE (rightE kd1 vk1 n1 s1 l1) (orE (rightE kd2 vk2 n2 s2 l2) (rightE kd3 vk3 n3 s3 l3))) := or_not e0
    have q1 := hide (sel_not _ 2 e)
    have q2 := hide (sel_not _ 1 e)
    have q3 := hide (sel_not _ (n1 + n2 - n3) e)
    rw [q1.out, q2.out, q3.out]
    rw [ea.out]
    have t : (orE (rightE kd1 vk1 n1 s1 l1) (orE (rightE kd2 vk2 n2 s2 l2) (rightE kd3 vk3 n3 s3 l3)) != 0) = true := by simp [e0]
    clear e e0
    go_enter Try.func18, Try.ntmps18
    go_wp2_with fail
    obtain ⟨W0, hW0⟩ : ∃ W0, W0 = (((w.alloc (.cells #[.int .i64 kd1, .int .i64 vk1, .int .i64 n1, .string s1, .slice A1 l1 c1] 26)).alloc (.cells #[.int .i64 kd2, .int .i64 vk2, .int .i64 n2, .string s2, .slice A2 l2 c2] 26)).alloc (.cells #[.int .i64 kd3, .int .i64 vk3, .int .i64 n3, .string s3, .slice A3 l3 c3] 26)).alloc (.cells #[.int .i64 0, .int .i64 0, .int .i64 0, .string ⟨#[]⟩, .slice none 0 0] 26) := ⟨_, rfl⟩
    rw [← hW0]
    have hsz : W0.heap.size = w.heap.size + 4 := by rw [hW0]; simp
    have BW : Below w.heap.size w W0 := by rw [hW0]; go_grown
    have k10 : W0.cell? ⟨w.heap.size, 0, none⟩ = some (.int .i64 kd1) := by rw [hW0]; go_side
    have k11 : W0.cell? ⟨w.heap.size, 1, none⟩ = some (.int .i64 vk1) := by rw [hW0]; go_side
    have k12 : W0.cell? ⟨w.heap.size, 2, none⟩ = some (.int .i64 n1) := by rw [hW0]; go_side
    have k13 : W0.cell? ⟨w.heap.size, 3, none⟩ = some (.string s1) := by rw [hW0]; go_side
    have k14 : W0.cell? ⟨w.heap.size, 4, none⟩ = some (.slice A1 l1 c1) := by rw [hW0]; go_side
    have k20 : W0.cell? ⟨w.heap.size + 1, 0, none⟩ = some (.int .i64 kd2) := by rw [hW0]; go_side
    have k21 : W0.cell? ⟨w.heap.size + 1, 1, none⟩ = some (.int .i64 vk2) := by rw [hW0]; go_side
    have k22 : W0.cell? ⟨w.heap.size + 1, 2, none⟩ = some (.int .i64 n2) := by rw [hW0]; go_side
    have k23 : W0.cell? ⟨w.heap.size + 1, 3, none⟩ = some (.string s2) := by rw [hW0]; go_side
    have k24 : W0.cell? ⟨w.heap.size + 1, 4, none⟩ = some (.slice A2 l2 c2) := by rw [hW0]; go_side
    have k30 : W0.cell? ⟨w.heap.size + 1 + 1, 0, none⟩ = some (.int .i64 kd3) := by rw [hW0]; go_side
    have k31 : W0.cell? ⟨w.heap.size + 1 + 1, 1, none⟩ = some (.int .i64 vk3) := by rw [hW0]; go_side
    have k32 : W0.cell? ⟨w.heap.size + 1 + 1, 2, none⟩ = some (.int .i64 n3) := by rw [hW0]; go_side
    have k33 : W0.cell? ⟨w.heap.size + 1 + 1, 3, none⟩ = some (.string s3) := by rw [hW0]; go_side
    have k34 : W0.cell? ⟨w.heap.size + 1 + 1, 4, none⟩ = some (.slice A3 l3 c3) := by rw [hW0]; go_side
    have r0 : W0.cell? ⟨w.heap.size + 1 + 1 + 1, 0, none⟩ = some (.int .i64 0) := by rw [hW0]; go_side
    have r1 : W0.cell? ⟨w.heap.size + 1 + 1 + 1, 1, none⟩ = some (.int .i64 0) := by rw [hW0]; go_side
    have r2 : W0.cell? ⟨w.heap.size + 1 + 1 + 1, 2, none⟩ = some (.int .i64 0) := by rw [hW0]; go_side
    have r3 : W0.cell? ⟨w.heap.size + 1 + 1 + 1, 3, none⟩ = some (.string ⟨#[]⟩) := by rw [hW0]; go_side
    have r4 : W0.cell? ⟨w.heap.size + 1 + 1 + 1, 4, none⟩ = some (.slice none 0 0) := by rw [hW0]; go_side
    have f0 : W0.frozen? ⟨w.heap.size + 1 + 1 + 1, 0, none⟩ = false := by rw [hW0]; simp [go_sem]
    have f1 : W0.frozen? ⟨w.heap.size + 1 + 1 + 1, 1, none⟩ = false := by rw [hW0]; simp [go_sem]
    have f2 : W0.frozen? ⟨w.heap.size + 1 + 1 + 1, 2, none⟩ = false := by rw [hW0]; simp [go_sem]
    have f3 : W0.frozen? ⟨w.heap.size + 1 + 1 + 1, 3, none⟩ = false := by rw [hW0]; simp [go_sem]
    have f4 : W0.frozen? ⟨w.heap.size + 1 + 1 + 1, 4, none⟩ = false := by rw [hW0]; simp [go_sem]
    clear hW0
    refine ((H _ _ (by go_side) (by go_side) (by go_side) (by go_side) (by go_side) (by go_side) (by go_side) (by go_side) (by go_side) (by go_side) (by go_side) (by go_side) (by go_side) (by go_side) (by go_side)).out).mono ?_
    rintro e w1 ⟨rfl, hb1⟩
    have B1 := st (Below.refl _ W0) hb1 (by go_grown)
    obtain ⟨hc1, hf1⟩ := bcell B1
    have hz1 := B1.size
    have hy1 : w.heap.size < w1.heap.size := by omega
    have hx1 : w.heap.size + 1 < w1.heap.size := by omega
    have hv1 : w.heap.size + 1 + 1 < w1.heap.size := by omega
    have hu1 : w.heap.size + 1 + 1 + 1 < w1.heap.size := by omega
    go_wp2_with fail
    have BB := BW.trans (B1.mono BW.size)
    refine bodyPost_ret (by simp [results, Try.results18, go_sem, *]; try rfl) rfl ?_
    exact ⟨rfl, by go_grown⟩
set_option maxHeartbeats 1600000 in
theorem ref_merge_any (kd1 vk1 n1 : Int) (s1 : ByteArray) (A1 : Option Addr) (l1 c1 : Nat) (kd2 vk2 n2 : Int) (s2 : ByteArray) (A2 : Option Addr) (l2 c2 : Nat) (kd3 vk3 n3 : Int) (s3 : ByteArray) (A3 : Option Addr) (l3 c3 : Nat) (w : World) :
    Calls Try.prog 19 #[.agg #[.int .i64 kd1, .int .i64 vk1, .int .i64 n1, .string s1, .slice A1 l1 c1], .agg #[.int .i64 kd2, .int .i64 vk2, .int .i64 n2, .string s2, .slice A2 l2 c2], .agg #[.int .i64 kd3, .int .i64 vk3, .int .i64 n3, .string s3, .slice A3 l3 c3]] w fun e w' => e = .returned (.tuple #[.agg #[.int .i64 (sel (mergeE (rightE kd1 vk1 n1 s1 l1) (rightE kd2 vk2 n2 s2 l2) (rightE kd3 vk3 n3 s3 l3) n1 n2 n3) 2), .int .i64 (sel (mergeE (rightE kd1 vk1 n1 s1 l1) (rightE kd2 vk2 n2 s2 l2) (rightE kd3 vk3 n3 s3 l3) n1 n2 n3) 1), .int .i64 (sel (mergeE (rightE kd1 vk1 n1 s1 l1) (rightE kd2 vk2 n2 s2 l2) (rightE kd3 vk3 n3 s3 l3) n1 n2 n3) (n1 + n2 - n3)), .string ⟨#[]⟩, .slice none 0 0], .int .i64 (mergeE (rightE kd1 vk1 n1 s1 l1) (rightE kd2 vk2 n2 s2 l2) (rightE kd3 vk3 n3 s3 l3) n1 n2 n3)]) ∧ Below w.heap.size w w' := by
  by_cases e1 : (rightE kd1 vk1 n1 s1 l1) = 0
  · by_cases e2 : (rightE kd2 vk2 n2 s2 l2) = 0
    · by_cases e3 : (rightE kd3 vk3 n3 s3 l3) = 0
      · obtain ⟨rfl, rfl, rfl, rfl, gf1⟩ := right_zero e1
        obtain ⟨rfl, rfl, rfl, rfl, gf2⟩ := right_zero e2
        obtain ⟨rfl, rfl, rfl, rfl, gf3⟩ := right_zero e3
        obtain ⟨a1, a2⟩ := fits_in _ gf1
        obtain ⟨a3, a4⟩ := fits_in _ gf2
        obtain ⟨a5, a6⟩ := fits_in _ gf3
        have ea : Hid (mergeE (rightE 2 1 n1 ⟨#[]⟩ 0) (rightE 2 1 n2 ⟨#[]⟩ 0) (rightE 2 1 n3 ⟨#[]⟩ 0) n1 n2 n3 = fitE (n1 + n2 - n3)) := by unfold mergeE; rw [e1, e2, e3]; rfl
        rw [ea.out]
        have t1 : (rightE 2 1 n1 ⟨#[]⟩ 0 != 0) = false := by simp [e1]
        have t2 : (rightE 2 1 n2 ⟨#[]⟩ 0 != 0) = false := by simp [e2]
        have t3 : (rightE 2 1 n3 ⟨#[]⟩ 0 != 0) = false := by simp [e3]
        have hs : n1 + n2 - n3 = n3 + (n1 - n3) + (n2 - n3) := by omega
        replace hs := hide hs
        rw [hs.out]
        clear e1 e2 e3 gf1 gf2 gf3
        by_cases e : fitE (n3 + (n1 - n3) + (n2 - n3)) = 0
        · have q1 := hide (sel_zero _ 2 e)
          have q2 := hide (sel_zero _ 1 e)
          have q3 := hide (sel_zero _ (n3 + (n1 - n3) + (n2 - n3)) e)
          rw [q1.out, q2.out, q3.out]
          have t : (fitE (n3 + (n1 - n3) + (n2 - n3)) != 0) = false := by simp [e]
          replace e := hide e
          have T := fun w => hide (ref_right_of (n3 + (n1 - n3) + (n2 - n3)) w)
          have U := fun w => hide (refOf_any (n3 + (n1 - n3) + (n2 - n3)) w)
          go_enter Try.func19, Try.ntmps19
          go_wp2_with fail
          obtain ⟨W0, hW0⟩ : ∃ W0, W0 = (((w.alloc (.cells #[.int .i64 2, .int .i64 1, .int .i64 n1, .string ⟨#[]⟩, .slice A1 0 c1] 26)).alloc (.cells #[.int .i64 2, .int .i64 1, .int .i64 n2, .string ⟨#[]⟩, .slice A2 0 c2] 26)).alloc (.cells #[.int .i64 2, .int .i64 1, .int .i64 n3, .string ⟨#[]⟩, .slice A3 0 c3] 26)).alloc (.cells #[.int .i64 0, .int .i64 0, .int .i64 0, .string ⟨#[]⟩, .slice none 0 0] 26) := ⟨_, rfl⟩
          rw [← hW0]
          have hsz : W0.heap.size = w.heap.size + 4 := by rw [hW0]; simp
          have BW : Below w.heap.size w W0 := by rw [hW0]; go_grown
          have k10 : W0.cell? ⟨w.heap.size, 0, none⟩ = some (.int .i64 2) := by rw [hW0]; go_side
          have k11 : W0.cell? ⟨w.heap.size, 1, none⟩ = some (.int .i64 1) := by rw [hW0]; go_side
          have k12 : W0.cell? ⟨w.heap.size, 2, none⟩ = some (.int .i64 n1) := by rw [hW0]; go_side
          have k13 : W0.cell? ⟨w.heap.size, 3, none⟩ = some (.string ⟨#[]⟩) := by rw [hW0]; go_side
          have k14 : W0.cell? ⟨w.heap.size, 4, none⟩ = some (.slice A1 0 c1) := by rw [hW0]; go_side
          have k20 : W0.cell? ⟨w.heap.size + 1, 0, none⟩ = some (.int .i64 2) := by rw [hW0]; go_side
          have k21 : W0.cell? ⟨w.heap.size + 1, 1, none⟩ = some (.int .i64 1) := by rw [hW0]; go_side
          have k22 : W0.cell? ⟨w.heap.size + 1, 2, none⟩ = some (.int .i64 n2) := by rw [hW0]; go_side
          have k23 : W0.cell? ⟨w.heap.size + 1, 3, none⟩ = some (.string ⟨#[]⟩) := by rw [hW0]; go_side
          have k24 : W0.cell? ⟨w.heap.size + 1, 4, none⟩ = some (.slice A2 0 c2) := by rw [hW0]; go_side
          have k30 : W0.cell? ⟨w.heap.size + 1 + 1, 0, none⟩ = some (.int .i64 2) := by rw [hW0]; go_side
          have k31 : W0.cell? ⟨w.heap.size + 1 + 1, 1, none⟩ = some (.int .i64 1) := by rw [hW0]; go_side
          have k32 : W0.cell? ⟨w.heap.size + 1 + 1, 2, none⟩ = some (.int .i64 n3) := by rw [hW0]; go_side
          have k33 : W0.cell? ⟨w.heap.size + 1 + 1, 3, none⟩ = some (.string ⟨#[]⟩) := by rw [hW0]; go_side
          have k34 : W0.cell? ⟨w.heap.size + 1 + 1, 4, none⟩ = some (.slice A3 0 c3) := by rw [hW0]; go_side
          have r0 : W0.cell? ⟨w.heap.size + 1 + 1 + 1, 0, none⟩ = some (.int .i64 0) := by rw [hW0]; go_side
          have r1 : W0.cell? ⟨w.heap.size + 1 + 1 + 1, 1, none⟩ = some (.int .i64 0) := by rw [hW0]; go_side
          have r2 : W0.cell? ⟨w.heap.size + 1 + 1 + 1, 2, none⟩ = some (.int .i64 0) := by rw [hW0]; go_side
          have r3 : W0.cell? ⟨w.heap.size + 1 + 1 + 1, 3, none⟩ = some (.string ⟨#[]⟩) := by rw [hW0]; go_side
          have r4 : W0.cell? ⟨w.heap.size + 1 + 1 + 1, 4, none⟩ = some (.slice none 0 0) := by rw [hW0]; go_side
          have f0 : W0.frozen? ⟨w.heap.size + 1 + 1 + 1, 0, none⟩ = false := by rw [hW0]; simp [go_sem]
          have f1 : W0.frozen? ⟨w.heap.size + 1 + 1 + 1, 1, none⟩ = false := by rw [hW0]; simp [go_sem]
          have f2 : W0.frozen? ⟨w.heap.size + 1 + 1 + 1, 2, none⟩ = false := by rw [hW0]; simp [go_sem]
          have f3 : W0.frozen? ⟨w.heap.size + 1 + 1 + 1, 3, none⟩ = false := by rw [hW0]; simp [go_sem]
          have f4 : W0.frozen? ⟨w.heap.size + 1 + 1 + 1, 4, none⟩ = false := by rw [hW0]; simp [go_sem]
          clear hW0
          refine (ref_right_any _ _ _ _ _ _ _ _).mono ?_
          rintro e w1 ⟨rfl, hb1⟩
          have B1 := st (Below.refl _ W0) hb1 (by go_grown)
          obtain ⟨hc1, hf1⟩ := bcell B1
          have hz1 := B1.size
          have hy1 : w.heap.size < w1.heap.size := by omega
          have hx1 : w.heap.size + 1 < w1.heap.size := by omega
          have hv1 : w.heap.size + 1 + 1 < w1.heap.size := by omega
          have hu1 : w.heap.size + 1 + 1 + 1 < w1.heap.size := by omega
          go_wp2_with fail
          refine (ref_right_any _ _ _ _ _ _ _ _).mono ?_
          rintro e w2 ⟨rfl, hb2⟩
          have B2 := st B1 hb2 (by go_grown)
          obtain ⟨hc2, hf2⟩ := bcell B2
          have hz2 := B2.size
          have hy2 : w.heap.size < w2.heap.size := by omega
          have hx2 : w.heap.size + 1 < w2.heap.size := by omega
          have hv2 : w.heap.size + 1 + 1 < w2.heap.size := by omega
          have hu2 : w.heap.size + 1 + 1 + 1 < w2.heap.size := by omega
          go_wp2_with fail
          refine (ref_right_any _ _ _ _ _ _ _ _).mono ?_
          rintro e w3 ⟨rfl, hb3⟩
          have B3 := st B2 hb3 (by go_grown)
          obtain ⟨hc3, hf3⟩ := bcell B3
          have hz3 := B3.size
          have hy3 : w.heap.size < w3.heap.size := by omega
          have hx3 : w.heap.size + 1 < w3.heap.size := by omega
          have hv3 : w.heap.size + 1 + 1 < w3.heap.size := by omega
          have hu3 : w.heap.size + 1 + 1 + 1 < w3.heap.size := by omega
          go_wp2_with fail
          refine ((U _).out).mono ?_
          rintro e w4 ⟨rfl, hb4⟩
          have B4 := st B3 hb4 (by go_grown)
          obtain ⟨hc4, hf4⟩ := bcell B4
          have hz4 := B4.size
          have hy4 : w.heap.size < w4.heap.size := by omega
          have hx4 : w.heap.size + 1 < w4.heap.size := by omega
          have hv4 : w.heap.size + 1 + 1 < w4.heap.size := by omega
          have hu4 : w.heap.size + 1 + 1 + 1 < w4.heap.size := by omega
          go_wp2_with fail
          refine ((T _).out).mono ?_
          rintro e w5 ⟨rfl, hb5⟩
          have B5 := st B4 hb5 (by go_grown)
          obtain ⟨hc5, hf5⟩ := bcell B5
          have hz5 := B5.size
          have hy5 : w.heap.size < w5.heap.size := by omega
          have hu5 : w.heap.size + 1 + 1 + 1 < w5.heap.size := by omega
          obtain ⟨hd5, hg5⟩ := bcell hb5
          have hv5 : w4.heap.size < w5.heap.size := by have h := hb5.size; simp at h; omega
          go_wp2_with fail
          have BB := BW.trans (B5.mono BW.size)
          refine bodyPost_ret (by simp [results, Try.results19, go_sem, *]; try rfl) rfl ?_
          exact ⟨by rw [e.out], by go_grown⟩
        · have q1 := hide (sel_not _ 2 e)
          have q2 := hide (sel_not _ 1 e)
          have q3 := hide (sel_not _ (n3 + (n1 - n3) + (n2 - n3)) e)
          rw [q1.out, q2.out, q3.out]
          have t : (fitE (n3 + (n1 - n3) + (n2 - n3)) != 0) = true := by simp [e]
          replace e := hide e
          have T := fun w => hide (ref_right_of (n3 + (n1 - n3) + (n2 - n3)) w)
          have U := fun w => hide (refOf_any (n3 + (n1 - n3) + (n2 - n3)) w)
          go_enter Try.func19, Try.ntmps19
          go_wp2_with fail
          obtain ⟨W0, hW0⟩ : ∃ W0, W0 = (((w.alloc (.cells #[.int .i64 2, .int .i64 1, .int .i64 n1, .string ⟨#[]⟩, .slice A1 0 c1] 26)).alloc (.cells #[.int .i64 2, .int .i64 1, .int .i64 n2, .string ⟨#[]⟩, .slice A2 0 c2] 26)).alloc (.cells #[.int .i64 2, .int .i64 1, .int .i64 n3, .string ⟨#[]⟩, .slice A3 0 c3] 26)).alloc (.cells #[.int .i64 0, .int .i64 0, .int .i64 0, .string ⟨#[]⟩, .slice none 0 0] 26) := ⟨_, rfl⟩
          rw [← hW0]
          have hsz : W0.heap.size = w.heap.size + 4 := by rw [hW0]; simp
          have BW : Below w.heap.size w W0 := by rw [hW0]; go_grown
          have k10 : W0.cell? ⟨w.heap.size, 0, none⟩ = some (.int .i64 2) := by rw [hW0]; go_side
          have k11 : W0.cell? ⟨w.heap.size, 1, none⟩ = some (.int .i64 1) := by rw [hW0]; go_side
          have k12 : W0.cell? ⟨w.heap.size, 2, none⟩ = some (.int .i64 n1) := by rw [hW0]; go_side
          have k13 : W0.cell? ⟨w.heap.size, 3, none⟩ = some (.string ⟨#[]⟩) := by rw [hW0]; go_side
          have k14 : W0.cell? ⟨w.heap.size, 4, none⟩ = some (.slice A1 0 c1) := by rw [hW0]; go_side
          have k20 : W0.cell? ⟨w.heap.size + 1, 0, none⟩ = some (.int .i64 2) := by rw [hW0]; go_side
          have k21 : W0.cell? ⟨w.heap.size + 1, 1, none⟩ = some (.int .i64 1) := by rw [hW0]; go_side
          have k22 : W0.cell? ⟨w.heap.size + 1, 2, none⟩ = some (.int .i64 n2) := by rw [hW0]; go_side
          have k23 : W0.cell? ⟨w.heap.size + 1, 3, none⟩ = some (.string ⟨#[]⟩) := by rw [hW0]; go_side
          have k24 : W0.cell? ⟨w.heap.size + 1, 4, none⟩ = some (.slice A2 0 c2) := by rw [hW0]; go_side
          have k30 : W0.cell? ⟨w.heap.size + 1 + 1, 0, none⟩ = some (.int .i64 2) := by rw [hW0]; go_side
          have k31 : W0.cell? ⟨w.heap.size + 1 + 1, 1, none⟩ = some (.int .i64 1) := by rw [hW0]; go_side
          have k32 : W0.cell? ⟨w.heap.size + 1 + 1, 2, none⟩ = some (.int .i64 n3) := by rw [hW0]; go_side
          have k33 : W0.cell? ⟨w.heap.size + 1 + 1, 3, none⟩ = some (.string ⟨#[]⟩) := by rw [hW0]; go_side
          have k34 : W0.cell? ⟨w.heap.size + 1 + 1, 4, none⟩ = some (.slice A3 0 c3) := by rw [hW0]; go_side
          have r0 : W0.cell? ⟨w.heap.size + 1 + 1 + 1, 0, none⟩ = some (.int .i64 0) := by rw [hW0]; go_side
          have r1 : W0.cell? ⟨w.heap.size + 1 + 1 + 1, 1, none⟩ = some (.int .i64 0) := by rw [hW0]; go_side
          have r2 : W0.cell? ⟨w.heap.size + 1 + 1 + 1, 2, none⟩ = some (.int .i64 0) := by rw [hW0]; go_side
          have r3 : W0.cell? ⟨w.heap.size + 1 + 1 + 1, 3, none⟩ = some (.string ⟨#[]⟩) := by rw [hW0]; go_side
          have r4 : W0.cell? ⟨w.heap.size + 1 + 1 + 1, 4, none⟩ = some (.slice none 0 0) := by rw [hW0]; go_side
          have f0 : W0.frozen? ⟨w.heap.size + 1 + 1 + 1, 0, none⟩ = false := by rw [hW0]; simp [go_sem]
          have f1 : W0.frozen? ⟨w.heap.size + 1 + 1 + 1, 1, none⟩ = false := by rw [hW0]; simp [go_sem]
          have f2 : W0.frozen? ⟨w.heap.size + 1 + 1 + 1, 2, none⟩ = false := by rw [hW0]; simp [go_sem]
          have f3 : W0.frozen? ⟨w.heap.size + 1 + 1 + 1, 3, none⟩ = false := by rw [hW0]; simp [go_sem]
          have f4 : W0.frozen? ⟨w.heap.size + 1 + 1 + 1, 4, none⟩ = false := by rw [hW0]; simp [go_sem]
          clear hW0
          refine (ref_right_any _ _ _ _ _ _ _ _).mono ?_
          rintro e w1 ⟨rfl, hb1⟩
          have B1 := st (Below.refl _ W0) hb1 (by go_grown)
          obtain ⟨hc1, hf1⟩ := bcell B1
          have hz1 := B1.size
          have hy1 : w.heap.size < w1.heap.size := by omega
          have hx1 : w.heap.size + 1 < w1.heap.size := by omega
          have hv1 : w.heap.size + 1 + 1 < w1.heap.size := by omega
          have hu1 : w.heap.size + 1 + 1 + 1 < w1.heap.size := by omega
          go_wp2_with fail
          refine (ref_right_any _ _ _ _ _ _ _ _).mono ?_
          rintro e w2 ⟨rfl, hb2⟩
          have B2 := st B1 hb2 (by go_grown)
          obtain ⟨hc2, hf2⟩ := bcell B2
          have hz2 := B2.size
          have hy2 : w.heap.size < w2.heap.size := by omega
          have hx2 : w.heap.size + 1 < w2.heap.size := by omega
          have hv2 : w.heap.size + 1 + 1 < w2.heap.size := by omega
          have hu2 : w.heap.size + 1 + 1 + 1 < w2.heap.size := by omega
          go_wp2_with fail
          refine (ref_right_any _ _ _ _ _ _ _ _).mono ?_
          rintro e w3 ⟨rfl, hb3⟩
          have B3 := st B2 hb3 (by go_grown)
          obtain ⟨hc3, hf3⟩ := bcell B3
          have hz3 := B3.size
          have hy3 : w.heap.size < w3.heap.size := by omega
          have hx3 : w.heap.size + 1 < w3.heap.size := by omega
          have hv3 : w.heap.size + 1 + 1 < w3.heap.size := by omega
          have hu3 : w.heap.size + 1 + 1 + 1 < w3.heap.size := by omega
          go_wp2_with fail
          refine ((U _).out).mono ?_
          rintro e w4 ⟨rfl, hb4⟩
          have B4 := st B3 hb4 (by go_grown)
          obtain ⟨hc4, hf4⟩ := bcell B4
          have hz4 := B4.size
          have hy4 : w.heap.size < w4.heap.size := by omega
          have hx4 : w.heap.size + 1 < w4.heap.size := by omega
          have hv4 : w.heap.size + 1 + 1 < w4.heap.size := by omega
          have hu4 : w.heap.size + 1 + 1 + 1 < w4.heap.size := by omega
          go_wp2_with fail
          refine ((T _).out).mono ?_
          rintro e w5 ⟨rfl, hb5⟩
          have B5 := st B4 hb5 (by go_grown)
          obtain ⟨hc5, hf5⟩ := bcell B5
          have hz5 := B5.size
          have hy5 : w.heap.size < w5.heap.size := by omega
          have hu5 : w.heap.size + 1 + 1 + 1 < w5.heap.size := by omega
          obtain ⟨hd5, hg5⟩ := bcell hb5
          have hv5 : w4.heap.size < w5.heap.size := by have h := hb5.size; simp at h; omega
          go_wp2_with fail
          have BB := BW.trans (B5.mono BW.size)
          refine bodyPost_ret (by simp [results, Try.results19, go_sem, *]; try rfl) rfl ?_
          exact ⟨rfl, by go_grown⟩
      · 
        have ea : (mergeE (rightE kd1 vk1 n1 s1 l1) (rightE kd2 vk2 n2 s2 l2) (rightE kd3 vk3 n3 s3 l3) n1 n2 n3) = (rightE kd3 vk3 n3 s3 l3) := by unfold mergeE orE; simp [e1, e2, e3]
        have e : ¬ (mergeE (rightE kd1 vk1 n1 s1 l1) (rightE kd2 vk2 n2 s2 l2) (rightE kd3 vk3 n3 s3 l3) n1 n2 n3) = 0 := by rw [ea]; exact e3
        have q1 := hide (sel_not _ 2 e)
        have q2 := hide (sel_not _ 1 e)
        have q3 := hide (sel_not _ (n1 + n2 - n3) e)
        rw [q1.out, q2.out, q3.out, ea]
        have t1 : ((rightE kd1 vk1 n1 s1 l1) != 0) = false := by simp [e1]
        have t2 : ((rightE kd2 vk2 n2 s2 l2) != 0) = false := by simp [e2]
        have t3 : ((rightE kd3 vk3 n3 s3 l3) != 0) = true := by simp [e3]
        clear e ea e1 e2 e3
        go_enter Try.func19, Try.ntmps19
        go_wp2_with fail
        obtain ⟨W0, hW0⟩ : ∃ W0, W0 = (((w.alloc (.cells #[.int .i64 kd1, .int .i64 vk1, .int .i64 n1, .string s1, .slice A1 l1 c1] 26)).alloc (.cells #[.int .i64 kd2, .int .i64 vk2, .int .i64 n2, .string s2, .slice A2 l2 c2] 26)).alloc (.cells #[.int .i64 kd3, .int .i64 vk3, .int .i64 n3, .string s3, .slice A3 l3 c3] 26)).alloc (.cells #[.int .i64 0, .int .i64 0, .int .i64 0, .string ⟨#[]⟩, .slice none 0 0] 26) := ⟨_, rfl⟩
        rw [← hW0]
        have hsz : W0.heap.size = w.heap.size + 4 := by rw [hW0]; simp
        have BW : Below w.heap.size w W0 := by rw [hW0]; go_grown
        have k10 : W0.cell? ⟨w.heap.size, 0, none⟩ = some (.int .i64 kd1) := by rw [hW0]; go_side
        have k11 : W0.cell? ⟨w.heap.size, 1, none⟩ = some (.int .i64 vk1) := by rw [hW0]; go_side
        have k12 : W0.cell? ⟨w.heap.size, 2, none⟩ = some (.int .i64 n1) := by rw [hW0]; go_side
        have k13 : W0.cell? ⟨w.heap.size, 3, none⟩ = some (.string s1) := by rw [hW0]; go_side
        have k14 : W0.cell? ⟨w.heap.size, 4, none⟩ = some (.slice A1 l1 c1) := by rw [hW0]; go_side
        have k20 : W0.cell? ⟨w.heap.size + 1, 0, none⟩ = some (.int .i64 kd2) := by rw [hW0]; go_side
        have k21 : W0.cell? ⟨w.heap.size + 1, 1, none⟩ = some (.int .i64 vk2) := by rw [hW0]; go_side
        have k22 : W0.cell? ⟨w.heap.size + 1, 2, none⟩ = some (.int .i64 n2) := by rw [hW0]; go_side
        have k23 : W0.cell? ⟨w.heap.size + 1, 3, none⟩ = some (.string s2) := by rw [hW0]; go_side
        have k24 : W0.cell? ⟨w.heap.size + 1, 4, none⟩ = some (.slice A2 l2 c2) := by rw [hW0]; go_side
        have k30 : W0.cell? ⟨w.heap.size + 1 + 1, 0, none⟩ = some (.int .i64 kd3) := by rw [hW0]; go_side
        have k31 : W0.cell? ⟨w.heap.size + 1 + 1, 1, none⟩ = some (.int .i64 vk3) := by rw [hW0]; go_side
        have k32 : W0.cell? ⟨w.heap.size + 1 + 1, 2, none⟩ = some (.int .i64 n3) := by rw [hW0]; go_side
        have k33 : W0.cell? ⟨w.heap.size + 1 + 1, 3, none⟩ = some (.string s3) := by rw [hW0]; go_side
        have k34 : W0.cell? ⟨w.heap.size + 1 + 1, 4, none⟩ = some (.slice A3 l3 c3) := by rw [hW0]; go_side
        have r0 : W0.cell? ⟨w.heap.size + 1 + 1 + 1, 0, none⟩ = some (.int .i64 0) := by rw [hW0]; go_side
        have r1 : W0.cell? ⟨w.heap.size + 1 + 1 + 1, 1, none⟩ = some (.int .i64 0) := by rw [hW0]; go_side
        have r2 : W0.cell? ⟨w.heap.size + 1 + 1 + 1, 2, none⟩ = some (.int .i64 0) := by rw [hW0]; go_side
        have r3 : W0.cell? ⟨w.heap.size + 1 + 1 + 1, 3, none⟩ = some (.string ⟨#[]⟩) := by rw [hW0]; go_side
        have r4 : W0.cell? ⟨w.heap.size + 1 + 1 + 1, 4, none⟩ = some (.slice none 0 0) := by rw [hW0]; go_side
        have f0 : W0.frozen? ⟨w.heap.size + 1 + 1 + 1, 0, none⟩ = false := by rw [hW0]; simp [go_sem]
        have f1 : W0.frozen? ⟨w.heap.size + 1 + 1 + 1, 1, none⟩ = false := by rw [hW0]; simp [go_sem]
        have f2 : W0.frozen? ⟨w.heap.size + 1 + 1 + 1, 2, none⟩ = false := by rw [hW0]; simp [go_sem]
        have f3 : W0.frozen? ⟨w.heap.size + 1 + 1 + 1, 3, none⟩ = false := by rw [hW0]; simp [go_sem]
        have f4 : W0.frozen? ⟨w.heap.size + 1 + 1 + 1, 4, none⟩ = false := by rw [hW0]; simp [go_sem]
        clear hW0
        refine (ref_right_any _ _ _ _ _ _ _ _).mono ?_
        rintro e w1 ⟨rfl, hb1⟩
        have B1 := st (Below.refl _ W0) hb1 (by go_grown)
        obtain ⟨hc1, hf1⟩ := bcell B1
        have hz1 := B1.size
        have hy1 : w.heap.size < w1.heap.size := by omega
        have hx1 : w.heap.size + 1 < w1.heap.size := by omega
        have hv1 : w.heap.size + 1 + 1 < w1.heap.size := by omega
        have hu1 : w.heap.size + 1 + 1 + 1 < w1.heap.size := by omega
        go_wp2_with fail
        refine (ref_right_any _ _ _ _ _ _ _ _).mono ?_
        rintro e w2 ⟨rfl, hb2⟩
        have B2 := st B1 hb2 (by go_grown)
        obtain ⟨hc2, hf2⟩ := bcell B2
        have hz2 := B2.size
        have hy2 : w.heap.size < w2.heap.size := by omega
        have hx2 : w.heap.size + 1 < w2.heap.size := by omega
        have hv2 : w.heap.size + 1 + 1 < w2.heap.size := by omega
        have hu2 : w.heap.size + 1 + 1 + 1 < w2.heap.size := by omega
        go_wp2_with fail
        refine (ref_right_any _ _ _ _ _ _ _ _).mono ?_
        rintro e w3 ⟨rfl, hb3⟩
        have B3 := st B2 hb3 (by go_grown)
        obtain ⟨hc3, hf3⟩ := bcell B3
        have hz3 := B3.size
        have hy3 : w.heap.size < w3.heap.size := by omega
        have hx3 : w.heap.size + 1 < w3.heap.size := by omega
        have hv3 : w.heap.size + 1 + 1 < w3.heap.size := by omega
        have hu3 : w.heap.size + 1 + 1 + 1 < w3.heap.size := by omega
        go_wp2_with fail
        have BB := BW.trans (B3.mono BW.size)
        refine bodyPost_ret (by simp [results, Try.results19, go_sem, *]; try rfl) rfl ?_
        exact ⟨rfl, by go_grown⟩
    · 
      have ea : (mergeE (rightE kd1 vk1 n1 s1 l1) (rightE kd2 vk2 n2 s2 l2) (rightE kd3 vk3 n3 s3 l3) n1 n2 n3) = (rightE kd2 vk2 n2 s2 l2) := by unfold mergeE orE; simp [e1, e2]
      have e : ¬ (mergeE (rightE kd1 vk1 n1 s1 l1) (rightE kd2 vk2 n2 s2 l2) (rightE kd3 vk3 n3 s3 l3) n1 n2 n3) = 0 := by rw [ea]; exact e2
      have q1 := hide (sel_not _ 2 e)
      have q2 := hide (sel_not _ 1 e)
      have q3 := hide (sel_not _ (n1 + n2 - n3) e)
      rw [q1.out, q2.out, q3.out, ea]
      have t1 : ((rightE kd1 vk1 n1 s1 l1) != 0) = false := by simp [e1]
      have t2 : ((rightE kd2 vk2 n2 s2 l2) != 0) = true := by simp [e2]
      clear e ea e1 e2
      go_enter Try.func19, Try.ntmps19
      go_wp2_with fail
      obtain ⟨W0, hW0⟩ : ∃ W0, W0 = (((w.alloc (.cells #[.int .i64 kd1, .int .i64 vk1, .int .i64 n1, .string s1, .slice A1 l1 c1] 26)).alloc (.cells #[.int .i64 kd2, .int .i64 vk2, .int .i64 n2, .string s2, .slice A2 l2 c2] 26)).alloc (.cells #[.int .i64 kd3, .int .i64 vk3, .int .i64 n3, .string s3, .slice A3 l3 c3] 26)).alloc (.cells #[.int .i64 0, .int .i64 0, .int .i64 0, .string ⟨#[]⟩, .slice none 0 0] 26) := ⟨_, rfl⟩
      rw [← hW0]
      have hsz : W0.heap.size = w.heap.size + 4 := by rw [hW0]; simp
      have BW : Below w.heap.size w W0 := by rw [hW0]; go_grown
      have k10 : W0.cell? ⟨w.heap.size, 0, none⟩ = some (.int .i64 kd1) := by rw [hW0]; go_side
      have k11 : W0.cell? ⟨w.heap.size, 1, none⟩ = some (.int .i64 vk1) := by rw [hW0]; go_side
      have k12 : W0.cell? ⟨w.heap.size, 2, none⟩ = some (.int .i64 n1) := by rw [hW0]; go_side
      have k13 : W0.cell? ⟨w.heap.size, 3, none⟩ = some (.string s1) := by rw [hW0]; go_side
      have k14 : W0.cell? ⟨w.heap.size, 4, none⟩ = some (.slice A1 l1 c1) := by rw [hW0]; go_side
      have k20 : W0.cell? ⟨w.heap.size + 1, 0, none⟩ = some (.int .i64 kd2) := by rw [hW0]; go_side
      have k21 : W0.cell? ⟨w.heap.size + 1, 1, none⟩ = some (.int .i64 vk2) := by rw [hW0]; go_side
      have k22 : W0.cell? ⟨w.heap.size + 1, 2, none⟩ = some (.int .i64 n2) := by rw [hW0]; go_side
      have k23 : W0.cell? ⟨w.heap.size + 1, 3, none⟩ = some (.string s2) := by rw [hW0]; go_side
      have k24 : W0.cell? ⟨w.heap.size + 1, 4, none⟩ = some (.slice A2 l2 c2) := by rw [hW0]; go_side
      have k30 : W0.cell? ⟨w.heap.size + 1 + 1, 0, none⟩ = some (.int .i64 kd3) := by rw [hW0]; go_side
      have k31 : W0.cell? ⟨w.heap.size + 1 + 1, 1, none⟩ = some (.int .i64 vk3) := by rw [hW0]; go_side
      have k32 : W0.cell? ⟨w.heap.size + 1 + 1, 2, none⟩ = some (.int .i64 n3) := by rw [hW0]; go_side
      have k33 : W0.cell? ⟨w.heap.size + 1 + 1, 3, none⟩ = some (.string s3) := by rw [hW0]; go_side
      have k34 : W0.cell? ⟨w.heap.size + 1 + 1, 4, none⟩ = some (.slice A3 l3 c3) := by rw [hW0]; go_side
      have r0 : W0.cell? ⟨w.heap.size + 1 + 1 + 1, 0, none⟩ = some (.int .i64 0) := by rw [hW0]; go_side
      have r1 : W0.cell? ⟨w.heap.size + 1 + 1 + 1, 1, none⟩ = some (.int .i64 0) := by rw [hW0]; go_side
      have r2 : W0.cell? ⟨w.heap.size + 1 + 1 + 1, 2, none⟩ = some (.int .i64 0) := by rw [hW0]; go_side
      have r3 : W0.cell? ⟨w.heap.size + 1 + 1 + 1, 3, none⟩ = some (.string ⟨#[]⟩) := by rw [hW0]; go_side
      have r4 : W0.cell? ⟨w.heap.size + 1 + 1 + 1, 4, none⟩ = some (.slice none 0 0) := by rw [hW0]; go_side
      have f0 : W0.frozen? ⟨w.heap.size + 1 + 1 + 1, 0, none⟩ = false := by rw [hW0]; simp [go_sem]
      have f1 : W0.frozen? ⟨w.heap.size + 1 + 1 + 1, 1, none⟩ = false := by rw [hW0]; simp [go_sem]
      have f2 : W0.frozen? ⟨w.heap.size + 1 + 1 + 1, 2, none⟩ = false := by rw [hW0]; simp [go_sem]
      have f3 : W0.frozen? ⟨w.heap.size + 1 + 1 + 1, 3, none⟩ = false := by rw [hW0]; simp [go_sem]
      have f4 : W0.frozen? ⟨w.heap.size + 1 + 1 + 1, 4, none⟩ = false := by rw [hW0]; simp [go_sem]
      clear hW0
      refine (ref_right_any _ _ _ _ _ _ _ _).mono ?_
      rintro e w1 ⟨rfl, hb1⟩
      have B1 := st (Below.refl _ W0) hb1 (by go_grown)
      obtain ⟨hc1, hf1⟩ := bcell B1
      have hz1 := B1.size
      have hy1 : w.heap.size < w1.heap.size := by omega
      have hx1 : w.heap.size + 1 < w1.heap.size := by omega
      have hv1 : w.heap.size + 1 + 1 < w1.heap.size := by omega
      have hu1 : w.heap.size + 1 + 1 + 1 < w1.heap.size := by omega
      go_wp2_with fail
      refine (ref_right_any _ _ _ _ _ _ _ _).mono ?_
      rintro e w2 ⟨rfl, hb2⟩
      have B2 := st B1 hb2 (by go_grown)
      obtain ⟨hc2, hf2⟩ := bcell B2
      have hz2 := B2.size
      have hy2 : w.heap.size < w2.heap.size := by omega
      have hx2 : w.heap.size + 1 < w2.heap.size := by omega
      have hv2 : w.heap.size + 1 + 1 < w2.heap.size := by omega
      have hu2 : w.heap.size + 1 + 1 + 1 < w2.heap.size := by omega
      go_wp2_with fail
      refine (ref_right_any _ _ _ _ _ _ _ _).mono ?_
      rintro e w3 ⟨rfl, hb3⟩
      have B3 := st B2 hb3 (by go_grown)
      obtain ⟨hc3, hf3⟩ := bcell B3
      have hz3 := B3.size
      have hy3 : w.heap.size < w3.heap.size := by omega
      have hx3 : w.heap.size + 1 < w3.heap.size := by omega
      have hv3 : w.heap.size + 1 + 1 < w3.heap.size := by omega
      have hu3 : w.heap.size + 1 + 1 + 1 < w3.heap.size := by omega
      go_wp2_with fail
      have BB := BW.trans (B3.mono BW.size)
      refine bodyPost_ret (by simp [results, Try.results19, go_sem, *]; try rfl) rfl ?_
      exact ⟨rfl, by go_grown⟩
  · 
    have ea : (mergeE (rightE kd1 vk1 n1 s1 l1) (rightE kd2 vk2 n2 s2 l2) (rightE kd3 vk3 n3 s3 l3) n1 n2 n3) = (rightE kd1 vk1 n1 s1 l1) := by unfold mergeE orE; simp [e1]
    have e : ¬ (mergeE (rightE kd1 vk1 n1 s1 l1) (rightE kd2 vk2 n2 s2 l2) (rightE kd3 vk3 n3 s3 l3) n1 n2 n3) = 0 := by rw [ea]; exact e1
    have q1 := hide (sel_not _ 2 e)
    have q2 := hide (sel_not _ 1 e)
    have q3 := hide (sel_not _ (n1 + n2 - n3) e)
    rw [q1.out, q2.out, q3.out, ea]
    have t1 : ((rightE kd1 vk1 n1 s1 l1) != 0) = true := by simp [e1]
    clear e ea e1
    go_enter Try.func19, Try.ntmps19
    go_wp2_with fail
    obtain ⟨W0, hW0⟩ : ∃ W0, W0 = (((w.alloc (.cells #[.int .i64 kd1, .int .i64 vk1, .int .i64 n1, .string s1, .slice A1 l1 c1] 26)).alloc (.cells #[.int .i64 kd2, .int .i64 vk2, .int .i64 n2, .string s2, .slice A2 l2 c2] 26)).alloc (.cells #[.int .i64 kd3, .int .i64 vk3, .int .i64 n3, .string s3, .slice A3 l3 c3] 26)).alloc (.cells #[.int .i64 0, .int .i64 0, .int .i64 0, .string ⟨#[]⟩, .slice none 0 0] 26) := ⟨_, rfl⟩
    rw [← hW0]
    have hsz : W0.heap.size = w.heap.size + 4 := by rw [hW0]; simp
    have BW : Below w.heap.size w W0 := by rw [hW0]; go_grown
    have k10 : W0.cell? ⟨w.heap.size, 0, none⟩ = some (.int .i64 kd1) := by rw [hW0]; go_side
    have k11 : W0.cell? ⟨w.heap.size, 1, none⟩ = some (.int .i64 vk1) := by rw [hW0]; go_side
    have k12 : W0.cell? ⟨w.heap.size, 2, none⟩ = some (.int .i64 n1) := by rw [hW0]; go_side
    have k13 : W0.cell? ⟨w.heap.size, 3, none⟩ = some (.string s1) := by rw [hW0]; go_side
    have k14 : W0.cell? ⟨w.heap.size, 4, none⟩ = some (.slice A1 l1 c1) := by rw [hW0]; go_side
    have k20 : W0.cell? ⟨w.heap.size + 1, 0, none⟩ = some (.int .i64 kd2) := by rw [hW0]; go_side
    have k21 : W0.cell? ⟨w.heap.size + 1, 1, none⟩ = some (.int .i64 vk2) := by rw [hW0]; go_side
    have k22 : W0.cell? ⟨w.heap.size + 1, 2, none⟩ = some (.int .i64 n2) := by rw [hW0]; go_side
    have k23 : W0.cell? ⟨w.heap.size + 1, 3, none⟩ = some (.string s2) := by rw [hW0]; go_side
    have k24 : W0.cell? ⟨w.heap.size + 1, 4, none⟩ = some (.slice A2 l2 c2) := by rw [hW0]; go_side
    have k30 : W0.cell? ⟨w.heap.size + 1 + 1, 0, none⟩ = some (.int .i64 kd3) := by rw [hW0]; go_side
    have k31 : W0.cell? ⟨w.heap.size + 1 + 1, 1, none⟩ = some (.int .i64 vk3) := by rw [hW0]; go_side
    have k32 : W0.cell? ⟨w.heap.size + 1 + 1, 2, none⟩ = some (.int .i64 n3) := by rw [hW0]; go_side
    have k33 : W0.cell? ⟨w.heap.size + 1 + 1, 3, none⟩ = some (.string s3) := by rw [hW0]; go_side
    have k34 : W0.cell? ⟨w.heap.size + 1 + 1, 4, none⟩ = some (.slice A3 l3 c3) := by rw [hW0]; go_side
    have r0 : W0.cell? ⟨w.heap.size + 1 + 1 + 1, 0, none⟩ = some (.int .i64 0) := by rw [hW0]; go_side
    have r1 : W0.cell? ⟨w.heap.size + 1 + 1 + 1, 1, none⟩ = some (.int .i64 0) := by rw [hW0]; go_side
    have r2 : W0.cell? ⟨w.heap.size + 1 + 1 + 1, 2, none⟩ = some (.int .i64 0) := by rw [hW0]; go_side
    have r3 : W0.cell? ⟨w.heap.size + 1 + 1 + 1, 3, none⟩ = some (.string ⟨#[]⟩) := by rw [hW0]; go_side
    have r4 : W0.cell? ⟨w.heap.size + 1 + 1 + 1, 4, none⟩ = some (.slice none 0 0) := by rw [hW0]; go_side
    have f0 : W0.frozen? ⟨w.heap.size + 1 + 1 + 1, 0, none⟩ = false := by rw [hW0]; simp [go_sem]
    have f1 : W0.frozen? ⟨w.heap.size + 1 + 1 + 1, 1, none⟩ = false := by rw [hW0]; simp [go_sem]
    have f2 : W0.frozen? ⟨w.heap.size + 1 + 1 + 1, 2, none⟩ = false := by rw [hW0]; simp [go_sem]
    have f3 : W0.frozen? ⟨w.heap.size + 1 + 1 + 1, 3, none⟩ = false := by rw [hW0]; simp [go_sem]
    have f4 : W0.frozen? ⟨w.heap.size + 1 + 1 + 1, 4, none⟩ = false := by rw [hW0]; simp [go_sem]
    clear hW0
    refine (ref_right_any _ _ _ _ _ _ _ _).mono ?_
    rintro e w1 ⟨rfl, hb1⟩
    have B1 := st (Below.refl _ W0) hb1 (by go_grown)
    obtain ⟨hc1, hf1⟩ := bcell B1
    have hz1 := B1.size
    have hy1 : w.heap.size < w1.heap.size := by omega
    have hx1 : w.heap.size + 1 < w1.heap.size := by omega
    have hv1 : w.heap.size + 1 + 1 < w1.heap.size := by omega
    have hu1 : w.heap.size + 1 + 1 + 1 < w1.heap.size := by omega
    go_wp2_with fail
    refine (ref_right_any _ _ _ _ _ _ _ _).mono ?_
    rintro e w2 ⟨rfl, hb2⟩
    have B2 := st B1 hb2 (by go_grown)
    obtain ⟨hc2, hf2⟩ := bcell B2
    have hz2 := B2.size
    have hy2 : w.heap.size < w2.heap.size := by omega
    have hx2 : w.heap.size + 1 < w2.heap.size := by omega
    have hv2 : w.heap.size + 1 + 1 < w2.heap.size := by omega
    have hu2 : w.heap.size + 1 + 1 + 1 < w2.heap.size := by omega
    go_wp2_with fail
    refine (ref_right_any _ _ _ _ _ _ _ _).mono ?_
    rintro e w3 ⟨rfl, hb3⟩
    have B3 := st B2 hb3 (by go_grown)
    obtain ⟨hc3, hf3⟩ := bcell B3
    have hz3 := B3.size
    have hy3 : w.heap.size < w3.heap.size := by omega
    have hx3 : w.heap.size + 1 < w3.heap.size := by omega
    have hv3 : w.heap.size + 1 + 1 < w3.heap.size := by omega
    have hu3 : w.heap.size + 1 + 1 + 1 < w3.heap.size := by omega
    go_wp2_with fail
    have BB := BW.trans (B3.mono BW.size)
    refine bodyPost_ret (by simp [results, Try.results19, go_sem, *]; try rfl) rfl ?_
    exact ⟨rfl, by go_grown⟩
end Go.Proofs.Ytmbkkmolhmjpeaa

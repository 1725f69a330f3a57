/-
  The walk over the law CountMerges (chapter 8): whatever three cells: it returns true.
-/
import Derived.Test.YtmbkkmolhmjpeaaWalks6
namespace Go.Proofs.Ytmbkkmolhmjpeaa
open Go.RowKit
set_option linter.unusedSimpArgs false
set_option linter.unusedVariables false
attribute [local go_sem ↓] Go.wp_at_zero Go.wp_at_succ

theorem merges_walk (kd1 vk1 n1 : Int) (s1 : ByteArray) (A1 : Option Addr) (l1 c1 : Nat) (kd2 vk2 n2 : Int) (s2 : ByteArray) (A2 : Option Addr) (l2 c2 : Nat) (kd3 vk3 n3 : Int) (s3 : ByteArray) (A3 : Option Addr) (l3 c3 : Nat) (w : World) :
    Calls Try.prog 4 #[.agg #[.int .i64 kd1, .int .i64 vk1, .int .i64 n1, .string s1, .slice A1 l1 c1], .agg #[.int .i64 kd2, .int .i64 vk2, .int .i64 n2, .string s2, .slice A2 l2 c2], .agg #[.int .i64 kd3, .int .i64 vk3, .int .i64 n3, .string s3, .slice A3 l3 c3]] w fun e w' => e = .returned (.bool true) ∧ Below w.heap.size w w' := by
  have M1 := fun w => hide (merge_any kd1 vk1 n1 s1 A1 l1 c1 kd2 vk2 n2 s2 A2 l2 c2 kd3 vk3 n3 s3 A3 l3 c3 w)
  have M2 := fun w => hide (ref_merge_any kd1 vk1 n1 s1 A1 l1 c1 kd2 vk2 n2 s2 A2 l2 c2 kd3 vk3 n3 s3 A3 l3 c3 w)
  go_enter Try.func4, Try.ntmps4
  go_wp2_with fail
  obtain ⟨W0, hW0⟩ : ∃ V, V = (((w.alloc (.cells #[.int .i64 kd1, .int .i64 vk1, .int .i64 n1, .string s1, .slice A1 l1 c1] 26)).alloc (.cells #[.int .i64 kd2, .int .i64 vk2, .int .i64 n2, .string s2, .slice A2 l2 c2] 26)).alloc (.cells #[.int .i64 kd3, .int .i64 vk3, .int .i64 n3, .string s3, .slice A3 l3 c3] 26)) := ⟨_, rfl⟩
  rw [← hW0]
  have sW0 : W0.heap.size = w.heap.size + 3 := by rw [hW0]; simp
  have BW0 : Below w.heap.size w W0 := by rw [hW0]; go_grown
  have o1 : w.heap.size < W0.heap.size := by omega
  have o2 : w.heap.size + 1 < W0.heap.size := by omega
  have o3 : w.heap.size + 1 + 1 < W0.heap.size := by omega
  have k10 : W0.cell? ⟨w.heap.size, 0, none⟩ = some (.int .i64 kd1) := by rw [hW0]; go_side
  have k11 : W0.cell? ⟨w.heap.size, 1, none⟩ = some (.int .i64 vk1) := by rw [hW0]; go_side
  have k12 : W0.cell? ⟨w.heap.size, 2, none⟩ = some (.int .i64 n1) := by rw [hW0]; go_side
  have k13 : W0.cell? ⟨w.heap.size, 3, none⟩ = some (.string s1) := by rw [hW0]; go_side
  have k14 : W0.cell? ⟨w.heap.size, 4, none⟩ = some (.slice A1 l1 c1) := by rw [hW0]; go_side
  have k20 : W0.cell? ⟨w.heap.size + 1, 0, none⟩ = some (.int .i64 kd2) := by rw [hW0]; go_side
  have k21 : W0.cell? ⟨w.heap.size + 1, 1, none⟩ = some (.int .i64 vk2) := by rw [hW0]; go_side
  have k22 : W0.cell? ⟨w.heap.size + 1, 2, none⟩ = some (.int .i64 n2) := by rw [hW0]; go_side
  have k23 : W0.cell? ⟨w.heap.size + 1, 3, none⟩ = some (.string s2) := by rw [hW0]; go_side
  have k24 : W0.cell? ⟨w.heap.size + 1, 4, none⟩ = some (.slice A2 l2 c2) := by rw [hW0]; go_side
  have k30 : W0.cell? ⟨w.heap.size + 1 + 1, 0, none⟩ = some (.int .i64 kd3) := by rw [hW0]; go_side
  have k31 : W0.cell? ⟨w.heap.size + 1 + 1, 1, none⟩ = some (.int .i64 vk3) := by rw [hW0]; go_side
  have k32 : W0.cell? ⟨w.heap.size + 1 + 1, 2, none⟩ = some (.int .i64 n3) := by rw [hW0]; go_side
  have k33 : W0.cell? ⟨w.heap.size + 1 + 1, 3, none⟩ = some (.string s3) := by rw [hW0]; go_side
  have k34 : W0.cell? ⟨w.heap.size + 1 + 1, 4, none⟩ = some (.slice A3 l3 c3) := by rw [hW0]; go_side
  clear hW0 sW0
  refine (awake_any _).mono ?_
  rintro e w1 ⟨rfl, hb1⟩
  have a10 : w1.cell? ⟨w.heap.size, 0, none⟩ = some (.int .i64 kd1) := (hb1.cell (p := ⟨w.heap.size, 0, none⟩) o1).trans k10
  have a11 : w1.cell? ⟨w.heap.size, 1, none⟩ = some (.int .i64 vk1) := (hb1.cell (p := ⟨w.heap.size, 1, none⟩) o1).trans k11
  have a12 : w1.cell? ⟨w.heap.size, 2, none⟩ = some (.int .i64 n1) := (hb1.cell (p := ⟨w.heap.size, 2, none⟩) o1).trans k12
  have a13 : w1.cell? ⟨w.heap.size, 3, none⟩ = some (.string s1) := (hb1.cell (p := ⟨w.heap.size, 3, none⟩) o1).trans k13
  have a14 : w1.cell? ⟨w.heap.size, 4, none⟩ = some (.slice A1 l1 c1) := (hb1.cell (p := ⟨w.heap.size, 4, none⟩) o1).trans k14
  have a20 : w1.cell? ⟨w.heap.size + 1, 0, none⟩ = some (.int .i64 kd2) := (hb1.cell (p := ⟨w.heap.size + 1, 0, none⟩) o2).trans k20
  have a21 : w1.cell? ⟨w.heap.size + 1, 1, none⟩ = some (.int .i64 vk2) := (hb1.cell (p := ⟨w.heap.size + 1, 1, none⟩) o2).trans k21
  have a22 : w1.cell? ⟨w.heap.size + 1, 2, none⟩ = some (.int .i64 n2) := (hb1.cell (p := ⟨w.heap.size + 1, 2, none⟩) o2).trans k22
  have a23 : w1.cell? ⟨w.heap.size + 1, 3, none⟩ = some (.string s2) := (hb1.cell (p := ⟨w.heap.size + 1, 3, none⟩) o2).trans k23
  have a24 : w1.cell? ⟨w.heap.size + 1, 4, none⟩ = some (.slice A2 l2 c2) := (hb1.cell (p := ⟨w.heap.size + 1, 4, none⟩) o2).trans k24
  have a30 : w1.cell? ⟨w.heap.size + 1 + 1, 0, none⟩ = some (.int .i64 kd3) := (hb1.cell (p := ⟨w.heap.size + 1 + 1, 0, none⟩) o3).trans k30
  have a31 : w1.cell? ⟨w.heap.size + 1 + 1, 1, none⟩ = some (.int .i64 vk3) := (hb1.cell (p := ⟨w.heap.size + 1 + 1, 1, none⟩) o3).trans k31
  have a32 : w1.cell? ⟨w.heap.size + 1 + 1, 2, none⟩ = some (.int .i64 n3) := (hb1.cell (p := ⟨w.heap.size + 1 + 1, 2, none⟩) o3).trans k32
  have a33 : w1.cell? ⟨w.heap.size + 1 + 1, 3, none⟩ = some (.string s3) := (hb1.cell (p := ⟨w.heap.size + 1 + 1, 3, none⟩) o3).trans k33
  have a34 : w1.cell? ⟨w.heap.size + 1 + 1, 4, none⟩ = some (.slice A3 l3 c3) := (hb1.cell (p := ⟨w.heap.size + 1 + 1, 4, none⟩) o3).trans k34
  have p1 : w.heap.size < w1.heap.size := Nat.lt_of_lt_of_le o1 hb1.size
  have p2 : w.heap.size + 1 < w1.heap.size := Nat.lt_of_lt_of_le o2 hb1.size
  have p3 : w.heap.size + 1 + 1 < w1.heap.size := Nat.lt_of_lt_of_le o3 hb1.size
  have B1 := BW0.trans (hb1.mono BW0.size)
  clear hb1 k10 k11 k12 k13 k14 k20 k21 k22 k23 k24 k30 k31 k32 k33 k34 o1 o2 o3 BW0
  go_wp2_with fail
  refine ((M1 _).out).mono ?_
  rintro e w2 ⟨rfl, hb2⟩
  have b10 : w2.cell? ⟨w.heap.size, 0, none⟩ = some (.int .i64 kd1) := (hb2.cell (p := ⟨w.heap.size, 0, none⟩) p1).trans a10
  have b11 : w2.cell? ⟨w.heap.size, 1, none⟩ = some (.int .i64 vk1) := (hb2.cell (p := ⟨w.heap.size, 1, none⟩) p1).trans a11
  have b12 : w2.cell? ⟨w.heap.size, 2, none⟩ = some (.int .i64 n1) := (hb2.cell (p := ⟨w.heap.size, 2, none⟩) p1).trans a12
  have b13 : w2.cell? ⟨w.heap.size, 3, none⟩ = some (.string s1) := (hb2.cell (p := ⟨w.heap.size, 3, none⟩) p1).trans a13
  have b14 : w2.cell? ⟨w.heap.size, 4, none⟩ = some (.slice A1 l1 c1) := (hb2.cell (p := ⟨w.heap.size, 4, none⟩) p1).trans a14
  have b20 : w2.cell? ⟨w.heap.size + 1, 0, none⟩ = some (.int .i64 kd2) := (hb2.cell (p := ⟨w.heap.size + 1, 0, none⟩) p2).trans a20
  have b21 : w2.cell? ⟨w.heap.size + 1, 1, none⟩ = some (.int .i64 vk2) := (hb2.cell (p := ⟨w.heap.size + 1, 1, none⟩) p2).trans a21
  have b22 : w2.cell? ⟨w.heap.size + 1, 2, none⟩ = some (.int .i64 n2) := (hb2.cell (p := ⟨w.heap.size + 1, 2, none⟩) p2).trans a22
  have b23 : w2.cell? ⟨w.heap.size + 1, 3, none⟩ = some (.string s2) := (hb2.cell (p := ⟨w.heap.size + 1, 3, none⟩) p2).trans a23
  have b24 : w2.cell? ⟨w.heap.size + 1, 4, none⟩ = some (.slice A2 l2 c2) := (hb2.cell (p := ⟨w.heap.size + 1, 4, none⟩) p2).trans a24
  have b30 : w2.cell? ⟨w.heap.size + 1 + 1, 0, none⟩ = some (.int .i64 kd3) := (hb2.cell (p := ⟨w.heap.size + 1 + 1, 0, none⟩) p3).trans a30
  have b31 : w2.cell? ⟨w.heap.size + 1 + 1, 1, none⟩ = some (.int .i64 vk3) := (hb2.cell (p := ⟨w.heap.size + 1 + 1, 1, none⟩) p3).trans a31
  have b32 : w2.cell? ⟨w.heap.size + 1 + 1, 2, none⟩ = some (.int .i64 n3) := (hb2.cell (p := ⟨w.heap.size + 1 + 1, 2, none⟩) p3).trans a32
  have b33 : w2.cell? ⟨w.heap.size + 1 + 1, 3, none⟩ = some (.string s3) := (hb2.cell (p := ⟨w.heap.size + 1 + 1, 3, none⟩) p3).trans a33
  have b34 : w2.cell? ⟨w.heap.size + 1 + 1, 4, none⟩ = some (.slice A3 l3 c3) := (hb2.cell (p := ⟨w.heap.size + 1 + 1, 4, none⟩) p3).trans a34
  have q1 : w.heap.size < w2.heap.size := Nat.lt_of_lt_of_le p1 hb2.size
  have q2 : w.heap.size + 1 < w2.heap.size := Nat.lt_of_lt_of_le p2 hb2.size
  have q3 : w.heap.size + 1 + 1 < w2.heap.size := Nat.lt_of_lt_of_le p3 hb2.size
  have B2 := B1.trans (hb2.mono B1.size)
  clear hb2 a10 a11 a12 a13 a14 a20 a21 a22 a23 a24 a30 a31 a32 a33 a34 p1 p2 p3 B1
  go_wp2_with fail
  obtain ⟨X, hX⟩ : ∃ V, V = w2.alloc (.cells #[.int .i64 (sel (mergeE (rightE kd1 vk1 n1 s1 l1) (rightE kd2 vk2 n2 s2 l2) (rightE kd3 vk3 n3 s3 l3) n1 n2 n3) 2), .int .i64 (sel (mergeE (rightE kd1 vk1 n1 s1 l1) (rightE kd2 vk2 n2 s2 l2) (rightE kd3 vk3 n3 s3 l3) n1 n2 n3) 1), .int .i64 (sel (mergeE (rightE kd1 vk1 n1 s1 l1) (rightE kd2 vk2 n2 s2 l2) (rightE kd3 vk3 n3 s3 l3) n1 n2 n3) (n1 + n2 - n3)), .string ⟨#[]⟩, .slice none 0 0] 26) := ⟨_, rfl⟩
  rw [← hX]
  have sX : X.heap.size = w2.heap.size + 1 := by rw [hX]; simp
  have BX : Below w.heap.size w X := by rw [hX]; exact B2.alloc B2.size _
  have d10 : X.cell? ⟨w.heap.size, 0, none⟩ = some (.int .i64 kd1) := by rw [hX, World.cell?_alloc_lt _ _ _ q1]; exact b10
  have d11 : X.cell? ⟨w.heap.size, 1, none⟩ = some (.int .i64 vk1) := by rw [hX, World.cell?_alloc_lt _ _ _ q1]; exact b11
  have d12 : X.cell? ⟨w.heap.size, 2, none⟩ = some (.int .i64 n1) := by rw [hX, World.cell?_alloc_lt _ _ _ q1]; exact b12
  have d13 : X.cell? ⟨w.heap.size, 3, none⟩ = some (.string s1) := by rw [hX, World.cell?_alloc_lt _ _ _ q1]; exact b13
  have d14 : X.cell? ⟨w.heap.size, 4, none⟩ = some (.slice A1 l1 c1) := by rw [hX, World.cell?_alloc_lt _ _ _ q1]; exact b14
  have d20 : X.cell? ⟨w.heap.size + 1, 0, none⟩ = some (.int .i64 kd2) := by rw [hX, World.cell?_alloc_lt _ _ _ q2]; exact b20
  have d21 : X.cell? ⟨w.heap.size + 1, 1, none⟩ = some (.int .i64 vk2) := by rw [hX, World.cell?_alloc_lt _ _ _ q2]; exact b21
  have d22 : X.cell? ⟨w.heap.size + 1, 2, none⟩ = some (.int .i64 n2) := by rw [hX, World.cell?_alloc_lt _ _ _ q2]; exact b22
  have d23 : X.cell? ⟨w.heap.size + 1, 3, none⟩ = some (.string s2) := by rw [hX, World.cell?_alloc_lt _ _ _ q2]; exact b23
  have d24 : X.cell? ⟨w.heap.size + 1, 4, none⟩ = some (.slice A2 l2 c2) := by rw [hX, World.cell?_alloc_lt _ _ _ q2]; exact b24
  have d30 : X.cell? ⟨w.heap.size + 1 + 1, 0, none⟩ = some (.int .i64 kd3) := by rw [hX, World.cell?_alloc_lt _ _ _ q3]; exact b30
  have d31 : X.cell? ⟨w.heap.size + 1 + 1, 1, none⟩ = some (.int .i64 vk3) := by rw [hX, World.cell?_alloc_lt _ _ _ q3]; exact b31
  have d32 : X.cell? ⟨w.heap.size + 1 + 1, 2, none⟩ = some (.int .i64 n3) := by rw [hX, World.cell?_alloc_lt _ _ _ q3]; exact b32
  have d33 : X.cell? ⟨w.heap.size + 1 + 1, 3, none⟩ = some (.string s3) := by rw [hX, World.cell?_alloc_lt _ _ _ q3]; exact b33
  have d34 : X.cell? ⟨w.heap.size + 1 + 1, 4, none⟩ = some (.slice A3 l3 c3) := by rw [hX, World.cell?_alloc_lt _ _ _ q3]; exact b34
  have e0 : X.cell? ⟨w2.heap.size, 0, none⟩ = some (.int .i64 (sel (mergeE (rightE kd1 vk1 n1 s1 l1) (rightE kd2 vk2 n2 s2 l2) (rightE kd3 vk3 n3 s3 l3) n1 n2 n3) 2)) := by rw [hX]; go_side
  have e1 : X.cell? ⟨w2.heap.size, 1, none⟩ = some (.int .i64 (sel (mergeE (rightE kd1 vk1 n1 s1 l1) (rightE kd2 vk2 n2 s2 l2) (rightE kd3 vk3 n3 s3 l3) n1 n2 n3) 1)) := by rw [hX]; go_side
  have e2 : X.cell? ⟨w2.heap.size, 2, none⟩ = some (.int .i64 (sel (mergeE (rightE kd1 vk1 n1 s1 l1) (rightE kd2 vk2 n2 s2 l2) (rightE kd3 vk3 n3 s3 l3) n1 n2 n3) (n1 + n2 - n3))) := by rw [hX]; go_side
  have e3 : X.cell? ⟨w2.heap.size, 3, none⟩ = some (.string ⟨#[]⟩) := by rw [hX]; go_side
  have e4 : X.cell? ⟨w2.heap.size, 4, none⟩ = some (.slice none 0 0) := by rw [hX]; go_side
  have ltX : w2.heap.size < X.heap.size := by omega
  clear hX
  refine ((M2 _).out).mono ?_
  rintro e w3 ⟨rfl, hb3⟩
  have h0 : w3.cell? ⟨w2.heap.size, 0, none⟩ = some (.int .i64 (sel (mergeE (rightE kd1 vk1 n1 s1 l1) (rightE kd2 vk2 n2 s2 l2) (rightE kd3 vk3 n3 s3 l3) n1 n2 n3) 2)) := (hb3.cell (p := ⟨w2.heap.size, 0, none⟩) ltX).trans e0
  have h1 : w3.cell? ⟨w2.heap.size, 1, none⟩ = some (.int .i64 (sel (mergeE (rightE kd1 vk1 n1 s1 l1) (rightE kd2 vk2 n2 s2 l2) (rightE kd3 vk3 n3 s3 l3) n1 n2 n3) 1)) := (hb3.cell (p := ⟨w2.heap.size, 1, none⟩) ltX).trans e1
  have h2 : w3.cell? ⟨w2.heap.size, 2, none⟩ = some (.int .i64 (sel (mergeE (rightE kd1 vk1 n1 s1 l1) (rightE kd2 vk2 n2 s2 l2) (rightE kd3 vk3 n3 s3 l3) n1 n2 n3) (n1 + n2 - n3))) := (hb3.cell (p := ⟨w2.heap.size, 2, none⟩) ltX).trans e2
  have h3 : w3.cell? ⟨w2.heap.size, 3, none⟩ = some (.string ⟨#[]⟩) := (hb3.cell (p := ⟨w2.heap.size, 3, none⟩) ltX).trans e3
  have h4 : w3.cell? ⟨w2.heap.size, 4, none⟩ = some (.slice none 0 0) := (hb3.cell (p := ⟨w2.heap.size, 4, none⟩) ltX).trans e4
  have B3 := BX.trans (hb3.mono BX.size)
  have lt6 : w2.heap.size < w3.heap.size := Nat.lt_of_lt_of_le ltX hb3.size
  clear hb3
  go_wp2_with fail
  refine (same_any _ _ _ _).mono ?_
  rintro e w4 ⟨rfl, hb4⟩
  have B4 : Below w.heap.size w w4 := (B3.alloc B3.size _).trans (hb4.mono (Nat.le_trans B3.size (by simp)))
  go_wp2_with fail
  go_ret
  exact ⟨rfl, B4⟩
end Go.Proofs.Ytmbkkmolhmjpeaa

/-
  The walks over chapter 8 (count): each function of package count, and of its reference, returns what the plain law says of a counter; nothing that was in memory is turned.
-/
import Derived.Test.YtmbkkmolhmjpeaaBase
import Derived.WalkLawsBesides
import Derived.WalkSpells
import Derived.Outline
import Derived.Handy
namespace Go.Proofs.Ytmbkkmolhmjpeaa
open Go.RowKit
set_option linter.unusedSimpArgs false
set_option linter.unusedVariables false

def fitsB (n : Int) : Bool := decide (-1099511627776 ≤ n) && decide (n ≤ 1099511627776)
/-- Why a cell may not be a counter, as the model's number. -/
def rightE (kd vk n : Int) (s : ByteArray) (l : Nat) : Int :=
  if kd = 2 then if (vk != 1) = true then 6 else if s.toList = [] then if 0 < l then 1 else if fitsB n = true then 0 else 20 else 1 else 6
theorem fits_yes (n : Int) (h : -1099511627776 ≤ n) (h' : n ≤ 1099511627776) : fitsB n = true := by simp [fitsB, h, h']
theorem fits_no (n : Int) (h : n < -1099511627776 ∨ 1099511627776 < n) : fitsB n = false := by
  cases e : fitsB n
  · rfl
  · simp [fitsB] at e; omega
theorem fits_any (n : Int) (w : World) : Calls Try.prog 25 #[.int .i64 n] w fun e w' => e = .returned (.bool (fitsB n)) ∧ w = w' := by
  go_enter Try.func25, Try.ntmps25
  go_wp2
  all_goals go_ret
  · exact ⟨ret_b (by simp [fitsB, *]), rfl⟩
  · have h : n < -1099511627776 := by assumption
    exact ⟨ret_b (fits_no n (Or.inl h)).symm, rfl⟩
theorem fits_in (n : Int) (h : fitsB n = true) : -1099511627776 ≤ n ∧ n ≤ 1099511627776 := by simpa [fitsB] using h
theorem right_any (kd vk n : Int) (s : ByteArray) (A : Option Addr) (l c : Nat) (w : World) : Calls Try.prog 11 #[.agg #[.int .i64 kd, .int .i64 vk, .int .i64 n, .string s, .slice A l c]] w fun e w' => e = .returned (.int .i64 (rightE kd vk n s l)) ∧ Below w.heap.size w w' := by
  go_enter Try.func11, Try.ntmps11
  go_wp2_with (go_at_call 25; refine (fits_any _ _).mono ?_; rintro e w' ⟨rfl, rfl⟩)
  all_goals go_ret
  all_goals exact ⟨ret_i (by simp_all [rightE]), (Below.refl _ _).alloc (Nat.le_refl _) _⟩
theorem ref_right_any (kd vk n : Int) (s : ByteArray) (A : Option Addr) (l c : Nat) (w : World) : Calls Try.prog 12 #[.agg #[.int .i64 kd, .int .i64 vk, .int .i64 n, .string s, .slice A l c]] w fun e w' => e = .returned (.int .i64 (rightE kd vk n s l)) ∧ Below w.heap.size w w' := by
  go_enter Try.func12, Try.ntmps12
  go_wp2
  all_goals go_ret
  all_goals refine ⟨ret_i ?_, (Below.refl _ _).alloc (Nat.le_refl _) _⟩
  all_goals first
    | (simp_all [rightE]; done)
    | (have hf := fits_no n (by omega); simp_all [rightE]; done)
    | (have hf := fits_yes n (by omega) (by omega); simp_all [rightE]; done)

/-- A counter of a number, as the value that a call returns. -/
theorem of0 (w : World)  : Calls Try.prog 23 #[.slice none 0 0] w fun e w' => e = .returned (.agg #[.int .i64 2, .int .i64 1, .int .i64 (0), .string ⟨#[]⟩, .slice none 0 0]) ∧ Below w.heap.size w w' := by
  go_enter Try.func23, Try.ntmps23
  go_wp2
  go_rounds 1
  go_returns
  exact ⟨rfl, by go_grown⟩
theorem of1 (b : Nat) (x : Int) (w : World) (hn : -9223372036854775808 ≤ x ∧ x ≤ 9223372036854775807) (g0 : w.cell? ⟨b, 0, none⟩ = some (.int .i64 x)) : Calls Try.prog 23 #[.slice (some ⟨b, 0, none⟩) 1 1] w fun e w' => e = .returned (.agg #[.int .i64 2, .int .i64 1, .int .i64 (x), .string ⟨#[]⟩, .slice none 0 0]) ∧ Below w.heap.size w w' := by
  obtain ⟨hn1, hn2⟩ := hn
  have hb : b < w.heap.size := World.block_lt_of_cell? w _ g0
  go_enter Try.func23, Try.ntmps23
  go_wp2
  go_rounds 2
  go_returns
  exact ⟨rfl, by go_grown⟩
theorem of2 (b : Nat) (x y : Int) (w : World) (hx : fitsB x = true) (hy : fitsB y = true) (g0 : w.cell? ⟨b, 0, none⟩ = some (.int .i64 x)) (g1 : w.cell? ⟨b, 1, none⟩ = some (.int .i64 y)) : Calls Try.prog 23 #[.slice (some ⟨b, 0, none⟩) 2 2] w fun e w' => e = .returned (.agg #[.int .i64 2, .int .i64 1, .int .i64 (x + y), .string ⟨#[]⟩, .slice none 0 0]) ∧ Below w.heap.size w w' := by
  obtain ⟨kx1, kx2⟩ := fits_in x hx
  clear hx
  obtain ⟨ky1, ky2⟩ := fits_in y hy
  clear hy
  have hb : b < w.heap.size := World.block_lt_of_cell? w _ g0
  go_enter Try.func23, Try.ntmps23
  go_wp2
  go_rounds 3
  go_returns
  exact ⟨rfl, by go_grown⟩
theorem of3 (b : Nat) (x y z : Int) (w : World) (hx : fitsB x = true) (hy : fitsB y = true) (hz : fitsB z = true) (g0 : w.cell? ⟨b, 0, none⟩ = some (.int .i64 x)) (g1 : w.cell? ⟨b, 1, none⟩ = some (.int .i64 y)) (g2 : w.cell? ⟨b, 2, none⟩ = some (.int .i64 z)) : Calls Try.prog 23 #[.slice (some ⟨b, 0, none⟩) 3 3] w fun e w' => e = .returned (.agg #[.int .i64 2, .int .i64 1, .int .i64 (x + y + z), .string ⟨#[]⟩, .slice none 0 0]) ∧ Below w.heap.size w w' := by
  obtain ⟨kx1, kx2⟩ := fits_in x hx
  clear hx
  obtain ⟨ky1, ky2⟩ := fits_in y hy
  clear hy
  obtain ⟨kz1, kz2⟩ := fits_in z hz
  clear hz
  have hb : b < w.heap.size := World.block_lt_of_cell? w _ g0
  go_enter Try.func23, Try.ntmps23
  go_wp2
  go_rounds 4
  go_returns
  exact ⟨rfl, by go_grown⟩
/-- The first of two errors. -/
def orE (a b : Int) : Int := if a = 0 then b else a
theorem orE_zero (a : Int) : orE a 0 = a := by unfold orE; split <;> simp_all
theorem right1 (b : Nat) (kd1 vk1 n1 : Int) (s1 : ByteArray) (A1 : Option Addr) (l1 c1 : Nat) (w : World) (h10 : w.cell? ⟨b, 0, none⟩ = some (.int .i64 kd1)) (h11 : w.cell? ⟨b, 1, none⟩ = some (.int .i64 vk1)) (h12 : w.cell? ⟨b, 2, none⟩ = some (.int .i64 n1)) (h13 : w.cell? ⟨b, 3, none⟩ = some (.string s1)) (h14 : w.cell? ⟨b, 4, none⟩ = some (.slice A1 l1 c1)) : Calls Try.prog 22 #[.slice (some ⟨b, 0, none⟩) 1 1] w fun e w' => e = .returned (.int .i64 (rightE kd1 vk1 n1 s1 l1)) ∧ Below w.heap.size w w' := by
  have hb : b < w.heap.size := World.block_lt_of_cell? w _ h10
  by_cases e1 : rightE kd1 vk1 n1 s1 l1 = 0
  · have t1 : (rightE kd1 vk1 n1 s1 l1 != 0) = false := by simp [e1]
    have E1 := hide e1
    clear e1
    go_enter Try.func22, Try.ntmps22
    go_wp2
    refine wp_loop_rounds 2 ?_
    rw [rounds_succ]
    go_wp2_with (go_at_call 11; refine (right_any _ _ _ _ _ _ _ _).mono ?_; rintro e w1 ⟨rfl, hb1⟩)
    have B1 : Below w.heap.size w w1 := ((Below.refl _ _).alloc (Nat.le_refl _) _).trans (hb1.mono (by simp))
    rw [rounds_succ]
    go_wp2
    go_ret
    exact ⟨ret_i (by simp [orE, E1.out]), B1⟩
  · have t1 : (rightE kd1 vk1 n1 s1 l1 != 0) = true := by simp [e1]
    have E1 := hide e1
    clear e1
    go_enter Try.func22, Try.ntmps22
    go_wp2
    refine wp_loop_rounds 2 ?_
    rw [rounds_succ]
    go_wp2_with (go_at_call 11; refine (right_any _ _ _ _ _ _ _ _).mono ?_; rintro e w1 ⟨rfl, hb1⟩)
    have B1 : Below w.heap.size w w1 := ((Below.refl _ _).alloc (Nat.le_refl _) _).trans (hb1.mono (by simp))
    go_ret
    exact ⟨ret_i (by simp [orE, E1.out]), B1⟩
theorem right2 (b : Nat) (kd1 vk1 n1 : Int) (s1 : ByteArray) (A1 : Option Addr) (l1 c1 : Nat) (kd2 vk2 n2 : Int) (s2 : ByteArray) (A2 : Option Addr) (l2 c2 : Nat) (w : World) (h10 : w.cell? ⟨b, 0, none⟩ = some (.int .i64 kd1)) (h11 : w.cell? ⟨b, 1, none⟩ = some (.int .i64 vk1)) (h12 : w.cell? ⟨b, 2, none⟩ = some (.int .i64 n1)) (h13 : w.cell? ⟨b, 3, none⟩ = some (.string s1)) (h14 : w.cell? ⟨b, 4, none⟩ = some (.slice A1 l1 c1)) (h20 : w.cell? ⟨b, 5, none⟩ = some (.int .i64 kd2)) (h21 : w.cell? ⟨b, 6, none⟩ = some (.int .i64 vk2)) (h22 : w.cell? ⟨b, 7, none⟩ = some (.int .i64 n2)) (h23 : w.cell? ⟨b, 8, none⟩ = some (.string s2)) (h24 : w.cell? ⟨b, 9, none⟩ = some (.slice A2 l2 c2)) : Calls Try.prog 22 #[.slice (some ⟨b, 0, none⟩) 2 2] w fun e w' => e = .returned (.int .i64 (orE (rightE kd1 vk1 n1 s1 l1) (rightE kd2 vk2 n2 s2 l2))) ∧ Below w.heap.size w w' := by
  have hb : b < w.heap.size := World.block_lt_of_cell? w _ h10
  by_cases e1 : rightE kd1 vk1 n1 s1 l1 = 0
  · have t1 : (rightE kd1 vk1 n1 s1 l1 != 0) = false := by simp [e1]
    have E1 := hide e1
    clear e1
    go_enter Try.func22, Try.ntmps22
    go_wp2
    refine wp_loop_rounds 3 ?_
    rw [rounds_succ]
    go_wp2_with (go_at_call 11; refine (right_any _ _ _ _ _ _ _ _).mono ?_; rintro e w1 ⟨rfl, hb1⟩)
    have B1 : Below w.heap.size w w1 := ((Below.refl _ _).alloc (Nat.le_refl _) _).trans (hb1.mono (by simp))
    have f20 : w1.cell? ⟨b, 5, none⟩ = some (.int .i64 kd2) := (B1.cell (p := ⟨b, 5, none⟩) hb).trans h20
    have f21 : w1.cell? ⟨b, 6, none⟩ = some (.int .i64 vk2) := (B1.cell (p := ⟨b, 6, none⟩) hb).trans h21
    have f22 : w1.cell? ⟨b, 7, none⟩ = some (.int .i64 n2) := (B1.cell (p := ⟨b, 7, none⟩) hb).trans h22
    have f23 : w1.cell? ⟨b, 8, none⟩ = some (.string s2) := (B1.cell (p := ⟨b, 8, none⟩) hb).trans h23
    have f24 : w1.cell? ⟨b, 9, none⟩ = some (.slice A2 l2 c2) := (B1.cell (p := ⟨b, 9, none⟩) hb).trans h24
    by_cases e2 : rightE kd2 vk2 n2 s2 l2 = 0
    · have t2 : (rightE kd2 vk2 n2 s2 l2 != 0) = false := by simp [e2]
      have E2 := hide e2
      clear e2
      rw [rounds_succ]
      go_wp2_with (go_at_call 11; refine (right_any _ _ _ _ _ _ _ _).mono ?_; rintro e w2 ⟨rfl, hb2⟩)
      have B2 : Below w.heap.size w w2 := (B1.alloc B1.size _).trans (hb2.mono (by have := B1.size; simp; omega))
      rw [rounds_succ]
      go_wp2
      go_ret
      exact ⟨ret_i (by simp [orE, E1.out, E2.out]), B2⟩
    · have t2 : (rightE kd2 vk2 n2 s2 l2 != 0) = true := by simp [e2]
      have E2 := hide e2
      clear e2
      rw [rounds_succ]
      go_wp2_with (go_at_call 11; refine (right_any _ _ _ _ _ _ _ _).mono ?_; rintro e w2 ⟨rfl, hb2⟩)
      have B2 : Below w.heap.size w w2 := (B1.alloc B1.size _).trans (hb2.mono (by have := B1.size; simp; omega))
      go_ret
      exact ⟨ret_i (by simp [orE, E1.out, E2.out]), B2⟩
  · have t1 : (rightE kd1 vk1 n1 s1 l1 != 0) = true := by simp [e1]
    have E1 := hide e1
    clear e1
    go_enter Try.func22, Try.ntmps22
    go_wp2
    refine wp_loop_rounds 3 ?_
    rw [rounds_succ]
    go_wp2_with (go_at_call 11; refine (right_any _ _ _ _ _ _ _ _).mono ?_; rintro e w1 ⟨rfl, hb1⟩)
    have B1 : Below w.heap.size w w1 := ((Below.refl _ _).alloc (Nat.le_refl _) _).trans (hb1.mono (by simp))
    go_ret
    exact ⟨ret_i (by simp [orE, E1.out]), B1⟩
theorem right3 (b : Nat) (kd1 vk1 n1 : Int) (s1 : ByteArray) (A1 : Option Addr) (l1 c1 : Nat) (kd2 vk2 n2 : Int) (s2 : ByteArray) (A2 : Option Addr) (l2 c2 : Nat) (kd3 vk3 n3 : Int) (s3 : ByteArray) (A3 : Option Addr) (l3 c3 : Nat) (w : World) (h10 : w.cell? ⟨b, 0, none⟩ = some (.int .i64 kd1)) (h11 : w.cell? ⟨b, 1, none⟩ = some (.int .i64 vk1)) (h12 : w.cell? ⟨b, 2, none⟩ = some (.int .i64 n1)) (h13 : w.cell? ⟨b, 3, none⟩ = some (.string s1)) (h14 : w.cell? ⟨b, 4, none⟩ = some (.slice A1 l1 c1)) (h20 : w.cell? ⟨b, 5, none⟩ = some (.int .i64 kd2)) (h21 : w.cell? ⟨b, 6, none⟩ = some (.int .i64 vk2)) (h22 : w.cell? ⟨b, 7, none⟩ = some (.int .i64 n2)) (h23 : w.cell? ⟨b, 8, none⟩ = some (.string s2)) (h24 : w.cell? ⟨b, 9, none⟩ = some (.slice A2 l2 c2)) (h30 : w.cell? ⟨b, 10, none⟩ = some (.int .i64 kd3)) (h31 : w.cell? ⟨b, 11, none⟩ = some (.int .i64 vk3)) (h32 : w.cell? ⟨b, 12, none⟩ = some (.int .i64 n3)) (h33 : w.cell? ⟨b, 13, none⟩ = some (.string s3)) (h34 : w.cell? ⟨b, 14, none⟩ = some (.slice A3 l3 c3)) : Calls Try.prog 22 #[.slice (some ⟨b, 0, none⟩) 3 3] w fun e w' => e = .returned (.int .i64 (orE (rightE kd1 vk1 n1 s1 l1) (orE (rightE kd2 vk2 n2 s2 l2) (rightE kd3 vk3 n3 s3 l3)))) ∧ Below w.heap.size w w' := by
  have hb : b < w.heap.size := World.block_lt_of_cell? w _ h10
  by_cases e1 : rightE kd1 vk1 n1 s1 l1 = 0
  · have t1 : (rightE kd1 vk1 n1 s1 l1 != 0) = false := by simp [e1]
    have E1 := hide e1
    clear e1
    go_enter Try.func22, Try.ntmps22
    go_wp2
    refine wp_loop_rounds 4 ?_
    rw [rounds_succ]
    go_wp2_with (go_at_call 11; refine (right_any _ _ _ _ _ _ _ _).mono ?_; rintro e w1 ⟨rfl, hb1⟩)
    have B1 : Below w.heap.size w w1 := ((Below.refl _ _).alloc (Nat.le_refl _) _).trans (hb1.mono (by simp))
    have f20 : w1.cell? ⟨b, 5, none⟩ = some (.int .i64 kd2) := (B1.cell (p := ⟨b, 5, none⟩) hb).trans h20
    have f21 : w1.cell? ⟨b, 6, none⟩ = some (.int .i64 vk2) := (B1.cell (p := ⟨b, 6, none⟩) hb).trans h21
    have f22 : w1.cell? ⟨b, 7, none⟩ = some (.int .i64 n2) := (B1.cell (p := ⟨b, 7, none⟩) hb).trans h22
    have f23 : w1.cell? ⟨b, 8, none⟩ = some (.string s2) := (B1.cell (p := ⟨b, 8, none⟩) hb).trans h23
    have f24 : w1.cell? ⟨b, 9, none⟩ = some (.slice A2 l2 c2) := (B1.cell (p := ⟨b, 9, none⟩) hb).trans h24
    by_cases e2 : rightE kd2 vk2 n2 s2 l2 = 0
    · have t2 : (rightE kd2 vk2 n2 s2 l2 != 0) = false := by simp [e2]
      have E2 := hide e2
      clear e2
      rw [rounds_succ]
      go_wp2_with (go_at_call 11; refine (right_any _ _ _ _ _ _ _ _).mono ?_; rintro e w2 ⟨rfl, hb2⟩)
      have B2 : Below w.heap.size w w2 := (B1.alloc B1.size _).trans (hb2.mono (by have := B1.size; simp; omega))
      have f30 : w2.cell? ⟨b, 10, none⟩ = some (.int .i64 kd3) := (B2.cell (p := ⟨b, 10, none⟩) hb).trans h30
      have f31 : w2.cell? ⟨b, 11, none⟩ = some (.int .i64 vk3) := (B2.cell (p := ⟨b, 11, none⟩) hb).trans h31
      have f32 : w2.cell? ⟨b, 12, none⟩ = some (.int .i64 n3) := (B2.cell (p := ⟨b, 12, none⟩) hb).trans h32
      have f33 : w2.cell? ⟨b, 13, none⟩ = some (.string s3) := (B2.cell (p := ⟨b, 13, none⟩) hb).trans h33
      have f34 : w2.cell? ⟨b, 14, none⟩ = some (.slice A3 l3 c3) := (B2.cell (p := ⟨b, 14, none⟩) hb).trans h34
      by_cases e3 : rightE kd3 vk3 n3 s3 l3 = 0
      · have t3 : (rightE kd3 vk3 n3 s3 l3 != 0) = false := by simp [e3]
        have E3 := hide e3
        clear e3
        rw [rounds_succ]
        go_wp2_with (go_at_call 11; refine (right_any _ _ _ _ _ _ _ _).mono ?_; rintro e w3 ⟨rfl, hb3⟩)
        have B3 : Below w.heap.size w w3 := (B2.alloc B2.size _).trans (hb3.mono (by have := B2.size; simp; omega))
        rw [rounds_succ]
        go_wp2
        go_ret
        exact ⟨ret_i (by simp [orE, E1.out, E2.out, E3.out]), B3⟩
      · have t3 : (rightE kd3 vk3 n3 s3 l3 != 0) = true := by simp [e3]
        have E3 := hide e3
        clear e3
        rw [rounds_succ]
        go_wp2_with (go_at_call 11; refine (right_any _ _ _ _ _ _ _ _).mono ?_; rintro e w3 ⟨rfl, hb3⟩)
        have B3 : Below w.heap.size w w3 := (B2.alloc B2.size _).trans (hb3.mono (by have := B2.size; simp; omega))
        go_ret
        exact ⟨ret_i (by simp [orE, E1.out, E2.out, E3.out]), B3⟩
    · have t2 : (rightE kd2 vk2 n2 s2 l2 != 0) = true := by simp [e2]
      have E2 := hide e2
      clear e2
      rw [rounds_succ]
      go_wp2_with (go_at_call 11; refine (right_any _ _ _ _ _ _ _ _).mono ?_; rintro e w2 ⟨rfl, hb2⟩)
      have B2 : Below w.heap.size w w2 := (B1.alloc B1.size _).trans (hb2.mono (by have := B1.size; simp; omega))
      go_ret
      exact ⟨ret_i (by simp [orE, E1.out, E2.out]), B2⟩
  · have t1 : (rightE kd1 vk1 n1 s1 l1 != 0) = true := by simp [e1]
    have E1 := hide e1
    clear e1
    go_enter Try.func22, Try.ntmps22
    go_wp2
    refine wp_loop_rounds 4 ?_
    rw [rounds_succ]
    go_wp2_with (go_at_call 11; refine (right_any _ _ _ _ _ _ _ _).mono ?_; rintro e w1 ⟨rfl, hb1⟩)
    have B1 : Below w.heap.size w w1 := ((Below.refl _ _).alloc (Nat.le_refl _) _).trans (hb1.mono (by simp))
    go_ret
    exact ⟨ret_i (by simp [orE, E1.out]), B1⟩
end Go.Proofs.Ytmbkkmolhmjpeaa

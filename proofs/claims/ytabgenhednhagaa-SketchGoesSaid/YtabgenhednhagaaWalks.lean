/-
  The walks over mix (chapter 6) and over In, Check, xor (chapter 34).
-/
import Derived.Test.YtabgenhednhagaaBase
import Derived.Test.YtabgenhednhagaaPlain
import Derived.WalkLawsBesides
import Derived.WalkSpells
import Derived.BigQuiet
import Derived.Deep.QuietTactic
import Derived.Outline
import Derived.Handy
import Derived.Deep.RegionHeld3
import Derived.Deep.DrawnRows
namespace Go.Proofs.Ytabgenhednhagaa
open Go.RowKit Plain
set_option linter.unusedSimpArgs false
set_option linter.unusedVariables false

def foldI (a k : Int) : Int := bits .xor .u64 a (a / 2 ^ k.toNat)
theorem foldI_eq (z : W) (k : Nat) : foldI (z.toNat : Int) (k : Int) = ((fold z k).toNat : Int) := by
  unfold foldI; rw [Int.toNat_natCast, div_pow, bits_xor]; rfl
theorem fold_any (a k : Int) (hk : 0 ≤ k ∧ k ≤ 63) (w : World) :
    Calls Try.prog 38 #[.int .u64 a, .int .i64 k] w fun e w' => e = .returned (.int .u64 (foldI a k)) ∧ w' = w := by
  obtain ⟨hk0, hk1⟩ := hk
  go_enter Try.func38, Try.ntmps38
  go_wp2
  go_ret
  exact ⟨rfl, rfl⟩
def xorI (a b : Int) : Int := bits .or .u64 (bits .andNot .u64 a b) (bits .andNot .u64 b a)
theorem xorI_eq (a b : W) : xorI (a.toNat : Int) (b.toNat : Int) = ((a ^^^ b).toNat : Int) := by
  unfold xorI; rw [bits_andNot, bits_andNot, bits_or, xor_of]
theorem xor_any (a b : Int) (w : World) :
    Calls Try.prog 39 #[.int .u64 a, .int .u64 b] w fun e w' => e = .returned (.int .u64 (xorI a b)) ∧ w = w' := by
  go_enter Try.func39, Try.ntmps39
  go_wp2
  go_ret
  exact ⟨rfl, rfl⟩
def timesI (a : Int) : Int := foldI (IntKind.u64.wrap (foldI (IntKind.u64.wrap (foldI a 30 * 13787848793156543929)) 27 * 10723151780598845931)) 31
theorem timesI_eq (n : W) : timesI (IntKind.u64.wrap ((n.toNat : Int) + 11400714819323198485)) = ((mixOf n).toNat : Int) := by
  unfold timesI
  rw [show (11400714819323198485 : Int) = ((11400714819323198485#64 : W).toNat : Int) from rfl, add_lit, show (30 : Int) = ((30 : Nat) : Int) from rfl, foldI_eq,
    show (13787848793156543929 : Int) = ((13787848793156543929#64 : W).toNat : Int) from rfl, mul_lit, show (27 : Int) = ((27 : Nat) : Int) from rfl, foldI_eq,
    show (10723151780598845931 : Int) = ((10723151780598845931#64 : W).toNat : Int) from rfl, mul_lit, show (31 : Int) = ((31 : Nat) : Int) from rfl, foldI_eq]
  rfl
theorem times_any (a : Int) (w : World) :
    Calls Try.prog 37 #[.int .u64 a, .func (.func 38) #[] #[], .agg #[.int .i64 30, .int .i64 27, .int .i64 31], .agg #[.int .u64 13787848793156543929, .int .u64 10723151780598845931]] w fun e w' => e = .returned (.int .u64 (timesI a)) ∧ Below w.heap.size w w' := by
  go_enter Try.func37, Try.ntmps37
  go_wp2_with fail
  go_quiet ((go_at_call 38; exact Calls.quiet_of_same (fold_any _ _ (by omega) _)))
  go_wp2
  go_ret
  exact ⟨rfl, below_drewN (((Below.refl _ _).alloc (Nat.le_refl _) _).alloc (by simp) _) _⟩
theorem of_any (n : W) (w : World) :
    Calls Try.prog 25 #[.int .u64 (n.toNat : Int)] w fun e w' => e = .returned (.int .u64 ((mixOf n).toNat : Int)) ∧ Below w.heap.size w w' := by
  have H := hide (timesI_eq n)
  go_enter Try.func25, Try.ntmps25
  go_wp2_with (go_at_call 37; refine (times_any _ _).mono ?_; rintro e w' ⟨rfl, hb⟩)
  go_ret
  exact ⟨ret_i H.out, hb⟩
theorem quo_pow (x : W) (k : Nat) : IntKind.u64.wrap (Int.tdiv (x.toNat : Int) (2 ^ k)) = ((x >>> k).toNat : Int) := by
  rw [Int.tdiv_eq_ediv_of_nonneg (by omega), div_pow, wrap_toNat]
def refStep (z d c : Int) : Int := IntKind.u64.wrap (xorI z (IntKind.u64.wrap (z.tdiv d)) * c)
def refOfI (n : Int) : Int :=
  xorI (refStep (refStep (IntKind.u64.wrap (n + 11400714819323198485)) 1073741824 13787848793156543929) 134217728 10723151780598845931)
    (IntKind.u64.wrap ((refStep (refStep (IntKind.u64.wrap (n + 11400714819323198485)) 1073741824 13787848793156543929) 134217728 10723151780598845931).tdiv 2147483648))
theorem refOfI_eq (n : W) : refOfI (n.toNat : Int) = ((mixOf n).toNat : Int) := by
  unfold refOfI refStep
  rw [show (11400714819323198485 : Int) = ((11400714819323198485#64 : W).toNat : Int) from rfl, add_lit, show (1073741824 : Int) = 2 ^ 30 from rfl,
    quo_pow, xorI_eq, show (13787848793156543929 : Int) = ((13787848793156543929#64 : W).toNat : Int) from rfl, mul_lit, show (134217728 : Int) = 2 ^ 27 from rfl, quo_pow, xorI_eq,
    show (10723151780598845931 : Int) = ((10723151780598845931#64 : W).toNat : Int) from rfl, mul_lit, show (2147483648 : Int) = 2 ^ 31 from rfl, quo_pow, xorI_eq]
  rfl
theorem ref_of_any (n : W) (w : World) :
    Calls Try.prog 26 #[.int .u64 (n.toNat : Int)] w fun e w' => e = .returned (.int .u64 ((mixOf n).toNat : Int)) ∧ w = w' := by
  have H := hide (refOfI_eq n)
  have hn : 0 ≤ (n.toNat : Int) := by omega
  generalize (n.toNat : Int) = a at H hn
  go_enter Try.func26, Try.ntmps26
  go_wp2_with (go_at_call 39; refine (xor_any _ _ _).mono ?_; rintro e w' ⟨rfl, rfl⟩)
  go_ret
  refine ⟨ret_i ?_, rfl⟩
  rw [← H.out]
  simp only [refOfI, refStep]
theorem of_int (a : Int) (n : W) (h : a = (n.toNat : Int)) (w : World) :
    Calls Try.prog 25 #[.int .u64 a] w fun e w' => e = .returned (.int .u64 ((mixOf n).toNat : Int)) ∧ Below w.heap.size w w' := by
  subst h; exact of_any n w
theorem ref_of_int (a : Int) (n : W) (h : a = (n.toNat : Int)) (w : World) :
    Calls Try.prog 26 #[.int .u64 a] w fun e w' => e = .returned (.int .u64 ((mixOf n).toNat : Int)) ∧ w = w' := by
  subst h; exact ref_of_any n w
theorem xor34_any (a b : W) (w : World) :
    Calls Try.prog 27 #[.int .u64 (a.toNat : Int), .int .u64 (b.toNat : Int)] w fun e w' => e = .returned (.int .u64 ((a ^^^ b).toNat : Int)) ∧ w = w' := by
  have H := hide (xorI_eq a b)
  generalize (a.toNat : Int) = x at H
  generalize (b.toNat : Int) = y at H
  go_enter Try.func27, Try.ntmps27
  go_wp2
  go_ret
  exact ⟨ret_i H.out, rfl⟩
/-! ### In and Check -/
def checkW (n : W) : W := mixOf (~~~n)
/-- Is a number in the i-th symbol, i below 16384? -/
def inS (n : W) (i : Nat) : Bool := decide ((mixOf (n ^^^ mixOf (BitVec.ofNat 64 i))).toNat % (i + 2) < 2)
def inI (n : W) (i : Int) : Bool := if 0 ≤ i ∧ i < 16384 then inS n i.toNat else false
theorem inI_nat (n : W) (k : Nat) (h : k < 16384) : inI n (k : Int) = inS n k := by
  unfold inI; rw [if_pos (by omega), Int.toNat_natCast]
theorem k_eq (k : Nat) (h : k < 16384) : (k : Int) = ((BitVec.ofNat 64 k : W).toNat : Int) := by
  rw [BitVec.toNat_ofNat, Nat.mod_eq_of_lt (by omega)]
theorem rem_eq (x : W) (k : Nat) (h : k < 16384) : IntKind.u64.wrap (Int.tmod (x.toNat : Int) ((k : Int) + 2)) = ((x.toNat % (k + 2) : Nat) : Int) := by
  have h1 : Int.tmod (x.toNat : Int) ((k : Int) + 2) = ((x.toNat % (k + 2) : Nat) : Int) := by
    rw [show (k : Int) + 2 = ((k + 2 : Nat) : Int) by omega, Int.tmod_eq_emod_of_nonneg (by omega)]; rfl
  have h2 := x.isLt
  have h3 : x.toNat % (k + 2) ≤ x.toNat := Nat.mod_le _ _
  rw [h1, IntKind.wrap_u64]; omega
theorem inS_dec (n : W) (k : Nat) : decide (((mixOf (n ^^^ mixOf (BitVec.ofNat 64 k))).toNat : Int) % ((k : Int) + 2) < 2) = inS n k := by
  unfold inS
  generalize (mixOf (n ^^^ mixOf (BitVec.ofNat 64 k))).toNat = x
  rw [show (x : Int) % ((k : Int) + 2) = ((x % (k + 2) : Nat) : Int) by push_cast; rfl]
  by_cases h : x % (k + 2) < 2
  · rw [decide_eq_true h, decide_eq_true (by omega)]
  · rw [decide_eq_false h, decide_eq_false (by omega)]
theorem check_any (n : W) (w : World) : Calls Try.prog 13 #[.int .u64 (n.toNat : Int)] w fun e w' => e = .returned (.int .u64 ((checkW n).toNat : Int)) ∧ Below w.heap.size w w' := by
  have e : bits .xor .u64 IntKind.u64.max (n.toNat : Int) = ((~~~n).toNat : Int) := by
    rw [show IntKind.u64.max = ((BitVec.allOnes 64 : W).toNat : Int) from rfl, bits_xor, BitVec.allOnes_xor]
  replace e := hide e
  go_enter Try.func13, Try.ntmps13
  go_wp2_with fail
  refine (of_int _ _ e.out _).mono ?_
  rintro e u1 ⟨rfl, hb⟩
  go_wp2_with fail
  go_ret
  exact ⟨rfl, hb⟩
theorem ref_check_any (n : W) (w : World) : Calls Try.prog 14 #[.int .u64 (n.toNat : Int)] w fun e w' => e = .returned (.int .u64 ((checkW n).toNat : Int)) ∧ w = w' := by
  have e : IntKind.u64.wrap (18446744073709551615 - (n.toNat : Int)) = ((~~~n).toNat : Int) := by
    rw [IntKind.wrap_u64, BitVec.toNat_not]; have := n.isLt; omega
  replace e := hide e
  have hn0 : 0 ≤ (n.toNat : Int) := by omega
  have hn1 : (n.toNat : Int) ≤ 18446744073709551615 := by have := n.isLt; omega
  go_enter Try.func14, Try.ntmps14
  go_wp2_with fail
  refine (ref_of_int _ (~~~n) ?_ _).mono ?_
  · first
      | exact e.out
      | (rw [BitVec.toNat_not]; omega)
  rintro e u1 ⟨rfl, rfl⟩
  go_wp2_with fail
  go_ret
  exact ⟨rfl, rfl⟩
theorem in_any (n : W) (i : Int) (w : World) : Calls Try.prog 11 #[.int .u64 (n.toNat : Int), .int .i64 i] w fun e w' => e = .returned (.bool (inI n i)) ∧ Below w.heap.size w w' := by
  by_cases h0 : 0 ≤ i
  · by_cases h1 : i < 16384
    · obtain ⟨k, rfl⟩ : ∃ k : Nat, i = (k : Int) := ⟨i.toNat, by omega⟩
      have hk2 : k < 16384 := by omega
      rw [inI_nat n k hk2]
      have hk : (0 : Int) ≤ (k : Int) := by omega
      have e1 := hide (k_eq k hk2)
      have e2 := hide (inS_dec n k)
      have e3 := hide (rem_eq (mixOf (n ^^^ mixOf (BitVec.ofNat 64 k))) k hk2)
      have g1 := hide (bits_xor n (mixOf (BitVec.ofNat 64 k)))
      go_enter Try.func11, Try.ntmps11
      go_wp2_with fail
      refine (of_int _ _ e1.out _).mono ?_
      rintro e u1 ⟨rfl, hb1⟩
      go_wp2_with fail
      refine (of_int _ _ g1.out _).mono ?_
      rintro e u2 ⟨rfl, hb2⟩
      generalize (mixOf (n ^^^ mixOf (BitVec.ofNat 64 k))).toNat = y at e2 e3
      go_wp2_with fail
      go_ret
      exact ⟨ret_b e2.out, hb1.trans (hb2.mono hb1.size)⟩
    · have e : inI n i = false := by unfold inI; rw [if_neg (by omega)]
      rw [e]
      clear e
      go_enter Try.func11, Try.ntmps11
      go_wp2
      go_ret
      exact ⟨rfl, Below.refl _ _⟩
  · have e : inI n i = false := by unfold inI; rw [if_neg (by omega)]
    rw [e]
    clear e
    go_enter Try.func11, Try.ntmps11
    go_wp2
    go_ret
    exact ⟨rfl, Below.refl _ _⟩
theorem ref_in_any (n : W) (i : Int) (w : World) : Calls Try.prog 12 #[.int .u64 (n.toNat : Int), .int .i64 i] w fun e w' => e = .returned (.bool (inI n i)) ∧ w = w' := by
  by_cases h0 : i < 0
  · have e : inI n i = false := by unfold inI; rw [if_neg (by omega)]
    rw [e]
    clear e
    go_enter Try.func12, Try.ntmps12
    go_wp2
    go_ret
    exact ⟨rfl, rfl⟩
  · by_cases h1 : 16383 < i
    · have e : inI n i = false := by unfold inI; rw [if_neg (by omega)]
      rw [e]
      clear e
      go_enter Try.func12, Try.ntmps12
      go_wp2
      go_ret
      exact ⟨rfl, rfl⟩
    · obtain ⟨k, rfl⟩ : ∃ k : Nat, i = (k : Int) := ⟨i.toNat, by omega⟩
      have hk2 : k < 16384 := by omega
      rw [inI_nat n k hk2]
      have hk : (0 : Int) ≤ (k : Int) := by omega
      have hk1 : (k : Int) < 16384 := by omega
      have e1 := hide (k_eq k hk2)
      have e2 := hide (inS_dec n k)
      go_enter Try.func12, Try.ntmps12
      go_wp2_with fail
      refine (ref_of_int _ _ e1.out _).mono ?_
      rintro e u1 ⟨rfl, rfl⟩
      go_wp2_with fail
      refine (xor34_any _ _ _).mono ?_
      rintro e u1 ⟨rfl, rfl⟩
      go_wp2_with fail
      refine (ref_of_int _ (n ^^^ mixOf (BitVec.ofNat 64 k)) (by simp) _).mono ?_
      rintro e u2 ⟨rfl, rfl⟩
      generalize (mixOf (n ^^^ mixOf (BitVec.ofNat 64 k))).toNat = y at e2
      go_wp2_with fail
      go_ret
      exact ⟨ret_b e2.out, rfl⟩
/-! ### Symbols -/
/-- A symbol: how many, the numbers' sum, the checks' sum, 64 bits each. -/
structure Sym where
  many : W
  sum : W
  check : W
deriving DecidableEq
def Sym.zero : Sym := ⟨0#64, 0#64, 0#64⟩
def Sym.put (s : Sym) (n k : W) : Sym := ⟨s.many + k, s.sum ^^^ n, s.check ^^^ checkW n⟩
def symCs (s : Sym) : List Value := [.int .i64 s.many.toInt, .int .u64 (s.sum.toNat : Int), .int .u64 (s.check.toNat : Int)]
def symV (s : Sym) : Value := .agg #[.int .i64 s.many.toInt, .int .u64 (s.sum.toNat : Int), .int .u64 (s.check.toNat : Int)]
theorem wrap_bmod (z : Int) : IntKind.i64.wrap z = z.bmod (2 ^ 64) := by
  have e1 : (2 : Int) ^ (64 - 1) = 9223372036854775808 := by decide
  have e2 : (2 : Int) ^ 64 = 18446744073709551616 := by decide
  have e3 : ((2 ^ 64 : Nat) : Int) = 18446744073709551616 := by decide
  unfold IntKind.wrap Int.bmod
  simp only [IntKind.signed, IntKind.bits, Bool.true_and, decide_eq_true_eq, e1, e2, e3]
  by_cases h : z % 18446744073709551616 < 9223372036854775808
  · rw [if_neg (by omega), if_pos (by omega)]
  · rw [if_pos (by omega), if_neg (by omega)]
theorem add_i64 (a b : W) : IntKind.i64.wrap (a.toInt + b.toInt) = (a + b).toInt := by rw [wrap_bmod, BitVec.toInt_add]
theorem sub_i64 (a b : W) : IntKind.i64.wrap (a.toInt - b.toInt) = (a - b).toInt := by rw [wrap_bmod, BitVec.toInt_sub]
theorem mul_i64 (a b : W) : IntKind.i64.wrap (a.toInt * b.toInt) = (a * b).toInt := by rw [wrap_bmod, BitVec.toInt_mul]
attribute [local go_sem ↓] Go.wp_at_zero Go.wp_at_succ
set_option maxHeartbeats 1000000 in
theorem with_any (s : Sym) (n k : W) (w : World) :
    Calls Try.prog 28 #[symV s, .int .u64 (n.toNat : Int), .int .i64 k.toInt] w fun e w' => e = .returned (symV (s.put n k)) ∧ Below w.heap.size w w' := by
  obtain ⟨m, a, c⟩ := s
  unfold symV Sym.put
  have h1 := hide (add_i64 m k)
  have h2 := hide (bits_xor a n)
  have h3 := hide (bits_xor c (checkW n))
  generalize hM : m.toInt = M at *
  generalize hA : (a.toNat : Int) = A at *
  generalize hC : (c.toNat : Int) = C at *
  generalize hK : k.toInt = K at *
  obtain ⟨W0, hW0⟩ : ∃ V, V = (w.alloc (.cells #[.int .i64 M, .int .u64 A, .int .u64 C] 41)).alloc (.cells #[.int .i64 0, .int .u64 0, .int .u64 0] 41) := ⟨_, rfl⟩
  have BW : Below w.heap.size w W0 := by rw [hW0]; go_grown
  have k0 : W0.cell? ⟨w.heap.size, 0, none⟩ = some (.int .i64 M) := by rw [hW0]; go_side
  have k1 : W0.cell? ⟨w.heap.size, 1, none⟩ = some (.int .u64 A) := by rw [hW0]; go_side
  have k2 : W0.cell? ⟨w.heap.size, 2, none⟩ = some (.int .u64 C) := by rw [hW0]; go_side
  have lt0 : w.heap.size < W0.heap.size := by rw [hW0]; simp; omega
  have lt1 : w.heap.size + 1 < W0.heap.size := by rw [hW0]; simp
  replace hW0 := hide hW0
  go_enter Try.func28, Try.ntmps28
  go_wp2_with fail
  rw [← hW0.out]
  have C0 := Below.refl W0.heap.size W0
  have k3 : W0.cell? ⟨w.heap.size + 1, 0, none⟩ = some (.int .i64 0) := by rw [hW0.out]; go_side
  have k4 : W0.cell? ⟨w.heap.size + 1, 1, none⟩ = some (.int .u64 0) := by rw [hW0.out]; go_side
  have k5 : W0.cell? ⟨w.heap.size + 1, 2, none⟩ = some (.int .u64 0) := by rw [hW0.out]; go_side
  have f3 : W0.frozen? ⟨w.heap.size + 1, 0, none⟩ = false := by rw [hW0.out]; go_side
  have f4 : W0.frozen? ⟨w.heap.size + 1, 1, none⟩ = false := by rw [hW0.out]; go_side
  have f5 : W0.frozen? ⟨w.heap.size + 1, 2, none⟩ = false := by rw [hW0.out]; go_side
  clear hW0
  go_region_held3 (fun w' => w'.cell? ⟨w.heap.size, 0, none⟩ = some (.int .i64 M) ∧ w'.cell? ⟨w.heap.size, 1, none⟩ = some (.int .u64 A) ∧ w'.cell? ⟨w.heap.size, 2, none⟩ = some (.int .u64 C)) ((simp [go_sem, *]; done))
    (first
      | (go_at_call 13; refine (check_any _ _).mono ?_; rintro e u1 ⟨rfl, hb1⟩; have C1 := st C0 hb1 (by go_grown); clear hb1 C0; obtain ⟨hc1, hf1⟩ := bcell C1; have sz1 := C1.size)
      | fail)
  have BB : Below w.heap.size w u1 := BW.trans (C1.mono BW.size)
  go_wp2_with fail
  refine bodyPost_ret (by simp [results, Try.results28, go_sem, *]; try rfl) rfl ?_
  exact ⟨by rw [h1.out, h2.out, h3.out], ((BB.setCell (by simp) _).setCell (by simp) _).setCell (by simp) _⟩
end Go.Proofs.Ytabgenhednhagaa

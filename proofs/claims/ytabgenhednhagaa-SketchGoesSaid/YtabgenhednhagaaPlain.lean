/-
  Plain laws of mix (chapter 6), as chapter 34 needs them: what a number is mixed to is told by 64 bits alone (BitVec 64); there and back, and back and there, is what it was. And how Go's numbers of 64 bits, as the model has them (integers), are such bits. No program in sight.
-/
import Derived.Laws.BitsAllLaws
import Derived.Laws.Bits64
import Derived.IntWalk
namespace Go.Proofs.Ytabgenhednhagaa
namespace Plain
abbrev W := BitVec 64
def fold (z : W) (k : Nat) : W := z ^^^ (z >>> k)
def unf (z : W) (k : Nat) : W := z ^^^ (z ^^^ z >>> k) >>> k
def mixOf (n : W) : W :=
  fold (fold (fold (n + 11400714819323198485#64) 30 * 13787848793156543929#64) 27 * 10723151780598845931#64) 31
def mixBack (n : W) : W :=
  unf (unf (unf n 31 * 3573116690164977347#64) 27 * 10871156337175269513#64) 30 - 11400714819323198485#64
def mixThen : W → List W → W
  | c, [] => c
  | c, x :: r => mixThen (mixOf (c ^^^ x)) r
def mixSum (l : List W) : W := mixOf (mixThen 0#64 l ^^^ BitVec.ofNat 64 l.length)

theorem xor_swap (a b c : W) : a ^^^ b ^^^ (b ^^^ c) = a ^^^ c := by
  rw [BitVec.xor_assoc, ← BitVec.xor_assoc b b c, BitVec.xor_self, BitVec.zero_xor]
theorem unf_fold (z : W) (k : Nat) (h : 64 ≤ 3 * k) : unf (fold z k) k = z := by
  have e : z >>> k >>> k >>> k = 0#64 := by
    rw [← BitVec.shiftRight_add, ← BitVec.shiftRight_add]
    exact BitVec.ushiftRight_eq_zero (by omega)
  unfold unf fold
  simp only [BitVec.ushiftRight_xor_distrib]
  rw [xor_swap, ← BitVec.xor_assoc, e]
  generalize z >>> k = a
  generalize a >>> k = b
  rw [BitVec.xor_zero]
  ext i hi
  simp
theorem fold_unf (z : W) (k : Nat) (h : 64 ≤ 3 * k) : fold (unf z k) k = z := by
  have e : z >>> k >>> k >>> k = 0#64 := by
    rw [← BitVec.shiftRight_add, ← BitVec.shiftRight_add]
    exact BitVec.ushiftRight_eq_zero (by omega)
  unfold unf fold
  simp only [BitVec.ushiftRight_xor_distrib]
  rw [e]
  generalize z >>> k = a
  generalize a >>> k = b
  ext i hi
  simp
theorem back_of (n : W) : mixBack (mixOf n) = n := by
  unfold mixBack mixOf
  rw [unf_fold _ _ (by omega), BitVec.mul_assoc, show (10723151780598845931#64 * 3573116690164977347#64 : W) = 1#64 from by decide, BitVec.mul_one,
    unf_fold _ _ (by omega), BitVec.mul_assoc, show (13787848793156543929#64 * 10871156337175269513#64 : W) = 1#64 from by decide, BitVec.mul_one,
    unf_fold _ _ (by omega), BitVec.add_sub_cancel]
theorem of_back (n : W) : mixOf (mixBack n) = n := by
  unfold mixBack mixOf
  rw [BitVec.sub_add_cancel, fold_unf _ _ (by omega), BitVec.mul_assoc, show (10871156337175269513#64 * 13787848793156543929#64 : W) = 1#64 from by decide, BitVec.mul_one,
    fold_unf _ _ (by omega), BitVec.mul_assoc, show (3573116690164977347#64 * 10723151780598845931#64 : W) = 1#64 from by decide, BitVec.mul_one,
    fold_unf _ _ (by omega)]
theorem of_inj (a b : W) : mixOf a = mixOf b ↔ a = b :=
  ⟨fun h => by rw [← back_of a, h, back_of], fun h => by rw [h]⟩

/-! ### The reference's undoing, bit by bit -/
def upper (u : W) (b : Nat) : W := (u >>> b) <<< b
theorem upper_64 (u : W) : upper u 64 = 0#64 := by
  unfold upper; rw [BitVec.ushiftRight_eq_zero (Nat.le_refl _)]; rfl
theorem upper_0 (u : W) : upper u 0 = u := by unfold upper; simp
theorem upper_bit (u : W) (b i : Nat) (hi : i < 64) : (upper u b).getLsbD i = (decide (b ≤ i) && u.getLsbD i) := by
  unfold upper
  simp only [BitVec.getLsbD_shiftLeft, BitVec.getLsbD_ushiftRight, hi, decide_true, Bool.true_and]
  by_cases h : b ≤ i
  · simp [h, show ¬ i < b by omega, show b + (i - b) = i by omega]
  · simp [h, show i < b by omega]
theorem bit_one (x : W) (j i : Nat) : (x >>> j &&& 1#64).getLsbD i = (decide (i = 0) && x.getLsbD j) := by
  by_cases h : i = 0
  · subst h; simp
  · simp [BitVec.getLsbD_one, h]
theorem upper_step (u z : W) (k b : Nat) (hb : b < 64) (hk : 1 ≤ k) (hu : fold u k = z) :
    upper u b = upper u (b + 1) ||| (((z >>> b &&& 1#64) ^^^ (if b + k < 64 then upper u (b + 1) >>> (b + k) &&& 1#64 else 0#64)) <<< b) := by
  have hz : z.getLsbD b = (u.getLsbD b ^^ u.getLsbD (b + k)) := by
    rw [← hu]; unfold fold; simp [BitVec.getLsbD_ushiftRight, Nat.add_comm]
  have hup : ∀ i, (if b + k < 64 then upper u (b + 1) >>> (b + k) &&& 1#64 else 0#64 : W).getLsbD i = (decide (i = 0) && u.getLsbD (b + k)) := by
    intro i
    by_cases hbk : b + k < 64
    · rw [if_pos hbk, bit_one, upper_bit _ _ _ hbk]; simp [show b + 1 ≤ b + k by omega]
    · rw [if_neg hbk, BitVec.getLsbD_of_ge u (b + k) (by omega)]; simp
  apply BitVec.eq_of_getLsbD_eq
  intro i hi
  rw [BitVec.getLsbD_or, BitVec.getLsbD_shiftLeft, BitVec.getLsbD_xor, hup, bit_one, upper_bit _ _ _ hi, upper_bit _ _ _ hi, hz]
  rcases Nat.lt_trichotomy i b with h | h | h
  · simp [h, show ¬ b ≤ i by omega, show ¬ b + 1 ≤ i by omega]
  · subst h
    cases u.getLsbD i <;> cases u.getLsbD (i + k) <;> simp [hi]
  · simp [show b ≤ i by omega, show b + 1 ≤ i by omega, show ¬ i - b = 0 by omega]

/-! ### Go's numbers of 64 bits are such bits -/
theorem ofInt_toNat (a : W) : BitVec.ofInt 64 (a.toNat : Int) = a := by
  rw [BitVec.ofInt_natCast]; simp
theorem wrap_toNat (x : W) : IntKind.u64.wrap (x.toNat : Int) = (x.toNat : Int) := by
  rw [IntKind.wrap_u64]; have := x.isLt; omega
theorem bits_xor (a b : W) : bits .xor .u64 (a.toNat : Int) (b.toNat : Int) = ((a ^^^ b).toNat : Int) := by
  show IntKind.u64.wrap ((BitVec.ofInt 64 (a.toNat : Int) ^^^ BitVec.ofInt 64 (b.toNat : Int)).toNat : Int) = _
  rw [ofInt_toNat, ofInt_toNat, wrap_toNat]
theorem bits_or (a b : W) : bits .or .u64 (a.toNat : Int) (b.toNat : Int) = ((a ||| b).toNat : Int) := by
  show IntKind.u64.wrap ((BitVec.ofInt 64 (a.toNat : Int) ||| BitVec.ofInt 64 (b.toNat : Int)).toNat : Int) = _
  rw [ofInt_toNat, ofInt_toNat, wrap_toNat]
theorem bits_and (a b : W) : bits .and .u64 (a.toNat : Int) (b.toNat : Int) = ((a &&& b).toNat : Int) := by
  show IntKind.u64.wrap ((BitVec.ofInt 64 (a.toNat : Int) &&& BitVec.ofInt 64 (b.toNat : Int)).toNat : Int) = _
  rw [ofInt_toNat, ofInt_toNat, wrap_toNat]
theorem bits_andNot (a b : W) : bits .andNot .u64 (a.toNat : Int) (b.toNat : Int) = ((a &&& ~~~b).toNat : Int) := by
  show IntKind.u64.wrap ((BitVec.ofInt 64 (a.toNat : Int) &&& ~~~ BitVec.ofInt 64 (b.toNat : Int)).toNat : Int) = _
  rw [ofInt_toNat, ofInt_toNat, wrap_toNat]
theorem xor_of (a b : W) : a &&& ~~~b ||| b &&& ~~~a = a ^^^ b := by
  ext i hi
  simp
  cases a[i] <;> cases b[i] <;> rfl
theorem div_pow (a : W) (k : Nat) : (a.toNat : Int) / 2 ^ k = ((a >>> k).toNat : Int) := by
  rw [BitVec.toNat_ushiftRight, Nat.shiftRight_eq_div_pow]; simp
theorem shl_pow (a : W) (k : Nat) : IntKind.u64.wrap ((a.toNat : Int) * 2 ^ k) = ((a <<< k).toNat : Int) := by
  rw [IntKind.wrap_u64, BitVec.toNat_shiftLeft, Nat.shiftLeft_eq, Int.natCast_emod]; simp
theorem add_lit (a b : W) : IntKind.u64.wrap ((a.toNat : Int) + (b.toNat : Int)) = ((a + b).toNat : Int) := by
  rw [IntKind.wrap_u64, BitVec.toNat_add, Int.natCast_emod]; simp
theorem mul_lit (a b : W) : IntKind.u64.wrap ((a.toNat : Int) * (b.toNat : Int)) = ((a * b).toNat : Int) := by
  rw [IntKind.wrap_u64, BitVec.toNat_mul, Int.natCast_emod]; simp
theorem sub_lit (a b : W) : IntKind.u64.wrap ((a.toNat : Int) - (b.toNat : Int)) = ((a - b).toNat : Int) := by
  rw [IntKind.wrap_u64, BitVec.toNat_sub]; have := a.isLt; have := b.isLt; omega
theorem eq_iff (a b : W) : ((a.toNat : Int) == (b.toNat : Int)) = decide (a = b) := by
  by_cases h : a = b
  · subst h; simp
  · have : ¬ a.toNat = b.toNat := fun e => h (BitVec.eq_of_toNat_eq e)
    simp [h]; omega
/-- A number of 64 bits, as the row reads it. -/
theorem of_wf {n : Int} (h : (Lit.int .u64 n).wf = true) : ∃ a : W, n = (a.toNat : Int) := by
  have hx : 0 ≤ n ∧ n ≤ 18446744073709551615 := by simpa [Lit.wf, IntKind.min, IntKind.max, IntKind.signed, IntKind.bits] using h
  refine ⟨BitVec.ofNat 64 n.toNat, ?_⟩
  rw [BitVec.toNat_ofNat]
  omega
end Plain
end Go.Proofs.Ytabgenhednhagaa

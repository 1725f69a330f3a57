/-
  The walks over chapter 6: each function of package mix, and of its reference, returns what the plain laws say of 64 bits; nothing that was in memory is turned.
-/
import Derived.Test.YtaoikgbcfmgfoaaBase
import Derived.Test.YtaoikgbcfmgfoaaPlain
import Derived.WalkLawsBesides
import Derived.WalkSpells
import Derived.BigQuiet
import Derived.Deep.QuietTactic
import Derived.Outline
import Derived.Handy
namespace Go.Proofs.Ytaoikgbcfmgfoaa
open Go.RowKit Plain

def foldI (a k : Int) : Int := bits .xor .u64 a (a / 2 ^ k.toNat)
theorem foldI_eq (z : W) (k : Nat) : foldI (z.toNat : Int) (k : Int) = ((fold z k).toNat : Int) := by
  unfold foldI; rw [Int.toNat_natCast, div_pow, bits_xor]; rfl
theorem fold_any (a k : Int) (hk : 0 ≤ k ∧ k ≤ 63) (w : World) :
    Calls Try.prog 16 #[.int .u64 a, .int .i64 k] w fun e w' => e = .returned (.int .u64 (foldI a k)) ∧ w' = w := by
  obtain ⟨hk0, hk1⟩ := hk
  go_enter Try.func16, Try.ntmps16
  go_wp2
  go_ret
  exact ⟨rfl, rfl⟩
def xorI (a b : Int) : Int := bits .or .u64 (bits .andNot .u64 a b) (bits .andNot .u64 b a)
theorem xorI_eq (a b : W) : xorI (a.toNat : Int) (b.toNat : Int) = ((a ^^^ b).toNat : Int) := by
  unfold xorI; rw [bits_andNot, bits_andNot, bits_or, xor_of]
theorem xor_any (a b : Int) (w : World) :
    Calls Try.prog 17 #[.int .u64 a, .int .u64 b] w fun e w' => e = .returned (.int .u64 (xorI a b)) ∧ w = w' := by
  go_enter Try.func17, Try.ntmps17
  go_wp2
  go_ret
  exact ⟨rfl, rfl⟩
def timesI (a : Int) : Int := foldI (IntKind.u64.wrap (foldI (IntKind.u64.wrap (foldI a 30 * 13787848793156543929)) 27 * 10723151780598845931)) 31
theorem timesI_eq (n : W) : timesI (IntKind.u64.wrap ((n.toNat : Int) + 11400714819323198485)) = ((mixOf n).toNat : Int) := by
  unfold timesI
  rw [show (11400714819323198485 : Int) = ((11400714819323198485#64 : W).toNat : Int) from rfl, add_lit, show (30 : Int) = ((30 : Nat) : Int) from rfl, foldI_eq,
    show (13787848793156543929 : Int) = ((13787848793156543929#64 : W).toNat : Int) from rfl, mul_lit, show (27 : Int) = ((27 : Nat) : Int) from rfl, foldI_eq,
    show (10723151780598845931 : Int) = ((10723151780598845931#64 : W).toNat : Int) from rfl, mul_lit, show (31 : Int) = ((31 : Nat) : Int) from rfl, foldI_eq]
  rfl
theorem times_any (a : Int) (w : World) :
    Calls Try.prog 15 #[.int .u64 a, .func (.func 16) #[] #[], .agg #[.int .i64 30, .int .i64 27, .int .i64 31], .agg #[.int .u64 13787848793156543929, .int .u64 10723151780598845931]] w fun e w' => e = .returned (.int .u64 (timesI a)) ∧ Below w.heap.size w w' := by
  go_enter Try.func15, Try.ntmps15
  go_wp2_with fail
  go_quiet ((go_at_call 16; exact Calls.quiet_of_same (fold_any _ _ (by omega) _)))
  go_wp2
  go_ret
  exact ⟨rfl, below_drewN (((Below.refl _ _).alloc (Nat.le_refl _) _).alloc (by simp) _) _⟩
theorem of_any (n : W) (w : World) :
    Calls Try.prog 7 #[.int .u64 (n.toNat : Int)] w fun e w' => e = .returned (.int .u64 ((mixOf n).toNat : Int)) ∧ Below w.heap.size w w' := by
  have H := hide (timesI_eq n)
  go_enter Try.func7, Try.ntmps7
  go_wp2_with (go_at_call 15; refine (times_any _ _).mono ?_; rintro e w' ⟨rfl, hb⟩)
  go_ret
  exact ⟨ret_i H.out, hb⟩
theorem quo_pow (x : W) (k : Nat) : IntKind.u64.wrap (Int.tdiv (x.toNat : Int) (2 ^ k)) = ((x >>> k).toNat : Int) := by
  rw [Int.tdiv_eq_ediv_of_nonneg (by omega), div_pow, wrap_toNat]
def refStep (z d c : Int) : Int := IntKind.u64.wrap (xorI z (IntKind.u64.wrap (z.tdiv d)) * c)
def refOfI (n : Int) : Int :=
  xorI (refStep (refStep (IntKind.u64.wrap (n + 11400714819323198485)) 1073741824 13787848793156543929) 134217728 10723151780598845931)
    (IntKind.u64.wrap ((refStep (refStep (IntKind.u64.wrap (n + 11400714819323198485)) 1073741824 13787848793156543929) 134217728 10723151780598845931).tdiv 2147483648))
theorem refOfI_eq (n : W) : refOfI (n.toNat : Int) = ((mixOf n).toNat : Int) := by
  unfold refOfI refStep
  rw [show (11400714819323198485 : Int) = ((11400714819323198485#64 : W).toNat : Int) from rfl, add_lit, show (1073741824 : Int) = 2 ^ 30 from rfl,
    quo_pow, xorI_eq, show (13787848793156543929 : Int) = ((13787848793156543929#64 : W).toNat : Int) from rfl, mul_lit, show (134217728 : Int) = 2 ^ 27 from rfl, quo_pow, xorI_eq,
    show (10723151780598845931 : Int) = ((10723151780598845931#64 : W).toNat : Int) from rfl, mul_lit, show (2147483648 : Int) = 2 ^ 31 from rfl, quo_pow, xorI_eq]
  rfl
theorem ref_of_any (n : W) (w : World) :
    Calls Try.prog 8 #[.int .u64 (n.toNat : Int)] w fun e w' => e = .returned (.int .u64 ((mixOf n).toNat : Int)) ∧ w = w' := by
  have H := hide (refOfI_eq n)
  have hn : 0 ≤ (n.toNat : Int) := by omega
  generalize (n.toNat : Int) = a at H hn
  go_enter Try.func8, Try.ntmps8
  go_wp2_with (go_at_call 17; refine (xor_any _ _ _).mono ?_; rintro e w' ⟨rfl, rfl⟩)
  go_ret
  refine ⟨ret_i ?_, rfl⟩
  rw [← H.out]
  simp only [refOfI, refStep]
end Go.Proofs.Ytaoikgbcfmgfoaa

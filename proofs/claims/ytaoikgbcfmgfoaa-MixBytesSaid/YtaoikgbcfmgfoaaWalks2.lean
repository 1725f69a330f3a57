/-
  More walks over chapter 6: the way back (package mix's, and the reference's, bit by bit); bytes mixed in; sums of bytes.
-/
import Derived.Test.YtaoikgbcfmgfoaaWalks
namespace Go.Proofs.Ytaoikgbcfmgfoaa
open Go.RowKit Plain

def unfI (a k : Int) : Int := bits .xor .u64 a (bits .xor .u64 a (a / 2 ^ k.toNat) / 2 ^ k.toNat)
theorem unfI_eq (z : W) (k : Nat) : unfI (z.toNat : Int) (k : Int) = ((unf z k).toNat : Int) := by
  unfold unfI; rw [Int.toNat_natCast, div_pow, bits_xor, div_pow, bits_xor]; rfl
theorem unfold_any (a k : Int) (hk : k = 27 ∨ k = 30 ∨ k = 31) (w : World) :
    Calls Try.prog 18 #[.int .u64 a, .int .i64 k] w fun e w' => e = .returned (.int .u64 (unfI a k)) ∧ w = w' := by
  rcases hk with rfl | rfl | rfl
  all_goals
    go_enter Try.func18, Try.ntmps18
    go_wp2
    go_rounds 3
    go_ret
    exact ⟨rfl, rfl⟩
theorem bits_one (a : W) (k : Nat) : bits .and .u64 ((a.toNat : Int) / 2 ^ k) 1 = ((a >>> k &&& 1#64).toNat : Int) := by
  rw [div_pow, show (1 : Int) = ((1#64 : W).toNat : Int) from rfl, bits_and]
theorem undo_near (u z : W) (k c : Nat) (hc : c < 64) (hk : 1 ≤ k) (hu : fold u k = z) (h : c + k < 64) :
    bits .or .u64 ((upper u (c + 1)).toNat : Int) (IntKind.u64.wrap (xorI (bits .and .u64 ((z.toNat : Int) / 2 ^ c) 1) (bits .and .u64 (((upper u (c + 1)).toNat : Int) / 2 ^ (c + k)) 1) * 2 ^ c)) = ((upper u c).toNat : Int) := by
  rw [bits_one, bits_one, xorI_eq, shl_pow, bits_or, upper_step u z k c hc hk hu, if_pos h]
theorem undo_far (u z : W) (k c : Nat) (hc : c < 64) (hk : 1 ≤ k) (hu : fold u k = z) (h : ¬ c + k < 64) :
    bits .or .u64 ((upper u (c + 1)).toNat : Int) (IntKind.u64.wrap (xorI (bits .and .u64 ((z.toNat : Int) / 2 ^ c) 1) 0 * 2 ^ c)) = ((upper u c).toNat : Int) := by
  rw [bits_one, show (0 : Int) = ((0#64 : W).toNat : Int) from rfl, xorI_eq, shl_pow, bits_or, upper_step u z k c hc hk hu, if_neg h]
theorem undo_any (z u : W) (k : Nat) (hk : 1 ≤ k ∧ k ≤ 63) (hu : fold u k = z) (w : World) :
    Calls Try.prog 19 #[.int .u64 (z.toNat : Int), .int .u64 (k : Int)] w fun e w' => e = .returned (.int .u64 (u.toNat : Int)) ∧ w = w' := by
  obtain ⟨hk1, hk2⟩ := hk
  have HU := hide hu
  clear hu
  have hz0 : 0 ≤ (z.toNat : Int) := by omega
  go_enter Try.func19, Try.ntmps19
  go_wp2
  go_loop [5, 6] (fun x i => ∃ b : Nat, b ≤ 64 ∧ i = .int .i64 ((b : Int) - 1) ∧ x = .int .u64 ((upper u b).toNat : Int)) (fun _ i => (intOf i + 1).toNat)
  case atStart => exact ⟨64, by omega, rfl, by rw [upper_64]; rfl⟩
  case round =>
    obtain ⟨b, hb, rfl, rfl⟩ := hrel
    by_cases h0 : b = 0
    · subst h0
      have hlt : ((0 : Nat) : Int) - 1 < 0 := by omega
      go_wp2
      go_ret
      exact ⟨ret_i (by rw [upper_0]), rfl⟩
    · obtain ⟨c, rfl⟩ : ∃ c, b = c + 1 := ⟨b - 1, by omega⟩
      have hc : ((c + 1 : Nat) : Int) - 1 = (c : Int) := by omega
      rw [hc]
      clear hc h0
      by_cases hbk : (c : Int) + k < 64
      · have HN := hide (undo_near u z k c (by omega) hk1 HU.out (by omega))
        go_wp2_with (go_at_call 17; refine (xor_any _ _ _).mono ?_; rintro e w' ⟨rfl, rfl⟩)
        go_round
        case rel => exact ⟨c, by omega, rfl, congrArg _ HN.out⟩
        case measure => simp [intOf]
      · have HN := hide (undo_far u z k c (by omega) hk1 HU.out (by omega))
        go_wp2_with (go_at_call 17; refine (xor_any _ _ _).mono ?_; rintro e w' ⟨rfl, rfl⟩)
        go_round
        case rel => exact ⟨c, by omega, rfl, congrArg _ HN.out⟩
        case measure => simp [intOf]

/-! ### Back -/
def backI (n : Int) : Int :=
  IntKind.u64.wrap (unfI (IntKind.u64.wrap (unfI (IntKind.u64.wrap (unfI n 31 * 3573116690164977347)) 27 * 10871156337175269513)) 30 - 11400714819323198485)
theorem backI_eq (n : W) : backI (n.toNat : Int) = ((mixBack n).toNat : Int) := by
  unfold backI
  rw [show (31 : Int) = ((31 : Nat) : Int) from rfl, unfI_eq, show (3573116690164977347 : Int) = ((3573116690164977347#64 : W).toNat : Int) from rfl, mul_lit, show (27 : Int) = ((27 : Nat) : Int) from rfl, unfI_eq,
    show (10871156337175269513 : Int) = ((10871156337175269513#64 : W).toNat : Int) from rfl, mul_lit, show (30 : Int) = ((30 : Nat) : Int) from rfl, unfI_eq,
    show (11400714819323198485 : Int) = ((11400714819323198485#64 : W).toNat : Int) from rfl, sub_lit]
  rfl
theorem back_any (n : W) (w : World) :
    Calls Try.prog 9 #[.int .u64 (n.toNat : Int)] w fun e w' => e = .returned (.int .u64 ((mixBack n).toNat : Int)) ∧ w = w' := by
  have H := hide (backI_eq n)
  generalize (n.toNat : Int) = a at H
  go_enter Try.func9, Try.ntmps9
  go_wp2_with (go_at_call 18; refine (unfold_any _ _ (by omega) _).mono ?_; rintro e w' ⟨rfl, rfl⟩)
  go_ret
  refine ⟨ret_i ?_, rfl⟩
  rw [← H.out]
  simp only [backI]
/-- What the reference's undoing tells, of whatever integer that is such bits. -/
def undoI (a k : Int) : Int := unfI a k
theorem undo_int (a k : Int) (z : W) (ha : a = (z.toNat : Int)) (hk : k = 27 ∨ k = 30 ∨ k = 31) (w : World) :
    Calls Try.prog 19 #[.int .u64 a, .int .u64 k] w fun e w' => e = .returned (.int .u64 (undoI a k)) ∧ w = w' := by
  subst ha
  obtain ⟨kn, rfl⟩ : ∃ kn : Nat, k = (kn : Int) := ⟨k.toNat, by omega⟩
  have h := undo_any z (unf z kn) kn (by omega) (fold_unf _ _ (by omega)) w
  rw [← unfI_eq] at h
  exact h
def refBackI (n : Int) : Int :=
  IntKind.u64.wrap (undoI (IntKind.u64.wrap (undoI (IntKind.u64.wrap (undoI n 31 * 3573116690164977347)) 27 * 10871156337175269513)) 30 - 11400714819323198485)
theorem refBackI_eq (n : W) : refBackI (n.toNat : Int) = ((mixBack n).toNat : Int) := backI_eq n
theorem undoI_in (z : W) (k : Int) (hk : k = 27 ∨ k = 30 ∨ k = 31) : ∃ u : W, undoI (z.toNat : Int) k = (u.toNat : Int) := by
  obtain ⟨kn, rfl⟩ : ∃ kn : Nat, k = (kn : Int) := ⟨k.toNat, by omega⟩
  exact ⟨_, unfI_eq z kn⟩
theorem wrap_in (x : Int) : ∃ u : W, IntKind.u64.wrap x = (u.toNat : Int) := by
  refine ⟨BitVec.ofInt 64 x, ?_⟩
  rw [IntKind.wrap_u64, BitVec.toNat_ofInt]
  omega
theorem undo_wrap (x k : Int) (hk : k = 27 ∨ k = 30 ∨ k = 31) (w : World) :
    Calls Try.prog 19 #[.int .u64 (IntKind.u64.wrap x), .int .u64 k] w fun e w' => e = .returned (.int .u64 (undoI (IntKind.u64.wrap x) k)) ∧ w = w' := by
  obtain ⟨u, hu⟩ := wrap_in x
  exact undo_int _ _ u hu hk w
theorem ref_back_any (n : W) (w : World) :
    Calls Try.prog 10 #[.int .u64 (n.toNat : Int)] w fun e w' => e = .returned (.int .u64 ((mixBack n).toNat : Int)) ∧ w = w' := by
  have H := hide (refBackI_eq n)
  have h1 := fun k hk w => hide (undo_int (n.toNat : Int) k n rfl hk w)
  generalize (n.toNat : Int) = a at H h1
  go_enter Try.func10, Try.ntmps10
  go_wp2_with fail
  refine ((h1 _ (by omega) _).out).mono ?_
  rintro e w' ⟨rfl, rfl⟩
  go_wp2_with fail
  refine (undo_wrap _ _ (by omega) _).mono ?_
  rintro e w' ⟨rfl, rfl⟩
  go_wp2_with fail
  refine (undo_wrap _ _ (by omega) _).mono ?_
  rintro e w' ⟨rfl, rfl⟩
  go_wp2_with fail
  go_ret
  refine ⟨ret_i ?_, rfl⟩
  rw [← H.out]
  simp only [refBackI]
end Go.Proofs.Ytaoikgbcfmgfoaa

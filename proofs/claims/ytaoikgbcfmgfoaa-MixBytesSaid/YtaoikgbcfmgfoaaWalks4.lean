/-
  The last walks over chapter 6 ahead of its laws: sums of bytes, and the chapter's examples.
-/
import Derived.Test.YtaoikgbcfmgfoaaWalks3
import Derived.Lib.SlBytesConst
namespace Go.Proofs.Ytaoikgbcfmgfoaa
open Go.RowKit Plain

theorem len_eq (n : Nat) (h : n ≤ 9223372036854775807) : (n : Int) = ((BitVec.ofNat 64 n : W).toNat : Int) := by
  rw [BitVec.toNat_ofNat]; omega
theorem xor_len (c : W) (n : Nat) (h : n ≤ 9223372036854775807) : bits .xor .u64 (c.toNat : Int) (n : Int) = ((c ^^^ BitVec.ofNat 64 n).toNat : Int) := by
  conv => lhs; rw [len_eq n h]
  rw [bits_xor]
theorem xorI_len (c : W) (n : Nat) (h : n ≤ 9223372036854775807) : xorI (c.toNat : Int) (n : Int) = ((c ^^^ BitVec.ofNat 64 n).toNat : Int) := by
  conv => lhs; rw [len_eq n h]
  rw [xorI_eq]
theorem then_zero (A : Option Addr) (n cap : Nat) (zs : List Int) (hn : n ≤ maxLen) (w : World) (hr : RdI w w.heap.size .u8 A n zs) (hz : ∀ z ∈ zs, (Lit.int .u8 z).wf = true) :
    Calls Try.prog 11 #[.int .u64 0, .slice A n cap] w fun e w' => e = .returned (.int .u64 ((thenW 0#64 zs).toNat : Int)) ∧ Below w.heap.size w w' := then_any 0#64 A n cap zs hn w hr hz
theorem ref_then_zero (A : Option Addr) (n cap : Nat) (zs : List Int) (hn : n ≤ maxLen) (w : World) (hr : RdI w w.heap.size .u8 A n zs) (hz : ∀ z ∈ zs, (Lit.int .u8 z).wf = true) :
    Calls Try.prog 12 #[.int .u64 0, .slice A n cap] w fun e w' => e = .returned (.int .u64 ((thenW 0#64 zs).toNat : Int)) ∧ w = w' := ref_then_any 0#64 A n cap zs hn w hr hz
theorem sum_any (A : Option Addr) (n cap : Nat) (zs : List Int) (hn : n ≤ maxLen) (w : World) (hr : RdI w w.heap.size .u8 A n zs) (hz : ∀ z ∈ zs, (Lit.int .u8 z).wf = true) :
    Calls Try.prog 13 #[.slice A n cap] w fun e w' => e = .returned (.int .u64 ((sumW zs).toNat : Int)) ∧ Below w.heap.size w w' := by
  have H := hide (then_zero A n cap zs hn w hr hz)
  have hl := hide hr.1
  unfold maxLen at hn
  have hx := hide (xor_len (thenW 0#64 zs) n hn)
  clear hr hz
  go_enter Try.func13, Try.ntmps13
  go_wp2_with fail
  refine H.out.mono ?_
  rintro e w' ⟨rfl, hb⟩
  go_wp2_with fail
  refine (of_int _ _ hx.out _).mono ?_
  rintro e w'' ⟨rfl, hb2⟩
  go_wp2_with fail
  go_ret
  exact ⟨ret_i (by unfold sumW; rw [hl.out]), hb.trans (hb2.mono hb.size)⟩
theorem ref_sum_any (A : Option Addr) (n cap : Nat) (zs : List Int) (hn : n ≤ maxLen) (w : World) (hr : RdI w w.heap.size .u8 A n zs) (hz : ∀ z ∈ zs, (Lit.int .u8 z).wf = true) :
    Calls Try.prog 14 #[.slice A n cap] w fun e w' => e = .returned (.int .u64 ((sumW zs).toNat : Int)) ∧ w = w' := by
  have H := hide (ref_then_zero A n cap zs hn w hr hz)
  have hl := hide hr.1
  unfold maxLen at hn
  have hx := hide (xorI_len (thenW 0#64 zs) n hn)
  clear hr hz
  go_enter Try.func14, Try.ntmps14
  go_wp2_with fail
  refine H.out.mono ?_
  rintro e w' ⟨rfl, rfl⟩
  go_wp2_with fail
  refine (xor_any _ _ _).mono ?_
  rintro e w'' ⟨rfl, rfl⟩
  go_wp2_with fail
  refine (ref_of_int _ _ hx.out _).mono ?_
  rintro e w'' ⟨rfl, rfl⟩
  go_wp2_with fail
  go_ret
  exact ⟨ret_i (by unfold sumW; rw [hl.out]), rfl⟩

/-! ### The chapter's examples -/
theorem of_lit (a b : Int) (n : W) (h : a = (n.toNat : Int)) (hb : ((mixOf n).toNat : Int) = b) (w : World) :
    Calls Try.prog 7 #[.int .u64 a] w fun e w' => e = .returned (.int .u64 b) ∧ Below w.heap.size w w' := by
  subst hb; exact of_int a n h w
theorem back_lit (a b : Int) (n : W) (h : a = (n.toNat : Int)) (hb : ((mixBack n).toNat : Int) = b) (w : World) :
    Calls Try.prog 9 #[.int .u64 a] w fun e w' => e = .returned (.int .u64 b) ∧ w = w' := by
  subst hb; subst h; exact back_any n w
theorem ex0 : ((mixOf 0#64).toNat : Int) = 16294208416658607535 := by decide
theorem ex1 : ((mixOf 1#64).toNat : Int) = 10451216379200822465 := by decide
theorem ex2 : ((mixBack 16294208416658607535#64).toNat : Int) = 0 := by decide
theorem ex3 : ((sumW [97]).toNat : Int) = 1303865553363498507 := by decide
theorem ex4 : ((sumW [97, 98]).toNat : Int) = 14337718687949505752 := by decide
theorem sum_lit (cs : List Int) (b : Int) (hb : ((sumW cs).toNat : Int) = b) (hz : ∀ z ∈ cs, (Lit.int .u8 z).wf = true) (n : Nat) (hn : cs.length = n) (h2 : n ≤ 2) (C : Array Value) (hC : C = (cs.map (Value.int .u8)).toArray) (fr : Nat × Nat) (w : World) :
    Calls Try.prog 13 #[.slice (some ⟨w.heap.size, 0, none⟩) n n] (w.alloc (.cells C 5 fr)) fun e w' => e = .returned (.int .u64 b) ∧ Below (w.alloc (.cells C 5 fr)).heap.size (w.alloc (.cells C 5 fr)) w' := by
  subst hb
  refine sum_any _ n n cs (by unfold maxLen; omega) _ ⟨hn, fun _ => ⟨w.heap.size, 0, rfl, by simp, fun j hj => ?_⟩⟩ hz
  rw [Joins.cell_alloc_mark_at w C 5 fr _ _ rfl, hC]
  have hj' : j < cs.length := by omega
  simp [hj']
theorem awake_any (w : World) : Calls Try.prog 6 #[] w fun e w' => e = .returned (.bool true) ∧ Below w.heap.size w w' := by
  have kc := fun (w : World) (C : Array Value) (n c : Nat) => Lib.run_convert_bytes_const (P := Try.prog) w 26 5 C n c Try.underlying26 Try.underlying5
  go_enter Try.func6, Try.ntmps6
  go_wp2_with fail
  refine (of_lit 0 _ 0#64 rfl ex0 _).mono ?_
  rintro e w1 ⟨rfl, hb1⟩
  go_wp2_with fail
  refine (of_lit 1 _ 1#64 rfl ex1 _).mono ?_
  rintro e w2 ⟨rfl, hb2⟩
  go_wp2_with fail
  refine (back_lit _ _ 16294208416658607535#64 rfl ex2 _).mono ?_
  rintro e w3 ⟨rfl, rfl⟩
  go_wp2_with fail
  refine (sum_lit [97] _ ex3 (by decide) 1 rfl (by omega) _ rfl _ _).mono ?_
  rintro e w4 ⟨rfl, hb4⟩
  go_wp2_with fail
  refine (sum_lit [97, 98] _ ex4 (by decide) 2 rfl (by omega) _ rfl _ _).mono ?_
  rintro e w5 ⟨rfl, hb5⟩
  go_wp2_with fail
  go_ret
  refine ⟨rfl, ?_⟩
  have h2 := hb1.trans (hb2.mono hb1.size)
  have h3 := h2.alloc h2.size (.cells #[.int .u8 97] 5 (1, 2))
  have h4 := h3.trans (hb4.mono h3.size)
  have h5 := h4.alloc h4.size (.cells #[.int .u8 97, .int .u8 98] 5 (2, 3))
  exact h5.trans (hb5.mono h5.size)
end Go.Proofs.Ytaoikgbcfmgfoaa

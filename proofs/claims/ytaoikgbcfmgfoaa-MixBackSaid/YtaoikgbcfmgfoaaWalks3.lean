/-
  More walks over chapter 6: bytes mixed in, and their sum, by package mix and by its reference: the same.
-/
import Derived.Test.YtaoikgbcfmgfoaaWalks2
namespace Go.Proofs.Ytaoikgbcfmgfoaa
open Go.RowKit Plain

def thenW : W → List Int → W
  | c, [] => c
  | c, z :: r => thenW (mixOf (c ^^^ BitVec.ofInt 64 z)) r
def sumW (zs : List Int) : W := mixOf (thenW 0#64 zs ^^^ BitVec.ofNat 64 zs.length)
theorem drop_step (zs : List Int) (k : Nat) (h : k < zs.length) : zs.drop k = zs[k]?.getD 0 :: zs.drop (k + 1) := by
  rw [List.drop_eq_getElem_cons h, List.getElem?_eq_getElem h]; rfl
theorem byte_in (zs : List Int) (hz : ∀ z ∈ zs, (Lit.int .u8 z).wf = true) (k : Nat) : 0 ≤ zs[k]?.getD 0 ∧ zs[k]?.getD 0 ≤ 255 := by
  by_cases h : k < zs.length
  · rw [List.getElem?_eq_getElem h]
    simpa [Lit.wf, IntKind.min, IntKind.max, IntKind.signed, IntKind.bits] using hz _ (List.getElem_mem h)
  · rw [List.getElem?_eq_none (by omega)]; simp
theorem byte_eq (z : Int) (h : 0 ≤ z ∧ z ≤ 255) : z = ((BitVec.ofInt 64 z).toNat : Int) := by
  rw [BitVec.toNat_ofInt]; omega
theorem xor_byte (c : W) (z : Int) (h : 0 ≤ z ∧ z ≤ 255) : bits .xor .u64 (c.toNat : Int) z = ((c ^^^ BitVec.ofInt 64 z).toNat : Int) := by
  conv => lhs; rw [byte_eq z h]
  rw [bits_xor]
theorem xorI_byte (c : W) (z : Int) (h : 0 ≤ z ∧ z ≤ 255) : xorI (c.toNat : Int) z = ((c ^^^ BitVec.ofInt 64 z).toNat : Int) := by
  conv => lhs; rw [byte_eq z h]
  rw [xorI_eq]
theorem of_int (a : Int) (n : W) (h : a = (n.toNat : Int)) (w : World) :
    Calls Try.prog 7 #[.int .u64 a] w fun e w' => e = .returned (.int .u64 ((mixOf n).toNat : Int)) ∧ Below w.heap.size w w' := by
  subst h; exact of_any n w
theorem ref_of_int (a : Int) (n : W) (h : a = (n.toNat : Int)) (w : World) :
    Calls Try.prog 8 #[.int .u64 a] w fun e w' => e = .returned (.int .u64 ((mixOf n).toNat : Int)) ∧ w = w' := by
  subst h; exact ref_of_any n w

theorem then_any (c0 : W) (A : Option Addr) (n cap : Nat) (zs : List Int) (hn : n ≤ maxLen) (w : World) (hr : RdI w w.heap.size .u8 A n zs) (hz : ∀ z ∈ zs, (Lit.int .u8 z).wf = true) :
    Calls Try.prog 11 #[.int .u64 (c0.toNat : Int), .slice A n cap] w fun e w' => e = .returned (.int .u64 ((thenW c0 zs).toNat : Int)) ∧ Below w.heap.size w w' := by
  unfold maxLen at hn
  have hlen := hide hr.1
  have hr := hide hr
  have hz := hide hz
  go_enter Try.func11, Try.ntmps11
  go_wp2
  go_loopw [0, 6, 9] (fun c _ i wr => ∃ (k : Nat) (x : W), k ≤ n ∧ i = .int .i64 k ∧ c = .int .u64 (x.toNat : Int) ∧ Hid (thenW c0 zs = thenW x (zs.drop k)) ∧ Below w.heap.size w wr) (fun _ _ i _ => n - (intOf i).toNat)
  case atStart => exact ⟨0, c0, by omega, rfl, rfl, rfl, Below.refl _ _⟩
  case round =>
    obtain ⟨k, x, hk, rfl, rfl, hd, hb⟩ := hrel
    by_cases hlt : k < n
    · obtain ⟨b, off, rfl, hbB, hc⟩ := hr.out.2 (by omega)
      have hcell : wr.cell? ⟨b, off + k, none⟩ = some (.int .u8 (zs.getD k 0)) := (hb.cell (p := ⟨b, off + k, none⟩) hbB).trans (hc k hlt)
      have hbyte := byte_in zs hz.out k
      have hx := hide (xor_byte x _ hbyte)
      clear hc
      go_wp2_with (go_at_call 7; refine (of_int _ _ hx.out _).mono ?_; rintro e w' ⟨rfl, hb1⟩)
      go_roundw
      case rel => exact ⟨k + 1, _, by omega, by go_num, rfl, by rw [hd.out, drop_step zs k (by rw [hlen.out]; exact hlt)]; rfl, hb.trans (hb1.mono (by have := hb.size; omega))⟩
      case measure => simp [intOf]; omega
    · obtain rfl : k = n := by omega
      go_wp2
      go_ret
      exact ⟨ret_i (by rw [hd.out, List.drop_eq_nil_of_le (by rw [hlen.out]; omega)]; rfl), hb⟩
theorem ref_then_any (c0 : W) (A : Option Addr) (n cap : Nat) (zs : List Int) (hn : n ≤ maxLen) (w : World) (hr : RdI w w.heap.size .u8 A n zs) (hz : ∀ z ∈ zs, (Lit.int .u8 z).wf = true) :
    Calls Try.prog 12 #[.int .u64 (c0.toNat : Int), .slice A n cap] w fun e w' => e = .returned (.int .u64 ((thenW c0 zs).toNat : Int)) ∧ w = w' := by
  unfold maxLen at hn
  have hlen := hide hr.1
  have hr := hide hr
  have hz := hide hz
  go_enter Try.func12, Try.ntmps12
  go_wp2
  go_loop [0, 5] (fun c i => ∃ (k : Nat) (x : W), k ≤ n ∧ i = .int .i64 k ∧ c = .int .u64 (x.toNat : Int) ∧ Hid (thenW c0 zs = thenW x (zs.drop k))) (fun _ i => n - (intOf i).toNat)
  case atStart => exact ⟨0, c0, by omega, rfl, rfl, rfl⟩
  case round =>
    obtain ⟨k, x, hk, rfl, rfl, hd⟩ := hrel
    by_cases hlt : k < n
    · obtain ⟨b, off, rfl, hbB, hc⟩ := hr.out.2 (by omega)
      have hcell : w.cell? ⟨b, off + k, none⟩ = some (.int .u8 (zs.getD k 0)) := hc k hlt
      have hbyte := byte_in zs hz.out k
      have hx := hide (xorI_byte x _ hbyte)
      clear hc
      go_wp2_with (first | (go_at_call 17; refine (xor_any _ _ _).mono ?_; rintro e w' ⟨rfl, rfl⟩) | (go_at_call 8; refine (ref_of_int _ _ hx.out _).mono ?_; rintro e w' ⟨rfl, rfl⟩))
      go_round
      case rel => exact ⟨k + 1, _, by omega, by go_num, rfl, by rw [hd.out, drop_step zs k (by rw [hlen.out]; exact hlt)]; rfl⟩
      case measure => simp [intOf]; omega
    · obtain rfl : k = n := by omega
      go_wp2
      go_ret
      exact ⟨ret_i (by rw [hd.out, List.drop_eq_nil_of_le (by rw [hlen.out]; omega)]; rfl), rfl⟩
end Go.Proofs.Ytaoikgbcfmgfoaa

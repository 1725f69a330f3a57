/-
  Chapter 34: rows of numbers and of symbols in memory; a symbol of a set, by the reference.
-/
import Derived.Test.YtabgenhednhagaaWalks
import Derived.Test.YtabgenhednhagaaCalm
import Derived.OwnWalk
import Derived.Laws.AppendOwn
import Derived.Laws.OwnMore
namespace Go.Proofs.Ytabgenhednhagaa
open Go.RowKit Plain
set_option linter.unusedSimpArgs false
set_option linter.unusedVariables false
attribute [local go_sem ↓] Go.wp_at_zero Go.wp_at_succ

def numV (z : W) : Value := .int .u64 (z.toNat : Int)
/-- A slice of numbers. -/
def Nums (w : World) (A : Option Addr) (n c : Nat) (zs : List W) : Prop :=
  zs.length = n ∧ n ≤ c ∧ c ≤ maxLen ∧ (A = none → c = 0) ∧ (0 < n → ∃ b off, A = some ⟨b, off, none⟩ ∧ b < w.heap.size ∧ ∀ j, j < n → w.cell? ⟨b, off + j, none⟩ = some (numV (zs.getD j 0#64)))
theorem Nums.below {w w' : World} {A : Option Addr} {n c : Nat} {zs : List W} (h : Nums w A n c zs) (hb : Below w.heap.size w w') : Nums w' A n c zs := by
  refine ⟨h.1, h.2.1, h.2.2.1, h.2.2.2.1, fun hn => ?_⟩
  obtain ⟨b, off, e, hlt, hc⟩ := h.2.2.2.2 hn
  exact ⟨b, off, e, Nat.lt_of_lt_of_le hlt hb.size, fun j hj => (hb.cell (p := ⟨b, off + j, none⟩) hlt).trans (hc j hj)⟩
theorem Nums.max {w : World} {A : Option Addr} {n c : Nat} {zs : List W} (h : Nums w A n c zs) : n ≤ 9223372036854775807 := Nat.le_trans h.2.1 (by have := h.2.2.1; unfold maxLen at this; exact this)
/-- A slice of symbols. -/
def Syms (w : World) (A : Option Addr) (n c : Nat) (ss : List Sym) : Prop :=
  ss.length = n ∧ n ≤ c ∧ c ≤ maxLen ∧ (A = none → c = 0) ∧ (0 < n → ∃ b off, A = some ⟨b, off, none⟩ ∧ b < w.heap.size ∧ ∀ j, j < n →
    w.cell? ⟨b, off + j * 3, none⟩ = some (.int .i64 (ss.getD j Sym.zero).many.toInt) ∧ w.cell? ⟨b, off + j * 3 + 1, none⟩ = some (numV (ss.getD j Sym.zero).sum) ∧ w.cell? ⟨b, off + j * 3 + 2, none⟩ = some (numV (ss.getD j Sym.zero).check))
theorem Syms.below {w w' : World} {A : Option Addr} {n c : Nat} {ss : List Sym} (h : Syms w A n c ss) (hb : Below w.heap.size w w') : Syms w' A n c ss := by
  refine ⟨h.1, h.2.1, h.2.2.1, h.2.2.2.1, fun hn => ?_⟩
  obtain ⟨b, off, e, hlt, hc⟩ := h.2.2.2.2 hn
  exact ⟨b, off, e, Nat.lt_of_lt_of_le hlt hb.size, fun j hj => ⟨(hb.cell (p := ⟨b, off + j * 3, none⟩) hlt).trans (hc j hj).1, (hb.cell (p := ⟨b, off + j * 3 + 1, none⟩) hlt).trans (hc j hj).2.1, (hb.cell (p := ⟨b, off + j * 3 + 2, none⟩) hlt).trans (hc j hj).2.2⟩⟩
theorem Syms.max {w : World} {A : Option Addr} {n c : Nat} {zs : List Sym} (h : Syms w A n c zs) : n ≤ 9223372036854775807 := Nat.le_trans h.2.1 (by have := h.2.2.1; unfold maxLen at this; exact this)
theorem nums_nil (w : World) : Nums w none 0 0 [] := ⟨rfl, Nat.le_refl _, by unfold maxLen; omega, fun _ => rfl, fun h => by omega⟩
theorem syms_nil (w : World) : Syms w none 0 0 [] := ⟨rfl, Nat.le_refl _, by unfold maxLen; omega, fun _ => rfl, fun h => by omega⟩
/-- A call returns symbols; the old memory is as it was. -/
def RetSyms (w : World) (ss : List Sym) (e : Ending) (w' : World) : Prop := ∃ A n c, e = .returned (.slice A n c) ∧ Syms w' A n c ss ∧ Below w.heap.size w w'
theorem xor_to (x y z : Int) (a b : W) (hx : x = (a.toNat : Int)) (hy : y = (b.toNat : Int)) (hz : z = ((a ^^^ b).toNat : Int)) (w : World) :
    Calls Try.prog 27 #[.int .u64 x, .int .u64 y] w fun e w' => e = .returned (.int .u64 z) ∧ w = w' := by
  subst hx hy hz; exact xor34_any a b w
theorem ref_check_to (x z : Int) (a : W) (hx : x = (a.toNat : Int)) (hz : z = ((checkW a).toNat : Int)) (w : World) :
    Calls Try.prog 14 #[.int .u64 x] w fun e w' => e = .returned (.int .u64 z) ∧ w = w' := by
  subst hx hz; exact ref_check_any a w
theorem check_to (x z : Int) (a : W) (hx : x = (a.toNat : Int)) (hz : z = ((checkW a).toNat : Int)) (w : World) :
    Calls Try.prog 13 #[.int .u64 x] w fun e w' => e = .returned (.int .u64 z) ∧ Below w.heap.size w w' := by
  subst hx hz; exact check_any a w
theorem ref_in_to (x i : Int) (a : W) (b : Bool) (hx : x = (a.toNat : Int)) (hb : inI a i = b) (w : World) :
    Calls Try.prog 12 #[.int .u64 x, .int .i64 i] w fun e w' => e = .returned (.bool b) ∧ w = w' := by
  subst hx hb; exact ref_in_any a i w
theorem in_to (x i : Int) (a : W) (b : Bool) (hx : x = (a.toNat : Int)) (hb : inI a i = b) (w : World) :
    Calls Try.prog 11 #[.int .u64 x, .int .i64 i] w fun e w' => e = .returned (.bool b) ∧ Below w.heap.size w w' := by
  subst hx hb; exact in_any a i w
/-- A symbol of a set. -/
def oneS (zs : List W) (i : Int) : Sym := zs.foldl (fun s z => if inI z i then s.put z 1#64 else s) Sym.zero
theorem oneS_step (zs : List W) (i : Int) (k : Nat) (hk : k < zs.length) : oneS (zs.take (k + 1)) i = if inI (zs.getD k 0#64) i then (oneS (zs.take k) i).put (zs.getD k 0#64) 1#64 else oneS (zs.take k) i := by
  unfold oneS
  rw [List.take_succ_eq_append_getElem hk, List.foldl_append, List.getD_eq_getElem?_getD, List.getElem?_eq_getElem hk]; rfl
/-- A variable that is a symbol, in block b. -/
structure At3 (w : World) (b : Nat) (s : Sym) : Prop where
  c0 : w.cell? ⟨b, 0, none⟩ = some (.int .i64 s.many.toInt)
  c1 : w.cell? ⟨b, 1, none⟩ = some (numV s.sum)
  c2 : w.cell? ⟨b, 2, none⟩ = some (numV s.check)
  f0 : w.frozen? ⟨b, 0, none⟩ = false
  f1 : w.frozen? ⟨b, 1, none⟩ = false
  f2 : w.frozen? ⟨b, 2, none⟩ = false
theorem At3.of {w : World} {b : Nat} {s : Sym} {M S K : Int} (hM : M = s.many.toInt) (hS : S = (s.sum.toNat : Int)) (hK : K = (s.check.toNat : Int)) (c0 : w.cell? ⟨b, 0, none⟩ = some (.int .i64 M)) (c1 : w.cell? ⟨b, 1, none⟩ = some (.int .u64 S)) (c2 : w.cell? ⟨b, 2, none⟩ = some (.int .u64 K))
    (f0 : w.frozen? ⟨b, 0, none⟩ = false) (f1 : w.frozen? ⟨b, 1, none⟩ = false) (f2 : w.frozen? ⟨b, 2, none⟩ = false) : At3 w b s := by
  subst hM hS hK; exact ⟨c0, c1, c2, f0, f1, f2⟩
theorem At3.ext {w : World} {b : Nat} {s t : Sym} (h : At3 w b s) (e : s = t) : At3 w b t := e ▸ h

set_option maxHeartbeats 2000000 in
theorem ref_one_any {A : Option Addr} {n c : Nat} {zs : List W} {w : World} (h : Nums w A n c zs) (i : Int) : Calls Try.prog 29 #[.slice A n c, .int .i64 i] w fun e w' => e = .returned (symV (oneS zs i)) ∧ Below w.heap.size w w' := by
  have hn := h.max
  have hl := hide h.1
  replace h := hide h
  obtain ⟨W0, hW0⟩ : ∃ V, V = (w.alloc (.cells #[.int .i64 0, .int .u64 0, .int .u64 0] 41)).alloc (.cells #[.int .i64 0, .int .u64 0, .int .u64 0] 41) := ⟨_, rfl⟩
  have BW : Below w.heap.size w W0 := by rw [hW0]; go_grown
  have R0 : At3 W0 w.heap.size Sym.zero := by rw [hW0]; exact At3.of (M := 0) (S := 0) (K := 0) rfl rfl rfl (by go_side) (by go_side) (by go_side) (by go_side) (by go_side) (by go_side)
  have R1 : At3 W0 (w.heap.size + 1) Sym.zero := by rw [hW0]; exact At3.of (M := 0) (S := 0) (K := 0) rfl rfl rfl (by go_side) (by go_side) (by go_side) (by go_side) (by go_side) (by go_side)
  have hsz : w.heap.size + 1 < W0.heap.size := by rw [hW0]; simp
  replace hW0 := hide hW0
  go_enter Try.func29, Try.ntmps29
  go_wp2_with fail
  rw [← hW0.out]
  clear hW0
  go_loopw [6] (fun j wr => ∃ k : Nat, k ≤ n ∧ j = .int .i64 k ∧ Below w.heap.size w wr ∧ w.heap.size + 1 < wr.heap.size ∧ At3 wr w.heap.size Sym.zero ∧ At3 wr (w.heap.size + 1) (oneS (zs.take k) i)) (fun j _ => n - (intOf j).toNat)
  case atStart => exact ⟨0, Nat.zero_le _, rfl, BW, hsz, R0, R1⟩
  case round =>
    clear BW R0 R1 hsz
    obtain ⟨k, hk, rfl, BW, hsz, R0, R1⟩ := hrel
    by_cases hlt : k < n
    · have hst := hide (oneS_step zs i k (by rw [hl.out]; exact hlt))
      obtain ⟨b, off, rfl, hb, hcl⟩ := h.out.2.2.2.2 (by omega)
      have hk0 : (0 : Int) ≤ (k : Int) := by omega
      have hkn : (k : Int) < (n : Int) := by omega
      have hcw : wr.cell? ⟨b, off + k, none⟩ = some (numV (zs.getD k 0#64)) := (BW.cell (p := ⟨b, off + k, none⟩) hb).trans (hcl k hlt)
      clear hcl
      generalize zs.getD k 0#64 = z at *
      generalize oneS (zs.take k) i = s at *
      obtain ⟨a0, a1, a2, g0, g1, g2⟩ := R1
      unfold numV at hcw a1 a2
      obtain ⟨Z, hZ⟩ : ∃ Z, Z = (z.toNat : Int) := ⟨_, rfl⟩
      obtain ⟨M, hM⟩ : ∃ Z, Z = s.many.toInt := ⟨_, rfl⟩
      obtain ⟨S, hS⟩ : ∃ Z, Z = (s.sum.toNat : Int) := ⟨_, rfl⟩
      obtain ⟨K, hK⟩ : ∃ Z, Z = (s.check.toNat : Int) := ⟨_, rfl⟩
      rw [← hZ] at hcw
      rw [← hM] at a0
      rw [← hS] at a1
      rw [← hK] at a2
      have e0 : IntKind.i64.wrap (M + 1) = (s.many + 1#64).toInt := by rw [hM]; exact add_i64 s.many 1#64
      replace hZ := hide hZ
      replace hM := hide hM
      replace hS := hide hS
      replace hK := hide hK
      replace R0 := hide R0
      cases hin : inI z i with
      | false =>
        rw [hin] at hst
        replace hin := hide hin
        clear e0
        go_wp2_with fail
        refine (ref_in_to _ _ z false hZ.out hin.out _).mono ?_
        rintro e w1 ⟨rfl, rfl⟩
        go_wp2_with fail
        go_roundw
        case rel => exact ⟨k + 1, by omega, by go_num, BW, hsz, R0.out, (At3.of hM.out hS.out hK.out a0 a1 a2 g0 g1 g2).ext (by rw [hst.out, if_neg (by simp)])⟩
        case measure => simp [intOf]; omega
      | true =>
        rw [hin] at hst
        replace hin := hide hin
        obtain ⟨M', hM'⟩ : ∃ Z, Z = (s.many + 1#64).toInt := ⟨_, rfl⟩
        obtain ⟨S', hS'⟩ : ∃ Z, Z = ((s.sum ^^^ z).toNat : Int) := ⟨_, rfl⟩
        obtain ⟨K', hK'⟩ : ∃ Z, Z = ((s.check ^^^ checkW z).toNat : Int) := ⟨_, rfl⟩
        obtain ⟨Q, hQ⟩ : ∃ Z, Z = ((checkW z).toNat : Int) := ⟨_, rfl⟩
        rw [← hM'] at e0
        replace hM' := hide hM'
        replace hS' := hide hS'
        replace hK' := hide hK'
        replace hQ := hide hQ
        have hbw : b ≠ w.heap.size + 1 := by omega
        have hbr : b < wr.heap.size := Nat.lt_of_lt_of_le hb BW.size
        obtain ⟨W1, hW1⟩ : ∃ V, V = wr.setCell ⟨w.heap.size + 1, 0, none⟩ (.int .i64 M') := ⟨_, rfl⟩
        have BW1 : Below w.heap.size w W1 := by rw [hW1]; exact BW.setCell (by simp) _
        have sW1 : w.heap.size + 1 < W1.heap.size := by rw [hW1]; simpa using hsz
        have RW1 : At3 W1 w.heap.size Sym.zero := by
          obtain ⟨q0, q1, q2, q3, q4, q5⟩ := R0.out
          rw [hW1]; constructor <;> simp [World.cell?_setCell_far, *]
        have b0 : W1.cell? ⟨w.heap.size + 1, 0, none⟩ = some (.int .i64 M') := by rw [hW1]; simp [*, go_sem]
        have b1 : W1.cell? ⟨w.heap.size + 1, 1, none⟩ = some (.int .u64 S) := by rw [hW1]; simp [*, go_sem]
        have b2 : W1.cell? ⟨w.heap.size + 1, 2, none⟩ = some (.int .u64 K) := by rw [hW1]; simp [*, go_sem]
        have x0 : W1.frozen? ⟨w.heap.size + 1, 0, none⟩ = false := by rw [hW1]; simp [*, go_sem]
        have x1 : W1.frozen? ⟨w.heap.size + 1, 1, none⟩ = false := by rw [hW1]; simp [*, go_sem]
        have x2 : W1.frozen? ⟨w.heap.size + 1, 2, none⟩ = false := by rw [hW1]; simp [*, go_sem]
        have cb : W1.cell? ⟨b, off + k, none⟩ = some (.int .u64 Z) := by rw [hW1, World.cell?_setCell_far _ _ _ _ (by exact fun e => hbw e.symm)]; exact hcw
        have hb1 : b < W1.heap.size := by omega
        replace hW1 := hide hW1
        replace RW1 := hide RW1
        go_wp2_with fail
        refine (ref_in_to _ _ z true hZ.out hin.out _).mono ?_
        rintro e w1 ⟨rfl, rfl⟩
        go_wp2_with fail
        rw [← hW1.out]
        refine wp_region_calm_tail (fun w' => Below W1.heap.size W1 w') 8 (by kernel_rfl) (by kernel_rfl) (below_drewN (Below.refl _ _) 1) ?_
        simp only [List.take_succ_cons, List.take_zero, List.drop_succ_cons, List.drop_zero]
        repeat (first
          | go_big_quiet_skip
          | (go_big_quiet_want
             first
               | (go_big_quiet_op; go_big_quiet_on)
               | (apply Exists.intro
                  refine ⟨fun w' hw' => ?_, ?_⟩
                  focus
                    obtain ⟨hc', hf'⟩ := bcell hw'
                    go_simp
                    try first
                      | rfl
                      | (with_reducible rfl)
                      | (with_reducible refine (xor_to _ _ _ s.sum z hS.out hZ.out hS'.out _).mono ?_; exact fun _ _ h => ⟨h.1, h.2 ▸ hw'⟩)
                  go_big_quiet_on)
             try simp only [Act.put, List.setIfInBounds_toArray, List.set_cons_zero, List.set_cons_succ]))
        refine wpQuiet_nil ?_
        intro V HV
        obtain ⟨hc1, hf1⟩ := bcell HV
        have sV := HV.size
        go_wp2_with fail
        obtain ⟨W2, hW2⟩ : ∃ U, U = V.setCell ⟨w.heap.size + 1, 1, none⟩ (.int .u64 S') := ⟨_, rfl⟩
        rw [← hW2]
        have y1 : w.heap.size < W1.heap.size := by omega
        have BW2 : Below w.heap.size w W2 := by rw [hW2]; exact (BW1.trans (HV.mono BW1.size)).setCell (by simp) _
        have sW2 : w.heap.size + 1 < W2.heap.size := by rw [hW2]; simp; omega
        replace RW1 : At3 W2 w.heap.size Sym.zero := by
          obtain ⟨q0, q1, q2, q3, q4, q5⟩ := RW1.out
          rw [hW2]; constructor <;> simp [World.cell?_setCell_far, *]
        have c0 : W2.cell? ⟨w.heap.size + 1, 0, none⟩ = some (.int .i64 M') := by rw [hW2]; simp [*, go_sem]
        have c1 : W2.cell? ⟨w.heap.size + 1, 1, none⟩ = some (.int .u64 S') := by rw [hW2]; simp [*, go_sem]
        have c2 : W2.cell? ⟨w.heap.size + 1, 2, none⟩ = some (.int .u64 K) := by rw [hW2]; simp [*, go_sem]
        have d0 : W2.frozen? ⟨w.heap.size + 1, 0, none⟩ = false := by rw [hW2]; simp [*, go_sem]
        have d1 : W2.frozen? ⟨w.heap.size + 1, 1, none⟩ = false := by rw [hW2]; simp [*, go_sem]
        have d2 : W2.frozen? ⟨w.heap.size + 1, 2, none⟩ = false := by rw [hW2]; simp [*, go_sem]
        have cc : W2.cell? ⟨b, off + k, none⟩ = some (.int .u64 Z) := by rw [hW2, World.cell?_setCell_far _ _ _ _ (by exact fun e => hbw e.symm), hc1 _ _ hb1]; exact cb
        have hb2 : b < W2.heap.size := by rw [hW2]; simp; omega
        replace hW2 := hide hW2
        replace RW1 := hide RW1
        clear b0 b1 b2 x0 x1 x2 hc1 hf1 sV y1 cb hb1
        have b0 := c0; have b1 := c1; have b2 := c2; have x0 := d0; have x1 := d1; have x2 := d2; have cb := cc; have hb1 := hb2; have RW2 := RW1
        clear c0 c1 c2 d0 d1 d2 cc hb2 RW1
        clear hcw
        refine wp_region_calm_tail (fun w' => Below W2.heap.size W2 w') 9 (by kernel_rfl) (by kernel_rfl) (below_drewN (Below.refl _ _) 1) ?_
        simp only [List.take_succ_cons, List.take_zero, List.drop_succ_cons, List.drop_zero]
        repeat (first
          | go_big_quiet_skip
          | (go_big_quiet_want
             first
               | (go_big_quiet_op; go_big_quiet_on)
               | (apply Exists.intro
                  refine ⟨fun w' hw' => ?_, ?_⟩
                  focus
                    obtain ⟨hc', hf'⟩ := bcell hw'
                    go_simp
                    try first
                      | rfl
                      | (with_reducible rfl)
                      | (with_reducible refine (ref_check_to _ _ z hZ.out hQ.out _).mono ?_; exact fun _ _ h => ⟨h.1, h.2 ▸ hw'⟩)
                      | (with_reducible refine (xor_to _ _ _ s.check (checkW z) hK.out hQ.out hK'.out _).mono ?_; exact fun _ _ h => ⟨h.1, h.2 ▸ hw'⟩)
                  go_big_quiet_on)
             try simp only [Act.put, List.setIfInBounds_toArray, List.set_cons_zero, List.set_cons_succ]))
        refine wpQuiet_nil ?_
        intro V HV
        obtain ⟨hc1, hf1⟩ := bcell HV
        have sV := HV.size
        go_wp2_with fail
        obtain ⟨W3, hW3⟩ : ∃ U, U = V.setCell ⟨w.heap.size + 1, 2, none⟩ (.int .u64 K') := ⟨_, rfl⟩
        rw [← hW3]
        have y1 : w.heap.size < W2.heap.size := by omega
        have BW3 : Below w.heap.size w W3 := by rw [hW3]; exact (BW2.trans (HV.mono BW2.size)).setCell (by simp) _
        have sW3 : w.heap.size + 1 < W3.heap.size := by rw [hW3]; simp; omega
        replace RW2 : At3 W3 w.heap.size Sym.zero := by
          obtain ⟨q0, q1, q2, q3, q4, q5⟩ := RW2.out
          rw [hW3]; constructor <;> simp [World.cell?_setCell_far, *]
        have c0 : W3.cell? ⟨w.heap.size + 1, 0, none⟩ = some (.int .i64 M') := by rw [hW3]; simp [*, go_sem]
        have c1 : W3.cell? ⟨w.heap.size + 1, 1, none⟩ = some (.int .u64 S') := by rw [hW3]; simp [*, go_sem]
        have c2 : W3.cell? ⟨w.heap.size + 1, 2, none⟩ = some (.int .u64 K') := by rw [hW3]; simp [*, go_sem]
        have d0 : W3.frozen? ⟨w.heap.size + 1, 0, none⟩ = false := by rw [hW3]; simp [*, go_sem]
        have d1 : W3.frozen? ⟨w.heap.size + 1, 1, none⟩ = false := by rw [hW3]; simp [*, go_sem]
        have d2 : W3.frozen? ⟨w.heap.size + 1, 2, none⟩ = false := by rw [hW3]; simp [*, go_sem]
        have cc : W3.cell? ⟨b, off + k, none⟩ = some (.int .u64 Z) := by rw [hW3, World.cell?_setCell_far _ _ _ _ (by exact fun e => hbw e.symm), hc1 _ _ hb1]; exact cb
        have hb2 : b < W3.heap.size := by rw [hW3]; simp; omega
        replace hW3 := hide hW3
        replace RW2 := hide RW2
        clear b0 b1 b2 x0 x1 x2 hc1 hf1 sV y1 cb hb1
        have b0 := c0; have b1 := c1; have b2 := c2; have x0 := d0; have x1 := d1; have x2 := d2; have cb := cc; have hb1 := hb2; have RW3 := RW2
        clear c0 c1 c2 d0 d1 d2 cc hb2 RW2
        go_wp2_with fail
        go_roundw
        case rel => exact ⟨k + 1, by omega, by go_num, BW3, sW3, RW3.out, (At3.of hM'.out hS'.out hK'.out b0 b1 b2 x0 x1 x2).ext (by rw [hst.out, if_pos (by simp)])⟩
        case measure => simp [intOf]; omega
    · obtain rfl : k = n := by omega
      have hfin := hide (show oneS (zs.take k) i = oneS zs i by rw [← hl.out, List.take_length])
      obtain ⟨a0, a1, a2, g0, g1, g2⟩ := R1
      obtain ⟨q0, q1, q2, q3, q4, q5⟩ := R0
      generalize oneS (zs.take k) i = s at *
      unfold numV at a1 a2 q1 q2
      generalize hM : s.many.toInt = M at *
      generalize hS : (s.sum.toNat : Int) = S at *
      generalize hK : (s.check.toNat : Int) = K at *
      replace hM := hide hM
      replace hS := hide hS
      replace hK := hide hK
      go_wp2_with fail
      refine bodyPost_ret (by simp [results, Try.results29, go_sem, *]; try rfl) rfl ?_
      exact ⟨by rw [← hfin.out]; unfold symV; rw [hM.out, hS.out, hK.out], ((BW.setCell (by simp) _).setCell (by simp) _).setCell (by simp) _⟩
end Go.Proofs.Ytabgenhednhagaa

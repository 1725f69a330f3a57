/-
  Chapter 34: the examples at the head of each law (awake): it returns true.
-/
import Derived.Test.YtabgenhednhagaaWalks10
namespace Go.Proofs.Ytabgenhednhagaa
open Go.RowKit Plain
set_option linter.unusedSimpArgs false
set_option linter.unusedVariables false
attribute [local go_sem ↓] Go.wp_at_zero Go.wp_at_succ

theorem nums_lit1 (w : World) (a : W) : Nums (w.alloc (.cells #[numV a] 22)) (some ⟨w.heap.size, 0, none⟩) 1 1 [a] :=
  ⟨rfl, Nat.le_refl _, by unfold maxLen; omega, (fun e => by simp at e), fun _ => ⟨w.heap.size, 0, rfl, by simp, fun j hj => by
    obtain rfl : j = 0 := by omega
    go_side⟩⟩
theorem nums_lit2 (w : World) (a b : W) : Nums (w.alloc (.cells #[numV a, numV b] 22)) (some ⟨w.heap.size, 0, none⟩) 2 2 [a, b] :=
  ⟨rfl, Nat.le_refl _, by unfold maxLen; omega, (fun e => by simp at e), fun _ => ⟨w.heap.size, 0, rfl, by simp, fun j hj => by
    match j, hj with
    | 0, _ => go_side
    | 1, _ => go_side⟩⟩
def ex1 : List Sym := symsL [5#64] 0 1
def ex2 : List Sym := bothL negOne (symsL [7#64, 5#64] 0 3) (symsL [7#64] 0 3)
theorem ex1_is : ex1 = [⟨1#64, 5#64, checkW 5#64⟩] := by decide +kernel
theorem ex1_peel : (peelL (bothL negOne ex1 ex1)).2 = ([], []) ∧ doneB (peelL (bothL negOne ex1 ex1)).1 = true := by decide +kernel
theorem ex2_peel : (peelL ex2).2 = ([5#64], []) ∧ doneB (peelL ex2).1 = true := by decide +kernel
theorem ex_in : inI 9#64 0 = true := by decide +kernel

theorem syms_get0 {w wr : World} {A : Option Addr} {n c : Nat} {s : Sym} (h : Syms w A n c [s]) (hB : Below w.heap.size w wr) : n = 1 ∧ ∃ b off, A = some ⟨b, off, none⟩ ∧ b < wr.heap.size ∧ wr.cell? ⟨b, off, none⟩ = some (.int .i64 s.many.toInt) ∧ wr.cell? ⟨b, off + 1, none⟩ = some (.int .u64 (s.sum.toNat : Int)) ∧ wr.cell? ⟨b, off + 2, none⟩ = some (.int .u64 (s.check.toNat : Int)) := by
  have hn : n = 1 := h.1.symm
  obtain ⟨b, off, e, hlt, c0, c1, c2⟩ := h.at_ hB (k := 0) (by omega)
  rw [Nat.zero_mul, Nat.add_zero] at c0 c1 c2
  exact ⟨hn, b, off, e, hlt, c0, c1, c2⟩
theorem numbers_to {w w' : World} {A B : Option Addr} {n m c d : Nat} {ss ts : List W} (h : Nums w A n c ss) (g : Nums w' B m d ts) (hB : Below w.heap.size w w') (b : Bool) (hb : decide (ss = ts) = b) : Calls Try.prog 20 #[.slice A n c, .slice B m d] w' fun e w'' => e = .returned (.bool b) ∧ Below w'.heap.size w' w'' := by
  subst hb; exact numbers_any (h.below hB) g
set_option maxRecDepth 4000 in
set_option maxHeartbeats 4000000 in
theorem awake_any (w : World) : Calls Try.prog 10 #[] w fun e w' => e = .returned (.bool true) ∧ Below w.heap.size w w' := by
  go_enter Try.func10, Try.ntmps10
  go_wp2_with fail
  refine (symbols_any (nums_lit1 w 5#64) 0 1).mono ?_
  rintro e u1 ⟨A1, n1, c1, rfl, S1, hb1⟩
  have B1 : Hid (Below w.heap.size w u1) := hide (st (by go_grown) hb1 (Below.refl _ _))
  have hn1 : n1 = 1 := S1.1.symm
  subst hn1
  replace S1 := hide S1
  clear hb1
  go_wp2_with fail
  refine (sub_any S1.out S1.out (by omega)).mono ?_
  rintro e u2 ⟨A2, n2, c2, rfl, S2, hb2⟩
  have B2 : Hid (Below w.heap.size w u2) := hide (st B1.out hb2 (Below.refl _ _))
  have T2 := hide (S1.out.below hb2)
  have hn2 : n2 ≤ 1000 := by have := S2.1; rw [bothL_len] at this; have := S1.out.1; omega
  replace S2 := hide S2
  clear hb2
  go_wp2_with fail
  refine (peel_any S2.out hn2).mono ?_
  rintro e u3 ⟨A3, n3, c3, A4, n4, c4, rfl, N3, N4, hb3⟩
  have hex : Hid ((peelL (bothL negOne ex1 ex1)).2 = ([], []) ∧ doneB (peelL (bothL negOne ex1 ex1)).1 = true) := hide ex1_peel
  rw [show symsL [5#64] 0 1 = ex1 from rfl] at N3 N4
  rw [show symsL [5#64] 0 1 = ex1 from rfl, hex.out.2]
  rw [hex.out.1] at N3 N4
  have hn3 : n3 = 0 := N3.1.symm
  have hn4 : n4 = 0 := N4.1.symm
  subst hn3 hn4
  have B3 : Hid (Below w.heap.size w u3) := hide (st B2.out hb3 (Below.refl _ _))
  have T3 := hide (T2.out.below hb3)
  clear hb3 N3 N4 S1 S2 B1 B2 T2 hn2 hex
  go_wp2_with fail
  refine (symbols_any (nums_lit2 u3 7#64 5#64) 0 3).mono ?_
  rintro e u4 ⟨A5, n5, c5, rfl, S5, hb4⟩
  have B4 : Hid (Below w.heap.size w u4) := hide (st B3.out (((by go_grown : Below u3.heap.size u3 (u3.alloc (.cells #[numV 7#64, numV 5#64] 22)))).trans (hb4.mono (by simp))) (Below.refl _ _))
  have T4 := hide (T3.out.below (((by go_grown : Below u3.heap.size u3 (u3.alloc (.cells #[numV 7#64, numV 5#64] 22)))).trans (hb4.mono (by simp))))
  replace S5 := hide S5
  clear hb4 T3 B3
  go_wp2_with fail
  refine (symbols_any (nums_lit1 u4 7#64) 0 3).mono ?_
  rintro e u5 ⟨A6, n6, c6, rfl, S6, hb5⟩
  have D5 : Below u4.heap.size u4 u5 := ((by go_grown : Below u4.heap.size u4 (u4.alloc (.cells #[numV 7#64] 22)))).trans (hb5.mono (by simp))
  have B5 : Hid (Below w.heap.size w u5) := hide (st B4.out D5 (Below.refl _ _))
  have T5 := hide (T4.out.below D5)
  have S5' := hide (S5.out.below D5)
  have hn5 : n5 ≤ 100000 := by have := S5.out.1; rw [show symsL [7#64, 5#64] 0 3 = symsL [7#64, 5#64] ((0 : Nat) : Int) ((3 : Nat) : Int) from rfl, symsL_yes _ (by omega)] at this; simp at this; omega
  replace S6 := hide S6
  clear hb5 D5 T4 B4 S5
  go_wp2_with fail
  refine (sub_any S5'.out S6.out hn5).mono ?_
  rintro e u6 ⟨A7, n7, c7, rfl, S7, hb6⟩
  have B6 : Hid (Below w.heap.size w u6) := hide (st B5.out hb6 (Below.refl _ _))
  have T6 := hide (T5.out.below hb6)
  rw [show bothL negOne (symsL [7#64, 5#64] 0 3) (symsL [7#64] 0 3) = ex2 from rfl] at S7
  have hn7 : n7 ≤ 1000 := by have h1 := S7.1; rw [show ex2.length = 3 by decide +kernel] at h1; omega
  replace S7 := hide S7
  clear hb6 T5 B5 S5' S6 hn5
  go_wp2_with fail
  refine (peel_any S7.out hn7).mono ?_
  rintro e u7 ⟨A8, n8, c8, A9, n9, c9, rfl, N8, N9, hb7⟩
  have hex : Hid ((peelL ex2).2 = ([5#64], []) ∧ doneB (peelL ex2).1 = true) := hide ex2_peel
  rw [hex.out.2]
  rw [hex.out.1] at N8 N9
  have hn8 : n8 = 1 := N8.1.symm
  have hn9 : n9 = 0 := N9.1.symm
  subst hn8 hn9
  have B7 : Hid (Below w.heap.size w u7) := hide (st B6.out hb7 (Below.refl _ _))
  have T7 := hide (T6.out.below hb7)
  replace N8 := hide N8
  clear hb7 T6 B6 S7 hn7 N9 hex
  rw [show symsL [5#64] 0 1 = [⟨1#64, 5#64, checkW 5#64⟩] from ex1_is] at T7
  obtain ⟨_, b, off, rfl, lb, g0, g1, g2⟩ := syms_get0 T7.out (Below.refl _ _)
  obtain ⟨Q, hQ⟩ : ∃ Z, Z = ((checkW 5#64).toNat : Int) := ⟨_, rfl⟩
  simp only [] at g0 g1 g2
  rw [← hQ] at g2
  have g0' : u7.cell? ⟨b, off, none⟩ = some (.int .i64 1) := g0
  have g1' : u7.cell? ⟨b, off + 1, none⟩ = some (.int .u64 5) := g1
  replace hQ := hide hQ
  clear g0 g1 T7
  have C0 := Below.refl u7.heap.size u7
  go_wp2_with fail
  go_region_held3 (fun w' => w'.cell? ⟨b, off, none⟩ = some (.int .i64 1) ∧ w'.cell? ⟨b, off + 1, none⟩ = some (.int .u64 5) ∧ w'.cell? ⟨b, off + 2, none⟩ = some (.int .u64 Q)) ((first | (simp [go_sem, *]; done) | (refine ⟨?_, ?_, ?_⟩ <;> (rw [World.cell?_alloc_lt _ _ _ (by show b < _; omega)]; simp [go_sem, *]; done))))
    (first
      | (go_at_call 13; refine (check_to _ _ 5#64 rfl hQ.out _).mono ?_; rintro e v1 ⟨rfl, hv1⟩; have C1 := st C0 hv1 (by go_grown); clear hv1 C0; obtain ⟨hc1, hf1⟩ := bcell C1; have sz1 := C1.size)
      | (go_at_call 20; refine (numbers_to (N8.out.below C1) (nums_lit1 v1 5#64) (by go_grown) true rfl).mono ?_; rintro e v2 ⟨rfl, hv2⟩; have C2 := st C1 hv2 (by go_grown); clear hv2 C1 hc1 hf1 sz1; obtain ⟨hc2, hf2⟩ := bcell C2; have sz2 := C2.size)
      | (go_at_call 11; refine (in_to _ _ 9#64 true rfl ex_in _).mono ?_; rintro e v3 ⟨rfl, hv3⟩; have C3 := st C2 hv3 (by go_grown); clear hv3 C2 hc2 hf2 sz2; obtain ⟨hc3, hf3⟩ := bcell C3; have sz3 := C3.size)
      | fail)
  go_wp2_with fail
  go_ret
  exact ⟨rfl, B7.out.trans (C3.mono B7.out.size)⟩
end Go.Proofs.Ytabgenhednhagaa

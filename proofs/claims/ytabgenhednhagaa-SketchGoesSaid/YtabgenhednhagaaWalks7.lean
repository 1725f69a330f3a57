/-
  Chapter 34: the closure of Peel that takes a number out of all symbols.
-/
import Derived.Test.YtabgenhednhagaaWalks6
namespace Go.Proofs.Ytabgenhednhagaa
open Go.RowKit Plain
set_option linter.unusedSimpArgs false
set_option linter.unusedVariables false
attribute [local go_sem ↓] Go.wp_at_zero Go.wp_at_succ

theorem grown_of_below {a w : World} (h : Below a.heap.size a w) (row : Option Nat) : a.grownBy w row := ⟨h.os, h.tape, h.output, h.size, fun i hi _ => h.block i hi⟩
theorem grown_then {a w w' : World} {row : Option Nat} (h : a.grownBy w row) (hb : Below w.heap.size w w') : a.grownBy w' row :=
  ⟨hb.os.trans h.os, hb.tape.trans h.tape, hb.output.trans h.output, Nat.le_trans h.size hb.size, fun i hi hne => (hb.block i (Nat.lt_of_lt_of_le hi h.size)).trans (h.block i hi hne)⟩
theorem grown_set {a w : World} {g : Nat} (h : a.grownBy w (some g)) (o : Nat) (u : Value) : a.grownBy (w.setCell ⟨g, o, none⟩ u) (some g) :=
  ⟨h.os, h.tape, h.output, by simpa [World.setCell] using h.size, fun i hi hne => (Below.heap_setCell w ⟨g, o, none⟩ u i (fun e => hne (by rw [e]))).trans (h.block i hi hne)⟩
theorem grown_cell {a w : World} {g b : Nat} (h : a.grownBy w (some g)) (hb : b < a.heap.size) (hne : b ≠ g) (o : Nat) : w.cell? ⟨b, o, none⟩ = a.cell? ⟨b, o, none⟩ :=
  World.cell?_of_block (h.block b hb (by simpa using hne))
theorem grown_frozen {a w : World} {g b : Nat} (h : a.grownBy w (some g)) (hb : b < a.heap.size) (hne : b ≠ g) (o : Nat) : w.frozen? ⟨b, o, none⟩ = a.frozen? ⟨b, o, none⟩ :=
  World.frozen?_of_block (h.block b hb (by simpa using hne))
def outF (F : Nat → Sym) (z y : W) (t : Nat) : Sym := if inI z (t : Int) then (F t).put z (-y) else F t
def halfO (F : Nat → Sym) (z y : W) (k t : Nat) : Sym := if t < k then outF F z y t else F t
theorem halfO_at (F : Nat → Sym) (z y : W) (k : Nat) : halfO F z y k k = F k := by unfold halfO; rw [if_neg (by omega)]
theorem halfO_skip (F : Nat → Sym) (z y : W) (k t : Nat) (h : inI z (k : Int) = false) : halfO F z y k t = halfO F z y (k + 1) t := by
  unfold halfO
  by_cases h1 : t < k
  · rw [if_pos h1, if_pos (by omega)]
  · rw [if_neg h1]
    by_cases h2 : t = k
    · subst h2; rw [if_pos (by omega)]; unfold outF; rw [h]; rfl
    · rw [if_neg (by omega)]
theorem halfO_put (F : Nat → Sym) (z y : W) (k t : Nat) (h : inI z (k : Int) = true) : (if t = k then (F k).put z (-y) else halfO F z y k t) = halfO F z y (k + 1) t := by
  unfold halfO
  by_cases h2 : t = k
  · subst h2; rw [if_pos rfl, if_pos (by omega)]; unfold outF; rw [h]; rfl
  · rw [if_neg h2]
    by_cases h1 : t < k
    · rw [if_pos h1, if_pos (by omega)]
    · rw [if_neg h1, if_neg (by omega)]
theorem halfO_end (F : Nat → Sym) (z y : W) (m t : Nat) (h : t < m) : halfO F z y m t = outF F z y t := if_pos h
theorem neg_i64 (a : W) : IntKind.i64.wrap (-a.toInt) = (-a).toInt := by rw [wrap_bmod, BitVec.toInt_neg]

set_option maxHeartbeats 2000000 in
theorem out_any {w : World} {bx g m c : Nat} {F : Nat → Sym} (z y : W) (hbx : w.cell? ⟨bx, 0, none⟩ = some (.slice (some ⟨g, 0, none⟩) m c)) (hO : OwnAt w g m F) (hg : g < w.heap.size) (hb : bx < w.heap.size) (hne : bx ≠ g) (hmc : m ≤ c) (hm : m ≤ 100000) (Z Y : Int) (hZ : Z = (z.toNat : Int)) (hY : Y = y.toInt) :
    Calls Try.prog 31 #[.int .u64 Z, .int .i64 Y, .pointer (some ⟨bx, 0, none⟩)] w fun e w' => e = .returned (.tuple #[]) ∧ OwnAt w' g m (outF F z y) ∧ w.grownBy w' (some g) := by
  replace hO := hide hO
  replace hZ := hide hZ
  obtain ⟨Y', hY'⟩ : ∃ Z, Z = (-y).toInt := ⟨_, rfl⟩
  have eneg : IntKind.i64.wrap (-Y) = Y' := by rw [hY, hY']; exact neg_i64 y
  replace hY := hide hY
  replace hY' := hide hY'
  go_enter Try.func31, Try.ntmps31
  go_wp2_with fail
  go_loopw [8] (fun i wr => ∃ k : Nat, k ≤ m ∧ i = .int .i64 (k : Int) ∧ Hid (OwnAt wr g m (halfO F z y k)) ∧ Hid (w.grownBy wr (some g))) (fun i _ => m - (intOf i).toNat)
  case atStart => exact ⟨0, Nat.zero_le _, rfl, hide (hO.out.ext (fun t _ => by unfold halfO; rw [if_neg (by omega)])), hide (grown_of_below (Below.refl _ _) _)⟩
  case round =>
    clear hO
    obtain ⟨k, hk, rfl, OA, GW⟩ := hrel
    have szw := GW.out.size
    have cbx : wr.cell? ⟨bx, 0, none⟩ = some (.slice (some ⟨g, 0, none⟩) m c) := by rw [grown_cell GW.out hb hne]; exact hbx
    by_cases hlt : k < m
    · have hk0 : (0 : Int) ≤ (k : Int) := by omega
      have hkm : (k : Int) < (m : Int) := by omega
      have lg : g < wr.heap.size := by omega
      have lb : bx < wr.heap.size := by omega
      cases hin : inI z (k : Int) with
      | false =>
        have ON := hide (OA.out.ext (fun t _ => halfO_skip F z y k t hin))
        replace hin := hide hin
        clear OA hbx
        go_wp2_with fail
        refine (in_to _ _ z false hZ.out hin.out _).mono ?_
        rintro e u1 ⟨rfl, hb1⟩
        have O2 := hide (ON.out.below lg hb1)
        have G2 := hide (grown_then GW.out hb1)
        clear hb1 ON GW
        go_wp2_with fail
        go_roundw
        case rel => exact ⟨k + 1, by omega, by go_num, O2, G2⟩
        case measure => simp [intOf]; omega
      | true =>
        have hput := hide (fun t => halfO_put F z y k t hin)
        replace hin := hide hin
        obtain ⟨q0, q1, q2, g0, g1, g2⟩ := OA.out k hlt
        rw [halfO_at] at q0 q1 q2
        obtain ⟨M, hM⟩ : ∃ Z, Z = (F k).many.toInt := ⟨_, rfl⟩
        obtain ⟨S, hS⟩ : ∃ Z, Z = ((F k).sum.toNat : Int) := ⟨_, rfl⟩
        obtain ⟨K, hK⟩ : ∃ Z, Z = ((F k).check.toNat : Int) := ⟨_, rfl⟩
        obtain ⟨M', hM'⟩ : ∃ Z, Z = ((F k).put z (-y)).many.toInt := ⟨_, rfl⟩
        obtain ⟨S', hS'⟩ : ∃ Z, Z = (((F k).put z (-y)).sum.toNat : Int) := ⟨_, rfl⟩
        obtain ⟨K', hK'⟩ : ∃ Z, Z = (((F k).put z (-y)).check.toNat : Int) := ⟨_, rfl⟩
        rw [← hM] at q0
        rw [← hS] at q1
        rw [← hK] at q2
        replace hM := hide hM
        replace hS := hide hS
        replace hK := hide hK
        replace hM' := hide hM'
        replace hS' := hide hS'
        replace hK' := hide hK'
        have A0 := hide (Away.refl wr g k)
        have X := hide (fun (V : World) (hV : Away wr V g k) c0 c1 c2 => OA.out.put hV lg hlt hM'.out hS'.out hK'.out c0 c1 c2)
        clear OA hbx
        go_wp2_with fail
        refine (in_to _ _ z true hZ.out hin.out _).mono ?_
        rintro e u1 ⟨rfl, hb1⟩
        obtain ⟨hc1, hf1⟩ := bcell hb1
        have sz1 := hb1.size
        have A1 := hide (A0.out.below hb1)
        have G1 := hide (grown_then GW.out hb1)
        have r : u1.cell? ⟨bx, 0, none⟩ = some (.slice (some ⟨g, 0, none⟩) m c) := by rw [hc1 _ _ lb]; exact cbx
        have q0' : u1.cell? ⟨g, k * 3, none⟩ = some (.int .i64 M) := by rw [hc1 _ _ lg]; exact q0
        have q1' : u1.cell? ⟨g, k * 3 + 1, none⟩ = some (.int .u64 S) := by rw [hc1 _ _ lg]; exact q1
        have q2' : u1.cell? ⟨g, k * 3 + 2, none⟩ = some (.int .u64 K) := by rw [hc1 _ _ lg]; exact q2
        have g0' : u1.frozen? ⟨g, k * 3, none⟩ = false := by rw [hf1 _ _ lg]; exact g0
        have g1' : u1.frozen? ⟨g, k * 3 + 1, none⟩ = false := by rw [hf1 _ _ lg]; exact g1
        have g2' : u1.frozen? ⟨g, k * 3 + 2, none⟩ = false := by rw [hf1 _ _ lg]; exact g2
        have lg1 : g < u1.heap.size := by omega
        have lb1 : bx < u1.heap.size := by omega
        clear hb1 A0 GW hc1 hf1 q0 q1 q2 g0 g1 g2 cbx lg lb
        go_wp2_with fail
        refine wp_region_calm_tail (fun w' => Below u1.heap.size u1 w') 11 (by kernel_rfl) (by kernel_rfl) (below_drewN (Below.refl _ _) 1) ?_
        simp only [List.take_succ_cons, List.take_zero, List.drop_succ_cons, List.drop_zero]
        repeat (first
          | go_big_quiet_skip
          | (go_big_quiet_want
             first
               | (go_big_quiet_op; go_big_quiet_on)
               | (apply Exists.intro
                  refine ⟨fun w' hw' => ?_, ?_⟩
                  focus
                    obtain ⟨hc', hf'⟩ := bcell hw'
                    go_simp
                    try first
                      | rfl
                      | (with_reducible rfl)
                      | (with_reducible refine (with_to _ _ _ _ _ _ _ _ (F k) z (-y) hM.out hS.out hK.out hZ.out hY'.out hM'.out hS'.out hK'.out _).mono ?_; exact fun _ _ h => ⟨h.1, st hw' h.2 (Below.refl _ _)⟩)
                  go_big_quiet_on)
             try simp only [Act.put, List.setIfInBounds_toArray, List.set_cons_zero, List.set_cons_succ]))
        refine wpQuiet_nil ?_
        intro V HV
        have A2 := hide (A1.out.below HV)
        have G2 := hide (grown_then G1.out HV)
        obtain ⟨hc2, hf2⟩ := bcell HV
        have sz2 := HV.size
        clear HV A1 G1
        go_wp2_with fail
        go_roundw
        case rel => exact ⟨k + 1, by omega, by go_num, hide ((X.out _ (((A2.out.set _ (.inl rfl) _).set _ (.inr (.inl rfl)) _).set _ (.inr (.inr rfl)) _) (by simp [*, go_sem]) (by simp [*, go_sem]) (by simp [*, go_sem])).ext (fun t _ => hput.out t)), hide (grown_set (grown_set (grown_set G2.out _ _) _ _) _ _)⟩
        case measure => simp [intOf]; omega
    · obtain rfl : k = m := by omega
      have ON := hide (OA.out.ext (fun t ht => halfO_end F z y k t ht))
      clear OA
      go_wp2_with fail
      go_end0
      exact ⟨rfl, ON.out, GW.out⟩
end Go.Proofs.Ytabgenhednhagaa

/-
  The walk over the law VectorAll (chapter 5): it returns true.
-/
import Derived.Test.YtgjhhnendondcaaAllPlain
import Derived.Test.YtgjhhnendondcaaLacks
import Derived.Deep.RegionHeld3
import Derived.Deep.DrawnRows
import Derived.BigQuiet
namespace Go.Proofs.Ytgjhhnendondcaa
open Go.RowKit
set_option linter.unusedSimpArgs false
set_option linter.unusedVariables false
attribute [local go_sem ↓] Go.wp_at_zero Go.wp_at_succ

theorem wp_region_calm {P : Program} {C : World → Prop} {id : Nat} {Q : Exit → Act → World → Prop} {a : Act} {w : World} {l : List Oper} (hm : P.follows .mixedOrders = true) (hB : Region.lexB .any l.toArray = true) (hC : C (w.drewN 1))
    (h : wpQuiet P l.toArray C (fun a' => ∀ w', C w' → Q .normal a' w') l a) : (Code.region id l.toArray true).wp P Q a w :=
  wp_region_quiet (C := C) hm hB hC (by simpa using h)
theorem wrap64 (z : Int) (h0 : 0 ≤ z) (h1 : z < 9223372036854775808) : IntKind.i64.wrap z = z := by
  have hm : z % 18446744073709551616 = z := by omega
  unfold IntKind.wrap
  simp [IntKind.bits, IntKind.signed, hm]
  omega
theorem aft_len (a : List Int) (h : a.length ≤ 100) : ∀ E : List (Int × Int), (aft a E).length ≤ 100
  | [] => h
  | p :: E => aft_len (setL a p.1 p.2) (Nat.le_trans (setL_len _ _ _) (by omega)) E
theorem aft_zero (a : List Int) (D : List (Int × Int)) : aft a (D.take 0) = a := rfl
set_option maxRecDepth 8000 in
set_option maxHeartbeats 8000000 in
theorem all_main {A B : Option Addr} {n c m d : Nat} {zs ys : List Int} {w : World} (hn : n ≤ 9223372036854775807) (hm : m ≤ 9223372036854775807)
    (VA : ∀ W, Below w.heap.size w W → Hid (Vec W A n c zs)) (VB : ∀ W, Below w.heap.size w W → Hid (Vec W B m d ys)) (C0 : Below w.heap.size w w)
    (hfew : (decide (n ≤ 100) && decide (m ≤ 100)) = true) (hr1 : Hid (rightB zs = true)) (hr2 : Hid (rightB ys = true)) (fb : Hid (∀ z ∈ ys, Fine z)) (hm1 : Hid (m ≤ 1000)) (lA : Hid (zs.length ≤ 100)) (lB : Hid (ys.length ≤ 100)) (hsum : ¬ (5000 : Int) < ys.sum) (hs : Hid (rightB ys = true → ys.sum ≤ 5000))
    (HF : Hid (∀ k, k < (lacksL zs ys).length → ∃ x s, DotFacts zs ys (lacksL zs ys) k x s)) (hle : Hid ((lacksL zs ys).length ≤ 5000)) (hend : Hid (eachB eqB (aft zs (lacksL zs ys)) (bothL maxI zs ys) = true)) (hcount : Hid ((bothL maxI zs ys).sum = zs.sum + ((lacksL zs ys).length : Int))) (fj : Hid (∀ z ∈ bothL maxI zs ys, Fine z)) (fa : Hid (∀ z ∈ zs, Fine z)) :
    Calls Try.prog 9 #[.slice A n c, .slice B m d] w fun e w' => e = .returned (.bool true) ∧ Below w.heap.size w w' := by
  go_enter Try.func9, Try.ntmps9
  go_wp2_with fail
  refine (bool_is (few_any _ _ _ _ _ _ hn hm _) hfew).mono ?_
  rintro e w1 ⟨rfl, rfl⟩
  go_wp2_with fail
  refine (bool_is (right_any (VA _ C0).out) hr1.out).mono ?_
  rintro e w1 ⟨rfl, rfl⟩
  go_wp2_with fail
  refine (bool_is (right_any (VB _ C0).out) hr2.out).mono ?_
  rintro e w1 ⟨rfl, rfl⟩
  go_wp2_with fail
  refine (total_any (VB _ C0).out fb.out hm1.out).mono ?_
  rintro e w1 ⟨rfl, rfl⟩
  go_wp2_with fail
  refine (lacks_any (VA _ C0).out (VB _ C0).out hs.out).mono ?_
  rintro e u1 ⟨A1, n1, c1, rfl, hnc, hcm, DV, hb1⟩
  have C1 := st C0 hb1 (by go_grown)
  have hD := DV.1
  generalize lacksL zs ys = D at *
  rw [hD] at HF hle hcount
  replace DV := hide DV
  replace hD := hide hD
  have hn1b : n1 ≤ 5000 := hle.out
  clear hb1 C0 hs
  go_wp2
  go_loopw [6, 7, 8, 35] (fun v _ _ i wr => ∃ k : Nat, k ≤ n1 ∧ i = .int .i64 k ∧ ∃ A2 n2 c2, v = .slice A2 n2 c2 ∧ Vec wr A2 n2 c2 (aft zs (D.take k)) ∧ Below u1.heap.size u1 wr) (fun _ _ _ i _ => n1 - (intOf i).toNat)
  case atStart => exact ⟨0, by omega, rfl, _, _, _, rfl, (VA _ C1).out, Below.refl _ _⟩
  case round =>
    obtain ⟨k, hk, rfl, A2, n2, c2, rfl, V2, hB⟩ := hrel
    by_cases hlt : k < n1
    · clear hend hcount fa fj
      obtain ⟨x, s, F⟩ := HF.out k hlt
      obtain ⟨b, off, rfl, hbl, hc⟩ := DV.out.2 (by omega)
      obtain ⟨e1, e2⟩ := hc k hlt
      rw [F.at_] at e1 e2
      have hbw : b < wr.heap.size := Nat.lt_of_lt_of_le hbl hB.size
      have g1 : wr.cell? ⟨b, off + k * 2, none⟩ = some (.int .i64 x) := (hB.cell (p := ⟨b, off + k * 2, none⟩) hbl).trans e1
      have g2 : wr.cell? ⟨b, off + k * 2 + 1, none⟩ = some (.int .i64 s) := (hB.cell (p := ⟨b, off + k * 2 + 1, none⟩) hbl).trans e2
      have hk0 : (0 : Int) ≤ (k : Int) := by omega
      have hk1 : (k : Int) < (n1 : Int) := by omega
      have hI1 : I64 x := by have := F.dev; unfold I64; omega
      have hI2 : I64 s := by have := F.seq; unfold I64; omega
      have hn2 : n2 ≤ 100000 := by have := V2.len; have := aft_len zs lA.out (D.take k); omega
      replace hI1 := hide hI1
      replace hI2 := hide hI2
      replace hn2 := hide hn2
      have ho := F.order
      obtain ⟨s1, s2⟩ := F.seq
      replace F := hide F
      have hw1 : IntKind.i64.wrap (s - 1) = s - 1 := wrap64 _ (by omega) (by omega)
      obtain ⟨W1, hW1⟩ : ∃ V, V = wr.alloc (.cells #[.int .i64 x, .int .i64 s] 25) := ⟨_, rfl⟩
      have BW : Below wr.heap.size wr W1 := by rw [hW1]; go_grown
      have k0 : W1.cell? ⟨wr.heap.size, 0, none⟩ = some (.int .i64 x) := by rw [hW1]; go_side
      have k1 : W1.cell? ⟨wr.heap.size, 1, none⟩ = some (.int .i64 s) := by rw [hW1]; go_side
      have lt0 : wr.heap.size < W1.heap.size := by rw [hW1]; simp
      have BU : Below u1.heap.size u1 W1 := hB.trans (BW.mono hB.size)
      have BA : Below w.heap.size w W1 := C1.trans (BU.mono C1.size)
      have UA := fun X (hX : Below W1.heap.size W1 X) => hide ((VA W1 BA).out.below hX)
      have UB := fun X (hX : Below W1.heap.size W1 X) => hide ((VB W1 BA).out.below hX)
      have UV := fun X (hX : Below W1.heap.size W1 X) => hide ((V2.below BW).below hX)
      have E0 := Below.refl W1.heap.size W1
      have hb1 : b < W1.heap.size := Nat.lt_trans hbw lt0
      replace hW1 := hide hW1
      clear V2 hB BA
      by_cases hk2 : k = 0
      · subst hk2
        simp only [Nat.zero_mul, Nat.add_zero] at g1 g2
        clear ho hc e1 e2
        go_wp2_with fail
        rw [← hW1.out]
        clear hW1
        refine wp_region_calm (C := fun w' => Below W1.heap.size W1 w') (by kernel_rfl) (by kernel_rfl) (below_drewN (Below.refl _ _) 1) ?_
        repeat (first
          | go_big_quiet_skip
          | (go_big_quiet_want
             apply Exists.intro
             refine ⟨fun w' hw' => ?_, ?_⟩
             focus
               obtain ⟨hc', hf'⟩ := bcell hw'
               go_simp
               try first
                 | rfl
                 | (with_reducible refine (bool_is (has_any x s hI1.out (UA _ hw').out) F.out.no).mono ?_; exact fun _ _ h => ⟨h.1, st hw' h.2 (Below.refl _ _)⟩)
                 | (with_reducible refine (bool_is (has_any x s hI1.out (UB _ hw').out) F.out.yes).mono ?_; exact fun _ _ h => ⟨h.1, st hw' h.2 (Below.refl _ _)⟩)
                 | (with_reducible refine (int_is (of_dev x hI1.out (UV _ hw').out) F.out.next).mono ?_; exact fun _ _ h => ⟨h.1, h.2 ▸ hw'⟩)
             go_big_quiet_on
             try simp only [Act.put, List.setIfInBounds_toArray, List.set_cons_zero, List.set_cons_succ]))
        refine wpQuiet_nil ?_
        intro y3 E2
        obtain ⟨hc2, hf2⟩ := bcell E2
        go_wp2_with fail
        refine (set_any x s hI2.out (UV _ E2).out hn2.out).mono ?_
        rintro e y4 ⟨A4, n4, c4, rfl, V4, hb4⟩
        have E3 := st E2 hb4 (by go_grown)
        rw [← F.out.step] at V4
        replace V4 := hide V4
        replace E3 := hide E3
        replace BU := hide BU
        clear hc2 hf2 UA UB UV
        go_wp2_with fail
        go_roundw
        case rel => exact ⟨_, (by omega), (by go_num), A4, n4, c4, rfl, V4.out, BU.out.trans (E3.out.mono BU.out.size)⟩
        case measure => simp only [intOf]; omega
      · obtain ⟨j, rfl⟩ : ∃ j, k = j + 1 := ⟨k - 1, by omega⟩
        obtain ⟨x', s', a1, a2, a3, a4, a5, a6⟩ := ho (by omega)
        obtain ⟨p1, p2⟩ := hc j (by omega)
        simp only [Nat.add_sub_cancel] at a1
        rw [a1] at p1 p2
        have p3 : W1.cell? ⟨b, off + j * 2, none⟩ = some (.int .i64 x') := (BU.cell (p := ⟨b, off + j * 2, none⟩) hbl).trans p1
        have p4 : W1.cell? ⟨b, off + j * 2 + 1, none⟩ = some (.int .i64 s') := (BU.cell (p := ⟨b, off + j * 2 + 1, none⟩) hbl).trans p2
        have hj0 : (0 : Int) ≤ (j : Int) := by omega
        have hj1 : (j : Int) < (n1 : Int) := by omega
        have hj2 : (((j + 1 : Nat) : Int) - 1) = (j : Int) := by omega
        have hj4 : IntKind.i64.wrap (j : Int) = (j : Int) := wrap64 _ (by omega) (by omega)
        have hj3 : (0 : Int) < ((j + 1 : Nat) : Int) := by omega
        have o1 : decide (x < x') = false := by apply decide_eq_false; omega
        clear hc p1 p2 e1 e2 a1
        by_cases he : x' = x
        · have o2 : decide (s ≤ s') = false := by apply decide_eq_false; omega
          have he' := he.symm
          subst he'
          clear a6
          go_wp2_with fail
          rw [← hW1.out]
          clear hW1
          refine wp_region_calm (C := fun w' => Below W1.heap.size W1 w') (by kernel_rfl) (by kernel_rfl) (below_drewN (Below.refl _ _) 1) ?_
          repeat (first
            | go_big_quiet_skip
            | (go_big_quiet_want
               apply Exists.intro
               refine ⟨fun w' hw' => ?_, ?_⟩
               focus
                 obtain ⟨hc', hf'⟩ := bcell hw'
                 go_simp
                 try first
                   | rfl
                   | (with_reducible refine (bool_is (has_any x s hI1.out (UA _ hw').out) F.out.no).mono ?_; exact fun _ _ h => ⟨h.1, st hw' h.2 (Below.refl _ _)⟩)
                   | (with_reducible refine (bool_is (has_any x s hI1.out (UB _ hw').out) F.out.yes).mono ?_; exact fun _ _ h => ⟨h.1, st hw' h.2 (Below.refl _ _)⟩)
                   | (with_reducible refine (int_is (of_dev x hI1.out (UV _ hw').out) F.out.next).mono ?_; exact fun _ _ h => ⟨h.1, h.2 ▸ hw'⟩)
               go_big_quiet_on
               try simp only [Act.put, List.setIfInBounds_toArray, List.set_cons_zero, List.set_cons_succ]))
          refine wpQuiet_nil ?_
          intro y3 E2
          obtain ⟨hc2, hf2⟩ := bcell E2
          go_wp2_with fail
          refine (set_any x s hI2.out (UV _ E2).out hn2.out).mono ?_
          rintro e y4 ⟨A4, n4, c4, rfl, V4, hb4⟩
          have E3 := st E2 hb4 (by go_grown)
          rw [← F.out.step] at V4
          replace V4 := hide V4
          replace E3 := hide E3
          replace BU := hide BU
          clear hc2 hf2 UA UB UV
          go_wp2_with fail
          go_roundw
          case rel => exact ⟨_, (by omega), (by go_num), A4, n4, c4, rfl, V4.out, BU.out.trans (E3.out.mono BU.out.size)⟩
          case measure => simp only [intOf]; omega
        · have o2 : decide (x = x') = false := by apply decide_eq_false; exact fun h => he h.symm
          have o4 : (x == x') = false := beq_eq_false_iff_ne.2 fun h => he h.symm
          have o5 : x ≠ x' := fun h => he h.symm
          clear a6
          go_wp2_with fail
          rw [← hW1.out]
          clear hW1
          refine wp_region_calm (C := fun w' => Below W1.heap.size W1 w') (by kernel_rfl) (by kernel_rfl) (below_drewN (Below.refl _ _) 1) ?_
          repeat (first
            | go_big_quiet_skip
            | (go_big_quiet_want
               apply Exists.intro
               refine ⟨fun w' hw' => ?_, ?_⟩
               focus
                 obtain ⟨hc', hf'⟩ := bcell hw'
                 go_simp
                 try first
                   | rfl
                   | (with_reducible refine (bool_is (has_any x s hI1.out (UA _ hw').out) F.out.no).mono ?_; exact fun _ _ h => ⟨h.1, st hw' h.2 (Below.refl _ _)⟩)
                   | (with_reducible refine (bool_is (has_any x s hI1.out (UB _ hw').out) F.out.yes).mono ?_; exact fun _ _ h => ⟨h.1, st hw' h.2 (Below.refl _ _)⟩)
                   | (with_reducible refine (int_is (of_dev x hI1.out (UV _ hw').out) F.out.next).mono ?_; exact fun _ _ h => ⟨h.1, h.2 ▸ hw'⟩)
               go_big_quiet_on
               try simp only [Act.put, List.setIfInBounds_toArray, List.set_cons_zero, List.set_cons_succ]))
          refine wpQuiet_nil ?_
          intro y3 E2
          obtain ⟨hc2, hf2⟩ := bcell E2
          go_wp2_with fail
          refine (set_any x s hI2.out (UV _ E2).out hn2.out).mono ?_
          rintro e y4 ⟨A4, n4, c4, rfl, V4, hb4⟩
          have E3 := st E2 hb4 (by go_grown)
          rw [← F.out.step] at V4
          replace V4 := hide V4
          replace E3 := hide E3
          replace BU := hide BU
          clear hc2 hf2 UA UB UV
          go_wp2_with fail
          go_roundw
          case rel => exact ⟨_, (by omega), (by go_num), A4, n4, c4, rfl, V4.out, BU.out.trans (E3.out.mono BU.out.size)⟩
          case measure => simp only [intOf]; omega
    · obtain rfl : k = n1 := by omega
      clear HF hk
      have hDt : D.take k = D := List.take_of_length_le (by rw [hD.out]; exact Nat.le_refl _)
      rw [hDt] at V2
      have C2 := hide (C1.trans (hB.mono C1.size))
      have hz := sum_fine zs fa.out
      have lz := lA.out
      obtain ⟨z1, z2⟩ := hz
      have z3 : zs.sum ≤ 104857600 := by omega
      have lj := bothL_le (op := maxI) lA.out lB.out
      replace lj := hide lj
      clear z2 lz hB hDt DV
      replace V2 := hide V2
      have hn0 := (VA _ (Below.refl _ _)).out.len
      have hn1' : n ≤ 1000 := by rw [← hn0]; exact Nat.le_trans lA.out (by omega)
      replace hn1' := hide hn1'
      clear hn0
      have D0 := C2.out
      clear C2
      go_wp2_with fail
      refine (alive_any _).mono ?_
      rintro e y1 ⟨rfl, hb2⟩
      have D1 := st D0 hb2 (by go_grown)
      replace V2 := hide (V2.out.stp hb2 (by go_grown))
      clear hb2 D0
      go_wp2_with fail
      refine (join_v (VA _ D1).out (VB _ D1).out lA.out lB.out).mono ?_
      rintro e y2 ⟨A4, n4, c4, rfl, V4, hb3⟩
      have D2 := st D1 hb3 (by go_grown)
      replace V2 := hide (V2.out.stp hb3 (by go_grown))
      replace V4 := hide V4
      clear hb3 D1
      go_wp2_with fail
      refine (bool_is (same_any V2.out V4.out) hend.out).mono ?_
      rintro e y3 ⟨rfl, rfl⟩
      clear V2 V4
      go_wp2_with fail
      refine (join_v (VA _ D2).out (VB _ D2).out lA.out lB.out).mono ?_
      rintro e y4 ⟨A5, n5, c5, rfl, V5, hb5⟩
      have D3 := st D2 hb5 (by go_grown)
      have hn5 : n5 ≤ 1000 := by rw [← V5.len]; exact Nat.le_trans lj.out (by omega)
      replace hn5 := hide hn5
      replace V5 := hide V5
      clear hb5 D2
      go_wp2_with fail
      refine (int_is (total_any V5.out fj.out hn5.out) hcount.out).mono ?_
      rintro e y5 ⟨rfl, rfl⟩
      go_wp2_with fail
      refine (total_any (VA _ D3).out fa.out hn1'.out).mono ?_
      rintro e y6 ⟨rfl, rfl⟩
      go_wp2_with fail
      go_ret
      exact ⟨rfl, D3⟩
set_option maxHeartbeats 4000000 in
theorem all_walk (A B : Option Addr) (n c m d : Nat) (zs ys : List Int) (w : World) (h : Vec w A n c zs) (g : Vec w B m d ys) :
    Calls Try.prog 9 #[.slice A n c, .slice B m d] w fun e w' => e = .returned (.bool true) ∧ Below w.heap.size w w' := by
  have hn := h.max
  have hm := g.max
  have hl1 := hide h.len
  have hl2 := hide g.len
  have VA := fun X (hX : Below w.heap.size w X) => hide (h.below hX)
  have VB := fun X (hX : Below w.heap.size w X) => hide (g.below hX)
  have C0 := Below.refl w.heap.size w
  clear h g
  cases hfew : (decide (n ≤ 100) && decide (m ≤ 100)) with
  | false =>
    go_enter Try.func9, Try.ntmps9
    go_wp2_with fail
    refine (bool_is (few_any _ _ _ _ _ _ hn hm _) hfew).mono ?_
    rintro e w1 ⟨rfl, rfl⟩
    go_wp2_with fail
    refine (alive_any _).mono ?_
    rintro e w2 ⟨rfl, hb⟩
    go_wp2_with fail
    go_ret
    exact ⟨rfl, hb⟩
  | true =>
    have hs0 : n ≤ 100 ∧ m ≤ 100 := by simpa using hfew
    cases hr1 : rightB zs with
    | false =>
      replace hr1 := hide hr1
      clear hs0
      go_enter Try.func9, Try.ntmps9
      go_wp2_with fail
      refine (bool_is (few_any _ _ _ _ _ _ hn hm _) hfew).mono ?_
      rintro e w1 ⟨rfl, rfl⟩
      go_wp2_with fail
      refine (bool_is (right_any (VA _ C0).out) hr1.out).mono ?_
      rintro e w1 ⟨rfl, rfl⟩
      go_wp2_with fail
      refine (alive_any _).mono ?_
      rintro e w2 ⟨rfl, hb⟩
      go_wp2_with fail
      go_ret
      exact ⟨rfl, hb⟩
    | true =>
      cases hr2 : rightB ys with
      | false =>
        replace hr1 := hide hr1
        replace hr2 := hide hr2
        clear hs0
        go_enter Try.func9, Try.ntmps9
        go_wp2_with fail
        refine (bool_is (few_any _ _ _ _ _ _ hn hm _) hfew).mono ?_
        rintro e w1 ⟨rfl, rfl⟩
        go_wp2_with fail
        refine (bool_is (right_any (VA _ C0).out) hr1.out).mono ?_
        rintro e w1 ⟨rfl, rfl⟩
        go_wp2_with fail
        refine (bool_is (right_any (VB _ C0).out) hr2.out).mono ?_
        rintro e w1 ⟨rfl, rfl⟩
        go_wp2_with fail
        refine (alive_any _).mono ?_
        rintro e w2 ⟨rfl, hb⟩
        go_wp2_with fail
        go_ret
        exact ⟨rfl, hb⟩
      | true =>
        have lA : zs.length ≤ 100 := by rw [hl1.out]; exact hs0.1
        have lB : ys.length ≤ 100 := by rw [hl2.out]; exact hs0.2
        have hm1 : m ≤ 1000 := by omega
        have fb := (fine_of_right hr2).2
        by_cases hsum : (5000 : Int) < ys.sum
        · replace hr1 := hide hr1
          replace hr2 := hide hr2
          replace fb := hide fb
          replace hm1 := hide hm1
          clear hs0 lA lB hl1 hl2
          go_enter Try.func9, Try.ntmps9
          go_wp2_with fail
          refine (bool_is (few_any _ _ _ _ _ _ hn hm _) hfew).mono ?_
          rintro e w1 ⟨rfl, rfl⟩
          go_wp2_with fail
          refine (bool_is (right_any (VA _ C0).out) hr1.out).mono ?_
          rintro e w1 ⟨rfl, rfl⟩
          go_wp2_with fail
          refine (bool_is (right_any (VB _ C0).out) hr2.out).mono ?_
          rintro e w1 ⟨rfl, rfl⟩
          go_wp2_with fail
          refine (total_any (VB _ C0).out fb.out hm1.out).mono ?_
          rintro e w1 ⟨rfl, rfl⟩
          go_wp2_with fail
          refine (alive_any _).mono ?_
          rintro e w2 ⟨rfl, hb⟩
          go_wp2_with fail
          go_ret
          exact ⟨rfl, hb⟩
        · have hs : rightB ys = true → ys.sum ≤ 5000 := fun _ => by omega
          exact all_main hn hm VA VB C0 hfew (hide hr1) (hide hr2) (hide fb) (hide hm1) (hide lA) (hide lB) hsum (hide hs) (hide fun k hk => dot_facts zs ys hr1 hr2 k hk) (hide (lacksL_len zs ys hs)) (hide (all_end zs ys hr1 hr2)) (hide (all_sum zs ys hr1 hr2)) (hide (join_fine zs ys hr1 hr2)) (hide (fine_of_right hr1).2)
end Go.Proofs.Ytgjhhnendondcaa

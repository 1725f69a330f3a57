/-
  The walk over the law VectorLattice (chapter 5): it returns true.
-/
import Derived.Test.YtgjhhnendondcaaMakesPlain
import Derived.Deep.RegionHeld3
import Derived.Deep.DrawnRows
namespace Go.Proofs.Ytgjhhnendondcaa
open Go.RowKit
set_option linter.unusedSimpArgs false
set_option linter.unusedVariables false
attribute [local go_sem ↓] Go.wp_at_zero Go.wp_at_succ

set_option maxHeartbeats 4000000 in
theorem lattice_main {A B X : Option Addr} {n c m d p q : Nat} {zs ys xs : List Int} {w : World} (hn : n ≤ 9223372036854775807) (hm : m ≤ 9223372036854775807) (hp : p ≤ 9223372036854775807)
    (VA : ∀ W, Below w.heap.size w W → Hid (Vec W A n c zs)) (VB : ∀ W, Below w.heap.size w W → Hid (Vec W B m d ys)) (VX : ∀ W, Below w.heap.size w W → Hid (Vec W X p q xs)) (C0 : Below w.heap.size w w)
    (hfew : (decide (n ≤ 100) && decide (m ≤ 100)) = true) (hp1 : ¬ (100 : Int) < (p : Int)) (lA : Hid (zs.length ≤ 100)) (lB : Hid (ys.length ≤ 100)) (lX : Hid (xs.length ≤ 100)) (hr1 : Hid (rightB zs = true)) (hr2 : Hid (rightB ys = true)) (hr3 : Hid (rightB xs = true)) :
    Calls Try.prog 6 #[.slice A n c, .slice B m d, .slice X p q] w fun e w' => e = .returned (.bool true) ∧ Below w.heap.size w w' := by
  go_enter Try.func6, Try.ntmps6
  go_wp2_with fail
  refine (bool_is (few_any _ _ _ _ _ _ hn hm _) hfew).mono ?_
  rintro e w1 ⟨rfl, rfl⟩
  go_wp2_with fail
  refine (bool_is (right_any (VA _ C0).out) hr1.out).mono ?_
  rintro e w1 ⟨rfl, rfl⟩
  go_wp2_with fail
  refine (bool_is (right_any (VB _ C0).out) hr2.out).mono ?_
  rintro e w1 ⟨rfl, rfl⟩
  go_wp2_with fail
  refine (bool_is (right_any (VX _ C0).out) hr3.out).mono ?_
  rintro e w1 ⟨rfl, rfl⟩
  go_wp2_with fail
  refine (alive_any _).mono ?_
  rintro e u1 ⟨rfl, hb1⟩
  have C1 := st C0 hb1 (by go_grown)
  clear hb1 C0
  go_wp2_with fail
  refine (join_v (VA _ C1).out (VB _ C1).out lA.out lB.out).mono ?_
  rintro e u2 ⟨A2, n2, c2, rfl, V1, hb2⟩
  have C2 := st C1 hb2 (by go_grown)
  replace V1 := hide V1
  clear hb2 C1
  go_wp2_with fail
  refine (join_v (VB _ C2).out (VA _ C2).out lB.out lA.out).mono ?_
  rintro e u3 ⟨A3, n3, c3, rfl, V2, hb3⟩
  have C3 := st C2 hb3 (by go_grown)
  replace V1 := hide (V1.out.stp hb3 (by go_grown))
  replace V2 := hide V2
  clear hb3 C2
  go_wp2_with fail
  refine (bool_is (same_any V1.out V2.out) (join_comm zs ys)).mono ?_
  rintro e u4 ⟨rfl, rfl⟩
  clear V1 V2
  go_wp2_with fail
  refine (meet_v (VA _ C3).out (VB _ C3).out lA.out lB.out).mono ?_
  rintro e u5 ⟨A5, n5, c5, rfl, V1, hb5⟩
  have C5 := st C3 hb5 (by go_grown)
  replace V1 := hide V1
  clear hb5 C3
  go_wp2_with fail
  refine (meet_v (VB _ C5).out (VA _ C5).out lB.out lA.out).mono ?_
  rintro e u6 ⟨A6, n6, c6, rfl, V2, hb6⟩
  have C6 := st C5 hb6 (by go_grown)
  replace V1 := hide (V1.out.stp hb6 (by go_grown))
  replace V2 := hide V2
  clear hb6 C5
  go_wp2_with fail
  refine (bool_is (same_any V1.out V2.out) (meet_comm zs ys)).mono ?_
  rintro e u7 ⟨rfl, rfl⟩
  clear V1 V2
  go_wp2_with fail
  refine (join_v (VA _ C6).out (VB _ C6).out lA.out lB.out).mono ?_
  rintro e u8 ⟨A8, n8, c8, rfl, V1, hb8⟩
  have C8 := st C6 hb8 (by go_grown)
  replace V1 := hide V1
  clear hb8 C6
  go_wp2_with fail
  refine (join_v V1.out (VX _ C8).out (bothL_le lA.out lB.out) lX.out).mono ?_
  rintro e u9 ⟨A9, n9, c9, rfl, V2, hb9⟩
  have C9 := st C8 hb9 (by go_grown)
  replace V1 := hide (V1.out.stp hb9 (by go_grown))
  replace V2 := hide V2
  clear hb9 C8
  go_wp2_with fail
  refine (join_v (VB _ C9).out (VX _ C9).out lB.out lX.out).mono ?_
  rintro e u10 ⟨A10, n10, c10, rfl, V3, hb10⟩
  have C10 := st C9 hb10 (by go_grown)
  replace V1 := hide (V1.out.stp hb10 (by go_grown))
  replace V2 := hide (V2.out.stp hb10 (by go_grown))
  replace V3 := hide V3
  clear hb10 C9
  go_wp2_with fail
  refine (join_v (VA _ C10).out V3.out lA.out (bothL_le lB.out lX.out)).mono ?_
  rintro e u11 ⟨A11, n11, c11, rfl, V4, hb11⟩
  have C11 := st C10 hb11 (by go_grown)
  replace V1 := hide (V1.out.stp hb11 (by go_grown))
  replace V2 := hide (V2.out.stp hb11 (by go_grown))
  replace V3 := hide (V3.out.stp hb11 (by go_grown))
  replace V4 := hide V4
  clear hb11 C10
  go_wp2_with fail
  refine (bool_is (same_any V2.out V4.out) (join_assoc zs ys xs)).mono ?_
  rintro e u12 ⟨rfl, rfl⟩
  clear V1 V2 V3 V4
  go_wp2_with fail
  refine (meet_v (VA _ C11).out (VB _ C11).out lA.out lB.out).mono ?_
  rintro e u13 ⟨A13, n13, c13, rfl, V1, hb13⟩
  have C13 := st C11 hb13 (by go_grown)
  replace V1 := hide V1
  clear hb13 C11
  go_wp2_with fail
  refine (meet_v V1.out (VX _ C13).out (bothL_le lA.out lB.out) lX.out).mono ?_
  rintro e u14 ⟨A14, n14, c14, rfl, V2, hb14⟩
  have C14 := st C13 hb14 (by go_grown)
  replace V1 := hide (V1.out.stp hb14 (by go_grown))
  replace V2 := hide V2
  clear hb14 C13
  go_wp2_with fail
  refine (meet_v (VB _ C14).out (VX _ C14).out lB.out lX.out).mono ?_
  rintro e u15 ⟨A15, n15, c15, rfl, V3, hb15⟩
  have C15 := st C14 hb15 (by go_grown)
  replace V1 := hide (V1.out.stp hb15 (by go_grown))
  replace V2 := hide (V2.out.stp hb15 (by go_grown))
  replace V3 := hide V3
  clear hb15 C14
  go_wp2_with fail
  refine (meet_v (VA _ C15).out V3.out lA.out (bothL_le lB.out lX.out)).mono ?_
  rintro e u16 ⟨A16, n16, c16, rfl, V4, hb16⟩
  have C16 := st C15 hb16 (by go_grown)
  replace V1 := hide (V1.out.stp hb16 (by go_grown))
  replace V2 := hide (V2.out.stp hb16 (by go_grown))
  replace V3 := hide (V3.out.stp hb16 (by go_grown))
  replace V4 := hide V4
  clear hb16 C15
  go_wp2_with fail
  refine (bool_is (same_any V2.out V4.out) (meet_assoc zs ys xs)).mono ?_
  rintro e u17 ⟨rfl, rfl⟩
  clear V1 V2 V3 V4
  go_wp2_with fail
  refine (meet_v (VA _ C16).out (VB _ C16).out lA.out lB.out).mono ?_
  rintro e u18 ⟨A18, n18, c18, rfl, V1, hb18⟩
  have C18 := st C16 hb18 (by go_grown)
  replace V1 := hide V1
  clear hb18 C16
  go_wp2_with fail
  refine (join_v (VA _ C18).out V1.out lA.out (bothL_le lA.out lB.out)).mono ?_
  rintro e u19 ⟨A19, n19, c19, rfl, V2, hb19⟩
  have C19 := st C18 hb19 (by go_grown)
  replace V1 := hide (V1.out.stp hb19 (by go_grown))
  replace V2 := hide V2
  clear hb19 C18
  go_wp2_with fail
  refine (bool_is (same_any V2.out (VA _ C19).out) (join_meet zs ys)).mono ?_
  rintro e u20 ⟨rfl, rfl⟩
  clear V1 V2
  go_wp2_with fail
  refine (join_v (VA _ C19).out (VB _ C19).out lA.out lB.out).mono ?_
  rintro e u21 ⟨A21, n21, c21, rfl, V1, hb21⟩
  have C21 := st C19 hb21 (by go_grown)
  replace V1 := hide V1
  clear hb21 C19
  go_wp2_with fail
  refine (meet_v (VA _ C21).out V1.out lA.out (bothL_le lA.out lB.out)).mono ?_
  rintro e u22 ⟨A22, n22, c22, rfl, V2, hb22⟩
  have C22 := st C21 hb22 (by go_grown)
  replace V1 := hide (V1.out.stp hb22 (by go_grown))
  replace V2 := hide V2
  clear hb22 C21
  go_wp2_with fail
  refine (bool_is (same_any V2.out (VA _ C22).out) (meet_join zs ys)).mono ?_
  rintro e u23 ⟨rfl, rfl⟩
  clear V1 V2
  go_wp2_with fail
  refine (join_v (VB _ C22).out (VX _ C22).out lB.out lX.out).mono ?_
  rintro e u24 ⟨A24, n24, c24, rfl, V1, hb24⟩
  have C24 := st C22 hb24 (by go_grown)
  replace V1 := hide V1
  clear hb24 C22
  go_wp2_with fail
  refine (meet_v (VA _ C24).out V1.out lA.out (bothL_le lB.out lX.out)).mono ?_
  rintro e u25 ⟨A25, n25, c25, rfl, V2, hb25⟩
  have C25 := st C24 hb25 (by go_grown)
  replace V1 := hide (V1.out.stp hb25 (by go_grown))
  replace V2 := hide V2
  clear hb25 C24
  go_wp2_with fail
  refine (meet_v (VA _ C25).out (VB _ C25).out lA.out lB.out).mono ?_
  rintro e u26 ⟨A26, n26, c26, rfl, V3, hb26⟩
  have C26 := st C25 hb26 (by go_grown)
  replace V1 := hide (V1.out.stp hb26 (by go_grown))
  replace V2 := hide (V2.out.stp hb26 (by go_grown))
  replace V3 := hide V3
  clear hb26 C25
  go_wp2_with fail
  refine (meet_v (VA _ C26).out (VX _ C26).out lA.out lX.out).mono ?_
  rintro e u27 ⟨A27, n27, c27, rfl, V4, hb27⟩
  have C27 := st C26 hb27 (by go_grown)
  replace V1 := hide (V1.out.stp hb27 (by go_grown))
  replace V2 := hide (V2.out.stp hb27 (by go_grown))
  replace V3 := hide (V3.out.stp hb27 (by go_grown))
  replace V4 := hide V4
  clear hb27 C26
  go_wp2_with fail
  refine (join_v V3.out V4.out (bothL_le lA.out lB.out) (bothL_le lA.out lX.out)).mono ?_
  rintro e u28 ⟨A28, n28, c28, rfl, V5, hb28⟩
  have C28 := st C27 hb28 (by go_grown)
  replace V1 := hide (V1.out.stp hb28 (by go_grown))
  replace V2 := hide (V2.out.stp hb28 (by go_grown))
  replace V3 := hide (V3.out.stp hb28 (by go_grown))
  replace V4 := hide (V4.out.stp hb28 (by go_grown))
  replace V5 := hide V5
  clear hb28 C27
  go_wp2_with fail
  refine (bool_is (same_any V2.out V5.out) (meet_dist zs ys xs)).mono ?_
  rintro e u29 ⟨rfl, rfl⟩
  clear V1 V2 V3 V4 V5
  go_wp2_with fail
  go_ret
  exact ⟨rfl, C28⟩
set_option maxHeartbeats 4000000 in
theorem lattice_walk (A B X : Option Addr) (n c m d p q : Nat) (zs ys xs : List Int) (w : World) (h : Vec w A n c zs) (g : Vec w B m d ys) (f : Vec w X p q xs) :
    Calls Try.prog 6 #[.slice A n c, .slice B m d, .slice X p q] w fun e w' => e = .returned (.bool true) ∧ Below w.heap.size w w' := by
  have hn := h.max
  have hm := g.max
  have hp := f.max
  have hl1 := hide h.len
  have hl2 := hide g.len
  have hl3 := hide f.len
  have VA := fun X (hX : Below w.heap.size w X) => hide (h.below hX)
  have VB := fun X (hX : Below w.heap.size w X) => hide (g.below hX)
  have VX := fun X (hX : Below w.heap.size w X) => hide (f.below hX)
  have C0 := Below.refl w.heap.size w
  clear h g f
  cases hfew : (decide (n ≤ 100) && decide (m ≤ 100)) with
  | false =>
    go_enter Try.func6, Try.ntmps6
    go_wp2_with fail
    refine (bool_is (few_any _ _ _ _ _ _ hn hm _) hfew).mono ?_
    rintro e w1 ⟨rfl, rfl⟩
    go_wp2_with fail
    refine (alive_any _).mono ?_
    rintro e w2 ⟨rfl, hb⟩
    go_wp2_with fail
    go_ret
    exact ⟨rfl, hb⟩
  | true =>
    have hs : n ≤ 100 ∧ m ≤ 100 := by simpa using hfew
    by_cases hp1 : (100 : Int) < (p : Int)
    · clear hs
      go_enter Try.func6, Try.ntmps6
      go_wp2_with fail
      refine (bool_is (few_any _ _ _ _ _ _ hn hm _) hfew).mono ?_
      rintro e w1 ⟨rfl, rfl⟩
      go_wp2_with fail
      refine (alive_any _).mono ?_
      rintro e w2 ⟨rfl, hb⟩
      go_wp2_with fail
      go_ret
      exact ⟨rfl, hb⟩
    · have lA : zs.length ≤ 100 := by rw [hl1.out]; exact hs.1
      have lB : ys.length ≤ 100 := by rw [hl2.out]; exact hs.2
      have lX : xs.length ≤ 100 := by rw [hl3.out]; omega
      replace lA := hide lA
      replace lB := hide lB
      replace lX := hide lX
      clear hs hl1 hl2 hl3
      cases hr1 : rightB zs with
      | false =>
        replace hr1 := hide hr1
        go_enter Try.func6, Try.ntmps6
        go_wp2_with fail
        refine (bool_is (few_any _ _ _ _ _ _ hn hm _) hfew).mono ?_
        rintro e w1 ⟨rfl, rfl⟩
        go_wp2_with fail
        refine (bool_is (right_any (VA _ C0).out) hr1.out).mono ?_
        rintro e w1 ⟨rfl, rfl⟩
        go_wp2_with fail
        refine (alive_any _).mono ?_
        rintro e w2 ⟨rfl, hb⟩
        go_wp2_with fail
        go_ret
        exact ⟨rfl, hb⟩
      | true =>
        replace hr1 := hide hr1
        cases hr2 : rightB ys with
        | false =>
          replace hr2 := hide hr2
          go_enter Try.func6, Try.ntmps6
          go_wp2_with fail
          refine (bool_is (few_any _ _ _ _ _ _ hn hm _) hfew).mono ?_
          rintro e w1 ⟨rfl, rfl⟩
          go_wp2_with fail
          refine (bool_is (right_any (VA _ C0).out) hr1.out).mono ?_
          rintro e w1 ⟨rfl, rfl⟩
          go_wp2_with fail
          refine (bool_is (right_any (VB _ C0).out) hr2.out).mono ?_
          rintro e w1 ⟨rfl, rfl⟩
          go_wp2_with fail
          refine (alive_any _).mono ?_
          rintro e w2 ⟨rfl, hb⟩
          go_wp2_with fail
          go_ret
          exact ⟨rfl, hb⟩
        | true =>
          replace hr2 := hide hr2
          cases hr3 : rightB xs with
          | false =>
            replace hr3 := hide hr3
            go_enter Try.func6, Try.ntmps6
            go_wp2_with fail
            refine (bool_is (few_any _ _ _ _ _ _ hn hm _) hfew).mono ?_
            rintro e w1 ⟨rfl, rfl⟩
            go_wp2_with fail
            refine (bool_is (right_any (VA _ C0).out) hr1.out).mono ?_
            rintro e w1 ⟨rfl, rfl⟩
            go_wp2_with fail
            refine (bool_is (right_any (VB _ C0).out) hr2.out).mono ?_
            rintro e w1 ⟨rfl, rfl⟩
            go_wp2_with fail
            refine (bool_is (right_any (VX _ C0).out) hr3.out).mono ?_
            rintro e w1 ⟨rfl, rfl⟩
            go_wp2_with fail
            refine (alive_any _).mono ?_
            rintro e w2 ⟨rfl, hb⟩
            go_wp2_with fail
            go_ret
            exact ⟨rfl, hb⟩
          | true =>
            replace hr3 := hide hr3
            exact lattice_main hn hm hp VA VB VX C0 hfew hp1 lA lB lX hr1 hr2 hr3
end Go.Proofs.Ytgjhhnendondcaa

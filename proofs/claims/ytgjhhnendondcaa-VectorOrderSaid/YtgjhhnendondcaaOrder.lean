/-
  The walk over the law VectorOrder (chapter 5): it returns true.
-/
import Derived.Test.YtgjhhnendondcaaMakesPlain
import Derived.Deep.RegionHeld3
import Derived.Deep.DrawnRows
namespace Go.Proofs.Ytgjhhnendondcaa
open Go.RowKit
set_option linter.unusedSimpArgs false
set_option linter.unusedVariables false
attribute [local go_sem ↓] Go.wp_at_zero Go.wp_at_succ

set_option maxHeartbeats 4000000 in
theorem order_no {A B X : Option Addr} {n c m d p q : Nat} {zs ys xs : List Int} {w : World} (hn : n ≤ 9223372036854775807) (hm : m ≤ 9223372036854775807) (hp : p ≤ 9223372036854775807)
    (VA : ∀ W, Below w.heap.size w W → Hid (Vec W A n c zs)) (VB : ∀ W, Below w.heap.size w W → Hid (Vec W B m d ys)) (VX : ∀ W, Below w.heap.size w W → Hid (Vec W X p q xs)) (C0 : Below w.heap.size w w)
    (hfew : (decide (n ≤ 100) && decide (m ≤ 100)) = true) (hp1 : ¬ (100 : Int) < (p : Int)) (lA : Hid (zs.length ≤ 100)) (lB : Hid (ys.length ≤ 100)) (lX : Hid (xs.length ≤ 100)) (hr1 : Hid (rightB zs = true)) (hr2 : Hid (rightB ys = true)) (hr3 : Hid (rightB xs = true)) (hu : Hid (eachB leB zs ys = false)) :
    Calls Try.prog 7 #[.slice A n c, .slice B m d, .slice X p q] w fun e w' => e = .returned (.bool true) ∧ Below w.heap.size w w' := by
  go_enter Try.func7, Try.ntmps7
  go_wp2_with fail
  refine (bool_is (few_any _ _ _ _ _ _ hn hm _) hfew).mono ?_
  rintro e w1 ⟨rfl, rfl⟩
  go_wp2_with fail
  refine (bool_is (right_any (VA _ C0).out) hr1.out).mono ?_
  rintro e w1 ⟨rfl, rfl⟩
  go_wp2_with fail
  refine (bool_is (right_any (VB _ C0).out) hr2.out).mono ?_
  rintro e w1 ⟨rfl, rfl⟩
  go_wp2_with fail
  refine (bool_is (right_any (VX _ C0).out) hr3.out).mono ?_
  rintro e w1 ⟨rfl, rfl⟩
  go_wp2_with fail
  refine (bool_is (upto_any (VA _ C0).out (VB _ C0).out) hu.out).mono ?_
  rintro e u1 ⟨rfl, rfl⟩
  go_wp2_with fail
  refine (alive_any _).mono ?_
  rintro e u2 ⟨rfl, hb2⟩
  have C2 := st C0 hb2 (by go_grown)
  clear hb2 C0
  go_wp2_with fail
  refine (join_v (VA _ C2).out (VB _ C2).out lA.out lB.out).mono ?_
  rintro e u3 ⟨A3, n3, c3, rfl, V1, hb3⟩
  have C3 := st C2 hb3 (by go_grown)
  replace V1 := hide V1
  clear hb3 C2
  go_wp2_with fail
  refine (bool_is (same_any V1.out (VB _ C3).out) ((up_join zs ys).symm.trans hu.out)).mono ?_
  rintro e u4 ⟨rfl, rfl⟩
  clear V1
  go_wp2_with fail
  refine (meet_v (VA _ C3).out (VB _ C3).out lA.out lB.out).mono ?_
  rintro e u5 ⟨A5, n5, c5, rfl, V1, hb5⟩
  have C5 := st C3 hb5 (by go_grown)
  replace V1 := hide V1
  clear hb5 C3
  go_wp2_with fail
  refine (bool_is (same_any V1.out (VA _ C5).out) ((up_meet zs ys).symm.trans hu.out)).mono ?_
  rintro e u6 ⟨rfl, rfl⟩
  clear V1
  go_wp2_with fail
  refine (bool_is (same_any (VA _ C5).out (VB _ C5).out) ((up_both zs ys).symm.trans (by rw [hu.out]))).mono ?_
  rintro e u7 ⟨rfl, rfl⟩
  go_wp2_with fail
  go_ret
  exact ⟨rfl, C5⟩
set_option maxHeartbeats 4000000 in
theorem order_tt {A B X : Option Addr} {n c m d p q : Nat} {zs ys xs : List Int} {w : World} (hn : n ≤ 9223372036854775807) (hm : m ≤ 9223372036854775807) (hp : p ≤ 9223372036854775807)
    (VA : ∀ W, Below w.heap.size w W → Hid (Vec W A n c zs)) (VB : ∀ W, Below w.heap.size w W → Hid (Vec W B m d ys)) (VX : ∀ W, Below w.heap.size w W → Hid (Vec W X p q xs)) (C0 : Below w.heap.size w w)
    (hfew : (decide (n ≤ 100) && decide (m ≤ 100)) = true) (hp1 : ¬ (100 : Int) < (p : Int)) (lA : Hid (zs.length ≤ 100)) (lB : Hid (ys.length ≤ 100)) (lX : Hid (xs.length ≤ 100)) (hr1 : Hid (rightB zs = true)) (hr2 : Hid (rightB ys = true)) (hr3 : Hid (rightB xs = true)) (hu : Hid (eachB leB zs ys = true)) (hq : Hid (eachB leB ys zs = true)) (hv : Hid (eachB leB ys xs = true)) :
    Calls Try.prog 7 #[.slice A n c, .slice B m d, .slice X p q] w fun e w' => e = .returned (.bool true) ∧ Below w.heap.size w w' := by
  go_enter Try.func7, Try.ntmps7
  go_wp2_with fail
  refine (bool_is (few_any _ _ _ _ _ _ hn hm _) hfew).mono ?_
  rintro e w1 ⟨rfl, rfl⟩
  go_wp2_with fail
  refine (bool_is (right_any (VA _ C0).out) hr1.out).mono ?_
  rintro e w1 ⟨rfl, rfl⟩
  go_wp2_with fail
  refine (bool_is (right_any (VB _ C0).out) hr2.out).mono ?_
  rintro e w1 ⟨rfl, rfl⟩
  go_wp2_with fail
  refine (bool_is (right_any (VX _ C0).out) hr3.out).mono ?_
  rintro e w1 ⟨rfl, rfl⟩
  go_wp2_with fail
  refine (bool_is (upto_any (VA _ C0).out (VB _ C0).out) hu.out).mono ?_
  rintro e u1 ⟨rfl, rfl⟩
  go_wp2_with fail
  refine (alive_any _).mono ?_
  rintro e u2 ⟨rfl, hb2⟩
  have C2 := st C0 hb2 (by go_grown)
  clear hb2 C0
  go_wp2_with fail
  refine (join_v (VA _ C2).out (VB _ C2).out lA.out lB.out).mono ?_
  rintro e u3 ⟨A3, n3, c3, rfl, V1, hb3⟩
  have C3 := st C2 hb3 (by go_grown)
  replace V1 := hide V1
  clear hb3 C2
  go_wp2_with fail
  refine (bool_is (same_any V1.out (VB _ C3).out) ((up_join zs ys).symm.trans hu.out)).mono ?_
  rintro e u4 ⟨rfl, rfl⟩
  clear V1
  go_wp2_with fail
  refine (meet_v (VA _ C3).out (VB _ C3).out lA.out lB.out).mono ?_
  rintro e u5 ⟨A5, n5, c5, rfl, V1, hb5⟩
  have C5 := st C3 hb5 (by go_grown)
  replace V1 := hide V1
  clear hb5 C3
  go_wp2_with fail
  refine (bool_is (same_any V1.out (VA _ C5).out) ((up_meet zs ys).symm.trans hu.out)).mono ?_
  rintro e u6 ⟨rfl, rfl⟩
  clear V1
  go_wp2_with fail
  refine (bool_is (upto_any (VB _ C5).out (VA _ C5).out) hq.out).mono ?_
  rintro e u7 ⟨rfl, rfl⟩
  go_wp2_with fail
  refine (bool_is (same_any (VA _ C5).out (VB _ C5).out) ((up_both zs ys).symm.trans (by rw [hu.out, hq.out]))).mono ?_
  rintro e u8 ⟨rfl, rfl⟩
  go_wp2_with fail
  refine (bool_is (upto_any (VB _ C5).out (VX _ C5).out) hv.out).mono ?_
  rintro e u9 ⟨rfl, rfl⟩
  go_wp2_with fail
  refine (bool_is (upto_any (VA _ C5).out (VX _ C5).out) (up_trans zs ys xs hu.out hv.out)).mono ?_
  rintro e u10 ⟨rfl, rfl⟩
  go_wp2_with fail
  go_ret
  exact ⟨rfl, C5⟩
set_option maxHeartbeats 4000000 in
theorem order_tf {A B X : Option Addr} {n c m d p q : Nat} {zs ys xs : List Int} {w : World} (hn : n ≤ 9223372036854775807) (hm : m ≤ 9223372036854775807) (hp : p ≤ 9223372036854775807)
    (VA : ∀ W, Below w.heap.size w W → Hid (Vec W A n c zs)) (VB : ∀ W, Below w.heap.size w W → Hid (Vec W B m d ys)) (VX : ∀ W, Below w.heap.size w W → Hid (Vec W X p q xs)) (C0 : Below w.heap.size w w)
    (hfew : (decide (n ≤ 100) && decide (m ≤ 100)) = true) (hp1 : ¬ (100 : Int) < (p : Int)) (lA : Hid (zs.length ≤ 100)) (lB : Hid (ys.length ≤ 100)) (lX : Hid (xs.length ≤ 100)) (hr1 : Hid (rightB zs = true)) (hr2 : Hid (rightB ys = true)) (hr3 : Hid (rightB xs = true)) (hu : Hid (eachB leB zs ys = true)) (hq : Hid (eachB leB ys zs = true)) (hv : Hid (eachB leB ys xs = false)) :
    Calls Try.prog 7 #[.slice A n c, .slice B m d, .slice X p q] w fun e w' => e = .returned (.bool true) ∧ Below w.heap.size w w' := by
  go_enter Try.func7, Try.ntmps7
  go_wp2_with fail
  refine (bool_is (few_any _ _ _ _ _ _ hn hm _) hfew).mono ?_
  rintro e w1 ⟨rfl, rfl⟩
  go_wp2_with fail
  refine (bool_is (right_any (VA _ C0).out) hr1.out).mono ?_
  rintro e w1 ⟨rfl, rfl⟩
  go_wp2_with fail
  refine (bool_is (right_any (VB _ C0).out) hr2.out).mono ?_
  rintro e w1 ⟨rfl, rfl⟩
  go_wp2_with fail
  refine (bool_is (right_any (VX _ C0).out) hr3.out).mono ?_
  rintro e w1 ⟨rfl, rfl⟩
  go_wp2_with fail
  refine (bool_is (upto_any (VA _ C0).out (VB _ C0).out) hu.out).mono ?_
  rintro e u1 ⟨rfl, rfl⟩
  go_wp2_with fail
  refine (alive_any _).mono ?_
  rintro e u2 ⟨rfl, hb2⟩
  have C2 := st C0 hb2 (by go_grown)
  clear hb2 C0
  go_wp2_with fail
  refine (join_v (VA _ C2).out (VB _ C2).out lA.out lB.out).mono ?_
  rintro e u3 ⟨A3, n3, c3, rfl, V1, hb3⟩
  have C3 := st C2 hb3 (by go_grown)
  replace V1 := hide V1
  clear hb3 C2
  go_wp2_with fail
  refine (bool_is (same_any V1.out (VB _ C3).out) ((up_join zs ys).symm.trans hu.out)).mono ?_
  rintro e u4 ⟨rfl, rfl⟩
  clear V1
  go_wp2_with fail
  refine (meet_v (VA _ C3).out (VB _ C3).out lA.out lB.out).mono ?_
  rintro e u5 ⟨A5, n5, c5, rfl, V1, hb5⟩
  have C5 := st C3 hb5 (by go_grown)
  replace V1 := hide V1
  clear hb5 C3
  go_wp2_with fail
  refine (bool_is (same_any V1.out (VA _ C5).out) ((up_meet zs ys).symm.trans hu.out)).mono ?_
  rintro e u6 ⟨rfl, rfl⟩
  clear V1
  go_wp2_with fail
  refine (bool_is (upto_any (VB _ C5).out (VA _ C5).out) hq.out).mono ?_
  rintro e u7 ⟨rfl, rfl⟩
  go_wp2_with fail
  refine (bool_is (same_any (VA _ C5).out (VB _ C5).out) ((up_both zs ys).symm.trans (by rw [hu.out, hq.out]))).mono ?_
  rintro e u8 ⟨rfl, rfl⟩
  go_wp2_with fail
  refine (bool_is (upto_any (VB _ C5).out (VX _ C5).out) hv.out).mono ?_
  rintro e u9 ⟨rfl, rfl⟩
  go_wp2_with fail
  go_ret
  exact ⟨rfl, C5⟩
set_option maxHeartbeats 4000000 in
theorem order_ft {A B X : Option Addr} {n c m d p q : Nat} {zs ys xs : List Int} {w : World} (hn : n ≤ 9223372036854775807) (hm : m ≤ 9223372036854775807) (hp : p ≤ 9223372036854775807)
    (VA : ∀ W, Below w.heap.size w W → Hid (Vec W A n c zs)) (VB : ∀ W, Below w.heap.size w W → Hid (Vec W B m d ys)) (VX : ∀ W, Below w.heap.size w W → Hid (Vec W X p q xs)) (C0 : Below w.heap.size w w)
    (hfew : (decide (n ≤ 100) && decide (m ≤ 100)) = true) (hp1 : ¬ (100 : Int) < (p : Int)) (lA : Hid (zs.length ≤ 100)) (lB : Hid (ys.length ≤ 100)) (lX : Hid (xs.length ≤ 100)) (hr1 : Hid (rightB zs = true)) (hr2 : Hid (rightB ys = true)) (hr3 : Hid (rightB xs = true)) (hu : Hid (eachB leB zs ys = true)) (hq : Hid (eachB leB ys zs = false)) (hv : Hid (eachB leB ys xs = true)) :
    Calls Try.prog 7 #[.slice A n c, .slice B m d, .slice X p q] w fun e w' => e = .returned (.bool true) ∧ Below w.heap.size w w' := by
  go_enter Try.func7, Try.ntmps7
  go_wp2_with fail
  refine (bool_is (few_any _ _ _ _ _ _ hn hm _) hfew).mono ?_
  rintro e w1 ⟨rfl, rfl⟩
  go_wp2_with fail
  refine (bool_is (right_any (VA _ C0).out) hr1.out).mono ?_
  rintro e w1 ⟨rfl, rfl⟩
  go_wp2_with fail
  refine (bool_is (right_any (VB _ C0).out) hr2.out).mono ?_
  rintro e w1 ⟨rfl, rfl⟩
  go_wp2_with fail
  refine (bool_is (right_any (VX _ C0).out) hr3.out).mono ?_
  rintro e w1 ⟨rfl, rfl⟩
  go_wp2_with fail
  refine (bool_is (upto_any (VA _ C0).out (VB _ C0).out) hu.out).mono ?_
  rintro e u1 ⟨rfl, rfl⟩
  go_wp2_with fail
  refine (alive_any _).mono ?_
  rintro e u2 ⟨rfl, hb2⟩
  have C2 := st C0 hb2 (by go_grown)
  clear hb2 C0
  go_wp2_with fail
  refine (join_v (VA _ C2).out (VB _ C2).out lA.out lB.out).mono ?_
  rintro e u3 ⟨A3, n3, c3, rfl, V1, hb3⟩
  have C3 := st C2 hb3 (by go_grown)
  replace V1 := hide V1
  clear hb3 C2
  go_wp2_with fail
  refine (bool_is (same_any V1.out (VB _ C3).out) ((up_join zs ys).symm.trans hu.out)).mono ?_
  rintro e u4 ⟨rfl, rfl⟩
  clear V1
  go_wp2_with fail
  refine (meet_v (VA _ C3).out (VB _ C3).out lA.out lB.out).mono ?_
  rintro e u5 ⟨A5, n5, c5, rfl, V1, hb5⟩
  have C5 := st C3 hb5 (by go_grown)
  replace V1 := hide V1
  clear hb5 C3
  go_wp2_with fail
  refine (bool_is (same_any V1.out (VA _ C5).out) ((up_meet zs ys).symm.trans hu.out)).mono ?_
  rintro e u6 ⟨rfl, rfl⟩
  clear V1
  go_wp2_with fail
  refine (bool_is (upto_any (VB _ C5).out (VA _ C5).out) hq.out).mono ?_
  rintro e u7 ⟨rfl, rfl⟩
  go_wp2_with fail
  refine (bool_is (same_any (VA _ C5).out (VB _ C5).out) ((up_both zs ys).symm.trans (by rw [hu.out, hq.out]))).mono ?_
  rintro e u8 ⟨rfl, rfl⟩
  go_wp2_with fail
  refine (bool_is (upto_any (VB _ C5).out (VX _ C5).out) hv.out).mono ?_
  rintro e u9 ⟨rfl, rfl⟩
  go_wp2_with fail
  refine (bool_is (upto_any (VA _ C5).out (VX _ C5).out) (up_trans zs ys xs hu.out hv.out)).mono ?_
  rintro e u10 ⟨rfl, rfl⟩
  go_wp2_with fail
  go_ret
  exact ⟨rfl, C5⟩
set_option maxHeartbeats 4000000 in
theorem order_ff {A B X : Option Addr} {n c m d p q : Nat} {zs ys xs : List Int} {w : World} (hn : n ≤ 9223372036854775807) (hm : m ≤ 9223372036854775807) (hp : p ≤ 9223372036854775807)
    (VA : ∀ W, Below w.heap.size w W → Hid (Vec W A n c zs)) (VB : ∀ W, Below w.heap.size w W → Hid (Vec W B m d ys)) (VX : ∀ W, Below w.heap.size w W → Hid (Vec W X p q xs)) (C0 : Below w.heap.size w w)
    (hfew : (decide (n ≤ 100) && decide (m ≤ 100)) = true) (hp1 : ¬ (100 : Int) < (p : Int)) (lA : Hid (zs.length ≤ 100)) (lB : Hid (ys.length ≤ 100)) (lX : Hid (xs.length ≤ 100)) (hr1 : Hid (rightB zs = true)) (hr2 : Hid (rightB ys = true)) (hr3 : Hid (rightB xs = true)) (hu : Hid (eachB leB zs ys = true)) (hq : Hid (eachB leB ys zs = false)) (hv : Hid (eachB leB ys xs = false)) :
    Calls Try.prog 7 #[.slice A n c, .slice B m d, .slice X p q] w fun e w' => e = .returned (.bool true) ∧ Below w.heap.size w w' := by
  go_enter Try.func7, Try.ntmps7
  go_wp2_with fail
  refine (bool_is (few_any _ _ _ _ _ _ hn hm _) hfew).mono ?_
  rintro e w1 ⟨rfl, rfl⟩
  go_wp2_with fail
  refine (bool_is (right_any (VA _ C0).out) hr1.out).mono ?_
  rintro e w1 ⟨rfl, rfl⟩
  go_wp2_with fail
  refine (bool_is (right_any (VB _ C0).out) hr2.out).mono ?_
  rintro e w1 ⟨rfl, rfl⟩
  go_wp2_with fail
  refine (bool_is (right_any (VX _ C0).out) hr3.out).mono ?_
  rintro e w1 ⟨rfl, rfl⟩
  go_wp2_with fail
  refine (bool_is (upto_any (VA _ C0).out (VB _ C0).out) hu.out).mono ?_
  rintro e u1 ⟨rfl, rfl⟩
  go_wp2_with fail
  refine (alive_any _).mono ?_
  rintro e u2 ⟨rfl, hb2⟩
  have C2 := st C0 hb2 (by go_grown)
  clear hb2 C0
  go_wp2_with fail
  refine (join_v (VA _ C2).out (VB _ C2).out lA.out lB.out).mono ?_
  rintro e u3 ⟨A3, n3, c3, rfl, V1, hb3⟩
  have C3 := st C2 hb3 (by go_grown)
  replace V1 := hide V1
  clear hb3 C2
  go_wp2_with fail
  refine (bool_is (same_any V1.out (VB _ C3).out) ((up_join zs ys).symm.trans hu.out)).mono ?_
  rintro e u4 ⟨rfl, rfl⟩
  clear V1
  go_wp2_with fail
  refine (meet_v (VA _ C3).out (VB _ C3).out lA.out lB.out).mono ?_
  rintro e u5 ⟨A5, n5, c5, rfl, V1, hb5⟩
  have C5 := st C3 hb5 (by go_grown)
  replace V1 := hide V1
  clear hb5 C3
  go_wp2_with fail
  refine (bool_is (same_any V1.out (VA _ C5).out) ((up_meet zs ys).symm.trans hu.out)).mono ?_
  rintro e u6 ⟨rfl, rfl⟩
  clear V1
  go_wp2_with fail
  refine (bool_is (upto_any (VB _ C5).out (VA _ C5).out) hq.out).mono ?_
  rintro e u7 ⟨rfl, rfl⟩
  go_wp2_with fail
  refine (bool_is (same_any (VA _ C5).out (VB _ C5).out) ((up_both zs ys).symm.trans (by rw [hu.out, hq.out]))).mono ?_
  rintro e u8 ⟨rfl, rfl⟩
  go_wp2_with fail
  refine (bool_is (upto_any (VB _ C5).out (VX _ C5).out) hv.out).mono ?_
  rintro e u9 ⟨rfl, rfl⟩
  go_wp2_with fail
  go_ret
  exact ⟨rfl, C5⟩
set_option maxHeartbeats 4000000 in
theorem order_walk (A B X : Option Addr) (n c m d p q : Nat) (zs ys xs : List Int) (w : World) (h : Vec w A n c zs) (g : Vec w B m d ys) (f : Vec w X p q xs) :
    Calls Try.prog 7 #[.slice A n c, .slice B m d, .slice X p q] w fun e w' => e = .returned (.bool true) ∧ Below w.heap.size w w' := by
  have hn := h.max
  have hm := g.max
  have hp := f.max
  have hl1 := hide h.len
  have hl2 := hide g.len
  have hl3 := hide f.len
  have VA := fun X (hX : Below w.heap.size w X) => hide (h.below hX)
  have VB := fun X (hX : Below w.heap.size w X) => hide (g.below hX)
  have VX := fun X (hX : Below w.heap.size w X) => hide (f.below hX)
  have C0 := Below.refl w.heap.size w
  clear h g f
  cases hfew : (decide (n ≤ 100) && decide (m ≤ 100)) with
  | false =>
    go_enter Try.func7, Try.ntmps7
    go_wp2_with fail
    refine (bool_is (few_any _ _ _ _ _ _ hn hm _) hfew).mono ?_
    rintro e w1 ⟨rfl, rfl⟩
    go_wp2_with fail
    refine (alive_any _).mono ?_
    rintro e w2 ⟨rfl, hb⟩
    go_wp2_with fail
    go_ret
    exact ⟨rfl, hb⟩
  | true =>
    have hs : n ≤ 100 ∧ m ≤ 100 := by simpa using hfew
    by_cases hp1 : (100 : Int) < (p : Int)
    · clear hs
      go_enter Try.func7, Try.ntmps7
      go_wp2_with fail
      refine (bool_is (few_any _ _ _ _ _ _ hn hm _) hfew).mono ?_
      rintro e w1 ⟨rfl, rfl⟩
      go_wp2_with fail
      refine (alive_any _).mono ?_
      rintro e w2 ⟨rfl, hb⟩
      go_wp2_with fail
      go_ret
      exact ⟨rfl, hb⟩
    · have lA : zs.length ≤ 100 := by rw [hl1.out]; exact hs.1
      have lB : ys.length ≤ 100 := by rw [hl2.out]; exact hs.2
      have lX : xs.length ≤ 100 := by rw [hl3.out]; omega
      replace lA := hide lA
      replace lB := hide lB
      replace lX := hide lX
      clear hs hl1 hl2 hl3
      cases hr1 : rightB zs with
      | false =>
        replace hr1 := hide hr1
        go_enter Try.func7, Try.ntmps7
        go_wp2_with fail
        refine (bool_is (few_any _ _ _ _ _ _ hn hm _) hfew).mono ?_
        rintro e w1 ⟨rfl, rfl⟩
        go_wp2_with fail
        refine (bool_is (right_any (VA _ C0).out) hr1.out).mono ?_
        rintro e w1 ⟨rfl, rfl⟩
        go_wp2_with fail
        refine (alive_any _).mono ?_
        rintro e w2 ⟨rfl, hb⟩
        go_wp2_with fail
        go_ret
        exact ⟨rfl, hb⟩
      | true =>
        replace hr1 := hide hr1
        cases hr2 : rightB ys with
        | false =>
          replace hr2 := hide hr2
          go_enter Try.func7, Try.ntmps7
          go_wp2_with fail
          refine (bool_is (few_any _ _ _ _ _ _ hn hm _) hfew).mono ?_
          rintro e w1 ⟨rfl, rfl⟩
          go_wp2_with fail
          refine (bool_is (right_any (VA _ C0).out) hr1.out).mono ?_
          rintro e w1 ⟨rfl, rfl⟩
          go_wp2_with fail
          refine (bool_is (right_any (VB _ C0).out) hr2.out).mono ?_
          rintro e w1 ⟨rfl, rfl⟩
          go_wp2_with fail
          refine (alive_any _).mono ?_
          rintro e w2 ⟨rfl, hb⟩
          go_wp2_with fail
          go_ret
          exact ⟨rfl, hb⟩
        | true =>
          replace hr2 := hide hr2
          cases hr3 : rightB xs with
          | false =>
            replace hr3 := hide hr3
            go_enter Try.func7, Try.ntmps7
            go_wp2_with fail
            refine (bool_is (few_any _ _ _ _ _ _ hn hm _) hfew).mono ?_
            rintro e w1 ⟨rfl, rfl⟩
            go_wp2_with fail
            refine (bool_is (right_any (VA _ C0).out) hr1.out).mono ?_
            rintro e w1 ⟨rfl, rfl⟩
            go_wp2_with fail
            refine (bool_is (right_any (VB _ C0).out) hr2.out).mono ?_
            rintro e w1 ⟨rfl, rfl⟩
            go_wp2_with fail
            refine (bool_is (right_any (VX _ C0).out) hr3.out).mono ?_
            rintro e w1 ⟨rfl, rfl⟩
            go_wp2_with fail
            refine (alive_any _).mono ?_
            rintro e w2 ⟨rfl, hb⟩
            go_wp2_with fail
            go_ret
            exact ⟨rfl, hb⟩
          | true =>
            replace hr3 := hide hr3
            exact by
              cases hu : eachB leB zs ys with
              | false => exact order_no hn hm hp VA VB VX C0 hfew hp1 lA lB lX hr1 hr2 hr3 (hide hu)
              | true =>
                cases hq : eachB leB ys zs with
                | false =>
                  cases hv : eachB leB ys xs with
                  | false => exact order_ff hn hm hp VA VB VX C0 hfew hp1 lA lB lX hr1 hr2 hr3 (hide hu) (hide hq) (hide hv)
                  | true => exact order_ft hn hm hp VA VB VX C0 hfew hp1 lA lB lX hr1 hr2 hr3 (hide hu) (hide hq) (hide hv)
                | true =>
                  cases hv : eachB leB ys xs with
                  | false => exact order_tf hn hm hp VA VB VX C0 hfew hp1 lA lB lX hr1 hr2 hr3 (hide hu) (hide hq) (hide hv)
                  | true => exact order_tt hn hm hp VA VB VX C0 hfew hp1 lA lB lX hr1 hr2 hr3 (hide hu) (hide hq) (hide hv)
end Go.Proofs.Ytgjhhnendondcaa

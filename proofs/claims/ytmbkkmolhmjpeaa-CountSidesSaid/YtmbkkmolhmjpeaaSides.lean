/-
  The walk over the law CountSides (chapter 8): what was added on two sides is added to both.
-/
import Derived.Test.YtmbkkmolhmjpeaaOrder
namespace Go.Proofs.Ytmbkkmolhmjpeaa
open Go.RowKit
set_option linter.unusedSimpArgs false
set_option linter.unusedVariables false

set_option maxHeartbeats 2000000 in
theorem sides_walk (c0 : Int) (hc : I32 c0) (A : Option Addr) (n cap : Nat) (zs : List Int) (B : Option Addr) (m dap : Nat) (ys : List Int) (w : World)
    (hr : RdI w w.heap.size .i32 A n zs) (hz : ∀ z ∈ zs, I32 z) (hmax : n ≤ 9223372036854775807) (gr : RdI w w.heap.size .i32 B m ys) (gz : ∀ z ∈ ys, I32 z) (gmax : m ≤ 9223372036854775807) :
    Calls Try.prog 6 #[.int .i32 c0, .slice A n cap, .slice B m dap] w fun e w' => e = .returned (.bool true) ∧ Below w.heap.size w w' := by
  by_cases h1 : 60 < n
  · have g1 : (60 : Int) < (n : Int) := by omega
    clear h1 hr hz gr gz
    go_enter Try.func6, Try.ntmps6
    go_wp2_with fail
    refine (awake_any _).mono ?_
    rintro e w1 ⟨rfl, hb1⟩
    go_wp2_with fail
    go_ret
    exact ⟨rfl, hb1⟩
  by_cases h2 : 60 < m
  · have g1 : ¬ (60 : Int) < (n : Int) := by omega
    have g2 : (60 : Int) < (m : Int) := by omega
    clear h1 h2 hr hz gr gz
    go_enter Try.func6, Try.ntmps6
    go_wp2_with fail
    refine (awake_any _).mono ?_
    rintro e w1 ⟨rfl, hb1⟩
    go_wp2_with fail
    go_ret
    exact ⟨rfl, hb1⟩
  have g1 : ¬ (60 : Int) < (n : Int) := by omega
  have g2 : ¬ (60 : Int) < (m : Int) := by omega
  have hn60 : n ≤ 60 := by omega
  have hm60 : m ≤ 60 := by omega
  have hl60 : zs.length ≤ 60 := by rw [hr.1]; exact hn60
  have gl60 : ys.length ≤ 60 := by rw [gr.1]; exact hm60
  obtain ⟨hc1, hc2⟩ := hc
  have s1 := sum_bound zs hz
  have s2 := sum_bound ys gz
  obtain ⟨a, ha⟩ : ∃ a, a = c0 + zs.sum := ⟨_, rfl⟩
  obtain ⟨b, hb⟩ : ∃ b, b = c0 + ys.sum := ⟨_, rfl⟩
  obtain ⟨t, ht⟩ : ∃ t, t = a + ys.sum := ⟨_, rfl⟩
  have hwc : IntKind.i64.wrap c0 = c0 := IntWalk.i64_in _ (by omega)
  have Fc := hide (fits_yes c0 (by omega) (by omega))
  have Fa := hide (fits_yes a (by omega) (by omega))
  have Fb := hide (fits_yes b (by omega) (by omega))
  have Ft := hide (fits_yes t (by omega) (by omega))
  have e1 : a + b - c0 = t := by omega
  have e2 : b + a - c0 = t := by omega
  have e3 : a + c0 - c0 = a := by omega
  have M1 := fun w => hide (merge_yes a b c0 t Fa.out Fb.out Fc.out Ft.out e1 w)
  have M2 := fun w => hide (merge_yes b a c0 t Fb.out Fa.out Fc.out Ft.out e2 w)
  have M3 := fun w => hide (merge_yes a c0 c0 a Fa.out Fc.out Fc.out Fa.out e3 w)
  have D1 := fun W (hB : Below w.heap.size w W) => hide (made_any c0 A n cap zs W ((hr.below hB).keep hB.size (fun _ _ _ => rfl)) hz (by omega) (fun k _ => take_fits c0 zs hz hl60 (by omega) k))
  have D2 := fun W (hB : Below w.heap.size w W) => hide (made_any c0 B m dap ys W ((gr.below hB).keep hB.size (fun _ _ _ => rfl)) gz (by omega) (fun k _ => take_fits c0 ys gz gl60 (by omega) k))
  have D3 := fun W (hB : Below w.heap.size w W) => hide (made_any a B m dap ys W ((gr.below hB).keep hB.size (fun _ _ _ => rfl)) gz (by omega) (fun k _ => take_fits a ys gz gl60 (by omega) k))
  rw [← ha] at D1
  rw [← hb] at D2
  rw [← ht] at D3
  clear ha hb ht e1 e2 e3 s1 s2 hr hz gr gz hl60 gl60 h1 h2 hmax gmax Fc Fa Fb Ft
  go_enter Try.func6, Try.ntmps6
  go_wp2_with fail
  refine (awake_any _).mono ?_
  rintro e w1 ⟨rfl, hb1⟩
  have B1 := hb1
  clear hb1
  go_wp2_with fail
  refine (refOf_any _ _).mono ?_
  rintro e w2 ⟨rfl, hb2⟩
  have B2 := B1.trans (hb2.mono B1.size)
  clear hb2 B1
  go_wp2_with fail
  obtain ⟨Yo, hYo⟩ : ∃ V, V = w2.alloc (.cells #[.int .i64 2, .int .i64 1, .int .i64 c0, .string ⟨#[]⟩, .slice none 0 0] 26) := ⟨_, rfl⟩
  rw [← hYo]
  have No := Cel.new w2 2 1 c0
  rw [← hYo] at No
  have BYo : Below w.heap.size w Yo := by rw [hYo]; exact B2.alloc B2.size _
  clear hYo B2
  refine ((D1 _ BYo).out).mono ?_
  rintro e w3 ⟨rfl, hb3⟩
  have No' := No.call hb3
  clear No
  have B3 := BYo.trans (hb3.mono BYo.size)
  clear hb3 BYo
  have l0 := No'.lt
  have q0 := No'
  obtain ⟨x00, x01, x02, x03, x04, -, -, -, -, -⟩ := q0
  go_wp2_with fail
  clear x00 x01 x02 x03 x04 l0
  obtain ⟨Ya, hYa⟩ : ∃ V, V = w3.alloc (.cells #[.int .i64 2, .int .i64 1, .int .i64 a, .string ⟨#[]⟩, .slice none 0 0] 26) := ⟨_, rfl⟩
  rw [← hYa]
  have Na := Cel.new w3 2 1 a
  rw [← hYa] at Na
  have BYa : Below w.heap.size w Ya := by rw [hYa]; exact B3.alloc B3.size _
  have No'a := No'.alloc (.cells #[.int .i64 2, .int .i64 1, .int .i64 a, .string ⟨#[]⟩, .slice none 0 0] 26)
  rw [← hYa] at No'a
  clear No'
  clear hYa B3
  refine ((D2 _ BYa).out).mono ?_
  rintro e w4 ⟨rfl, hb4⟩
  have No'a' := No'a.call hb4
  clear No'a
  have Na' := Na.call hb4
  clear Na
  have B4 := BYa.trans (hb4.mono BYa.size)
  clear hb4 BYa
  have l1 := Na'.lt
  have q1 := Na'
  obtain ⟨x10, x11, x12, x13, x14, -, -, -, -, -⟩ := q1
  go_wp2_with fail
  clear x10 x11 x12 x13 x14 l1
  obtain ⟨Yb, hYb⟩ : ∃ V, V = w4.alloc (.cells #[.int .i64 2, .int .i64 1, .int .i64 b, .string ⟨#[]⟩, .slice none 0 0] 26) := ⟨_, rfl⟩
  rw [← hYb]
  have Nb := Cel.new w4 2 1 b
  rw [← hYb] at Nb
  have BYb : Below w.heap.size w Yb := by rw [hYb]; exact B4.alloc B4.size _
  have No'a'b := No'a'.alloc (.cells #[.int .i64 2, .int .i64 1, .int .i64 b, .string ⟨#[]⟩, .slice none 0 0] 26)
  rw [← hYb] at No'a'b
  clear No'a'
  have Na'b := Na'.alloc (.cells #[.int .i64 2, .int .i64 1, .int .i64 b, .string ⟨#[]⟩, .slice none 0 0] 26)
  rw [← hYb] at Na'b
  clear Na'
  clear hYb B4
  refine ((D3 _ BYb).out).mono ?_
  rintro e w5 ⟨rfl, hb5⟩
  have No'a'b' := No'a'b.call hb5
  clear No'a'b
  have Na'b' := Na'b.call hb5
  clear Na'b
  have Nb' := Nb.call hb5
  clear Nb
  have B5 := BYb.trans (hb5.mono BYb.size)
  clear hb5 BYb
  have l0 := No'a'b'.lt
  have q0 := No'a'b'
  obtain ⟨x00, x01, x02, x03, x04, -, -, -, -, -⟩ := q0
  have l1 := Na'b'.lt
  have q1 := Na'b'
  obtain ⟨x10, x11, x12, x13, x14, -, -, -, -, -⟩ := q1
  have l2 := Nb'.lt
  have q2 := Nb'
  obtain ⟨x20, x21, x22, x23, x24, -, -, -, -, -⟩ := q2
  go_wp2_with fail
  clear x00 x01 x02 x03 x04 x10 x11 x12 x13 x14 x20 x21 x22 x23 x24 l0 l1 l2
  obtain ⟨Yt, hYt⟩ : ∃ V, V = w5.alloc (.cells #[.int .i64 2, .int .i64 1, .int .i64 t, .string ⟨#[]⟩, .slice none 0 0] 26) := ⟨_, rfl⟩
  rw [← hYt]
  have Nt := Cel.new w5 2 1 t
  rw [← hYt] at Nt
  have BYt : Below w.heap.size w Yt := by rw [hYt]; exact B5.alloc B5.size _
  have No'a'b't := No'a'b'.alloc (.cells #[.int .i64 2, .int .i64 1, .int .i64 t, .string ⟨#[]⟩, .slice none 0 0] 26)
  rw [← hYt] at No'a'b't
  clear No'a'b'
  have Na'b't := Na'b'.alloc (.cells #[.int .i64 2, .int .i64 1, .int .i64 t, .string ⟨#[]⟩, .slice none 0 0] 26)
  rw [← hYt] at Na'b't
  clear Na'b'
  have Nb't := Nb'.alloc (.cells #[.int .i64 2, .int .i64 1, .int .i64 t, .string ⟨#[]⟩, .slice none 0 0] 26)
  rw [← hYt] at Nb't
  clear Nb'
  clear hYt B5
  refine ((M1 _).out).mono ?_
  rintro e w6 ⟨rfl, hb6⟩
  have No'a'b't' := No'a'b't.call hb6
  clear No'a'b't
  have Na'b't' := Na'b't.call hb6
  clear Na'b't
  have Nb't' := Nb't.call hb6
  clear Nb't
  have Nt' := Nt.call hb6
  clear Nt
  have B6 := BYt.trans (hb6.mono BYt.size)
  clear hb6 BYt
  have l0 := No'a'b't'.lt
  have q0 := No'a'b't'
  obtain ⟨x00, x01, x02, x03, x04, -, -, -, -, -⟩ := q0
  have l1 := Na'b't'.lt
  have q1 := Na'b't'
  obtain ⟨x10, x11, x12, x13, x14, -, -, -, -, -⟩ := q1
  have l2 := Nb't'.lt
  have q2 := Nb't'
  obtain ⟨x20, x21, x22, x23, x24, -, -, -, -, -⟩ := q2
  go_wp2_with fail
  clear x00 x01 x02 x03 x04 x10 x11 x12 x13 x14 x20 x21 x22 x23 x24 l0 l1 l2
  obtain ⟨Yx, hYx⟩ : ∃ V, V = w6.alloc (.cells #[.int .i64 2, .int .i64 1, .int .i64 t, .string ⟨#[]⟩, .slice none 0 0] 26) := ⟨_, rfl⟩
  rw [← hYx]
  have Nx := Cel.new w6 2 1 t
  rw [← hYx] at Nx
  have BYx : Below w.heap.size w Yx := by rw [hYx]; exact B6.alloc B6.size _
  have No'a'b't'x := No'a'b't'.alloc (.cells #[.int .i64 2, .int .i64 1, .int .i64 t, .string ⟨#[]⟩, .slice none 0 0] 26)
  rw [← hYx] at No'a'b't'x
  clear No'a'b't'
  have Na'b't'x := Na'b't'.alloc (.cells #[.int .i64 2, .int .i64 1, .int .i64 t, .string ⟨#[]⟩, .slice none 0 0] 26)
  rw [← hYx] at Na'b't'x
  clear Na'b't'
  have Nb't'x := Nb't'.alloc (.cells #[.int .i64 2, .int .i64 1, .int .i64 t, .string ⟨#[]⟩, .slice none 0 0] 26)
  rw [← hYx] at Nb't'x
  clear Nb't'
  have Nt'x := Nt'.alloc (.cells #[.int .i64 2, .int .i64 1, .int .i64 t, .string ⟨#[]⟩, .slice none 0 0] 26)
  rw [← hYx] at Nt'x
  clear Nt'
  clear hYx B6
  refine ((M2 _).out).mono ?_
  rintro e w7 ⟨rfl, hb7⟩
  have No'a'b't'x' := No'a'b't'x.call hb7
  clear No'a'b't'x
  have Na'b't'x' := Na'b't'x.call hb7
  clear Na'b't'x
  have Nb't'x' := Nb't'x.call hb7
  clear Nb't'x
  have Nt'x' := Nt'x.call hb7
  clear Nt'x
  have Nx' := Nx.call hb7
  clear Nx
  have B7 := BYx.trans (hb7.mono BYx.size)
  clear hb7 BYx
  have l0 := No'a'b't'x'.lt
  have q0 := No'a'b't'x'
  obtain ⟨x00, x01, x02, x03, x04, -, -, -, -, -⟩ := q0
  have l1 := Na'b't'x'.lt
  have q1 := Na'b't'x'
  obtain ⟨x10, x11, x12, x13, x14, -, -, -, -, -⟩ := q1
  go_wp2_with fail
  clear x00 x01 x02 x03 x04 x10 x11 x12 x13 x14 l0 l1
  obtain ⟨Yy, hYy⟩ : ∃ V, V = w7.alloc (.cells #[.int .i64 2, .int .i64 1, .int .i64 t, .string ⟨#[]⟩, .slice none 0 0] 26) := ⟨_, rfl⟩
  rw [← hYy]
  have Ny := Cel.new w7 2 1 t
  rw [← hYy] at Ny
  have BYy : Below w.heap.size w Yy := by rw [hYy]; exact B7.alloc B7.size _
  have No'a'b't'x'y := No'a'b't'x'.alloc (.cells #[.int .i64 2, .int .i64 1, .int .i64 t, .string ⟨#[]⟩, .slice none 0 0] 26)
  rw [← hYy] at No'a'b't'x'y
  clear No'a'b't'x'
  have Na'b't'x'y := Na'b't'x'.alloc (.cells #[.int .i64 2, .int .i64 1, .int .i64 t, .string ⟨#[]⟩, .slice none 0 0] 26)
  rw [← hYy] at Na'b't'x'y
  clear Na'b't'x'
  have Nb't'x'y := Nb't'x'.alloc (.cells #[.int .i64 2, .int .i64 1, .int .i64 t, .string ⟨#[]⟩, .slice none 0 0] 26)
  rw [← hYy] at Nb't'x'y
  clear Nb't'x'
  have Nt'x'y := Nt'x'.alloc (.cells #[.int .i64 2, .int .i64 1, .int .i64 t, .string ⟨#[]⟩, .slice none 0 0] 26)
  rw [← hYy] at Nt'x'y
  clear Nt'x'
  have Nx'y := Nx'.alloc (.cells #[.int .i64 2, .int .i64 1, .int .i64 t, .string ⟨#[]⟩, .slice none 0 0] 26)
  rw [← hYy] at Nx'y
  clear Nx'
  clear hYy B7
  refine ((M3 _).out).mono ?_
  rintro e w8 ⟨rfl, hb8⟩
  have No'a'b't'x'y' := No'a'b't'x'y.call hb8
  clear No'a'b't'x'y
  have Na'b't'x'y' := Na'b't'x'y.call hb8
  clear Na'b't'x'y
  have Nb't'x'y' := Nb't'x'y.call hb8
  clear Nb't'x'y
  have Nt'x'y' := Nt'x'y.call hb8
  clear Nt'x'y
  have Nx'y' := Nx'y.call hb8
  clear Nx'y
  have Ny' := Ny.call hb8
  clear Ny
  have B8 := BYy.trans (hb8.mono BYy.size)
  clear hb8 BYy
  have l3 := Nt'x'y'.lt
  have q3 := Nt'x'y'
  obtain ⟨x30, x31, x32, x33, x34, -, -, -, -, -⟩ := q3
  have l4 := Nx'y'.lt
  have q4 := Nx'y'
  obtain ⟨x40, x41, x42, x43, x44, -, -, -, -, -⟩ := q4
  go_wp2_with fail
  clear x30 x31 x32 x33 x34 x40 x41 x42 x43 x44 l3 l4
  obtain ⟨Yz, hYz⟩ : ∃ V, V = w8.alloc (.cells #[.int .i64 2, .int .i64 1, .int .i64 a, .string ⟨#[]⟩, .slice none 0 0] 26) := ⟨_, rfl⟩
  rw [← hYz]
  have Nz := Cel.new w8 2 1 a
  rw [← hYz] at Nz
  have BYz : Below w.heap.size w Yz := by rw [hYz]; exact B8.alloc B8.size _
  have No'a'b't'x'y'z := No'a'b't'x'y'.alloc (.cells #[.int .i64 2, .int .i64 1, .int .i64 a, .string ⟨#[]⟩, .slice none 0 0] 26)
  rw [← hYz] at No'a'b't'x'y'z
  clear No'a'b't'x'y'
  have Na'b't'x'y'z := Na'b't'x'y'.alloc (.cells #[.int .i64 2, .int .i64 1, .int .i64 a, .string ⟨#[]⟩, .slice none 0 0] 26)
  rw [← hYz] at Na'b't'x'y'z
  clear Na'b't'x'y'
  have Nb't'x'y'z := Nb't'x'y'.alloc (.cells #[.int .i64 2, .int .i64 1, .int .i64 a, .string ⟨#[]⟩, .slice none 0 0] 26)
  rw [← hYz] at Nb't'x'y'z
  clear Nb't'x'y'
  have Nt'x'y'z := Nt'x'y'.alloc (.cells #[.int .i64 2, .int .i64 1, .int .i64 a, .string ⟨#[]⟩, .slice none 0 0] 26)
  rw [← hYz] at Nt'x'y'z
  clear Nt'x'y'
  have Nx'y'z := Nx'y'.alloc (.cells #[.int .i64 2, .int .i64 1, .int .i64 a, .string ⟨#[]⟩, .slice none 0 0] 26)
  rw [← hYz] at Nx'y'z
  clear Nx'y'
  have Ny'z := Ny'.alloc (.cells #[.int .i64 2, .int .i64 1, .int .i64 a, .string ⟨#[]⟩, .slice none 0 0] 26)
  rw [← hYz] at Ny'z
  clear Ny'
  clear hYz B8
  refine (same_any _ _ _ _).mono ?_
  rintro e w9 ⟨rfl, hb9⟩
  have No'a'b't'x'y'z' := No'a'b't'x'y'z.call hb9
  clear No'a'b't'x'y'z
  have Na'b't'x'y'z' := Na'b't'x'y'z.call hb9
  clear Na'b't'x'y'z
  have Nb't'x'y'z' := Nb't'x'y'z.call hb9
  clear Nb't'x'y'z
  have Nt'x'y'z' := Nt'x'y'z.call hb9
  clear Nt'x'y'z
  have Nx'y'z' := Nx'y'z.call hb9
  clear Nx'y'z
  have Ny'z' := Ny'z.call hb9
  clear Ny'z
  have Nz' := Nz.call hb9
  clear Nz
  have B9 := BYz.trans (hb9.mono BYz.size)
  clear hb9 BYz
  have l3 := Nt'x'y'z'.lt
  have q3 := Nt'x'y'z'
  obtain ⟨x30, x31, x32, x33, x34, -, -, -, -, -⟩ := q3
  have l5 := Ny'z'.lt
  have q5 := Ny'z'
  obtain ⟨x50, x51, x52, x53, x54, -, -, -, -, -⟩ := q5
  go_wp2_with fail
  clear x30 x31 x32 x33 x34 x50 x51 x52 x53 x54 l3 l5
  refine (same_any _ _ _ _).mono ?_
  rintro e w10 ⟨rfl, hb10⟩
  have No'a'b't'x'y'z'' := No'a'b't'x'y'z'.call hb10
  clear No'a'b't'x'y'z'
  have Na'b't'x'y'z'' := Na'b't'x'y'z'.call hb10
  clear Na'b't'x'y'z'
  have Nb't'x'y'z'' := Nb't'x'y'z'.call hb10
  clear Nb't'x'y'z'
  have Nt'x'y'z'' := Nt'x'y'z'.call hb10
  clear Nt'x'y'z'
  have Nx'y'z'' := Nx'y'z'.call hb10
  clear Nx'y'z'
  have Ny'z'' := Ny'z'.call hb10
  clear Ny'z'
  have Nz'' := Nz'.call hb10
  clear Nz'
  have B10 := B9.trans (hb10.mono B9.size)
  clear hb10 B9
  have l1 := Na'b't'x'y'z''.lt
  have q1 := Na'b't'x'y'z''
  obtain ⟨x10, x11, x12, x13, x14, -, -, -, -, -⟩ := q1
  have l6 := Nz''.lt
  have q6 := Nz''
  obtain ⟨x60, x61, x62, x63, x64, -, -, -, -, -⟩ := q6
  go_wp2_with fail
  clear x10 x11 x12 x13 x14 x60 x61 x62 x63 x64 l1 l6
  refine (same_any _ _ _ _).mono ?_
  rintro e w11 ⟨rfl, hb11⟩
  have No'a'b't'x'y'z''' := No'a'b't'x'y'z''.call hb11
  clear No'a'b't'x'y'z''
  have Na'b't'x'y'z''' := Na'b't'x'y'z''.call hb11
  clear Na'b't'x'y'z''
  have Nb't'x'y'z''' := Nb't'x'y'z''.call hb11
  clear Nb't'x'y'z''
  have Nt'x'y'z''' := Nt'x'y'z''.call hb11
  clear Nt'x'y'z''
  have Nx'y'z''' := Nx'y'z''.call hb11
  clear Nx'y'z''
  have Ny'z''' := Ny'z''.call hb11
  clear Ny'z''
  have Nz''' := Nz''.call hb11
  clear Nz''
  have B11 := B10.trans (hb11.mono B10.size)
  clear hb11 B10
  go_wp2_with fail
  go_ret
  exact ⟨rfl, B11⟩
end Go.Proofs.Ytmbkkmolhmjpeaa

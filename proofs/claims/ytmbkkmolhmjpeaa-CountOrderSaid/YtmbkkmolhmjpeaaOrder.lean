/-
  The walk over the law CountOrder (chapter 8): up to sixty numbers of 32 bits, added from either end, come to the same.
-/
import Derived.Test.YtmbkkmolhmjpeaaMade
import Derived.Laws.AppendOwn
import Derived.OwnWalk
import Derived.Deep.AppendLies
namespace Go.Proofs.Ytmbkkmolhmjpeaa
open Go.RowKit
set_option linter.unusedSimpArgs false
set_option linter.unusedVariables false

/-- A number of 32 bits. -/
def I32 (z : Int) : Prop := -2147483648 ≤ z ∧ z ≤ 2147483647
theorem sum_bound : ∀ (zs : List Int), (∀ z ∈ zs, I32 z) → -(2147483648 * (zs.length : Int)) ≤ zs.sum ∧ zs.sum ≤ 2147483648 * (zs.length : Int)
  | [], _ => by simp
  | z :: r, h => by
    have h1 := sum_bound r fun x hx => h x (List.mem_cons_of_mem _ hx)
    have h2 := h z (List.mem_cons_self ..)
    unfold I32 at h2
    simp only [List.sum_cons, List.length_cons]
    omega
theorem take_fits (c0 : Int) (zs : List Int) (hz : ∀ z ∈ zs, I32 z) (hn : zs.length ≤ 60) (hc : -268435456000 ≤ c0 ∧ c0 ≤ 268435456000) (k : Nat) : fitsB (c0 + (zs.take k).sum) = true := by
  have h := sum_bound (zs.take k) fun z hz' => hz z (List.mem_of_mem_take hz')
  have hl : (zs.take k).length ≤ 60 := Nat.le_trans (List.length_take_le' ..) hn
  exact fits_yes _ (by omega) (by omega)
theorem drop_sum (zs : List Int) (c : Nat) (hc : c < zs.length) : (zs.drop c).sum = (zs.drop (c + 1)).sum + zs[c]?.getD 0 := by
  rw [List.drop_eq_getElem_cons hc, List.sum_cons, List.getElem?_eq_getElem hc]
  simp only [Option.getD_some]
  omega
theorem drop_rev (zs : List Int) (c : Nat) (hc : c < zs.length) : (zs.drop (c + 1)).reverse.map (Value.int .i32) ++ [.int .i32 (zs[c]?.getD 0)] = (zs.drop c).reverse.map (Value.int .i32) := by
  rw [List.drop_eq_getElem_cons hc, List.reverse_cons, List.map_append, List.getElem?_eq_getElem hc]
  rfl
theorem sum_rev : ∀ (zs : List Int), zs.reverse.sum = zs.sum
  | [] => rfl
  | z :: r => by rw [List.reverse_cons, List.sum_append, sum_rev r]; simp; omega
/-- What was gathered from the end on, down to place k. -/
def revVals (zs : List Int) (k : Nat) : List Value := (zs.drop k).reverse.map (Value.int .i32)
theorem revVals_step (zs : List Int) (c : Nat) (hc : c < zs.length) : revVals zs (c + 1) ++ [.int .i32 (zs[c]?.getD 0)] = revVals zs c := drop_rev zs c hc
theorem info21 : (Try.prog.info? 21).map (fun i => (i.zero, i.size, i.bytes)) = some (some (.int .i32 0), 1, 4) := by kernel_rfl
theorem rdi_own {w : World} {base n : Nat} {e : TypeId} {k : IntKind} {A : Option Addr} {c : Nat} {zs : List Int} (h : w.ownsRow base e 1 (.slice A n c) n (zs.map (.int k))) : RdI w w.heap.size k A n zs := by
  refine ⟨by have := h.1; simpa using this, fun hn => ?_⟩
  obtain ⟨g, cap, hv, _, hlt⟩ := h.form hn
  have hA : A = some ⟨g, 0, none⟩ := by injection hv
  subst hA
  refine ⟨g, 0, rfl, hlt, fun j hj => ?_⟩
  have hl : zs.length = n := by have := h.1; simpa using this
  have hc := h.cells (g := g) rfl j (.int k (zs.getD j 0)) (by simp [List.getElem?_eq_getElem (show j < zs.length by omega)])
  rw [Go.WideShapes.add_plain] at hc
  exact hc
/-- A value that is a slice, and reads as the integers zs. -/
def ValI (w : World) (k : IntKind) (v : Value) (n : Nat) (zs : List Int) : Prop := ∃ A c, v = .slice A n c ∧ RdI w w.heap.size k A n zs
theorem vali_own {w : World} {base n : Nat} {e : TypeId} {k : IntKind} {v : Value} {zs : List Int} (h : w.ownsRow base e 1 v n (zs.map (.int k))) : ValI w k v n zs := by
  rcases Joins.ownsRow_forms h with ⟨rfl, rfl⟩ | ⟨g, cap, rfl⟩
  · exact ⟨none, 0, rfl, rdi_own h⟩
  · exact ⟨_, cap, rfl, rdi_own h⟩
theorem ValI.below {w w' : World} {k : IntKind} {v : Value} {n : Nat} {zs : List Int} (h : ValI w k v n zs) (hb : Below w.heap.size w w') : ValI w' k v n zs := by
  obtain ⟨A, c, e, hr⟩ := h
  exact ⟨A, c, e, (hr.below hb).keep hb.size fun _ _ _ => rfl⟩
theorem made_val (c0 : Int) (v : Value) (n : Nat) (zs : List Int) (w : World) (hv : ValI w .i32 v n zs) (hz : ∀ z ∈ zs, I32 z) (hn : n ≤ 1000)
    (hs : ∀ k, k ≤ n → fitsB (c0 + (zs.take k).sum) = true) :
    Calls Try.prog 20 #[.agg #[.int .i64 2, .int .i64 1, .int .i64 c0, .string ⟨#[]⟩, .slice none 0 0], v] w fun e w' =>
      e = .returned (.tuple #[.agg #[.int .i64 2, .int .i64 1, .int .i64 (c0 + zs.sum), .string ⟨#[]⟩, .slice none 0 0], .bool true]) ∧ Below w.heap.size w w' := by
  obtain ⟨A, c, rfl, hr⟩ := hv
  exact made_any c0 A n c zs w hr hz hn hs
set_option maxHeartbeats 1000000 in
theorem order_walk (A : Option Addr) (n cap : Nat) (zs : List Int) (w : World) (hr : RdI w w.heap.size .i32 A n zs) (hz : ∀ z ∈ zs, I32 z) (hmax : n ≤ 9223372036854775807) :
    Calls Try.prog 5 #[.slice A n cap] w fun e w' => e = .returned (.bool true) ∧ Below w.heap.size w w' := by
  by_cases hbig : 60 < n
  · have hbig' : (60 : Int) < (n : Int) := by omega
    clear hbig hr hz
    go_enter Try.func5, Try.ntmps5
    go_wp2_with fail
    refine (awake_any _).mono ?_
    rintro e w1 ⟨rfl, hb1⟩
    go_wp2_with fail
    go_ret
    exact ⟨rfl, hb1⟩
  · have hbig' : ¬ (60 : Int) < (n : Int) := by omega
    have hn60 : n ≤ 60 := by omega
    have hlen := hide hr.1
    replace hr := hide hr
    replace hz := hide hz
    clear hbig hmax
    obtain ⟨i0, hi0, hzz0, hzz1, hzz2⟩ := info_parts info21
    go_enter Try.func5, Try.ntmps5
    go_wp2_with fail
    refine (awake_any _).mono ?_
    rintro e w1 ⟨rfl, hb1⟩
    go_wp2_with fail
    go_loopw [4, 5, 6] (fun bk sm i wr => ∃ k : Nat, k ≤ n ∧ i = .int .i64 ((k : Int) - 1) ∧ sm = .int .i64 ((zs.drop k).sum) ∧ wr.ownsRow w.heap.size 21 1 bk (n - k) (revVals zs k) ∧ Below w.heap.size w wr) (fun _ _ i _ => (intOf i + 1).toNat)
    case atStart =>
      refine ⟨n, Nat.le_refl _, rfl, ?_, ?_, hb1⟩
      · rw [List.drop_eq_nil_of_le (by rw [hlen.out]; exact Nat.le_refl _)]; rfl
      · unfold revVals; rw [List.drop_eq_nil_of_le (by rw [hlen.out]; exact Nat.le_refl _), Nat.sub_self]; exact World.ownsRow_nil _ _ _ _
    case round =>
      obtain ⟨k, hk, rfl, rfl, hown, hB⟩ := hrel
      by_cases h0 : k = 0
      · subst h0
        have hlt : ((0 : Nat) : Int) - 1 < 0 := by omega
        have e0 : zs.drop 0 = zs := rfl
        have hown0 : ValI wr .i32 u4 n zs.reverse := vali_own hown
        replace hown0 := hide hown0
        have hzr := hide (fun z (hz' : z ∈ zs.reverse) => hz.out z (List.mem_reverse.1 hz'))
        rw [e0]
        clear hown e0
        have hsb := sum_bound zs hz.out
        have hl60 : zs.length ≤ 60 := by rw [hlen.out]; exact hn60
        have hf0 : fitsB (0 + zs.sum) = true := fits_yes _ (by omega) (by omega)
        have z1 : (0 : Int) + zs.sum = zs.sum := Int.zero_add _
        have z2 : (0 : Int) + zs.reverse.sum = zs.sum := by rw [sum_rev]; exact z1
        replace z1 := hide z1
        replace z2 := hide z2
        rw [z1.out] at hf0
        replace hf0 := hide hf0
        replace hl60 := hide hl60
        clear hsb
        go_wp2_with fail
        refine (new_any _).mono ?_
        rintro e w2 ⟨rfl, hb2⟩
        have B2 := hB.trans (hb2.mono hB.size)
        go_wp2_with fail
        refine (made_any 0 A n cap zs _ ((hr.out.below B2).keep B2.size (fun _ _ _ => rfl)) hz.out (by omega) (fun k _ => take_fits 0 zs hz.out hl60.out (by omega) k)).mono ?_
        rintro e w3 ⟨rfl, hb3⟩
        rw [z1.out]
        have B3 := B2.trans (hb3.mono B2.size)
        go_wp2_with fail
        have C3 := Cel.new w3 2 1 zs.sum
        obtain ⟨Y, hY⟩ : ∃ Y, Y = w3.alloc (.cells #[.int .i64 2, .int .i64 1, .int .i64 zs.sum, .string ⟨#[]⟩, .slice none 0 0] 26) := ⟨_, rfl⟩
        rw [← hY] at C3
        rw [← hY]
        have BY : Below w.heap.size w Y := by rw [hY]; exact B3.alloc B3.size _
        have V3 : Below wr.heap.size wr Y := by rw [hY]; exact ((st (Below.refl _ wr) hb2 (Below.refl _ _)).trans (hb3.mono hb2.size)).alloc (Nat.le_trans hb2.size hb3.size) _
        have VY := hown0.out.below V3
        clear hY B3 V3 hb2 hb3 B2 hown0
        refine (new_any _).mono ?_
        rintro e w4 ⟨rfl, hb4⟩
        have C4 := C3.call hb4
        have V4 := VY.below hb4
        have B4 := BY.trans (hb4.mono BY.size)
        clear C3 VY BY hb4
        go_wp2_with fail
        refine (made_val 0 u4 n zs.reverse _ V4 hzr.out (by omega) (fun k _ => take_fits 0 zs.reverse hzr.out (by rw [List.length_reverse]; exact hl60.out) (by omega) k)).mono ?_
        rintro e w5 ⟨rfl, hb5⟩
        rw [z2.out]
        have C5 := C4.call hb5
        have B5 := B4.trans (hb5.mono B4.size)
        have lt5 := C5.lt
        clear C4 V4 B4 hb5
        have D5 := C5.alloc (.cells #[.int .i64 2, .int .i64 1, .int .i64 zs.sum, .string ⟨#[]⟩, .slice none 0 0] 26)
        have BD : Below w.heap.size w (w5.alloc (.cells #[.int .i64 2, .int .i64 1, .int .i64 zs.sum, .string ⟨#[]⟩, .slice none 0 0] 26)) := B5.alloc B5.size _
        obtain ⟨x0, x1, x2, x3, x4, -, -, -, -, -⟩ := C5
        clear D5
        go_wp2_with fail
        refine (same_any _ _ _ _).mono ?_
        rintro e w6 ⟨rfl, hb6⟩
        have B6 := BD.trans (hb6.mono BD.size)
        obtain ⟨hc6, hf6⟩ := bcell hb6
        have hz6 := hb6.size
        have y0 : w6.cell? ⟨w3.heap.size, 0, none⟩ = some (.int .i64 2) := by rw [hc6 _ _ (by simp; omega)]; simp [go_sem, lt5, x0]
        have y1 : w6.cell? ⟨w3.heap.size, 1, none⟩ = some (.int .i64 1) := by rw [hc6 _ _ (by simp; omega)]; simp [go_sem, lt5, x1]
        have y2 : w6.cell? ⟨w3.heap.size, 2, none⟩ = some (.int .i64 zs.sum) := by rw [hc6 _ _ (by simp; omega)]; simp [go_sem, lt5, x2]
        have y3 : w6.cell? ⟨w3.heap.size, 3, none⟩ = some (.string ⟨#[]⟩) := by rw [hc6 _ _ (by simp; omega)]; simp [go_sem, lt5, x3]
        have y4 : w6.cell? ⟨w3.heap.size, 4, none⟩ = some (.slice none 0 0) := by rw [hc6 _ _ (by simp; omega)]; simp [go_sem, lt5, x4]
        clear hc6 hf6
        go_wp2_with fail
        refine (show_yes _ hf0.out _).mono ?_
        rintro e w7 ⟨rfl, hb7⟩
        go_wp2_with fail
        go_ret
        exact ⟨rfl, B6.trans (hb7.mono B6.size)⟩
      · obtain ⟨c, rfl⟩ : ∃ c, k = c + 1 := ⟨k - 1, by omega⟩
        have hc : ((c + 1 : Nat) : Int) - 1 = (c : Int) := by omega
        rw [hc]
        clear hc h0
        obtain ⟨b, off, rfl, hbB, hcl⟩ := hr.out.2 (by omega)
        have hcell : wr.cell? ⟨b, off + c, none⟩ = some (.int .i32 (zs.getD c 0)) := (hB.cell (p := ⟨b, off + c, none⟩) hbB).trans (hcl c (by omega))
        have hzc : I32 (zs[c]?.getD 0) := by
          rw [List.getElem?_eq_getElem (by rw [hlen.out]; omega)]; exact hz.out _ (List.getElem_mem _)
        have hsum := sum_bound (zs.drop (c + 1)) fun z hz' => hz.out z (List.mem_of_mem_drop hz')
        have hdl : (zs.drop (c + 1)).length ≤ 60 := by rw [List.length_drop, hlen.out]; omega
        obtain ⟨hz1, hz2⟩ := hzc
        have hs1 : -128849018880 ≤ (zs.drop (c + 1)).sum := by omega
        have hs2 : (zs.drop (c + 1)).sum ≤ 128849018880 := by omega
        have hd := hide (drop_sum zs c (by rw [hlen.out]; omega))
        have hv := hide (revVals_step zs c (by rw [hlen.out]; omega))
        clear hsum hdl
        replace hcl := hide hcl
        have hbase := hB.size
        go_wp2_with (at_builtin; refine wpList_append_own _ rfl _ _ 38 rfl w.heap.size 21 i0 (.int .i32 0) 1 4 Try.underlying38 hi0 hzz0 hzz1 hzz2 rfl (by decide) _ _ _ rfl (hown.alloc _) ⟨wr.heap.size, 0, none⟩ 1 1 [.int .i32 (zs[c]?.getD 0)] rfl rfl ?c1 ?c2 ?c3 ?c4 ?c5 ?_)
        case c1 => exact cell_one_new _ _ _
        case c2 => simp [Value.oneCell']
        case c3 => unfold maxLen; omega
        case c4 => omega
        case c5 => simp; omega
        intro v' w2 hown2 hg _
        have hB2 : Below w.heap.size w w2 := (hB.alloc hB.size _).grown hg (by simp; omega) (fun k hk => (hown.lt k hk).1)
        rw [hv.out] at hown2
        have he : n - (c + 1) + 1 = n - c := by omega
        rw [he] at hown2
        have hcell2 : w2.cell? ⟨b, off + c, none⟩ = some (.int .i32 (zs.getD c 0)) := (hB2.cell (p := ⟨b, off + c, none⟩) hbB).trans (hcl.out c (by omega))
        clear he hown hcell hg hbase hv
        go_wp2
        go_roundw
        case rel => exact ⟨c, by omega, rfl, by rw [hd.out], hown2, hB2⟩
        case measure => simp [intOf]
end Go.Proofs.Ytmbkkmolhmjpeaa

/-
  Chapter 31: New, by the program and by the reference.
-/
import Derived.Test.YtfmgmpelgnickaaRead
import Derived.Deep.RegionHeld3
import Derived.Deep.RegionLaw
import Derived.Deep.AppendLies
import Derived.Laws.MakeOwn
namespace Go.Proofs.Ytfmgmpelgnickaa
open Go.RowKit Plain
set_option linter.unusedSimpArgs false
set_option linter.unusedVariables false
attribute [local go_sem ↓] Go.wp_at_zero Go.wp_at_succ

def zeroP : Pg := List.replicate 256 0
def newE (k : Int) : Int := if 1 ≤ k ∧ k ≤ 4096 then 0 else 1
def newP (k : Int) : List Pg := if 1 ≤ k ∧ k ≤ 4096 then List.replicate k.toNat zeroP else []
/-- k pages of noughts, in blocks of their own, none of which is the row's. -/
def Zeros (w : World) (v : Value) (xs : List Value) (k : Nat) : Prop := xs.length = k ∧ ∀ j, j < k → ∃ g, xs.getD j nul = .slice (some ⟨g, 0, none⟩) 256 256 ∧ g < w.heap.size ∧ v.ownBlock ≠ some g ∧ ∀ i, i < 256 → w.cell? ⟨g, i, none⟩ = some (.int .u8 0)
theorem zeros_start (w : World) (v : Value) : Zeros w v [] 0 := ⟨rfl, fun j hj => by omega⟩
theorem Zeros.pg {w : World} {v : Value} {xs : List Value} {k : Nat} (h : Zeros w v xs k) {j : Nat} (hj : j < k) : PgV w (xs.getD j nul) zeroP := by
  obtain ⟨g, e, hg, _, hc⟩ := h.2 j hj
  exact ⟨some ⟨g, 0, none⟩, 256, 256, e, Byt.mk (by unfold zeroP; exact List.length_replicate) (Nat.le_refl _) (by unfold maxLen; omega) hg (fun i hi => by
    rw [Nat.zero_add, hc i hi]
    unfold zeroP
    rw [List.getD_eq_getElem?_getD, List.getElem?_replicate, if_pos hi]; rfl)⟩
theorem Zeros.step {w W w1 : World} {v : Value} {xs : List Value} {k g' cap E base : Nat} (h : Zeros w v xs k) (hown : w.ownsRow base E 1 v k xs)
    (hs : w.heap.size + 2 = W.heap.size) (hold : ∀ b i, b < w.heap.size → W.cell? ⟨b, i, none⟩ = w.cell? ⟨b, i, none⟩) (hnew : ∀ i, i < 256 → W.cell? ⟨w.heap.size, i, none⟩ = some (.int .u8 0))
    (hg : W.grownBy w1 v.ownBlock) (hat : v.ownBlock = some g' ∨ g' = w.heap.size + 2) : Zeros w1 (.slice (some ⟨g', 0, none⟩) (k + 1) cap) (xs ++ [.slice (some ⟨w.heap.size, 0, none⟩) 256 256]) (k + 1) := by
  have hlt := hown.lt
  have keep : ∀ g, g < W.heap.size → v.ownBlock ≠ some g → ∀ i, w1.cell? ⟨g, i, none⟩ = W.cell? ⟨g, i, none⟩ := fun g h1 h2 i => World.cell?_of_block (a := ⟨g, i, none⟩) (hg.block g h1 (fun e => h2 e.symm))
  refine ⟨by simp [h.1], fun j hj => ?_⟩
  rcases Nat.lt_or_ge j k with hlt2 | hge
  · obtain ⟨g, e, hgl, hne, hc⟩ := h.2 j hlt2
    have hl := h.1
    refine ⟨g, ?_, by have := hg.size; omega, ?_, fun i hi => ?_⟩
    · rw [List.getD_eq_getElem?_getD, List.getElem?_append_left (by omega), ← List.getD_eq_getElem?_getD]; exact e
    · intro q
      simp [Value.ownBlock] at q
      rcases hat with e2 | e2
      · exact hne (by rw [e2, q])
      · omega
    · rw [keep g (by omega) hne, hold g i hgl]; exact hc i hi
  · obtain rfl : j = k := by omega
    have hl := h.1
    have hne : v.ownBlock ≠ some w.heap.size := fun e => by have := (hlt _ e).2; omega
    refine ⟨w.heap.size, ?_, by have := hg.size; omega, ?_, fun i hi => ?_⟩
    · rw [List.getD_eq_getElem?_getD, List.getElem?_append_right (by omega), hl, Nat.sub_self]; rfl
    · intro q
      simp [Value.ownBlock] at q
      rcases hat with e2 | e2
      · have := (hlt _ e2).2; omega
      · omega
    · rw [keep _ (by omega) hne]; exact hnew i hi
theorem Zeros.set {w : World} {v : Value} {xs : List Value} {k : Nat} (h : Zeros w v xs k) {p : Addr} {A' : Option Addr} {n' c' : Nat} (hp : w.cell? p = some (.slice A' n' c')) (x : Value) : Zeros (w.setCell p x) v xs k := by
  refine ⟨h.1, fun j hj => ?_⟩
  obtain ⟨g, e, hg, hne, hc⟩ := h.2 j hj
  refine ⟨g, e, by simpa using hg, hne, fun i hi => ?_⟩
  rw [World.cell?_setCell_other _ _ _ _ (fun q => ?_)]
  · exact hc i hi
  · have := hc i hi
    rw [← q, hp] at this
    cases this
theorem zeros_pags {w : World} {base E k n c : Nat} {A : Option Addr} {xs : List Value} (h : Zeros w (.slice A n c) xs k) (ho : w.ownsRow base E 1 (.slice A n c) k xs) : n = k ∧ Pags w A n c (List.replicate k zeroP) ∧ Own w base A n := by
  obtain ⟨A', c', e, hr, hO⟩ := row_own ho
  injection e with e1 e2 e3
  subst e1 e2 e3
  refine ⟨rfl, ⟨by simp, xs, hr, fun j hj => ?_⟩, hO⟩
  rw [show (List.replicate n zeroP).getD j [] = zeroP by simp [List.getD_eq_getElem?_getD, List.getElem?_replicate, hj]]
  exact h.pg hj

def blank : Array Value := madeCells (Value.int .u8 0).cells (256 * 1)
theorem mk_blank (w : World) : (Instr.makeSlice 26 (.int .i64 256) (.int .i64 256)).run Try.prog w = .ok (.slice (some ⟨w.heap.size, 0, none⟩) 256 256) (w.alloc (.cells blank 5)) := by
  obtain ⟨i0, hi0, hz0, hz1, hz2⟩ := info_parts info5
  have hr := run_make (P := Try.prog) w 26 5 i0 (.int .u8 0) Try.underlying26 hi0 hz0 .i64 .i64 256 256 (by omega) (by omega) (by rw [hz2]; omega) (by omega)
  rw [hz1] at hr
  exact hr
theorem blank_size : blank.size = 256 := size_madeCells _ _
theorem blank_get {i : Nat} (hi : i < 256) : blank[i]? = some (.int .u8 0) := by
  have h : ∀ i, i < 256 → blank[i]? = some (.int .u8 0) := by
    intro i hi
    unfold blank madeCells
    simp [hi, Value.cells, Nat.mod_one]
  exact h i hi
theorem blank_cell (w : World) {i : Nat} (hi : i < 256) : (w.alloc (.cells blank 5)).cell? ⟨w.heap.size, i, none⟩ = some (.int .u8 0) := by
  rw [cell_of_row _ _ i blank 5 (0, 0) (heap_alloc_new w _)]; exact blank_get hi
theorem below_two {B : Nat} (w : World) (x : Value) (h : B ≤ w.heap.size) : Below B w (((w.alloc (.cells blank 5)).alloc (.cells #[x] 26)).drew) :=
  (((Below.refl B w).alloc h _).alloc (by simp; omega) _).drew
theorem old_two (w : World) (x : Value) {b i : Nat} (h : b < w.heap.size) : (((w.alloc (.cells blank 5)).alloc (.cells #[x] 26)).drew).cell? ⟨b, i, none⟩ = w.cell? ⟨b, i, none⟩ := (below_two w x (Nat.le_refl _)).cell (p := ⟨b, i, .none⟩) h
theorem old_two_f (w : World) (x : Value) {b i : Nat} (h : b < w.heap.size) : (((w.alloc (.cells blank 5)).alloc (.cells #[x] 26)).drew).frozen? ⟨b, i, none⟩ = w.frozen? ⟨b, i, none⟩ := (below_two w x (Nat.le_refl _)).frozen (p := ⟨b, i, .none⟩) h
theorem new_two (w : World) (x : Value) {i : Nat} (h : i < 256) : (((w.alloc (.cells blank 5)).alloc (.cells #[x] 26)).drew).cell? ⟨w.heap.size, i, none⟩ = some (.int .u8 0) := by
  show ((w.alloc _).alloc _).cell? _ = _
  rw [World.cell?_alloc_lt _ _ _ (by simp), blank_cell w h]
theorem grow_set (w : World) (b i : Nat) (v : Value) : w.grownBy (w.setCell ⟨b, i, none⟩ v) (some b) :=
  ⟨rfl, rfl, rfl, by simp [World.setCell], fun k _ hk => Below.heap_setCell _ _ _ _ (fun e => hk (by simp [e]))⟩
theorem new_any (k : Int) (w : World) (P : List Pg) (E : Int) (hP : newP k = P) (hE : newE k = E) : Calls Try.prog 15 #[.int .i64 k] w (RetDE w P [] E) := by
  subst hP hE
  by_cases p1 : 1 ≤ k ∧ k ≤ 4096
  · obtain ⟨N, rfl⟩ : ∃ N : Nat, k = (N : Int) := ⟨k.toNat, by omega⟩
    have e1 : newE (N : Int) = 0 := if_pos p1
    have e2 : newP (N : Int) = List.replicate N zeroP := by unfold newP; rw [if_pos p1, Int.toNat_natCast]
    rw [e1, e2]
    clear e1 e2
    have q1 : ¬ (N : Int) < 1 := by omega
    have q2 : ¬ (4096 : Int) < (N : Int) := by omega
    have q3 : N ≤ 4096 := by omega
    clear p1
    obtain ⟨i0, hi0, hz0, hz1, hz2⟩ := info_parts info26
    have hmk := mk_blank
    go_enter Try.func15, Try.ntmps15
    go_wp2_with fail
    go_loopw [13] (fun i wr => ∃ (k : Nat) (v : Value) (xs : List Value), k ≤ N ∧ i = .int .i64 k ∧ Hid (wr.ownsRow (w.heap.size + 2) 26 1 v k xs) ∧ Hid (Zeros wr v xs k) ∧ Hid (Below w.heap.size w wr) ∧ w.heap.size + 2 ≤ wr.heap.size ∧
      (∃ A n c, v = .slice A n c) ∧ wr.cell? ⟨w.heap.size + 1, 0, none⟩ = some v ∧ wr.frozen? ⟨w.heap.size + 1, 0, none⟩ = false ∧ wr.cell? ⟨w.heap.size + 1, 1, none⟩ = some (.slice none 0 0) ∧
      wr.cell? ⟨w.heap.size, 0, none⟩ = some (.slice none 0 0) ∧ wr.cell? ⟨w.heap.size, 1, none⟩ = some (.slice none 0 0) ∧ wr.frozen? ⟨w.heap.size, 0, none⟩ = false ∧ wr.frozen? ⟨w.heap.size, 1, none⟩ = false) (fun i _ => N - (intOf i).toNat)
    case atStart => exact ⟨0, .slice none 0 0, [], by omega, rfl, hide (World.ownsRow_nil _ _ _ _), hide (zeros_start _ _), hide (by go_grown), by simp, ⟨none, 0, 0, rfl⟩, by go_side, by go_side, by go_side, by go_side, by go_side, by go_side, by go_side⟩
    case round =>
      obtain ⟨k, v, xs, hk, rfl, hown, hz, BW, sz, ⟨A, n, c, rfl⟩, c0, f0, c1, c2, c3, f2, f3⟩ := hrel
      by_cases hlt : k < N
      · have l1 : w.heap.size + 1 < wr.heap.size := by omega
        have l0 : w.heap.size < wr.heap.size := by omega
        have ag : (Value.slice A n c).ownBlock ≠ some (w.heap.size + 1) := fun e => by have := (hown.out.lt _ e).1; omega
        have nn := World.new_ne wr ⟨w.heap.size + 1, 0, none⟩ c0
        go_wp2_with fail
        go_region_law ((refine step_append_lies _ (by rfl) _ _ _ (by rfl) (w.heap.size + 2) 26 i0 _ 1 24 Try.underlying22 hi0 hz0 hz1 hz2 rfl (by omega) _ k xs (by rfl) (((hown.out.alloc _).alloc _).drew) ⟨wr.heap.size + 1, 0, none⟩ 1 1 [.slice (some ⟨wr.heap.size, 0, none⟩) 256 256] (by rfl) (by rfl) (World.news_of_block (cs := #[.slice (some ⟨wr.heap.size, 0, none⟩) 256 256]) (t := 26) (fr := (0, 0)) (by have := heap_alloc_new (wr.alloc (.cells blank 5)) (.cells #[.slice (some ⟨wr.heap.size, 0, none⟩) 256 256] 26); rw [World.size_alloc] at this; exact this)) (by simp [Value.oneCell']) (by omega) (by unfold maxLen; omega) (by omega) (by simp; omega) (wr.heap.size + 2) (by simp) ?_; intro gg cap w1 hown1 hgrow hat hlt1; have fA : w1.frozen? ⟨w.heap.size + 1, 0, none⟩ = false := (hgrow.frozen_far ⟨w.heap.size + 1, 0, none⟩ (by simp; omega) (Ne.symm ag)).trans (by go_side); have cA : w1.cell? ⟨w.heap.size + 1, 0, none⟩ = some (.slice A n c) := (hgrow.cell_far ⟨w.heap.size + 1, 0, none⟩ (by simp; omega) (Ne.symm ag)).trans (by go_side)))
        all_goals
          have Z1 := hz.out.step hown.out (cap := cap) (by simp) (fun b i hb => old_two wr _ hb) (fun i hi => new_two wr _ hi) hgrow hat
          have Z2 := hide (Z1.set cA (.slice (some ⟨gg, 0, none⟩) (k + 1) cap))
          have ag2 : gg ≠ w.heap.size + 1 := fun e => by
            rcases hat with e2 | e2
            · exact ag (by rw [e2, e])
            · omega
          have O2 := hide (hown1.kept (grow_set w1 (w.heap.size + 1) 0 (.slice (some ⟨gg, 0, none⟩) (k + 1) cap)) (.inr (fun e => ag2 (by simpa [Value.ownBlock] using e))))
          have G : Below w.heap.size wr w1 := Below.grown (below_two wr _ (by omega)) hgrow (by simp; omega) (fun b e => by have := (hown.out.lt b e).1; omega)
          have BW2 := hide (((BW.out.trans G).setCell (p := ⟨w.heap.size + 1, 0, none⟩) (by simp) (.slice (some ⟨gg, 0, none⟩) (k + 1) cap)))
          have sz2 : w.heap.size + 2 ≤ w1.heap.size := by have := hgrow.size; simp at this; omega
          have far : ∀ b i, b < wr.heap.size → b < w.heap.size + 2 → w1.cell? ⟨b, i, none⟩ = wr.cell? ⟨b, i, none⟩ ∧ w1.frozen? ⟨b, i, none⟩ = wr.frozen? ⟨b, i, none⟩ := fun b i h1 h2 =>
            ⟨(hgrow.cell_far ⟨b, i, none⟩ (by simp; omega) (fun e => by have := (hown.out.lt b e.symm).1; omega)).trans (old_two wr _ h1), (hgrow.frozen_far ⟨b, i, none⟩ (by simp; omega) (fun e => by have := (hown.out.lt b e.symm).1; omega)).trans (old_two_f wr _ h1)⟩
          have k1 := (far (w.heap.size + 1) 1 (by omega) (by omega)).1.trans c1
          have k2 := (far w.heap.size 0 (by omega) (by omega)).1.trans c2
          have k3 := (far w.heap.size 1 (by omega) (by omega)).1.trans c3
          have k4 := (far w.heap.size 0 (by omega) (by omega)).2.trans f2
          have k5 := (far w.heap.size 1 (by omega) (by omega)).2.trans f3
          clear far Z1 hz hown hown1 hgrow hat BW G c0 f0 c1 c2 c3 f2 f3 nn hmk
          go_wp2_with fail
          go_roundw
          case rel =>
            exact ⟨k + 1, .slice (some ⟨gg, 0, none⟩) (k + 1) cap, _, by omega, by go_num, O2, Z2, BW2, by simpa using sz2, ⟨_, _, _, rfl⟩, by go_side, by go_side, by go_side, by go_side, by go_side, by go_side, by go_side⟩
          case measure => simp [intOf]; omega
      · obtain rfl : k = N := by omega
        obtain ⟨rfl, P2, O2⟩ := zeros_pags hz.out hown.out
        have P3 := P2.put O2 (p := ⟨w.heap.size, 0, none⟩) c2 (by simp) (.slice A n c)
        have P4 := hide (P3.put (O2.put _ _) (p := ⟨w.heap.size, 1, none⟩) ((World.cell?_setCell_other _ _ _ _ (by intro q; cases q)).trans c3) (by simp) (.slice none 0 0))
        have l1 : w.heap.size + 1 < wr.heap.size := by omega
        have l0 : w.heap.size < wr.heap.size := by omega
        clear P2 P3 O2 hz hown hmk
        go_wp2_with fail
        refine bodyPost_ret (v := .tuple #[.agg #[.slice A n c, .slice none 0 0], .int .i64 0]) (by simp [results, Try.results15, go_sem, c2, c3, f2, f3]) rfl ?_
        exact ⟨A, n, c, none, 0, 0, rfl, P4.out, olds_nil _, (BW.out.setCell (by simp) _).setCell (by simp) _⟩
  · have e1 : newE k = 1 := if_neg p1
    have e2 : newP k = [] := if_neg p1
    rw [e1, e2]
    clear e1 e2
    by_cases q1 : k < 1
    · clear p1
      go_enter Try.func15, Try.ntmps15
      go_wp2_with fail
      refine bodyPost_ret (v := .tuple #[.agg #[.slice none 0 0, .slice none 0 0], .int .i64 1]) (by simp [results, Try.results15, go_sem]) rfl ?_
      exact ⟨none, 0, 0, none, 0, 0, rfl, pags_nil _, olds_nil _, by go_grown⟩
    · have q2 : 4096 < k := by omega
      clear p1
      go_enter Try.func15, Try.ntmps15
      go_wp2_with fail
      refine bodyPost_ret (v := .tuple #[.agg #[.slice none 0 0, .slice none 0 0], .int .i64 1]) (by simp [results, Try.results15, go_sem]) rfl ?_
      exact ⟨none, 0, 0, none, 0, 0, rfl, pags_nil _, olds_nil _, by go_grown⟩
end Go.Proofs.Ytfmgmpelgnickaa

/-
  Chapter 31: plain words for loops over functions: worlds that are as they were but for two blocks; readings that outlast the loop's own records; a copy into a row of the call's own, inside a fence.
-/
import Derived.Test.YtfmgmpelgnickaaRef7
import Derived.RangeFuncNested
import Derived.RangeFuncBound
import Derived.RangeFuncCalls
import Derived.RangeFuncLeaves
import Derived.RangeFuncBox
import Derived.Shelf.Abstract
import Derived.Shelf.RegionOpen
import Derived.OwnWalkIn
import Derived.TacticsInMore
import Derived.LoopNIn
import Derived.LoopIn
import Derived.Laws.CopyOwn
namespace Go.Proofs.Ytfmgmpelgnickaa
open Go.RowKit Go.Shelf Plain
set_option linter.unusedSimpArgs false
set_option linter.unusedVariables false

/-- Below n all is as it was, but for the blocks g and h. -/
structure But (n g h : Nat) (W W' : World) : Prop where
  size : W.heap.size ≤ W'.heap.size
  block : ∀ k, k < n → k ≠ g → k ≠ h → W'.heap[k]? = W.heap[k]?
theorem But.refl (n g h : Nat) (W : World) : But n g h W W := ⟨Nat.le_refl _, fun _ _ _ _ => rfl⟩
theorem But.trans {n g h : Nat} {A B C : World} (x : But n g h A B) (y : But n g h B C) : But n g h A C := ⟨Nat.le_trans x.size y.size, fun k h1 h2 h3 => (y.block k h1 h2 h3).trans (x.block k h1 h2 h3)⟩
theorem But.cell {n g h : Nat} {W W' : World} (x : But n g h W W') {p : Addr} (h1 : p.block < n) (h2 : p.block ≠ g) (h3 : p.block ≠ h) : W'.cell? p = W.cell? p := World.cell?_of_block (x.block _ h1 h2 h3)
theorem But.frozen {n g h : Nat} {W W' : World} (x : But n g h W W') {p : Addr} (h1 : p.block < n) (h2 : p.block ≠ g) (h3 : p.block ≠ h) : W'.frozen? p = W.frozen? p := World.frozen?_of_block (x.block _ h1 h2 h3)
theorem But.grown {n g h : Nat} {W0 W W' : World} {row : Option Nat} (x : But n g h W0 W) (hg : W.grownBy W' row) (hn : n ≤ W0.heap.size) (hr : ∀ r, row = some r → n ≤ r ∨ r = g ∨ r = h) : But n g h W0 W' :=
  ⟨Nat.le_trans x.size hg.size, fun k h1 h2 h3 => (hg.block k (by have := x.size; omega) (fun e => by have := hr k e.symm; omega)).trans (x.block k h1 h2 h3)⟩
theorem grown_below {W W' : World} (hb : Below W.heap.size W W') : W.grownBy W' none := ⟨hb.os, hb.tape, hb.output, hb.size, fun k hk _ => hb.block k hk⟩
theorem But.below {n g h : Nat} {W0 W W' : World} (x : But n g h W0 W) (hn : n ≤ W0.heap.size) (hb : Below W.heap.size W W') : But n g h W0 W' := x.grown (grown_below hb) hn (fun r e => by cases e)
theorem ownFrom_but {β : Type} {n g h B : Nat} {W0 : World} (hn : n ≤ W0.heap.size) (hB : n ≤ B) : OwnFrom B (fun (_ : β) W => But n g h W0 W) := fun _ _ _ _ hs hg hr => hs.grown hg hn (fun r e => .inl (Nat.le_trans hB (hr r e).1))
theorem butK_t {n g h : Nat} {A B C : World} (x : But n g h A B) (y : But n g h B C) : But n g h A C := x.trans y
theorem butK_b {n g h : Nat} {w : World} (hn : n ≤ w.heap.size) (W : World) (l : Nat) (o o' : Obj) (hl : w.heap.size ≤ l) (hh : W.heap[l]? = some o) (_ : o.isCells = false) (_ : o.isWalk = false) : But n g h W (W.putObj l o') :=
  ⟨(grownBy_putObj' W l o').size, fun k h1 _ _ => (grownBy_putObj' W l o').block k (by have := (Array.getElem?_eq_some_iff.1 hh).1; omega) (fun e => by injection e with e; omega)⟩
theorem keeps_below {W W' : World} (hb : Below W.heap.size W W') : KeepsOthers W W' := ⟨hb.size, fun k o hk _ => (hb.block k (Array.getElem?_eq_some_iff.1 hk).1).trans hk⟩

/-! ### Readings outlast the turn of what is no cells -/
section
variable {W W' : World} {row : Option Nat}
theorem Row.kept {s : Nat} {A : Option Addr} {n c : Nat} {vs : List Value} (h : Row W s A n c vs) (hg : W.grownBy W' row) (hr : ∀ r, row = some r → ∃ o : Obj, W.heap[r]? = some o ∧ o.isCells = false) : Row W' s A n c vs := by
  refine ⟨h.1, h.2.1, h.2.2.1, h.2.2.2.1, fun hn => ?_⟩
  obtain ⟨b, off, e, hlt, hc⟩ := h.2.2.2.2 hn
  exact ⟨b, off, e, Nat.lt_of_lt_of_le hlt hg.size, fun j hj => cell_kept (hc j hj) hg hr⟩
theorem PgV.kept {v : Value} {zs : Pg} (h : PgV W v zs) (hg : W.grownBy W' row) (hr : ∀ r, row = some r → ∃ o : Obj, W.heap[r]? = some o ∧ o.isCells = false) : PgV W' v zs := by
  obtain ⟨A, n, c, e, h⟩ := h; exact ⟨A, n, c, e, Row.kept h hg hr⟩
theorem Pags.kept {A : Option Addr} {n c : Nat} {ps : List Pg} (h : Pags W A n c ps) (hg : W.grownBy W' row) (hr : ∀ r, row = some r → ∃ o : Obj, W.heap[r]? = some o ∧ o.isCells = false) : Pags W' A n c ps := by
  obtain ⟨hl, vs, hr1, hp⟩ := h
  exact ⟨hl, vs, hr1.kept hg hr, fun j hj => (hp j hj).kept hg hr⟩
end
/-- Pages in a block of the call's own, that may be written. -/
def Mine (W : World) (g n c : Nat) (ps : List Pg) : Prop := Pags W (some ⟨g, 0, none⟩) n c ps ∧ ∀ j, j < n → W.frozen? ⟨g, j, none⟩ = false
theorem Mine.cellAt {W : World} {g n c : Nat} {ps : List Pg} (h : Mine W g n c ps) {a : Nat} (ha : a < n) : ∃ A' n' c', W.cell? ⟨g, a, none⟩ = some (.slice A' n' c') ∧ Byt W A' n' c' (ps.getD a []) := by
  obtain ⟨b, off, Aj, nj, cj, e, _, hc, hb⟩ := h.1.at_ (Below.refl _ _) ha
  injection e with e
  injection e with e1 e2
  subst e1 e2
  rw [Nat.zero_add] at hc
  exact ⟨Aj, nj, cj, hc, hb⟩
theorem Mine.lt {W : World} {g n c : Nat} {ps : List Pg} (h : Mine W g n c ps) (hn : 0 < n) : g < W.heap.size := by
  obtain ⟨_, vs, hr, _⟩ := h.1
  obtain ⟨b, off, e, hb, _⟩ := hr.2.2.2.2 hn
  injection e with e
  injection e with e1 e2
  omega
theorem mine_own {β : Type} (g n c : Nat) (f : β → List Pg) : _root_.Go.Own (fun s W => Mine W g n c (f s)) := fun s X Y row hs hg hr =>
  ⟨hs.1.kept hg hr, fun j hj => by
    obtain ⟨A', n', c', hc, _⟩ := hs.cellAt hj
    exact (frozen_kept hc hg hr).trans (hs.2 j hj)⟩
theorem Mine.below {W W' : World} {g n c : Nat} {ps : List Pg} (h : Mine W g n c ps) (hb : Below W.heap.size W W') : Mine W' g n c ps :=
  ⟨h.1.below hb, fun j hj => (hb.frozen (p := ⟨g, j, .none⟩) (h.lt (by omega))).trans (h.2 j hj)⟩
theorem Mine.setAt {W : World} {g n c a : Nat} {ps : List Pg} (h : Mine W g n c ps) (ha : a < n) {A' : Option Addr} {n' c' : Nat} {z : Pg} (hz : Byt W A' n' c' z) : Mine (W.setCell ⟨g, a, none⟩ (.slice A' n' c')) g n c (ps.set a z) :=
  ⟨h.1.setAt ha hz, fun j hj => by rw [World.frozen?_setCell]; exact h.2 j hj⟩
/-- A store into another block, where no slice lay, or another row. -/
theorem Byt.set' {w : World} {A : Option Addr} {n c : Nat} {zs : Pg} (h : Byt w A n c zs) {p : Addr} {u : Value} (hp : w.cell? p = some u) (hu : ∀ z, u ≠ .int .u8 z) (x : Value) : Byt (w.setCell p x) A n c zs := by
  refine ⟨h.1, h.2.1, h.2.2.1, h.2.2.2.1, fun hn => ?_⟩
  obtain ⟨b, off, e, hlt, hc⟩ := h.2.2.2.2 hn
  refine ⟨b, off, e, by simpa using hlt, fun j hj => ?_⟩
  rw [World.cell?_setCell_other _ _ _ _ (fun q => ?_)]
  · exact hc j hj
  · have h2 := hc j hj
    have hj2 : j < (zs.map u8).length := by have := h.1; omega
    rw [← q, hp, List.getD_eq_getElem?_getD, List.getElem?_eq_getElem hj2] at h2
    simp [u8] at h2
    exact hu _ h2
theorem Mine.setBox {W : World} {g n c : Nat} {ps : List Pg} (h : Mine W g n c ps) {p : Addr} {u : Value} (hp : W.cell? p = some u) (hu : ∀ z, u ≠ .int .u8 z) (hg : p.block ≠ g) (x : Value) : Mine (W.setCell p x) g n c ps := by
  obtain ⟨⟨hl, vs, hr, hpg⟩, hf⟩ := h
  refine ⟨⟨hl, vs, ⟨hr.1, hr.2.1, hr.2.2.1, hr.2.2.2.1, fun hn => ?_⟩, fun j hj => ?_⟩, fun j hj => by rw [World.frozen?_setCell]; exact hf j hj⟩
  · obtain ⟨b, off, e, hb, hc⟩ := hr.2.2.2.2 hn
    refine ⟨b, off, e, by simpa using hb, fun j hj => ?_⟩
    injection e with e
    injection e with e1 e2
    rw [World.cell?_setCell_other _ _ _ _ (fun q => hg (by rw [q]; exact e1.symm))]
    exact hc j hj
  · obtain ⟨A, n', c', e, hB⟩ := hpg j hj
    exact ⟨A, n', c', e, hB.set' hp hu x⟩

/-! ### A copy of a page, and a copy over it -/
theorem clone_owned {w : World} {ad : Addr} {n c : Nat} {zs : Pg} (h : Byt w (some ad) n c zs) (hs : n ≤ 100000) :
    Calls Try.prog 28 #[.slice (some ad) n c] w fun e w' => ∃ v, e = .returned v ∧ w'.ownsRow w.heap.size 5 1 v n (zs.map u8) ∧ Below w.heap.size w w' := by
  have h1 : ∀ u ∈ zs.map u8, u.oneCell' = true := by intro u hu; obtain ⟨z, _, rfl⟩ := List.mem_map.1 hu; rfl
  have hq := fun (W : World) => Lib.run_eql_slice_nil (P := Try.prog) W 26 5 (some ad) n c 0 0 Try.underlying26
  simp only [Option.isNone_some] at hq
  have g0 : Below w.heap.size w (w.alloc (.cells #[] 5)) := by go_grown
  replace h := hide (h.below g0)
  replace h1 := hide h1
  replace g0 := hide g0
  go_enter Try.func28, Try.ntmps28
  go_wp2_with (at_builtin; refine wpList_append_row (T := 26) (E := 5) (s := 1) (z := .int .u8 0) (bytes := 1) Try.underlying26 info5 rfl (by decide) (by decide) rfl _ _ rfl w.heap.size _ 0 [] rfl (World.ownsRow_made w #[] 0 (Nat.le_refl _) (by unfold maxLen; omega) rfl) (some ad) n c (zs.map u8) rfl h.out h1.out (by omega) (by simp) ?_; intro v' w2 hown2 hB2; simp only [Nat.zero_add, List.nil_append] at hown2; replace hown2 := hide hown2; replace hB2 := hide (g0.out.trans hB2); clear hq h h1 g0)
  go_ret
  exact ⟨v', rfl, hown2.out, hB2.out⟩
theorem grow_row (w : World) (g : Nat) (cs : Array Value) : w.grownBy (w.setRow g cs) (some g) := ⟨rfl, rfl, rfl, by simp, fun k _ hk => setRow_other w g k cs (fun e => hk (by rw [e]))⟩
theorem torn_row {w : World} {base g c cut : Nat} {was b : Pg} (h : w.ownsRow base 5 1 (.slice (some ⟨g, 0, none⟩) 256 c) 256 (was.map u8)) (hb : b.length = 256) (hc : cut ≤ 256) :
    ∃ cur, w.heap[g]? = some (.cells cur 5 (0, 0)) ∧ cut ≤ cur.size ∧ (w.setRow g (cur.toList.take 0 ++ (b.take cut).map u8 ++ cur.toList.drop (0 + ((b.take cut).map u8).length)).toArray).ownsRow base 5 1 (.slice (some ⟨g, 0, none⟩) 256 c) 256 ((torn b was cut).map u8) := by
  obtain ⟨hl, h⟩ := h
  rcases h with ⟨e, _⟩ | ⟨g', cap, cur, e, hbg, hh, hnc, hcm, hcs, hcc⟩
  · cases e
  · injection e with e1 e2 e3
    injection e1 with e1
    injection e1 with e1
    subst e1 e3
    rw [List.length_map] at hl
    have hcl : ((b.take cut).map u8).length = cut := by rw [List.length_map, List.length_take]; omega
    rw [Nat.mul_one] at hcs hcc
    have hcur : cur.toList.length = c := by rw [← hcs]; simp
    refine ⟨cur, hh, by omega, ⟨by rw [List.length_map, torn_len hb (by omega) hc], .inr ⟨g, c, _, rfl, hbg, setRow_heap _ _ _ _ _ _ hh, hnc, hcm, ?_, ?_⟩⟩⟩
    · rw [hcl]
      simp only [List.take_zero, List.nil_append, Nat.zero_add, List.size_toArray, List.length_append, List.length_drop, hcl, hcur]
      omega
    · rw [hcl, Nat.mul_one]
      simp only [List.take_zero, List.nil_append, Nat.zero_add]
      unfold torn
      rw [List.map_append, List.take_append, hcl, List.take_of_length_le (by rw [hcl]; exact hc), List.map_drop, ← hcc, List.drop_take, List.take_drop]
theorem wpListIn_copy_torn {F : Fence} {k : Nat} {w : World} {ops : Array Oper} {rest : List Oper} {o : Oper} {a : Act} {Q : Exit → Act → World → Prop} (hgd : o.guard = none) (d s : Operand)
    (ho : o.op = .call { callee := .builtin .copy, args := #[d, s], argTypes := #[26, 26] }) (base g c cut : Nat) (was b : Pg) (hd : a.eval d = .slice (some ⟨g, 0, none⟩) 256 c) (hown : w.ownsRow base 5 1 (.slice (some ⟨g, 0, none⟩) 256 c) 256 (was.map u8))
    (Ab : Option Addr) (nb cb cb2 : Nat) (hs : a.eval s = .slice Ab cut cb2) (hb : Byt w Ab nb cb b) (hnb : nb = 256) (hc : cut ≤ 256)
    (h : ∀ w', w'.ownsRow base 5 1 (.slice (some ⟨g, 0, none⟩) 256 c) 256 ((torn b was cut).map u8) → w.grownBy w' (some g) → wpListIn F k Try.prog ops Q rest (a.put o.dst (goInt cut)) w') : wpListIn F k Try.prog ops Q (o :: rest) a w := by
  subst hnb
  have hsz : (Try.prog.info? 5).map (·.size) = some 1 := by obtain ⟨i0, hi0, _, hz1, _⟩ := info_parts info5; rw [hi0]; exact congrArg some hz1
  obtain ⟨cur, hh, hfit, hnew⟩ := torn_row hown hb.len hc
  have hlen : ((b.take cut).map u8).length = cut := by rw [List.length_map, List.length_take]; have := hb.len; omega
  refine wpListIn_plain hgd fun K hK => ?_
  have hrun : ∃ w', (Builtin.copy_ #[26, 26] o.type #[.slice (some ⟨g, 0, none⟩) 256 c, .slice Ab cut cb2]).run Try.prog w = .ok (goInt cut) w' ∧ w'.ownsRow base 5 1 (.slice (some ⟨g, 0, none⟩) 256 c) 256 ((torn b was cut).map u8) ∧ w.grownBy w' (some g) := by
    by_cases h0 : cut = 0
    · subst h0
      refine ⟨w, run_copy_none (P := Try.prog) w 26 26 o.type 5 _ Ab 256 c 0 cb2 Try.underlying26 hsz (by simp), ?_, World.grownBy.refl w _⟩
      rw [torn_none]; exact hown
    · obtain ⟨b', off, e, _, hcl⟩ := hb.2.2.2.2 (by omega)
      subst e
      refine ⟨_, ?_, hnew, grow_row w g _⟩
      have := run_copy_row (P := Try.prog) w 26 26 o.type 5 g 0 256 c ⟨b', off, none⟩ cut cb2 cur 5 ((b.take cut).map u8) Try.underlying26 hsz hh (by rw [hlen]; exact (Nat.min_eq_left hc).symm) (fun j v hj => by
        have hj2 : j < cut := by
          rcases Nat.lt_or_ge j cut with q | q
          · exact q
          · rw [List.getElem?_eq_none (by omega)] at hj; cases hj
        rw [Go.WideShapes.add_plain, hcl j (by omega), List.getD_eq_getElem?_getD]
        rw [List.getElem?_map, List.getElem?_take, if_pos hj2] at hj
        rw [List.getElem?_map, hj]; rfl) (by rw [hlen]; omega) (by intro u hu; obtain ⟨z, _, rfl⟩ := List.mem_map.1 hu; rfl)
      rw [hlen] at this ⊢
      exact this
  obtain ⟨w', hr, h1, h2⟩ := hrun
  unfold Oper.wpIn
  refine ⟨?_, ?_⟩
  · simp [Oper.about, ho, resolve, Target.leads, Sem.run_pure]
  · rw [Oper.semAt_plain F _ _ (by rw [ho]; intro c hc'; cases hc')]
    simp [execOp, ho, resolve, invoke, builtin, hd, hs, hr, Result.andThen]
    exact hK _ _ (h w' h1 h2)
end Go.Proofs.Ytfmgmpelgnickaa

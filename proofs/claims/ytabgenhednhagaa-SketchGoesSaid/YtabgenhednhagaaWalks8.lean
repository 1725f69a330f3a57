/-
  Chapter 34: Peel, by package sketch: what it tells, as a function on lists.
-/
import Derived.Test.YtabgenhednhagaaTold
import Derived.ScopeJumps
import Derived.WalkMore
namespace Go.Proofs.Ytabgenhednhagaa
open Go.RowKit Plain
set_option linter.unusedSimpArgs false
set_option linter.unusedVariables false
attribute [local go_sem ↓] Go.wp_at_zero Go.wp_at_succ

def lenV : Value → Nat | .slice _ n _ => n | _ => 0
/-- What Peel returns. -/
def RetPeel (w : World) (r : List Sym × List W × List W) (e : Ending) (w' : World) : Prop :=
  ∃ A1 n1 c1 A2 n2 c2, e = .returned (.tuple #[.slice A1 n1 c1, .slice A2 n2 c2, .bool (doneB r.1)]) ∧ Nums w' A1 n1 c1 r.2.1 ∧ Nums w' A2 n2 c2 r.2.2 ∧ Below w.heap.size w w'
theorem info22 : (Try.prog.info? 22).map (fun i => (i.zero, i.size, i.bytes)) = some (some (.int .u64 0), 1, 8) := by kernel_rfl
theorem wp_scope_once {P : Program} {a : Act} {w : World} {Q : Exit → Act → World → Prop} {c rest : Code} (l : Nat) (J : Act → World → Prop) (μ : Act → World → Nat) (hf : findLabel c l = some (Code.skip.seq rest))
    (pass : ∀ a w, J a w → rest.wp P (Exit.jump l (fun a' w' => J a' w' ∧ μ a' w' < μ a w) Q) a w)
    (first : (∀ a w, J a w → rest.wp P (Exit.jump l J Q) a w) → c.wp P (Exit.jump l J Q) a w) : (Code.scope c).wp P Q a w :=
  wp_scope_jumps l J μ hf (first fun a w hJ => Code.wp_mono (fun e a' w' h => by
    cases e <;> first | exact h | exact ⟨h.1, h.2.1⟩) (pass a w hJ)) (fun a w hJ => wp_seq (wp_skip (pass a w hJ)))

/-- What holds at each jump: the symbols cur that are left, what was told (ms, ts; T: in the order in which it was told, the last one first). -/
structure PeelAt (w wr : World) (n c' : Nat) (A' : Option Addr) (g mb base : Nat) (cur : List Sym) (ms ts T : List W) (vm vt : Value) : Prop where
  box : wr.cell? ⟨w.heap.size, 0, none⟩ = some (.slice A' n c')
  boxf : wr.frozen? ⟨w.heap.size, 0, none⟩ = false
  len : cur.length = n
  cap : n ≤ c'
  max : c' ≤ maxLen
  own : 0 < n → A' = some ⟨g, 0, none⟩ ∧ OwnAt wr g n (fun j => cur.getD j Sym.zero) ∧ w.heap.size < g ∧ g < base ∧ g ≠ mb
  nil0 : A' = none → c' = 0
  told : Told wr mb T
  nodup : T.Nodup
  mem : ∀ z, z ∈ T ↔ z ∈ ms ++ ts
  count : T.length = ms.length + ts.length
  few : T.length ≤ n
  mine : wr.ownsRow base 22 1 vm ms.length (ms.map numV)
  theirs : wr.ownsRow base 22 1 vt ts.length (ts.map numV)
  apart : ∀ b, vm.ownBlock = some b → vt.ownBlock = some b → False
  mb0 : w.heap.size < mb
  mb1 : mb < base
  base : base ≤ wr.heap.size
  old : Below w.heap.size w wr
theorem PeelAt.below {w wr wr' : World} {n c' : Nat} {A' : Option Addr} {g mb base : Nat} {cur : List Sym} {ms ts T : List W} {vm vt : Value} (h : PeelAt w wr n c' A' g mb base cur ms ts T vm vt) (hb : Below wr.heap.size wr wr') : PeelAt w wr' n c' A' g mb base cur ms ts T vm vt := by
  have b1 := h.base
  have b2 := h.mb0
  have b3 := h.mb1
  refine ⟨(hb.cell (p := ⟨w.heap.size, 0, none⟩) (by show w.heap.size < wr.heap.size; omega)).trans h.box, (hb.frozen (p := ⟨w.heap.size, 0, none⟩) (by show w.heap.size < wr.heap.size; omega)).trans h.boxf, h.len, h.cap, h.max, fun hn => ?_, h.nil0, h.told.kept (row := none) (grown_of_below hb none) (by simp), h.nodup, h.mem, h.count, h.few, own_below h.mine hb, own_below h.theirs hb, h.apart, h.mb0, h.mb1, Nat.le_trans b1 hb.size, st h.old hb (Below.refl _ _)⟩
  obtain ⟨e, ho, h1, h2, h3⟩ := h.own hn
  exact ⟨e, ho.below (by omega) hb, h1, h2, h3⟩

theorem peel_start {w w1 u1 : World} {A' : Option Addr} {n c' : Nat} {ss : List Sym} {x : Value} (hw1 : Below w.heap.size w w1) (hs1 : w1.heap.size = w.heap.size + 1) (hb : Below w1.heap.size w1 u1) (hx : u1.cell? ⟨w.heap.size, 0, none⟩ = some x) (hf : u1.frozen? ⟨w.heap.size, 0, none⟩ = false) (hl : ss.length = n) (hnc : n ≤ c') (hcm : c' ≤ maxLen) (hnil : A' = none → c' = 0)
    (ho : 0 < n → ∃ g, A' = some ⟨g, 0, none⟩ ∧ w1.heap.size ≤ g ∧ g < u1.heap.size ∧ OwnAt u1 g n (fun j => ss.getD j Sym.zero)) :
    ∃ g, PeelAt w ((u1.setCell ⟨w.heap.size, 0, none⟩ (.slice A' n c')).alloc (.map #[] 0)) n c' A' g u1.heap.size (u1.heap.size + 1) ss [] [] [] (.slice none 0 0) (.slice none 0 0) := by
  have hsz := hb.size
  have hold : Below w.heap.size w u1 := hw1.trans (hb.mono hw1.size)
  have key : ∀ g, (0 < n → A' = some ⟨g, 0, none⟩ ∧ w1.heap.size ≤ g ∧ g < u1.heap.size ∧ OwnAt u1 g n (fun j => ss.getD j Sym.zero)) →
      PeelAt w ((u1.setCell ⟨w.heap.size, 0, none⟩ (.slice A' n c')).alloc (.map #[] 0)) n c' A' g u1.heap.size (u1.heap.size + 1) ss [] [] [] (.slice none 0 0) (.slice none 0 0) := by
    intro g hg
    have hT := Told.made (u1.setCell ⟨w.heap.size, 0, none⟩ (.slice A' n c'))
    rw [show (u1.setCell ⟨w.heap.size, 0, none⟩ (.slice A' n c')).heap.size = u1.heap.size by simp] at hT
    refine ⟨?_, ?_, hl, hnc, hcm, fun hn => ?_, hnil, hT, List.nodup_nil, by simp, rfl, Nat.zero_le _, World.ownsRow_nil _ _ _ _, World.ownsRow_nil _ _ _ _, (fun b h => by simp [Value.ownBlock] at h), by omega, by omega, by simp, ?_⟩
    · rw [World.cell?_alloc_lt _ _ _ (by simp; omega), World.cell?_setCell_same _ _ _ hx]
    · rw [World.frozen?_alloc_past _ _ _ (by simp; omega), World.frozen?_setCell]; exact hf
    · obtain ⟨e, h1, h2, h3⟩ := hg hn
      refine ⟨e, fun j hj => ?_, by omega, by omega, by omega⟩
      obtain ⟨c0, c1, c2, f0, f1, f2⟩ := h3 j hj
      have cc : ∀ o, ((u1.setCell ⟨w.heap.size, 0, none⟩ (.slice A' n c')).alloc (.map #[] 0)).cell? ⟨g, o, none⟩ = u1.cell? ⟨g, o, none⟩ := fun o => by
        rw [World.cell?_alloc_lt _ _ _ (by simp; omega), World.cell?_setCell_far _ _ _ _ (by show w.heap.size ≠ g; omega)]
      have ff : ∀ o, ((u1.setCell ⟨w.heap.size, 0, none⟩ (.slice A' n c')).alloc (.map #[] 0)).frozen? ⟨g, o, none⟩ = u1.frozen? ⟨g, o, none⟩ := fun o => by
        rw [World.frozen?_alloc_past _ _ _ (by simp; omega), World.frozen?_setCell]
      exact ⟨(cc _).trans c0, (cc _).trans c1, (cc _).trans c2, (ff _).trans f0, (ff _).trans f1, (ff _).trans f2⟩
    · exact (hold.setCell (Nat.le_refl _) _).alloc (by simp; exact hold.size) _
  rcases Nat.eq_zero_or_pos n with h0 | h0
  · exact ⟨0, key 0 (fun h => by omega)⟩
  · obtain ⟨g, hg⟩ := ho h0
    exact ⟨g, key g (fun _ => hg)⟩

theorem PeelAt.swap {w wr : World} {n c' : Nat} {A' : Option Addr} {g mb base : Nat} {cur : List Sym} {ms ts T : List W} {vm vt : Value} (h : PeelAt w wr n c' A' g mb base cur ms ts T vm vt) : PeelAt w wr n c' A' g mb base cur ts ms T vt vm :=
  ⟨h.box, h.boxf, h.len, h.cap, h.max, h.own, h.nil0, h.told, h.nodup, fun z => by rw [h.mem z, List.mem_append, List.mem_append]; exact or_comm, by rw [h.count]; omega, h.few, h.theirs, h.mine, fun b h1 h2 => h.apart b h2 h1, h.mb0, h.mb1, h.base, h.old⟩
theorem own_ge {w : World} {base n size : Nat} {e : TypeId} {v : Value} {xs : List Value} (h : w.ownsRow base e size v n xs) {b : Nat} (hb : b < base) : some b ≠ v.ownBlock := fun e => by
  have := (h.lt b e.symm).1; omega
theorem own_row_kept {w w' : World} {base n size : Nat} {e : TypeId} {v : Value} {xs : List Value} {row : Option Nat} (h : w.ownsRow base e size v n xs) (hg : w.grownBy w' row) (hne : ∀ b, v.ownBlock = some b → row ≠ some b) : w'.ownsRow base e size v n xs := by
  refine h.kept hg ?_
  cases hv : v.ownBlock with
  | none => exact .inl rfl
  | some b => exact .inr (fun e => hne b hv e.symm)
/-- What stands behind the map's store and the append, ahead of the call of the closure. -/
structure Mid (w w4 : World) (n c' g mb : Nat) (cur : List Sym) : Prop where
  box : w4.cell? ⟨w.heap.size, 0, none⟩ = some (.slice (some ⟨g, 0, none⟩) n c')
  own : OwnAt w4 g n (fun j => cur.getD j Sym.zero)
  lg : g < w4.heap.size
  lb : w.heap.size < w4.heap.size
  ne : w.heap.size ≠ g
theorem mid_of {w u2 w3 w4 : World} {n c' g mb base : Nat} {cur : List Sym} {ms ts T : List W} {vm vt : Value} {o : Obj} (hn : 0 < n) (h : PeelAt w u2 n c' (some ⟨g, 0, none⟩) g mb base cur ms ts T vm vt)
    (h3 : u2.grownBy w3 (some mb)) (h4 : (w3.alloc o).grownBy w4 vm.ownBlock) : Mid w w4 n c' g mb cur := by
  obtain ⟨_, hO, l1, l2, l3⟩ := h.own hn
  have hb := h.base
  have m0 := h.mb0
  have m1 := h.mb1
  have s3 := h3.size
  have s4 := h4.size
  have key : ∀ b, b < base → b ≠ mb → w4.heap[b]? = u2.heap[b]? := fun b hb1 hb2 => by
    rw [h4.block b (by simp; omega) (own_ge h.mine hb1), Below.heap_alloc w3 o b (by omega), h3.block b (by omega) (by simpa using hb2)]
  have kc : ∀ b, b < base → b ≠ mb → ∀ q, w4.cell? ⟨b, q, none⟩ = u2.cell? ⟨b, q, none⟩ := fun b hb1 hb2 q => World.cell?_of_block (key b hb1 hb2)
  have kf : ∀ b, b < base → b ≠ mb → ∀ q, w4.frozen? ⟨b, q, none⟩ = u2.frozen? ⟨b, q, none⟩ := fun b hb1 hb2 q => World.frozen?_of_block (key b hb1 hb2)
  simp only [World.size_alloc] at s4
  refine ⟨(kc _ (by omega) (by omega) 0).trans h.box, fun j hj => ?_, by omega, by omega, by omega⟩
  obtain ⟨c0, c1, c2, f0, f1, f2⟩ := hO j hj
  exact ⟨(kc _ l2 l3 _).trans c0, (kc _ l2 l3 _).trans c1, (kc _ l2 l3 _).trans c2, (kf _ l2 l3 _).trans f0, (kf _ l2 l3 _).trans f1, (kf _ l2 l3 _).trans f2⟩
theorem tell_mine {w u2 w3 w4 u5 : World} {n c' g mb base g1 cap : Nat} {cur cur' : List Sym} {ms ts T : List W} {vm vt : Value} {o : Obj} {x : W} (hn : 0 < n) (h : PeelAt w u2 n c' (some ⟨g, 0, none⟩) g mb base cur ms ts T vm vt)
    (h3 : u2.grownBy w3 (some mb)) (hT : Told w3 mb (x :: T)) (hx : x ∉ T) (hfew : T.length < n) (h4 : (w3.alloc o).grownBy w4 vm.ownBlock) (hown : w4.ownsRow base 22 1 (.slice (some ⟨g1, 0, none⟩) (ms.length + 1) cap) (ms.length + 1) (ms.map numV ++ [numV x])) (hat : vm.ownBlock = some g1 ∨ g1 = (w3.alloc o).heap.size)
    (h5 : w4.grownBy u5 (some g)) (hl : cur'.length = n) (hO : OwnAt u5 g n (fun j => cur'.getD j Sym.zero)) :
    PeelAt w u5 n c' (some ⟨g, 0, none⟩) g mb base cur' (ms ++ [x]) ts (x :: T) (.slice (some ⟨g1, 0, none⟩) (ms.length + 1) cap) vt := by
  have M := mid_of (o := o) hn h h3 h4
  obtain ⟨_, _, l1, l2, l3⟩ := h.own hn
  have hb := h.base
  have m0 := h.mb0
  have m1 := h.mb1
  have s3 := h3.size
  have s4 := h4.size
  have s5 := h5.size
  simp only [World.size_alloc] at s4 hat
  have hg1 := (hown.lt g1 rfl)
  have hvm : ∀ b, vm.ownBlock = some b → w.heap.size ≤ b := fun b e => by have := (h.mine.lt b e).1; omega
  have hboxf : u5.frozen? ⟨w.heap.size, 0, none⟩ = false := by
    have key : u5.heap[w.heap.size]? = u2.heap[w.heap.size]? := by
      rw [h5.block _ M.lb (by simpa using M.ne), h4.block _ (by simp; omega) (own_ge h.mine (by omega)), Below.heap_alloc w3 o _ (by omega), h3.block _ (by omega) (by simp; omega)]
    exact (World.frozen?_of_block (a := ⟨w.heap.size, 0, none⟩) key).trans h.boxf
  refine ⟨(grown_cell h5 M.lb M.ne 0).trans M.box, hboxf, hl, h.cap, h.max, fun _ => ⟨rfl, hO, l1, l2, l3⟩, (fun e => by simp at e), ?_, List.nodup_cons.2 ⟨hx, h.nodup⟩, fun z => ?_, ?_, ?_, ?_, ?_, ?_, m0, m1, by omega, ?_⟩
  · refine ((hT.kept (row := none) (World.grownBy_alloc w3 o none) (by simp)).kept h4 (own_ge h.mine m1)).kept h5 (by simp; omega)
  · rw [List.mem_cons, h.mem z, List.mem_append, List.mem_append, List.mem_append]
    constructor
    · rintro (e | e | e)
      · exact .inl (.inr (by simp [e]))
      · exact .inl (.inl e)
      · exact .inr e
    · rintro ((e | e) | e)
      · exact .inr (.inl e)
      · exact .inl (by simpa using e)
      · exact .inr (.inr e)
  · simp only [List.length_cons, List.length_append, List.length_nil]; have := h.count; omega
  · simp only [List.length_cons]; omega
  · rw [List.length_append, List.map_append]
    exact own_row_kept hown h5 (fun b e => by simp [Value.ownBlock] at e; simp; omega)
  · refine own_row_kept (own_row_kept ((own_row_kept h.theirs h3 (fun b e => by have := (h.theirs.lt b e).1; simp; omega)).alloc o) h4 (fun b e e2 => h.apart b e2 e)) h5 (fun b e => by have := (h.theirs.lt b e).1; simp; omega)
  · intro b e1 e2
    simp [Value.ownBlock] at e1
    subst e1
    rcases hat with e | e
    · exact h.apart _ e e2
    · have := (h.theirs.lt _ e2).2; omega
  · have b3 : Below w.heap.size w w3 := h.old.grown h3 h.old.size (fun b e => by simp at e; omega)
    have b4 := (b3.alloc b3.size o).grown h4 (by simp; have := b3.size; omega) (fun b e => hvm b e)
    exact b4.grown h5 b4.size (fun b e => by simp at e; omega)
theorem tell_theirs {w u2 w3 w4 u5 : World} {n c' g mb base g1 cap : Nat} {cur cur' : List Sym} {ms ts T : List W} {vm vt : Value} {o : Obj} {x : W} (hn : 0 < n) (h : PeelAt w u2 n c' (some ⟨g, 0, none⟩) g mb base cur ms ts T vm vt)
    (h3 : u2.grownBy w3 (some mb)) (hT : Told w3 mb (x :: T)) (hx : x ∉ T) (hfew : T.length < n) (h4 : (w3.alloc o).grownBy w4 vt.ownBlock) (hown : w4.ownsRow base 22 1 (.slice (some ⟨g1, 0, none⟩) (ts.length + 1) cap) (ts.length + 1) (ts.map numV ++ [numV x])) (hat : vt.ownBlock = some g1 ∨ g1 = (w3.alloc o).heap.size)
    (h5 : w4.grownBy u5 (some g)) (hl : cur'.length = n) (hO : OwnAt u5 g n (fun j => cur'.getD j Sym.zero)) :
    PeelAt w u5 n c' (some ⟨g, 0, none⟩) g mb base cur' ms (ts ++ [x]) (x :: T) vm (.slice (some ⟨g1, 0, none⟩) (ts.length + 1) cap) :=
  (tell_mine hn h.swap h3 hT hx hfew h4 hown hat h5 hl hO).swap

theorem nums_own {w : World} {base n : Nat} {v : Value} {zs : List W} (h : w.ownsRow base 22 1 v n (zs.map numV)) : ∃ A c, v = .slice A n c ∧ Nums w A n c zs := by
  have hl : zs.length = n := by have := h.1; simpa using this
  rcases h.2 with ⟨rfl, rfl⟩ | ⟨g, cap, cur, rfl, _, hh, hnc, hcm, hcs, hcc⟩
  · exact ⟨none, 0, rfl, hl, Nat.le_refl _, by unfold maxLen; omega, fun _ => rfl, fun h => by omega⟩
  · refine ⟨_, cap, rfl, hl, hnc, hcm, (fun e => by simp at e), fun hn => ⟨g, 0, rfl, (h.lt g rfl).2, fun j hj => ?_⟩⟩
    have hc := h.cells (g := g) rfl j (numV (zs.getD j 0#64)) (by simp [List.getElem?_eq_getElem (show j < zs.length by omega)])
    rw [Go.WideShapes.add_plain] at hc
    exact hc

theorem okAt_congr {l : List Sym} {T T2 : List W} (h : ∀ z, z ∈ T2 ↔ z ∈ T) (i : Nat) : okAt l T2 i = okAt l T i := by unfold okAt; rw [decide_eq_decide.2 (h _)]
theorem pure_to (M S K : Int) (s : Sym) (i : Int) (b : Bool) (hM : M = s.many.toInt) (hS : S = (s.sum.toNat : Int)) (hK : K = (s.check.toNat : Int)) (hb : pureB s i = b) (w : World) :
    Calls Try.prog 32 #[.agg #[.int .i64 M, .int .u64 S, .int .u64 K], .int .i64 i] w fun e w' => e = .returned (.bool b) ∧ Below w.heap.size w w' := by
  subst hM hS hK hb; exact pure_any s i w
theorem contains_to {A : Option Addr} {n c : Nat} {ss : List Sym} {w : World} (h : Syms w A n c ss) (b : Bool) (hb : ss.any nz = b) : Calls Try.prog 33 #[.slice A n c, .func (.func 34) #[] #[]] w fun e w' => e = .returned (.bool b) ∧ Below w.heap.size w w' := by
  subst hb; exact contains_any h
theorem peel_syms {w wr : World} {n c' : Nat} {A' : Option Addr} {g mb base : Nat} {cur : List Sym} {ms ts T : List W} {vm vt : Value} (h : PeelAt w wr n c' A' g mb base cur ms ts T vm vt) : Syms wr A' n c' cur := by
  refine ⟨h.len, h.cap, h.max, h.nil0, fun hn => ?_⟩
  obtain ⟨e, ho, h1, h2, h3⟩ := h.own hn
  refine ⟨g, 0, e, by have := h.base; omega, fun j hj => ?_⟩
  obtain ⟨c0, c1, c2, _⟩ := ho j hj
  rw [Nat.zero_add]
  exact ⟨c0, c1, c2⟩
theorem nums_of {w : World} {base n c : Nat} {A : Option Addr} {zs : List W} (h : w.ownsRow base 22 1 (.slice A n c) n (zs.map numV)) : Nums w A n c zs := by
  obtain ⟨A', c', e, hN⟩ := nums_own h
  cases e; exact hN

def PeelJ (w : World) (n c : Nat) (A : Option Addr) (ss : List Sym) (a : Act) (wr : World) : Prop := ∃ (c' : Nat) (A' : Option Addr) (g mb base : Nat) (cur : List Sym) (ms ts T : List W) (vm vt : Value) (us : Nat → Value),
  a = { tmps := List.toArray (.slice A n c :: .pointer (some ⟨w.heap.size, 0, none⟩) :: vm :: vt :: .bool false :: .map (some mb) :: .func (.func 31) #[] #[.pointer (some ⟨w.heap.size, 0, none⟩)] :: us 7 :: us 8 :: us 9 :: us 10 :: us 11 :: us 12 :: us 13 :: us 14 :: us 15 :: us 16 :: us 17 :: us 18 :: us 19 :: us 20 :: us 21 :: us 22 :: us 23 :: us 24 :: us 25 :: us 26 :: us 27 :: us 28 :: us 29 :: us 30 :: us 31 :: us 32 :: us 33 :: us 34 :: us 35 :: us 36 :: us 37 :: us 38 :: us 39 :: us 40 :: us 41 :: us 42 :: us 43 :: us 44 :: us 45 :: us 46 :: us 47 :: us 48 :: us 49 :: us 50 :: us 51 :: us 52 :: us 53 :: us 54 :: us 55 :: us 56 :: us 57 :: us 58 :: us 59 :: us 60 :: us 61 :: us 62 :: us 63 :: us 64 :: us 65 :: us 66 :: us 67 :: us 68 :: us 69 :: us 70 :: us 71 :: us 72 :: us 73 :: []), defers := [] } ∧ PeelAt w wr n c' A' g mb base cur ms ts T vm vt ∧ Hid (peelGo (n - T.length) cur ms ts = peelL ss)
theorem peelJ_mk {w wr : World} {n c c' g mb base : Nat} {A A' : Option Addr} {ss cur : List Sym} {ms ts T : List W} {vm vt : Value} {a : Act} (h0 : a.tmps.getD 0 undef = .slice A n c) (h1 : a.tmps.getD 1 undef = .pointer (some ⟨w.heap.size, 0, none⟩)) (h2 : a.tmps.getD 2 undef = vm) (h3 : a.tmps.getD 3 undef = vt) (h4 : a.tmps.getD 4 undef = .bool false) (h5 : a.tmps.getD 5 undef = .map (some mb)) (h6 : a.tmps.getD 6 undef = .func (.func 31) #[] #[.pointer (some ⟨w.heap.size, 0, none⟩)]) (hsz : a.tmps.size = 74) (hd : a.defers = [])
    (hP : PeelAt w wr n c' A' g mb base cur ms ts T vm vt) (hg : Hid (peelGo (n - T.length) cur ms ts = peelL ss)) : PeelJ w n c A ss a wr := by
  refine ⟨c', A', g, mb, base, cur, ms, ts, T, vm, vt, fun i => a.tmps.getD i undef, ?_, hP, hg⟩
  obtain ⟨⟨l⟩, d⟩ := a
  simp only at hd
  subst hd
  rw [← h6, ← h0, ← h1, ← h2, ← h3, ← h4, ← h5]
  congr 2
  apply List.ext_getElem
  · simpa using hsz
  · intro i i1 i2
    have hs : l.length = 74 := by simpa using hsz
    have key : ∀ j (hj : j < l.length), (Array.mk l).getD j undef = l[j] := fun j hj => by simp [hj]
    match i, i1, i2 with
    | 0, i1, _ => exact (key 0 i1).symm
    | 1, i1, _ => exact (key 1 i1).symm
    | 2, i1, _ => exact (key 2 i1).symm
    | 3, i1, _ => exact (key 3 i1).symm
    | 4, i1, _ => exact (key 4 i1).symm
    | 5, i1, _ => exact (key 5 i1).symm
    | 6, i1, _ => exact (key 6 i1).symm
    | 7, i1, _ => exact (key 7 i1).symm
    | 8, i1, _ => exact (key 8 i1).symm
    | 9, i1, _ => exact (key 9 i1).symm
    | 10, i1, _ => exact (key 10 i1).symm
    | 11, i1, _ => exact (key 11 i1).symm
    | 12, i1, _ => exact (key 12 i1).symm
    | 13, i1, _ => exact (key 13 i1).symm
    | 14, i1, _ => exact (key 14 i1).symm
    | 15, i1, _ => exact (key 15 i1).symm
    | 16, i1, _ => exact (key 16 i1).symm
    | 17, i1, _ => exact (key 17 i1).symm
    | 18, i1, _ => exact (key 18 i1).symm
    | 19, i1, _ => exact (key 19 i1).symm
    | 20, i1, _ => exact (key 20 i1).symm
    | 21, i1, _ => exact (key 21 i1).symm
    | 22, i1, _ => exact (key 22 i1).symm
    | 23, i1, _ => exact (key 23 i1).symm
    | 24, i1, _ => exact (key 24 i1).symm
    | 25, i1, _ => exact (key 25 i1).symm
    | 26, i1, _ => exact (key 26 i1).symm
    | 27, i1, _ => exact (key 27 i1).symm
    | 28, i1, _ => exact (key 28 i1).symm
    | 29, i1, _ => exact (key 29 i1).symm
    | 30, i1, _ => exact (key 30 i1).symm
    | 31, i1, _ => exact (key 31 i1).symm
    | 32, i1, _ => exact (key 32 i1).symm
    | 33, i1, _ => exact (key 33 i1).symm
    | 34, i1, _ => exact (key 34 i1).symm
    | 35, i1, _ => exact (key 35 i1).symm
    | 36, i1, _ => exact (key 36 i1).symm
    | 37, i1, _ => exact (key 37 i1).symm
    | 38, i1, _ => exact (key 38 i1).symm
    | 39, i1, _ => exact (key 39 i1).symm
    | 40, i1, _ => exact (key 40 i1).symm
    | 41, i1, _ => exact (key 41 i1).symm
    | 42, i1, _ => exact (key 42 i1).symm
    | 43, i1, _ => exact (key 43 i1).symm
    | 44, i1, _ => exact (key 44 i1).symm
    | 45, i1, _ => exact (key 45 i1).symm
    | 46, i1, _ => exact (key 46 i1).symm
    | 47, i1, _ => exact (key 47 i1).symm
    | 48, i1, _ => exact (key 48 i1).symm
    | 49, i1, _ => exact (key 49 i1).symm
    | 50, i1, _ => exact (key 50 i1).symm
    | 51, i1, _ => exact (key 51 i1).symm
    | 52, i1, _ => exact (key 52 i1).symm
    | 53, i1, _ => exact (key 53 i1).symm
    | 54, i1, _ => exact (key 54 i1).symm
    | 55, i1, _ => exact (key 55 i1).symm
    | 56, i1, _ => exact (key 56 i1).symm
    | 57, i1, _ => exact (key 57 i1).symm
    | 58, i1, _ => exact (key 58 i1).symm
    | 59, i1, _ => exact (key 59 i1).symm
    | 60, i1, _ => exact (key 60 i1).symm
    | 61, i1, _ => exact (key 61 i1).symm
    | 62, i1, _ => exact (key 62 i1).symm
    | 63, i1, _ => exact (key 63 i1).symm
    | 64, i1, _ => exact (key 64 i1).symm
    | 65, i1, _ => exact (key 65 i1).symm
    | 66, i1, _ => exact (key 66 i1).symm
    | 67, i1, _ => exact (key 67 i1).symm
    | 68, i1, _ => exact (key 68 i1).symm
    | 69, i1, _ => exact (key 69 i1).symm
    | 70, i1, _ => exact (key 70 i1).symm
    | 71, i1, _ => exact (key 71 i1).symm
    | 72, i1, _ => exact (key 72 i1).symm
    | 73, i1, _ => exact (key 73 i1).symm
    | i + 74, i1, _ => omega

set_option maxHeartbeats 4000000 in
theorem peel_any {w : World} {A : Option Addr} {n c : Nat} {ss : List Sym} (h : Syms w A n c ss) (hs : n ≤ 1000) : Calls Try.prog 18 #[.slice A n c] w (RetPeel w (peelL ss)) := by
  have hnc := h.2.1
  have hcm : c ≤ 9223372036854775807 := by have := h.2.2.1; unfold maxLen at this; exact this
  have hl := hide h.1
  have hsI : (n : Int) ≤ 16384 := by omega
  have HC := hide (fun (V : World) (hV : Below w.heap.size w V) => clone_any (h.below hV) (by omega))
  clear h
  have hmm := @run_makeMap Try.prog
  go_enter Try.func18, Try.ntmps18
  go_wp2_with fail
  refine wp_scope_once 0 (PeelJ w n c A ss) (fun a _ => n - (lenV (a.tmps.getD 2 undef) + lenV (a.tmps.getD 3 undef))) rfl ?pass ?first
  case first =>
    intro hrest
    replace hrest := hide hrest
    go_wp2_with fail
    refine (HC.out _ (by go_grown)).mono ?_
    rintro e u1 ⟨A', N', c', rfl, p1, p2, p3, p4, p5, p6⟩
    obtain rfl : N' = n := by rw [← p1, hl.out]
    have hc1 : u1.cell? ⟨w.heap.size, 0, none⟩ = some (.slice A N' c) := by rw [p6.cell (p := ⟨w.heap.size, 0, none⟩) (by simp)]; go_side
    have hf1 : u1.frozen? ⟨w.heap.size, 0, none⟩ = false := by rw [p6.frozen (p := ⟨w.heap.size, 0, none⟩) (by simp)]; go_side
    clear p1
    go_wp2_with fail
    obtain ⟨g, HP⟩ := peel_start (by go_grown) (by simp) p6 hc1 hf1 hl.out p2 p3 p4 p5
    replace HP := hide HP
    clear p2 p3 p4 p5 p6 hc1 hf1
    go_step3
    rename_i hKx
    refine hKx _ _ (hrest.out _ _ ?_)
    exact peelJ_mk rfl rfl rfl rfl rfl rfl rfl (by rfl) (by rfl) HP.out (hide (by unfold peelL; rw [hl.out]; rfl))
  case pass =>
    clear HC
    rintro a wr ⟨c', A', g, mb, base, cur, ms, ts, T, vm, vt, us, rfl, HP, HG⟩
    obtain ⟨A1, c1, rfl, _⟩ := nums_own HP.mine
    obtain ⟨A2, c2, rfl, _⟩ := nums_own HP.theirs
    have cbx := HP.box
    have hTn := HP.few
    have hcc := HP.cap
    replace HP := hide HP
    go_wp2_with fail
    clear cbx
    go_loopw [2, 3, 20] (fun x2 x3 i wv => ∃ k : Nat, k ≤ n ∧ i = .int .i64 (k : Int) ∧ x2 = .slice A1 ms.length c1 ∧ x3 = .slice A2 ts.length c2 ∧ Hid (∀ j, j < k → okAt cur T j = false) ∧ Hid (PeelAt w wv n c' A' g mb base cur ms ts T (.slice A1 ms.length c1) (.slice A2 ts.length c2))) (fun _ _ i _ => n - (intOf i).toNat)
    case atStart => exact ⟨0, Nat.zero_le _, rfl, rfl, rfl, hide (fun j hj => by omega), HP⟩
    case round =>
      clear HP
      obtain ⟨k, hk, rfl, rfl, rfl, hd, HP⟩ := hrel
      by_cases hlt : k < n
      · have hk0 : (0 : Int) ≤ (k : Int) := by omega
        have hkn : (k : Int) < (n : Int) := by omega
        obtain ⟨rfl, OA, hg1, hg2, hg3⟩ := HP.out.own (by omega)
        obtain ⟨q0, q1, q2, _, _, _⟩ := OA k hlt
        have cbx := HP.out.box
        have lbx : w.heap.size < wr.heap.size := by have := HP.out.base; have := HP.out.mb0; have := HP.out.mb1; omega
        clear OA
        simp only at q0 q1 q2
        generalize hs' : cur.getD k Sym.zero = s at *
        replace hs' := hide hs'
        obtain ⟨M, hM⟩ : ∃ Z, Z = s.many.toInt := ⟨_, rfl⟩
        obtain ⟨S, hS⟩ : ∃ Z, Z = (s.sum.toNat : Int) := ⟨_, rfl⟩
        obtain ⟨K, hK⟩ : ∃ Z, Z = (s.check.toNat : Int) := ⟨_, rfl⟩
        rw [← hM] at q0
        rw [← hS] at q1
        rw [← hK] at q2
        replace hM := hide hM
        replace hS := hide hS
        replace hK := hide hK
        have HP5 : Hid (PeelAt w (wr.alloc (.cells #[.int .i64 M, .int .u64 S, .int .u64 K] 41)) n c' (some ⟨g, 0, none⟩) g mb base cur ms ts T (.slice A1 ms.length c1) (.slice A2 ts.length c2)) := hide (HP.out.below (by go_grown))
        have hlen := HP5.out.told.len HP5.out.nodup 3
        have hsz5 : wr.heap.size < (wr.alloc (.cells #[.int .i64 M, .int .u64 S, .int .u64 K] 41)).heap.size := by simp
        by_cases hfull : T.length = n
        · have hend : Hid (peelL ss = (cur, ms, ts)) := hide (by rw [← HG.out, hfull, Nat.sub_self]; rfl)
          rw [hfull] at hlen
          clear hd HG hfull
          have hS9 := hide (peel_syms HP5.out)
          have N1 := hide (nums_of HP5.out.mine)
          have N2 := hide (nums_of HP5.out.theirs)
          have cb9 := HP5.out.box
          have B9 := HP5.out.old
          have lb9 : w.heap.size < (wr.alloc (.cells #[.int .i64 M, .int .u64 S, .int .u64 K] 41)).heap.size := by have := HP5.out.base; have := HP5.out.mb0; have := HP5.out.mb1; omega
          have hl9 := HP5.out.len
          clear HP5
          cases hz : cur.any nz with
          | true =>
            have hdone : Hid (doneB cur = false) := hide (by unfold doneB; rw [hz, hl9]; simp; try omega)
            replace hz := hide hz
            go_wp2_with fail
            refine (contains_to hS9.out _ hz.out).mono ?_
            rintro e u9 ⟨rfl, hb9⟩
            obtain ⟨hc9, hf9⟩ := bcell hb9
            have N3 := hide (N1.out.below hb9)
            have N4 := hide (N2.out.below hb9)
            have B10 := hide (st B9 hb9 (Below.refl _ _))
            clear hb9 N1 N2 hS9
            go_wp2_with fail
            simp only [Exit.jump]
            go_ret3
            unfold RetPeel
            rw [hend.out]
            exact ⟨_, _, _, _, _, _, (by rw [hdone.out]; rfl), N3.out, N4.out, B10.out⟩
          | false =>
            have hdone : Hid (doneB cur = true) := hide (by unfold doneB; rw [hz, hl9]; simp; try omega)
            replace hz := hide hz
            go_wp2_with fail
            refine (contains_to hS9.out _ hz.out).mono ?_
            rintro e u9 ⟨rfl, hb9⟩
            obtain ⟨hc9, hf9⟩ := bcell hb9
            have N3 := hide (N1.out.below hb9)
            have N4 := hide (N2.out.below hb9)
            have B10 := hide (st B9 hb9 (Below.refl _ _))
            clear hb9 N1 N2 hS9
            go_wp2_with fail
            simp only [Exit.jump]
            go_ret3
            unfold RetPeel
            rw [hend.out]
            exact ⟨_, _, _, _, _, _, (by rw [hdone.out]; rfl), N3.out, N4.out, B10.out⟩
        · obtain ⟨X, hX⟩ : ∃ X, X = (T.length : Int) := ⟨_, rfl⟩
          have hXn2 : ¬ X = (n : Int) := by rw [hX]; exact fun e => hfull (Int.ofNat.inj e)
          have hXn : (X == (n : Int)) = false := by simpa using hXn2
          have hfewer : T.length < n := by omega
          rw [← hX] at hlen
          replace hX := hide hX
          cases hp : pureB s (k : Int) with
          | false =>
            have hd' : Hid (∀ j, j < k + 1 → okAt cur T j = false) := hide (fun j hj => by
              by_cases e : j = k
              · rw [e]; unfold okAt; rw [hs'.out, hp]; rfl
              · exact hd.out j (by omega))
            replace hp := hide hp
            clear hd
            go_wp2_with fail
            refine (pure_to _ _ _ s _ false hM.out hS.out hK.out hp.out _).mono ?_
            rintro e u1 ⟨rfl, hb1⟩
            have HP6 := hide (HP5.out.below hb1)
            clear hb1 HP5 HP hlen
            go_wp2_with fail
            go_roundw
            case rel => exact ⟨k + 1, by omega, by go_num, rfl, rfl, hd', HP6⟩
            case measure => simp [intOf]; omega
          | true =>
            cases ht : decide (s.sum ∈ T) with
            | true =>
              have hd' : Hid (∀ j, j < k + 1 → okAt cur T j = false) := hide (fun j hj => by
                by_cases e : j = k
                · rw [e]; unfold okAt; rw [hs'.out, ht]; simp
                · exact hd.out j (by omega))
              replace hp := hide hp
              clear hd
              go_wp2_with fail
              refine (pure_to _ _ _ s _ true hM.out hS.out hK.out hp.out _).mono ?_
              rintro e u1 ⟨rfl, hb1⟩
              obtain ⟨hc1, hf1⟩ := bcell hb1
              have HP6 := hide (HP5.out.below hb1)
              have hlook := HP6.out.told.look s.sum
              rw [ht, ← hS.out] at hlook
              clear hb1 HP5 HP hlen ht
              go_wp2_with fail
              go_roundw
              case rel => exact ⟨k + 1, by omega, by go_num, rfl, rfl, hd', HP6⟩
              case measure => simp [intOf]; omega
            | false =>
              have hok : okAt cur T k = true := by unfold okAt; rw [hs'.out, hp, ht]; rfl
              have hcong : ∀ i, okAt cur (ms ++ ts) i = okAt cur T i := fun i => okAt_congr (fun z => (HP.out.mem z).symm) i
              have hnx : nextI cur (ms ++ ts) = some k := next_some (by rw [HP.out.len]; exact hlt) (fun j hj => by rw [hcong]; exact hd.out j hj) (by rw [hcong]; exact hok)
              have hnotin : s.sum ∉ T := by simpa using ht
              have hmany := pure_many_is hp
              obtain ⟨f, hf⟩ : ∃ f, n - T.length = f + 1 := ⟨n - T.length - 1, by omega⟩
              have hf2 : n - (s.sum :: T).length = f := by simp only [List.length_cons]; omega
              have HG' := HG.out
              rw [hf] at HG'
              obtain ⟨i0, hi0, hz0, hz1, hz2⟩ := info_parts info22
              have hcount := HP.out.count
              replace hp := hide hp
              replace hok := hide hok
              replace hnotin := hide hnotin
              have hlcur := hide HP.out.len
              clear hd HG hcong
              by_cases hm1 : s.many = 1#64
              · have HN := hide (peelGo_mine (f := f) hnx (by rw [hs'.out]; exact hm1))
                rw [HG', hs'.out, ← hf2] at HN
                obtain rfl : M = 1 := by rw [hM.out, hm1]; rfl
                clear hm1 hmany hnx HG'
                go_wp2_with fail
                refine (pure_to _ _ _ s _ true hM.out hS.out hK.out hp.out _).mono ?_
                rintro e u1 ⟨rfl, hb1⟩
                obtain ⟨hc1, hf1⟩ := bcell hb1
                have HP6 := hide (HP5.out.below hb1)
                have hlook := HP6.out.told.look s.sum
                rw [ht, ← hS.out] at hlook
                obtain ⟨w3, hput, HT3, HG3⟩ := HP6.out.told.put s.sum (by omega)
                rw [← hS.out] at hput
                have hbm : wr.heap.size ≠ mb := by have := HP.out.base; have := HP.out.mb1; omega
                have sz1 := hb1.size
                have hlt1 : wr.heap.size < u1.heap.size := by omega
                have e0 : w3.cell? ⟨wr.heap.size, 0, none⟩ = some (.int .i64 (1)) := by rw [grown_cell HG3 hlt1 hbm, hc1 _ _ hsz5]; go_side
                have e1 : w3.cell? ⟨wr.heap.size, 1, none⟩ = some (.int .u64 S) := by rw [grown_cell HG3 hlt1 hbm, hc1 _ _ hsz5]; go_side
                have hown3 := own_row_kept HP6.out.mine HG3 (fun b e => by have := (HP6.out.mine.lt b e).1; have := HP6.out.mb1; simp; omega)
                have hs3 : base ≤ w3.heap.size := Nat.le_trans HP6.out.base HG3.size
                have hlt3 : wr.heap.size < w3.heap.size := Nat.lt_of_lt_of_le hlt1 HG3.size
                have hnb : some wr.heap.size ≠ (Value.slice A1 ms.length c1).ownBlock := fun e => by have := (HP.out.mine.lt _ e.symm).2; omega
                replace HT3 := hide HT3
                replace HG3 := hide HG3
                replace hnb := hide hnb
                clear ht HP5 HP hb1
                go_wp2_with (at_builtin; refine wpList_append_lies _ rfl (.tmp 46) (.tmp 49) 23 rfl base 22 i0 (.int .u64 0) 1 8 Try.underlying23 hi0 hz0 hz1 hz2 rfl (by omega) (.slice A1 ms.length c1) ms.length (ms.map numV) rfl (hown3.alloc _) ⟨w3.heap.size, 0, none⟩ 1 1 [.int .u64 S] rfl rfl ?mine1 ?mine2 (by omega) ?mine3 ?mine4 ?mine5 (w3.heap.size + 1) (by simp) ?_)
                case mine1 =>
                  intro j u hj
                  match j, hj with
                  | 0, hj => simp at hj; subst hj; simp [go_sem, Addr.add]
                  | q + 1, hj => simp at hj
                case mine2 => simp [Value.oneCell']
                case mine3 => unfold maxLen; omega
                case mine4 => omega
                case mine5 => simp; omega
                intro g1 cap w4 hown4 hG4 hat hlt4
                have HM := mid_of (o := .cells #[.int .u64 S] 22) (by omega) HP6.out HG3.out hG4
                have k0 : w4.heap[wr.heap.size]? = w3.heap[wr.heap.size]? := by rw [hG4.block _ (by simp; omega) hnb.out, Below.heap_alloc _ _ _ hlt3]
                have f0 : w4.cell? ⟨wr.heap.size, 0, none⟩ = some (.int .i64 (1)) := (World.cell?_of_block (a := ⟨wr.heap.size, 0, none⟩) k0).trans e0
                have f1 : w4.cell? ⟨wr.heap.size, 1, none⟩ = some (.int .u64 S) := (World.cell?_of_block (a := ⟨wr.heap.size, 1, none⟩) k0).trans e1
                rw [hS.out, show Value.int .u64 (s.sum.toNat : Int) = numV s.sum from rfl] at hown4
                have hat' : (Value.slice A1 ms.length c1).ownBlock = some g1 ∨ g1 = (w3.alloc (.cells #[.int .u64 S] 22)).heap.size := by rw [World.size_alloc]; exact hat
                replace hown4 := hide hown4
                replace hG4 := hide hG4
                replace hat' := hide hat'
                replace HM := hide HM
                clear hat k0 hown3 hc1 hf1 hput hlook
                go_wp2_with fail
                refine (out_any s.sum s.many HM.out.box HM.out.own HM.out.lg HM.out.lb HM.out.ne hcc (by omega) _ _ hS.out hM.out).mono ?_
                rintro e u5 ⟨rfl, hO5, hG5⟩
                have HP7 := hide (tell_mine (cur' := outL cur s.sum s.many) (by omega) HP6.out HG3.out HT3.out hnotin.out hfewer hG4.out hown4.out hat'.out hG5 (by rw [outL_len]; exact hlcur.out) (hO5.ext (fun t ht => by rw [outL_get _ _ _ _ (by rw [hlcur.out]; exact ht)])))
                clear hO5 hG5 HP6 HG3 HT3 hG4 hown4 hat' HM
                go_wp2_with fail
                go_step3
                exact ⟨rfl, peelJ_mk rfl rfl rfl rfl rfl rfl rfl (by rfl) (by rfl) HP7.out (hide HN.out.symm), by simp [lenV]; omega⟩
              · have hm2 : s.many = -1#64 := by rcases hmany with e | e; exact absurd e hm1; exact e
                have HN := hide (peelGo_theirs (f := f) hnx (by rw [hs'.out]; exact hm1))
                rw [HG', hs'.out, ← hf2] at HN
                obtain rfl : M = -1 := by rw [hM.out, hm2]; rfl
                clear hm1 hmany hnx HG'
                go_wp2_with fail
                refine (pure_to _ _ _ s _ true hM.out hS.out hK.out hp.out _).mono ?_
                rintro e u1 ⟨rfl, hb1⟩
                obtain ⟨hc1, hf1⟩ := bcell hb1
                have HP6 := hide (HP5.out.below hb1)
                have hlook := HP6.out.told.look s.sum
                rw [ht, ← hS.out] at hlook
                obtain ⟨w3, hput, HT3, HG3⟩ := HP6.out.told.put s.sum (by omega)
                rw [← hS.out] at hput
                have hbm : wr.heap.size ≠ mb := by have := HP.out.base; have := HP.out.mb1; omega
                have sz1 := hb1.size
                have hlt1 : wr.heap.size < u1.heap.size := by omega
                have e0 : w3.cell? ⟨wr.heap.size, 0, none⟩ = some (.int .i64 (-1)) := by rw [grown_cell HG3 hlt1 hbm, hc1 _ _ hsz5]; go_side
                have e1 : w3.cell? ⟨wr.heap.size, 1, none⟩ = some (.int .u64 S) := by rw [grown_cell HG3 hlt1 hbm, hc1 _ _ hsz5]; go_side
                have hown3 := own_row_kept HP6.out.theirs HG3 (fun b e => by have := (HP6.out.theirs.lt b e).1; have := HP6.out.mb1; simp; omega)
                have hs3 : base ≤ w3.heap.size := Nat.le_trans HP6.out.base HG3.size
                have hlt3 : wr.heap.size < w3.heap.size := Nat.lt_of_lt_of_le hlt1 HG3.size
                have hnb : some wr.heap.size ≠ (Value.slice A2 ts.length c2).ownBlock := fun e => by have := (HP.out.theirs.lt _ e.symm).2; omega
                replace HT3 := hide HT3
                replace HG3 := hide HG3
                replace hnb := hide hnb
                clear ht HP5 HP hb1
                go_wp2_with (at_builtin; refine wpList_append_lies _ rfl (.tmp 51) (.tmp 54) 23 rfl base 22 i0 (.int .u64 0) 1 8 Try.underlying23 hi0 hz0 hz1 hz2 rfl (by omega) (.slice A2 ts.length c2) ts.length (ts.map numV) rfl (hown3.alloc _) ⟨w3.heap.size, 0, none⟩ 1 1 [.int .u64 S] rfl rfl ?theirs1 ?theirs2 (by omega) ?theirs3 ?theirs4 ?theirs5 (w3.heap.size + 1) (by simp) ?_)
                case theirs1 =>
                  intro j u hj
                  match j, hj with
                  | 0, hj => simp at hj; subst hj; simp [go_sem, Addr.add]
                  | q + 1, hj => simp at hj
                case theirs2 => simp [Value.oneCell']
                case theirs3 => unfold maxLen; omega
                case theirs4 => omega
                case theirs5 => simp; omega
                intro g1 cap w4 hown4 hG4 hat hlt4
                have HM := mid_of (o := .cells #[.int .u64 S] 22) (by omega) HP6.out.swap HG3.out hG4
                have k0 : w4.heap[wr.heap.size]? = w3.heap[wr.heap.size]? := by rw [hG4.block _ (by simp; omega) hnb.out, Below.heap_alloc _ _ _ hlt3]
                have f0 : w4.cell? ⟨wr.heap.size, 0, none⟩ = some (.int .i64 (-1)) := (World.cell?_of_block (a := ⟨wr.heap.size, 0, none⟩) k0).trans e0
                have f1 : w4.cell? ⟨wr.heap.size, 1, none⟩ = some (.int .u64 S) := (World.cell?_of_block (a := ⟨wr.heap.size, 1, none⟩) k0).trans e1
                rw [hS.out, show Value.int .u64 (s.sum.toNat : Int) = numV s.sum from rfl] at hown4
                have hat' : (Value.slice A2 ts.length c2).ownBlock = some g1 ∨ g1 = (w3.alloc (.cells #[.int .u64 S] 22)).heap.size := by rw [World.size_alloc]; exact hat
                replace hown4 := hide hown4
                replace hG4 := hide hG4
                replace hat' := hide hat'
                replace HM := hide HM
                clear hat k0 hown3 hc1 hf1 hput hlook
                go_wp2_with fail
                refine (out_any s.sum s.many HM.out.box HM.out.own HM.out.lg HM.out.lb HM.out.ne hcc (by omega) _ _ hS.out hM.out).mono ?_
                rintro e u5 ⟨rfl, hO5, hG5⟩
                have HP7 := hide (tell_theirs (cur' := outL cur s.sum s.many) (by omega) HP6.out HG3.out HT3.out hnotin.out hfewer hG4.out hown4.out hat'.out hG5 (by rw [outL_len]; exact hlcur.out) (hO5.ext (fun t ht => by rw [outL_get _ _ _ _ (by rw [hlcur.out]; exact ht)])))
                clear hO5 hG5 HP6 HG3 HT3 hG4 hown4 hat' HM
                go_wp2_with fail
                go_step3
                exact ⟨rfl, peelJ_mk rfl rfl rfl rfl rfl rfl rfl (by rfl) (by rfl) HP7.out (hide HN.out.symm), by simp [lenV]; omega⟩
      · obtain rfl : k = n := by omega
        have hend : Hid (peelL ss = (cur, ms, ts)) := hide (by
          rw [← HG.out]
          exact peelGo_none (next_none (fun j hj => by rw [okAt_congr (fun z => (HP.out.mem z).symm)]; exact hd.out j (by rw [← HP.out.len]; exact hj))))
        clear hd HG
        rcases Nat.eq_zero_or_pos k with h0 | hpos
        · subst h0
          have hS9 := hide (peel_syms HP.out)
          have N1 := hide (nums_of HP.out.mine)
          have N2 := hide (nums_of HP.out.theirs)
          have cb9 := HP.out.box
          have B9 := HP.out.old
          have lb9 : w.heap.size < (wr).heap.size := by have := HP.out.base; have := HP.out.mb0; have := HP.out.mb1; omega
          have hl9 := HP.out.len
          clear HP
          cases hz : cur.any nz with
          | true =>
            have hdone : Hid (doneB cur = false) := hide (by unfold doneB; rw [hz, hl9]; simp; try omega)
            replace hz := hide hz
            go_wp2_with fail
            refine (contains_to hS9.out _ hz.out).mono ?_
            rintro e u9 ⟨rfl, hb9⟩
            obtain ⟨hc9, hf9⟩ := bcell hb9
            have N3 := hide (N1.out.below hb9)
            have N4 := hide (N2.out.below hb9)
            have B10 := hide (st B9 hb9 (Below.refl _ _))
            clear hb9 N1 N2 hS9
            go_wp2_with fail
            simp only [Exit.jump]
            go_ret3
            unfold RetPeel
            rw [hend.out]
            exact ⟨_, _, _, _, _, _, (by rw [hdone.out]; rfl), N3.out, N4.out, B10.out⟩
          | false =>
            have hdone : Hid (doneB cur = false) := hide (by unfold doneB; rw [hz, hl9]; simp; try omega)
            replace hz := hide hz
            go_wp2_with fail
            refine (contains_to hS9.out _ hz.out).mono ?_
            rintro e u9 ⟨rfl, hb9⟩
            obtain ⟨hc9, hf9⟩ := bcell hb9
            have N3 := hide (N1.out.below hb9)
            have N4 := hide (N2.out.below hb9)
            have B10 := hide (st B9 hb9 (Below.refl _ _))
            clear hb9 N1 N2 hS9
            go_wp2_with fail
            simp only [Exit.jump]
            go_ret3
            unfold RetPeel
            rw [hend.out]
            exact ⟨_, _, _, _, _, _, (by rw [hdone.out]; rfl), N3.out, N4.out, B10.out⟩
        · have hposI : (0 : Int) < (k : Int) := by omega
          have hS9 := hide (peel_syms HP.out)
          have N1 := hide (nums_of HP.out.mine)
          have N2 := hide (nums_of HP.out.theirs)
          have cb9 := HP.out.box
          have B9 := HP.out.old
          have lb9 : w.heap.size < (wr).heap.size := by have := HP.out.base; have := HP.out.mb0; have := HP.out.mb1; omega
          have hl9 := HP.out.len
          clear HP
          cases hz : cur.any nz with
          | true =>
            have hdone : Hid (doneB cur = false) := hide (by unfold doneB; rw [hz, hl9]; simp; try omega)
            replace hz := hide hz
            go_wp2_with fail
            refine (contains_to hS9.out _ hz.out).mono ?_
            rintro e u9 ⟨rfl, hb9⟩
            obtain ⟨hc9, hf9⟩ := bcell hb9
            have N3 := hide (N1.out.below hb9)
            have N4 := hide (N2.out.below hb9)
            have B10 := hide (st B9 hb9 (Below.refl _ _))
            clear hb9 N1 N2 hS9
            go_wp2_with fail
            simp only [Exit.jump]
            go_ret3
            unfold RetPeel
            rw [hend.out]
            exact ⟨_, _, _, _, _, _, (by rw [hdone.out]; rfl), N3.out, N4.out, B10.out⟩
          | false =>
            have hdone : Hid (doneB cur = true) := hide (by unfold doneB; rw [hz, hl9]; simp; try omega)
            replace hz := hide hz
            go_wp2_with fail
            refine (contains_to hS9.out _ hz.out).mono ?_
            rintro e u9 ⟨rfl, hb9⟩
            obtain ⟨hc9, hf9⟩ := bcell hb9
            have N3 := hide (N1.out.below hb9)
            have N4 := hide (N2.out.below hb9)
            have B10 := hide (st B9 hb9 (Below.refl _ _))
            clear hb9 N1 N2 hS9
            go_wp2_with fail
            simp only [Exit.jump]
            go_ret3
            unfold RetPeel
            rw [hend.out]
            exact ⟨_, _, _, _, _, _, (by rw [hdone.out]; rfl), N3.out, N4.out, B10.out⟩
end Go.Proofs.Ytabgenhednhagaa

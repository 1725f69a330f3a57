/-
  Chapter 34: rows of symbols that a call itself made; the symbols of a set by package sketch; a copy of a row.
-/
import Derived.Test.YtabgenhednhagaaWalks3
import Derived.Lib.Hide
namespace Go.Proofs.Ytabgenhednhagaa
open Go.RowKit Plain
set_option linter.unusedSimpArgs false
set_option linter.unusedVariables false
attribute [local go_sem ↓] Go.wp_at_zero Go.wp_at_succ

def symsV (L : List Sym) : List Value := L.flatMap symCs
theorem symsV_len (L : List Sym) : (symsV L).length = L.length * 3 := by
  induction L with
  | nil => rfl
  | cons p r ih => simp only [symsV, List.flatMap_cons, List.length_append, List.length_cons, symCs, List.length_nil] at ih ⊢; omega
theorem symsV_snoc (L : List Sym) (s : Sym) : symsV L ++ symCs s = symsV (L ++ [s]) := by simp [symsV]
theorem symsV_get : ∀ (L : List Sym) (j : Nat), j < L.length → (symsV L)[j * 3]? = some (.int .i64 (L.getD j Sym.zero).many.toInt) ∧ (symsV L)[j * 3 + 1]? = some (numV (L.getD j Sym.zero).sum) ∧ (symsV L)[j * 3 + 2]? = some (numV (L.getD j Sym.zero).check)
  | p :: r, 0, _ => by simp [symsV, symCs, numV]
  | p :: r, j + 1, h => by
    have := symsV_get r j (by simpa using h)
    simp only [symsV, List.flatMap_cons] at this ⊢
    have hl : (symCs p).length = 3 := rfl
    refine ⟨?_, ?_, ?_⟩
    · rw [List.getElem?_append_right (by rw [hl]; omega), hl, show (j + 1) * 3 - 3 = j * 3 by omega]; simpa using this.1
    · rw [List.getElem?_append_right (by rw [hl]; omega), hl, show (j + 1) * 3 + 1 - 3 = j * 3 + 1 by omega]; simpa using this.2.1
    · rw [List.getElem?_append_right (by rw [hl]; omega), hl, show (j + 1) * 3 + 2 - 3 = j * 3 + 2 by omega]; simpa using this.2.2
theorem symsV_one (L : List Sym) : ∀ u ∈ symsV L, u.oneCell' = true := by
  intro u hu
  obtain ⟨s, _, hs⟩ := List.mem_flatMap.1 hu
  simp [symCs] at hs
  rcases hs with rfl | rfl | rfl <;> rfl
theorem info41 : (Try.prog.info? 41).map (fun i => (i.zero, i.size, i.bytes)) = some (some (.agg #[.int .i64 0, .int .u64 0, .int .u64 0]), 3, 24) := by kernel_rfl

/-- Block g holds the symbols f 0, .. f (m - 1), and none of its cells is frozen. -/
def OwnAt (w : World) (g m : Nat) (f : Nat → Sym) : Prop := ∀ j, j < m →
  w.cell? ⟨g, j * 3, none⟩ = some (.int .i64 (f j).many.toInt) ∧ w.cell? ⟨g, j * 3 + 1, none⟩ = some (.int .u64 ((f j).sum.toNat : Int)) ∧ w.cell? ⟨g, j * 3 + 2, none⟩ = some (.int .u64 ((f j).check.toNat : Int)) ∧
  w.frozen? ⟨g, j * 3, none⟩ = false ∧ w.frozen? ⟨g, j * 3 + 1, none⟩ = false ∧ w.frozen? ⟨g, j * 3 + 2, none⟩ = false
theorem OwnAt.below {w w' : World} {g m : Nat} {f : Nat → Sym} (h : OwnAt w g m f) (hg : g < w.heap.size) (hb : Below w.heap.size w w') : OwnAt w' g m f := fun j hj => by
  obtain ⟨h1, h2, h3, h4, h5, h6⟩ := h j hj
  exact ⟨(hb.cell (p := ⟨g, _, none⟩) hg).trans h1, (hb.cell (p := ⟨g, _, none⟩) hg).trans h2, (hb.cell (p := ⟨g, _, none⟩) hg).trans h3,
    (hb.frozen (p := ⟨g, _, none⟩) hg).trans h4, (hb.frozen (p := ⟨g, _, none⟩) hg).trans h5, (hb.frozen (p := ⟨g, _, none⟩) hg).trans h6⟩
theorem OwnAt.ext {w : World} {g m : Nat} {f f' : Nat → Sym} (h : OwnAt w g m f) (e : ∀ j, j < m → f j = f' j) : OwnAt w g m f' := fun j hj => by rw [← e j hj]; exact h j hj
/-- Behind stores into the k-th symbol of block g alone (and new blocks). -/
structure Away (w w' : World) (g k : Nat) : Prop where
  cell : ∀ b o, b < w.heap.size → ¬ (b = g ∧ (o = k * 3 ∨ o = k * 3 + 1 ∨ o = k * 3 + 2)) → w'.cell? ⟨b, o, none⟩ = w.cell? ⟨b, o, none⟩
  frozen : ∀ b o, b < w.heap.size → w'.frozen? ⟨b, o, none⟩ = w.frozen? ⟨b, o, none⟩
  size : w.heap.size ≤ w'.heap.size
theorem Away.refl (w : World) (g k : Nat) : Away w w g k := ⟨fun _ _ _ _ => rfl, fun _ _ _ => rfl, Nat.le_refl _⟩
theorem Away.below {w v v' : World} {g k : Nat} (h : Away w v g k) (hb : Below v.heap.size v v') : Away w v' g k :=
  ⟨fun b o hlt hne => (hb.cell (p := ⟨b, o, none⟩) (Nat.lt_of_lt_of_le hlt h.size)).trans (h.cell b o hlt hne), fun b o hlt => (hb.frozen (p := ⟨b, o, none⟩) (Nat.lt_of_lt_of_le hlt h.size)).trans (h.frozen b o hlt), Nat.le_trans h.size hb.size⟩
theorem Away.set {w v : World} {g k : Nat} (h : Away w v g k) (o : Nat) (ho : o = k * 3 ∨ o = k * 3 + 1 ∨ o = k * 3 + 2) (u : Value) : Away w (v.setCell ⟨g, o, none⟩ u) g k := by
  refine ⟨fun b o' hlt hne => ?_, fun b o' hlt => by rw [World.frozen?_setCell]; exact h.frozen b o' hlt, by simpa using h.size⟩
  rw [World.cell?_setCell_other _ _ _ _ (fun e => hne (by injection e with e1 e2; exact ⟨e1.symm, by omega⟩))]
  exact h.cell b o' hlt hne
theorem OwnAt.put {w w' : World} {g m k : Nat} {f : Nat → Sym} (h : OwnAt w g m f) (ha : Away w w' g k) (hg : g < w.heap.size) (hk : k < m) {s : Sym} {M S K : Int} (hM : M = s.many.toInt) (hS : S = (s.sum.toNat : Int)) (hK : K = (s.check.toNat : Int))
    (c0 : w'.cell? ⟨g, k * 3, none⟩ = some (.int .i64 M)) (c1 : w'.cell? ⟨g, k * 3 + 1, none⟩ = some (.int .u64 S)) (c2 : w'.cell? ⟨g, k * 3 + 2, none⟩ = some (.int .u64 K)) : OwnAt w' g m (fun t => if t = k then s else f t) := by
  subst hM hS hK
  intro j hj
  obtain ⟨h1, h2, h3, h4, h5, h6⟩ := h j hj
  refine ⟨?_, ?_, ?_, (ha.frozen _ _ hg).trans h4, (ha.frozen _ _ hg).trans h5, (ha.frozen _ _ hg).trans h6⟩
  all_goals
    by_cases e : j = k
    · subst e; simp only [if_true]; assumption
    · simp only [if_neg e]; rw [ha.cell _ _ hg (by rintro ⟨_, h | h | h⟩ <;> omega)]; assumption
/-- What a call returns that owns its symbols. -/
def RetOwn (w : World) (ss : List Sym) (e : Ending) (w' : World) : Prop := ∃ A n c, e = .returned (.slice A n c) ∧ ss.length = n ∧ n ≤ c ∧ c ≤ maxLen ∧ (A = none → c = 0) ∧
  (0 < n → ∃ g, A = some ⟨g, 0, none⟩ ∧ w.heap.size ≤ g ∧ g < w'.heap.size ∧ OwnAt w' g n (fun j => ss.getD j Sym.zero)) ∧ Below w.heap.size w w'
theorem own_row {w : World} {g n c base : Nat} {ss : List Sym} (h : w.ownsRow base 41 3 (.slice (some ⟨g, 0, none⟩) n c) n (symsV ss)) : OwnAt w g n (fun j => ss.getD j Sym.zero) := by
  have hl : ss.length = n := by have := h.1; rw [symsV_len] at this; omega
  intro j hj
  obtain ⟨e1, e2, e3⟩ := symsV_get ss j (by omega)
  exact ⟨(h.cellAt (j * 3) (by omega)).trans e1, (h.cellAt (j * 3 + 1) (by omega)).trans e2, (h.cellAt (j * 3 + 2) (by omega)).trans e3, h.frozenAt _, h.frozenAt _, h.frozenAt _⟩
theorem own_of {w : World} {base n : Nat} {v : Value} {ss : List Sym} (h : w.ownsRow base 41 3 v n (symsV ss)) : ∃ A c, v = .slice A n c ∧ ss.length = n ∧ n ≤ c ∧ c ≤ maxLen ∧ (A = none → c = 0) ∧
    (0 < n → ∃ g, A = some ⟨g, 0, none⟩ ∧ base ≤ g ∧ g < w.heap.size ∧ OwnAt w g n (fun j => ss.getD j Sym.zero)) := by
  have hl : ss.length = n := by have := h.1; rw [symsV_len] at this; omega
  have h0 := h
  rcases h.2 with ⟨rfl, rfl⟩ | ⟨g, cap, cur, rfl, _, hh, hnc, hcm, hcs, hcc⟩
  · exact ⟨none, 0, rfl, hl, Nat.le_refl _, by unfold maxLen; omega, fun _ => rfl, fun h => by omega⟩
  · exact ⟨_, cap, rfl, hl, hnc, hcm, (fun e => by simp at e), fun hn => ⟨g, rfl, (h0.lt g rfl).1, (h0.lt g rfl).2, own_row h0⟩⟩
theorem OwnAt.syms {w : World} {g n : Nat} {f : Nat → Sym} (h : OwnAt w g n f) (hg : g < w.heap.size) {c : Nat} (hc : n ≤ c) (hm : c ≤ maxLen) : Syms w (some ⟨g, 0, none⟩) n c ((List.range n).map f) := by
  refine ⟨by simp, hc, hm, (fun e => by simp at e), fun _ => ⟨g, 0, rfl, hg, fun j hj => ?_⟩⟩
  obtain ⟨h1, h2, h3, _⟩ := h j hj
  rw [show ((List.range n).map f).getD j Sym.zero = f j by simp [List.getD_eq_getElem?_getD, List.getElem?_range hj], Nat.zero_add]
  exact ⟨h1, h2, h3⟩
theorem ret_syms {w w' : World} {ss : List Sym} {e : Ending} (h : RetOwn w ss e w') : RetSyms w ss e w' := by
  obtain ⟨A, n, c, rfl, hl, hnc, hcm, hA, hg, hB⟩ := h
  refine ⟨A, n, c, rfl, ⟨hl, hnc, hcm, hA, fun hn => ?_⟩, hB⟩
  obtain ⟨g, rfl, _, hlt, ho⟩ := hg hn
  refine ⟨g, 0, rfl, hlt, fun j hj => ?_⟩
  obtain ⟨h1, h2, h3, _⟩ := ho j hj
  rw [Nat.zero_add]
  exact ⟨h1, h2, h3⟩
theorem clone_any {w : World} {A : Option Addr} {n c : Nat} {ss : List Sym} (h : Syms w A n c ss) (hs : n ≤ 1000000) : Calls Try.prog 30 #[.slice A n c] w (RetOwn w ss) := by
  have hl := hide h.1
  cases A with
  | none =>
    have hn : n = 0 := by
      rcases Nat.eq_zero_or_pos n with h0 | h0
      · exact h0
      · obtain ⟨b, off, e, _⟩ := h.2.2.2.2 h0; cases e
    have hc := h.2.2.2.1 rfl
    subst hn hc
    have hz : ss = [] := List.eq_nil_of_length_eq_zero hl.out
    subst hz
    clear h hl
    have hq := fun (W : World) => Lib.run_eql_slice_nil (P := Try.prog) W 28 41 none 0 0 0 0 Try.underlying28
    simp only [Option.isNone_none] at hq
    go_enter Try.func30, Try.ntmps30
    go_wp2
    go_ret
    exact ⟨none, 0, 0, rfl, rfl, Nat.le_refl _, by unfold maxLen; omega, fun _ => rfl, fun h => by omega, Below.refl _ _⟩
  | some ad =>
    obtain ⟨i0, hi0, hz0, hz1, hz2⟩ := info_parts info41
    have hcells : ∀ j u, (symsV ss)[j]? = some u → (w.alloc (.cells #[] 41)).cell? (ad.add j) = some u := by
      intro j u hu
      have hj : j < ss.length * 3 := by
        rw [← symsV_len]
        rcases Nat.lt_or_ge j (symsV ss).length with hlt | hge
        · exact hlt
        · rw [List.getElem?_eq_none hge] at hu; cases hu
      have hll := hl.out
      obtain ⟨b, off, e, hb, hcl⟩ := h.2.2.2.2 (by omega)
      injection e with e
      subst e
      have hi : j / 3 < n := by omega
      obtain ⟨k1, k2, k3⟩ := hcl (j / 3) hi
      obtain ⟨e1, e2, e3⟩ := symsV_get ss (j / 3) (by omega)
      rw [Go.WideShapes.add_plain, World.cell?_alloc_lt _ _ _ (by exact hb)]
      rcases (by omega : j = j / 3 * 3 ∨ j = j / 3 * 3 + 1 ∨ j = j / 3 * 3 + 2) with hr | hr | hr
      · rw [hr] at hu ⊢
        rw [e1] at hu; rw [k1, hu]
      · rw [hr] at hu ⊢
        rw [e2] at hu; rw [← Nat.add_assoc, k2, hu]
      · rw [hr] at hu ⊢
        rw [e3] at hu; rw [← Nat.add_assoc, k3, hu]
    have hq := fun (W : World) => Lib.run_eql_slice_nil (P := Try.prog) W 28 41 (some ad) n c 0 0 Try.underlying28
    simp only [Option.isNone_some] at hq
    have hlen : (symsV ss).length = n * 3 := by rw [symsV_len, hl.out]
    have h1 := symsV_one ss
    replace hcells := hide hcells
    replace h1 := hide h1
    replace hlen := hide hlen
    obtain ⟨xs, hxs⟩ : ∃ xs, xs = symsV ss := ⟨_, rfl⟩
    rw [← hxs] at hcells h1 hlen
    replace hxs := hide hxs
    clear h
    go_enter Try.func30, Try.ntmps30
    go_wp2_with (at_builtin; refine wpList_append_own _ rfl _ _ 28 rfl w.heap.size 41 i0 (.agg #[.int .i64 0, .int .u64 0, .int .u64 0]) 3 24 Try.underlying28 hi0 hz0 hz1 hz2 rfl (by decide) _ 0 [] rfl (World.ownsRow_made w #[] 0 (Nat.le_refl _) (by unfold maxLen; omega) rfl) ad n c xs rfl hlen.out hcells.out h1.out ?c3 ?c4 ?c5 ?_)
    case c3 => unfold maxLen; omega
    case c4 => omega
    case c5 => simp
    intro v' w2 hown2 hg _
    have hB2 : Below w.heap.size w w2 := ((Below.refl _ _).alloc (Nat.le_refl _) _).grown hg (by simp) (fun k hk => by simp [Value.ownBlock] at hk; omega)
    rw [hxs.out] at hown2
    replace hown2 := hide hown2
    clear hg hq
    go_wp2
    go_ret
    obtain ⟨A, c', rfl, p1, p2, p3, p4, p5⟩ := own_of hown2.out
    exact ⟨A, _, c', rfl, hl.out, by simpa using p2, p3, p4, by simpa using p5, hB2⟩

/-! ### The symbols of a set -/
def symsL (zs : List W) (f m : Int) : List Sym := if 0 ≤ f ∧ 0 ≤ m ∧ f ≤ 16384 ∧ m ≤ 16384 - f then (List.range m.toNat).map (fun (t : Nat) => oneS zs (f + (t : Int))) else []
theorem symsL_no (zs : List W) {f m : Int} (h : ¬ (0 ≤ f ∧ 0 ≤ m ∧ f ≤ 16384 ∧ m ≤ 16384 - f)) : symsL zs f m = [] := if_neg h
theorem symsL_yes (zs : List W) {f m : Nat} (h : f + m ≤ 16384) : symsL zs (f : Int) (m : Int) = (List.range m).map (fun (t : Nat) => oneS zs ((f : Int) + (t : Int))) := by
  unfold symsL; rw [if_pos (by omega), Int.toNat_natCast]
/-- What the rows hold while the k-th symbol has the first j numbers. -/
def stF (zs : List W) (f k j t : Nat) : Sym := if t < k then oneS zs ((f : Int) + (t : Int)) else if t = k then oneS (zs.take j) ((f : Int) + (k : Int)) else Sym.zero
theorem stF_start (zs : List W) (f t : Nat) : Sym.zero = stF zs f 0 0 t := by
  unfold stF; rw [if_neg (by omega)]; split <;> rfl
theorem stF_next (zs : List W) (f k t : Nat) : stF zs f k zs.length t = stF zs f (k + 1) 0 t := by
  unfold stF
  by_cases h1 : t < k
  · rw [if_pos h1, if_pos (by omega)]
  · rw [if_neg h1]
    by_cases h2 : t = k
    · rw [if_pos h2, if_pos (by omega), List.take_length, h2]
    · rw [if_neg h2, if_neg (by omega)]; split <;> rfl
theorem stF_end (zs : List W) (f m t : Nat) (h : t < m) : stF zs f m 0 t = oneS zs ((f : Int) + (t : Int)) := if_pos h
theorem stF_skip (zs : List W) (f k j t : Nat) (hj : j < zs.length) (hin : inI (zs.getD j 0#64) ((f : Int) + (k : Int)) = false) : stF zs f k j t = stF zs f k (j + 1) t := by
  unfold stF
  rw [oneS_step zs _ j hj, hin]
  simp only [Bool.false_eq_true, if_false]
theorem stF_put (zs : List W) (f k j t : Nat) (hj : j < zs.length) (hin : inI (zs.getD j 0#64) ((f : Int) + (k : Int)) = true) : (if t = k then (oneS (zs.take j) ((f : Int) + (k : Int))).put (zs.getD j 0#64) 1#64 else stF zs f k j t) = stF zs f k (j + 1) t := by
  unfold stF
  rw [oneS_step zs _ j hj, hin, if_pos rfl]
  by_cases h2 : t = k
  · rw [if_pos h2, if_neg (by omega), if_pos h2]
  · rw [if_neg h2]; simp only [if_neg h2]
theorem stF_at (zs : List W) (f k j : Nat) : stF zs f k j k = oneS (zs.take j) ((f : Int) + (k : Int)) := by unfold stF; rw [if_neg (by omega), if_pos rfl]
theorem with_to (M S K Z Y M' S' K' : Int) (s : Sym) (z y : W) (hM : M = s.many.toInt) (hS : S = (s.sum.toNat : Int)) (hK : K = (s.check.toNat : Int)) (hZ : Z = (z.toNat : Int)) (hY : Y = y.toInt)
    (hM' : M' = (s.put z y).many.toInt) (hS' : S' = ((s.put z y).sum.toNat : Int)) (hK' : K' = ((s.put z y).check.toNat : Int)) (w : World) :
    Calls Try.prog 28 #[.agg #[.int .i64 M, .int .u64 S, .int .u64 K], .int .u64 Z, .int .i64 Y] w fun e w' => e = .returned (.agg #[.int .i64 M', .int .u64 S', .int .u64 K']) ∧ Below w.heap.size w w' := by
  subst hM hS hK hZ hY hM' hS' hK'; exact with_any s z y w
theorem own_made {w : World} {base g n c : Nat} (h : w.ownsRow base 41 3 (.slice (some ⟨g, 0, none⟩) n c) n (madeCells (Value.agg #[.int .i64 0, .int .u64 0, .int .u64 0]).cells (n * 3)).toList) : OwnAt w g n (fun _ => Sym.zero) := by
  intro j hj
  have hz : (Value.agg #[.int .i64 0, .int .u64 0, .int .u64 0]).cells = #[.int .i64 0, .int .u64 0, .int .u64 0] := rfl
  have get : ∀ i, i < n * 3 → w.cell? ⟨g, i, none⟩ = some (#[Value.int .i64 0, .int .u64 0, .int .u64 0][i % 3]!) := fun i hi => by
    rw [h.cellAt i hi, hz]
    simp [madeCells, hi]
  refine ⟨?_, ?_, ?_, h.frozenAt _, h.frozenAt _, h.frozenAt _⟩
  · rw [get _ (by omega), show j * 3 % 3 = 0 by omega]; rfl
  · rw [get _ (by omega), show (j * 3 + 1) % 3 = 1 by omega]; rfl
  · rw [get _ (by omega), show (j * 3 + 2) % 3 = 2 by omega]; rfl
theorem symbols_no {w : World} {A : Option Addr} {n c : Nat} {zs : List W} (f m : Int) (hno : ¬ (0 ≤ f ∧ 0 ≤ m ∧ f ≤ 16384 ∧ m ≤ 16384 - f)) : Calls Try.prog 16 #[.slice A n c, .int .i64 f, .int .i64 m] w (RetSyms w (symsL zs f m)) := by
  rw [symsL_no zs hno]
  by_cases h1 : f < 0
  · clear hno
    go_enter Try.func16, Try.ntmps16
    go_wp2_with fail
    go_ret
    exact ⟨none, 0, 0, rfl, syms_nil _, Below.refl _ _⟩
  · by_cases h2 : m < 0
    · clear hno
      go_enter Try.func16, Try.ntmps16
      go_wp2_with fail
      go_ret
      exact ⟨none, 0, 0, rfl, syms_nil _, Below.refl _ _⟩
    · by_cases h3 : 16384 < f
      · clear hno
        go_enter Try.func16, Try.ntmps16
        go_wp2_with fail
        go_ret
        exact ⟨none, 0, 0, rfl, syms_nil _, Below.refl _ _⟩
      · have h4 : 16384 - f < m := by omega
        clear hno
        go_enter Try.func16, Try.ntmps16
        go_wp2_with fail
        go_ret
        exact ⟨none, 0, 0, rfl, syms_nil _, Below.refl _ _⟩
set_option maxHeartbeats 4000000 in
theorem symbols_yes {w : World} {A : Option Addr} {n c : Nat} {zs : List W} (h : Nums w A n c zs) (f m : Nat) (hfm : f + m ≤ 16384) : Calls Try.prog 16 #[.slice A n c, .int .i64 (f : Int), .int .i64 (m : Int)] w (RetSyms w (symsL zs (f : Int) (m : Int))) := by
  have hn := h.max
  have hl := hide h.1
  replace h := hide h
  have hL := hide (symsL_yes zs hfm)
  have b1 : (f : Int) ≤ 16384 := by omega
  have b2 : (m : Int) ≤ 16384 - (f : Int) := by omega
  have b3 : 0 ≤ (f : Int) := by omega
  have b4 : 0 ≤ (m : Int) := by omega
  obtain ⟨i0, hi0, hz0, hz1, hz2⟩ := info_parts info41
  go_enter Try.func16, Try.ntmps16
  go_wp2_with ((with_reducible refine wpList_make_full _ rfl _ _ 28 rfl w.heap.size 41 i0 (.agg #[.int .i64 0, .int .u64 0, .int .u64 0]) 3 Try.underlying28 hi0 hz0 hz1 .i64 .i64 (m : Int) (m : Int) m rfl rfl rfl rfl (by rw [hz2]; omega) (by unfold maxLen; omega) (Nat.le_refl _) ?_); intro w1 hown hg)
  have OA := hide ((own_made hown).ext (fun j _ => stF_start zs f j))
  have BW : Below w.heap.size w w1 := (Below.refl _ _).grown hg (Nat.le_refl _) (fun k hk => by cases hk)
  have hgs : w.heap.size < w1.heap.size := (hown.lt _ rfl).2
  clear hown hg
  go_loopw [31] (fun i wr => ∃ k : Nat, k ≤ m ∧ i = .int .i64 k ∧ Hid (OwnAt wr w.heap.size m (stF zs f k 0)) ∧ w.heap.size < wr.heap.size ∧ Below w.heap.size w wr) (fun i _ => m - (intOf i).toNat)
  case atStart => exact ⟨0, Nat.zero_le _, rfl, OA, hgs, BW⟩
  case round =>
    clear OA hgs BW
    obtain ⟨k, hk, rfl, OA, hgs, BW⟩ := hrel
    by_cases hlt : k < m
    · have hk0 : (0 : Int) ≤ (k : Int) := by omega
      have hkm : (k : Int) < (m : Int) := by omega
      have hsum0 : 0 ≤ (f : Int) + (k : Int) := by omega
      have hsum1 : (f : Int) + (k : Int) ≤ 16384 := by omega
      obtain ⟨wo, hwo⟩ : ∃ wo : World, wo = wr := ⟨_, rfl⟩
      subst hwo
      go_wp2_with fail
      go_loopw [36] (fun j wr => ∃ jj : Nat, jj ≤ n ∧ j = .int .i64 jj ∧ Hid (OwnAt wr w.heap.size m (stF zs f k jj)) ∧ w.heap.size < wr.heap.size ∧ Below w.heap.size w wr) (fun j _ => n - (intOf j).toNat)
      case atStart => exact ⟨0, Nat.zero_le _, rfl, OA, hgs, BW⟩
      case round =>
        clear OA hgs BW
        obtain ⟨j, hj, rfl, OA, hgs, BW⟩ := hrel
        by_cases hjn : j < n
        · have hjl : j < zs.length := by rw [hl.out]; exact hjn
          obtain ⟨b, off, rfl, hb, p1⟩ := h.out.at_ BW hjn
          have hj0 : (0 : Int) ≤ (j : Int) := by omega
          have hjI : (j : Int) < (n : Int) := by omega
          cases hin : inI (zs.getD j 0#64) ((f : Int) + (k : Int)) with
          | false =>
            have ON := hide (OA.out.ext (fun t _ => stF_skip zs f k j t hjl hin))
            replace hin := hide hin
            clear OA
            generalize zs.getD j 0#64 = z at *
            obtain ⟨Z, hZ⟩ : ∃ Z, Z = (z.toNat : Int) := ⟨_, rfl⟩
            rw [← hZ] at p1
            replace hZ := hide hZ
            replace hjl := hide hjl
            go_wp2_with fail
            refine (in_to _ _ z false hZ.out hin.out _).mono ?_
            rintro e u1 ⟨rfl, hb1⟩
            have O2 := hide (ON.out.below hgs hb1)
            have B2 := st BW hb1 (Below.refl _ _)
            have s2 := Nat.lt_of_lt_of_le hgs hb1.size
            clear hb1 ON
            go_wp2_with fail
            go_roundw
            case rel => exact ⟨j + 1, by omega, by go_num, O2, s2, B2⟩
            case measure => simp [intOf]; omega
          | true =>
            have hput := hide (fun t => stF_put zs f k j t hjl hin)
            have hat := stF_at zs f k j
            replace hin := hide hin
            obtain ⟨q0, q1, q2, g0, g1, g2⟩ := OA.out k hlt
            rw [hat] at q0 q1 q2
            clear hat
            generalize zs.getD j 0#64 = z at *
            generalize oneS (zs.take j) ((f : Int) + (k : Int)) = s at *
            generalize stF zs f k j = F at *
            obtain ⟨Z, hZ⟩ : ∃ Z, Z = (z.toNat : Int) := ⟨_, rfl⟩
            obtain ⟨M, hM⟩ : ∃ Z, Z = s.many.toInt := ⟨_, rfl⟩
            obtain ⟨S, hS⟩ : ∃ Z, Z = (s.sum.toNat : Int) := ⟨_, rfl⟩
            obtain ⟨K, hK⟩ : ∃ Z, Z = (s.check.toNat : Int) := ⟨_, rfl⟩
            obtain ⟨M', hM'⟩ : ∃ Z, Z = (s.put z 1#64).many.toInt := ⟨_, rfl⟩
            obtain ⟨S', hS'⟩ : ∃ Z, Z = ((s.put z 1#64).sum.toNat : Int) := ⟨_, rfl⟩
            obtain ⟨K', hK'⟩ : ∃ Z, Z = ((s.put z 1#64).check.toNat : Int) := ⟨_, rfl⟩
            rw [← hZ] at p1
            rw [← hM] at q0
            rw [← hS] at q1
            rw [← hK] at q2
            replace hZ := hide hZ
            replace hM := hide hM
            replace hS := hide hS
            replace hK := hide hK
            replace hM' := hide hM'
            replace hS' := hide hS'
            replace hK' := hide hK'
            replace hjl := hide hjl
            have A0 := hide (Away.refl wr w.heap.size k)
            have X := hide (fun (V : World) (hV : Away wr V w.heap.size k) c0 c1 c2 => OA.out.put hV hgs hlt hM'.out hS'.out hK'.out c0 c1 c2)
            clear OA
            go_wp2_with fail
            refine (in_to _ _ z true hZ.out hin.out _).mono ?_
            rintro e u1 ⟨rfl, hb1⟩
            obtain ⟨hc1, hf1⟩ := bcell hb1
            have sz1 := hb1.size
            have A1 := hide (A0.out.below hb1)
            have B1 := st BW hb1 (Below.refl _ _)
            replace BW := hide BW
            clear hb1 A0
            go_wp2_with fail
            refine (with_to _ _ _ _ _ _ _ _ s z 1#64 hM.out hS.out hK.out hZ.out rfl hM'.out hS'.out hK'.out _).mono ?_
            rintro e u2 ⟨rfl, hb2⟩
            obtain ⟨hc2, hf2⟩ := bcell hb2
            have sz2 := hb2.size
            have A2 := hide (A1.out.below hb2)
            have B2 := hide (st B1 hb2 (Below.refl _ _))
            replace B1 := hide B1
            have l1 : w.heap.size < u1.heap.size := by omega
            clear hb2 A1
            go_wp2_with fail
            go_roundw
            case rel => exact ⟨j + 1, by omega, by go_num, hide ((X.out _ (((A2.out.set _ (.inl rfl) _).set _ (.inr (.inl rfl)) _).set _ (.inr (.inr rfl)) _) (by simp [*, go_sem]) (by simp [*, go_sem]) (by simp [*, go_sem])).ext (fun t _ => hput.out t)), by simp; omega, ((B2.out.setCell (by simp) _).setCell (by simp) _).setCell (by simp) _⟩
            case measure => simp [intOf]; omega
        · obtain rfl : j = n := by omega
          have ON : Hid (OwnAt wr w.heap.size m (stF zs f (k + 1) 0)) := hide (OA.out.ext (fun t _ => by rw [← hl.out]; exact stF_next zs f k t))
          clear OA
          go_wp2_with fail
          go_roundw
          case rel => exact ⟨k + 1, by omega, by go_num, ON, hgs, BW⟩
          case measure => simp [intOf]; omega
    · obtain rfl : k = m := by omega
      have hS : Hid (Syms wr (some ⟨w.heap.size, 0, none⟩) k k (symsL zs (f : Int) (k : Int))) := hide (by rw [hL.out]; exact (OA.out.ext (fun t ht => stF_end zs f k t ht)).syms hgs (Nat.le_refl _) (by unfold maxLen; omega))
      clear OA
      go_wp2_with fail
      go_ret
      exact ⟨_, _, _, rfl, hS.out, BW⟩
theorem symbols_any {w : World} {A : Option Addr} {n c : Nat} {zs : List W} (h : Nums w A n c zs) (f m : Int) : Calls Try.prog 16 #[.slice A n c, .int .i64 f, .int .i64 m] w (RetSyms w (symsL zs f m)) := by
  by_cases hy : 0 ≤ f ∧ 0 ≤ m ∧ f ≤ 16384 ∧ m ≤ 16384 - f
  · obtain ⟨a, rfl⟩ : ∃ a : Nat, f = (a : Int) := ⟨f.toNat, by omega⟩
    obtain ⟨b, rfl⟩ : ∃ b : Nat, m = (b : Int) := ⟨m.toNat, by omega⟩
    exact symbols_yes h a b (by omega)
  · exact symbols_no f m hy
end Go.Proofs.Ytabgenhednhagaa

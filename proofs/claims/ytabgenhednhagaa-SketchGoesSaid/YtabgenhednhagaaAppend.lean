/-
  Chapter 34: a row of numbers, or of symbols, that came of a call (nil or not) appended to a row of the law's own.
-/
import Derived.Test.YtabgenhednhagaaLaws2
import Derived.Laws.AppendOwnNone
namespace Go.Proofs.Ytabgenhednhagaa
open Go.RowKit Plain
set_option linter.unusedSimpArgs false
set_option linter.unusedVariables false

theorem nums_cells {w : World} {ad : Addr} {n c : Nat} {zs : List W} (h : Nums w (some ad) n c zs) : ∀ j u, (zs.map numV)[j]? = some u → w.cell? (ad.add j) = some u := by
  intro j u hu
  have hj : j < zs.length := by
    rcases Nat.lt_or_ge j zs.length with hlt | hge
    · exact hlt
    · rw [List.getElem?_eq_none (by simpa using hge)] at hu; cases hu
  have hl := h.1
  obtain ⟨b, off, e, hb, hcl⟩ := h.2.2.2.2 (by omega)
  injection e with e
  subst e
  rw [Go.WideShapes.add_plain, hcl j (by omega)]
  simpa [hj] using hu
theorem syms_cells {w : World} {ad : Addr} {n c : Nat} {ss : List Sym} (h : Syms w (some ad) n c ss) : ∀ j u, (symsV ss)[j]? = some u → w.cell? (ad.add j) = some u := by
  intro j u hu
  have hj : j < ss.length * 3 := by
    rw [← symsV_len]
    rcases Nat.lt_or_ge j (symsV ss).length with hlt | hge
    · exact hlt
    · rw [List.getElem?_eq_none hge] at hu; cases hu
  have hll := h.1
  obtain ⟨b, off, e, hb, hcl⟩ := h.2.2.2.2 (by omega)
  injection e with e
  subst e
  obtain ⟨k1, k2, k3⟩ := hcl (j / 3) (by omega)
  obtain ⟨e1, e2, e3⟩ := symsV_get ss (j / 3) (by omega)
  rw [Go.WideShapes.add_plain]
  rcases (by omega : j = j / 3 * 3 ∨ j = j / 3 * 3 + 1 ∨ j = j / 3 * 3 + 2) with hr | hr | hr
  · rw [hr] at hu ⊢
    rw [e1] at hu; rw [k1, hu]
  · rw [hr] at hu ⊢
    rw [e2] at hu; rw [← Nat.add_assoc, k2, hu]
  · rw [hr] at hu ⊢
    rw [e3] at hu; rw [← Nat.add_assoc, k3, hu]
section
variable {ops : Array Oper} {rest : List Oper} {o : Oper} {a : Act} {Q : Exit → Act → World → Prop} {w : World}
/-- 'append(own, xs...)', xs a row of numbers that came of wherever. -/
theorem wpList_append_nums (hgd : o.guard = none) (s x : Operand) (ho : o.op = .call { callee := .builtin .append, args := #[s, x], argTypes := #[23, 23] }) (base : Nat) (v : Value) (k : Nat) (xs : List W) (hs : a.eval s = v) (hown : w.ownsRow base 22 1 v k (xs.map numV))
    (A : Option Addr) (n c : Nat) (zs : List W) (hx : a.eval x = .slice A n c) (hN : Nums w A n c zs) (hk : k + n ≤ 1000000) (hbase : base ≤ w.heap.size)
    (h : ∀ v' w', w'.ownsRow base 22 1 v' (k + n) ((xs ++ zs).map numV) → Below base w w' → wpList Try.prog ops Q rest (a.put o.dst v') w') : wpList Try.prog ops Q (o :: rest) a w := by
  obtain ⟨i0, hi0, hz0, hz1, hz2⟩ := info_parts info22
  cases A with
  | none =>
    have hn : n = 0 := by
      rcases Nat.eq_zero_or_pos n with h0 | h0
      · exact h0
      · obtain ⟨b, off, e, _⟩ := hN.2.2.2.2 h0; cases e
    have hc := hN.2.2.2.1 rfl
    subst hn hc
    have hz : zs = [] := List.eq_nil_of_length_eq_zero hN.1
    subst hz
    refine wpList_append_own_none hgd s x 23 ho base 22 i0 1 Try.underlying23 hi0 v k _ hs hown hx (h v w ?_ (Below.refl _ _))
    simpa using hown
  | some ad =>
    refine wpList_append_own _ hgd s x 23 ho base 22 i0 (.int .u64 0) 1 8 Try.underlying23 hi0 hz0 hz1 hz2 rfl (by decide) v k _ hs hown ad n c (zs.map numV) hx (by simp [hN.1]) (nums_cells hN) (by intro u hu; obtain ⟨z, _, rfl⟩ := List.mem_map.1 hu; rfl) (by unfold maxLen; omega) (by omega) hbase ?_
    intro v' w' hown' hg _
    exact h v' w' (by rw [List.map_append]; exact hown') ((Below.refl _ _).grown hg hbase (fun b e => (hown.lt b e).1))
/-- 'append(own, xs...)', xs a row of symbols that came of wherever. -/
theorem wpList_append_syms (hgd : o.guard = none) (s x : Operand) (ho : o.op = .call { callee := .builtin .append, args := #[s, x], argTypes := #[28, 28] }) (base : Nat) (v : Value) (k : Nat) (xs : List Sym) (hs : a.eval s = v) (hown : w.ownsRow base 41 3 v k (symsV xs))
    (A : Option Addr) (n c : Nat) (zs : List Sym) (hx : a.eval x = .slice A n c) (hN : Syms w A n c zs) (hk : k + n ≤ 1000000) (hbase : base ≤ w.heap.size)
    (h : ∀ v' w', w'.ownsRow base 41 3 v' (k + n) (symsV (xs ++ zs)) → Below base w w' → wpList Try.prog ops Q rest (a.put o.dst v') w') : wpList Try.prog ops Q (o :: rest) a w := by
  obtain ⟨i0, hi0, hz0, hz1, hz2⟩ := info_parts info41
  cases A with
  | none =>
    have hn : n = 0 := by
      rcases Nat.eq_zero_or_pos n with h0 | h0
      · exact h0
      · obtain ⟨b, off, e, _⟩ := hN.2.2.2.2 h0; cases e
    have hc := hN.2.2.2.1 rfl
    subst hn hc
    have hz : zs = [] := List.eq_nil_of_length_eq_zero hN.1
    subst hz
    refine wpList_append_own_none hgd s x 28 ho base 41 i0 3 Try.underlying28 hi0 v k _ hs hown hx (h v w ?_ (Below.refl _ _))
    simpa using hown
  | some ad =>
    refine wpList_append_own _ hgd s x 28 ho base 41 i0 (.agg #[.int .i64 0, .int .u64 0, .int .u64 0]) 3 24 Try.underlying28 hi0 hz0 hz1 hz2 rfl (by decide) v k _ hs hown ad n c (symsV zs) hx (by rw [symsV_len, hN.1]) (syms_cells hN) (symsV_one zs) (by unfold maxLen; omega) (by omega) hbase ?_
    intro v' w' hown' hg _
    exact h v' w' (by rw [show symsV (xs ++ zs) = symsV xs ++ symsV zs by simp [symsV]]; exact hown') ((Below.refl _ _).grown hg hbase (fun b e => (hown.lt b e).1))
end
theorem own_nums {w : World} {base n : Nat} {v : Value} {zs : List W} (h : w.ownsRow base 22 1 v n (zs.map numV)) : ∃ A c, v = .slice A n c ∧ Nums w A n c zs := nums_own h
theorem own_syms {w : World} {base n : Nat} {v : Value} {ss : List Sym} (h : w.ownsRow base 41 3 v n (symsV ss)) : ∃ A c, v = .slice A n c ∧ Syms w A n c ss := by
  obtain ⟨A, c, rfl, h1, h2, h3, h4, h5⟩ := own_of h
  refine ⟨A, c, rfl, h1, h2, h3, h4, fun hn => ?_⟩
  obtain ⟨g, e, _, hlt, ho⟩ := h5 hn
  refine ⟨g, 0, e, hlt, fun j hj => ?_⟩
  obtain ⟨c0, c1, c2, _⟩ := ho j hj
  rw [Nat.zero_add]
  exact ⟨c0, c1, c2⟩
end Go.Proofs.Ytabgenhednhagaa

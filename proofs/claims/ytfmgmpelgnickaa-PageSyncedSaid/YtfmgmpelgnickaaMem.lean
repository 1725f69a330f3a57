/-
  Chapter 31: rows of cells in memory: bytes, pages, old pages; a row of a call's own, and what is appended to it.
-/
import Derived.Test.YtfmgmpelgnickaaBase
import Derived.Test.YtfmgmpelgnickaaPlain
import Derived.Laws.AppendOwn
import Derived.Laws.AppendOwnNone
import Derived.Laws.OwnMore
import Derived.OwnWalk
import Derived.Lib.Hide
namespace Go.Proofs.Ytfmgmpelgnickaa
open Go.RowKit Plain
set_option linter.unusedSimpArgs false
set_option linter.unusedVariables false

def u8 (z : Int) : Value := .int .u8 z
def nul : Value := .slice none 0 0
/-- A slice of n elements of s cells each: the cells vs. -/
def Row (w : World) (s : Nat) (A : Option Addr) (n c : Nat) (vs : List Value) : Prop :=
  vs.length = n * s ∧ n ≤ c ∧ c ≤ maxLen ∧ (A = none → c = 0) ∧ (0 < n → ∃ b off, A = some ⟨b, off, none⟩ ∧ b < w.heap.size ∧ ∀ j, j < n * s → w.cell? ⟨b, off + j, none⟩ = some (vs.getD j nul))
theorem Row.below {w w' : World} {s : Nat} {A : Option Addr} {n c : Nat} {vs : List Value} (h : Row w s A n c vs) (hb : Below w.heap.size w w') : Row w' s A n c vs := by
  refine ⟨h.1, h.2.1, h.2.2.1, h.2.2.2.1, fun hn => ?_⟩
  obtain ⟨b, off, e, hlt, hc⟩ := h.2.2.2.2 hn
  exact ⟨b, off, e, Nat.lt_of_lt_of_le hlt hb.size, fun j hj => (hb.cell (p := ⟨b, off + j, none⟩) hlt).trans (hc j hj)⟩
theorem Row.max {w : World} {s : Nat} {A : Option Addr} {n c : Nat} {vs : List Value} (h : Row w s A n c vs) : n ≤ 9223372036854775807 := Nat.le_trans h.2.1 (by have := h.2.2.1; unfold maxLen at this; exact this)
theorem row_nil (w : World) (s : Nat) : Row w s none 0 0 [] := ⟨by simp, Nat.le_refl _, by unfold maxLen; omega, fun _ => rfl, fun h => by omega⟩
theorem Row.none {w : World} {s : Nat} {n c : Nat} {vs : List Value} (h : Row w s none n c vs) : n = 0 ∧ c = 0 ∧ vs = [] := by
  have hc := h.2.2.2.1 rfl
  have hn : n = 0 := by have := h.2.1; omega
  subst hn
  exact ⟨rfl, hc, List.eq_nil_of_length_eq_zero (by rw [h.1]; simp)⟩
theorem Row.cells {w : World} {s : Nat} {ad : Addr} {n c : Nat} {vs : List Value} (h : Row w s (some ad) n c vs) : ∀ j u, vs[j]? = some u → w.cell? (ad.add j) = some u := by
  intro j u hu
  have hj : j < vs.length := by
    rcases Nat.lt_or_ge j vs.length with hlt | hge
    · exact hlt
    · rw [List.getElem?_eq_none hge] at hu; cases hu
  have hl := h.1
  have hn : 0 < n := by
    rcases Nat.eq_zero_or_pos n with e | e
    · subst e; omega
    · exact e
  obtain ⟨b, off, e, hb, hcl⟩ := h.2.2.2.2 hn
  injection e with e
  subst e
  rw [Go.WideShapes.add_plain, hcl j (by omega), List.getD_eq_getElem?_getD, hu]; rfl
/-- .. which the call made itself: from the head of a block on from B, not frozen. -/
def Own (w : World) (B : Nat) (A : Option Addr) (n : Nat) : Prop := 0 < n → ∃ g, A = some ⟨g, 0, none⟩ ∧ B ≤ g ∧ g < w.heap.size ∧ ∀ o, w.frozen? ⟨g, o, none⟩ = false
theorem Own.below {w w' : World} {B : Nat} {A : Option Addr} {n : Nat} (h : Own w B A n) (hb : Below w.heap.size w w') : Own w' B A n := fun hn => by
  obtain ⟨g, e, h1, h2, h3⟩ := h hn
  exact ⟨g, e, h1, Nat.lt_of_lt_of_le h2 hb.size, fun o => (hb.frozen (p := ⟨g, o, .none⟩) h2).trans (h3 o)⟩
theorem row_own {w : World} {base E s n : Nat} {v : Value} {vs : List Value} (h : w.ownsRow base E s v n vs) : ∃ A c, v = .slice A n c ∧ Row w s A n c vs ∧ Own w base A n := by
  have h0 := h
  have hl := h.1
  rcases h.2 with ⟨rfl, rfl⟩ | ⟨g, cap, cur, rfl, _, hh, hnc, hcm, hcs, hcc⟩
  · obtain rfl : vs = [] := List.eq_nil_of_length_eq_zero (by rw [hl]; simp)
    exact ⟨.none, 0, rfl, row_nil w s, fun h => by omega⟩
  · refine ⟨_, cap, rfl, ⟨hl, hnc, hcm, (fun e => by cases e), fun hn => ⟨g, 0, rfl, (h0.lt g rfl).2, fun j hj => ?_⟩⟩, fun hn => ⟨g, rfl, (h0.lt g rfl).1, (h0.lt g rfl).2, fun o => h0.frozenAt _⟩⟩
    have hj2 : j < vs.length := by omega
    rw [Nat.zero_add, h0.cellAt j (by omega), List.getD_eq_getElem?_getD, List.getElem?_eq_getElem hj2]; rfl
theorem Row.set {w : World} {s g n c j : Nat} {vs : List Value} (h : Row w s (some ⟨g, 0, .none⟩) n c vs) (hj : j < n * s) (x : Value) : Row (w.setCell ⟨g, j, .none⟩ x) s (some ⟨g, 0, .none⟩) n c (vs.set j x) := by
  refine ⟨by rw [List.length_set]; exact h.1, h.2.1, h.2.2.1, (fun e => by cases e), fun hn => ?_⟩
  obtain ⟨b, off, e, hlt, hc⟩ := h.2.2.2.2 hn
  injection e with e
  injection e with e1 e2
  subst e1 e2
  refine ⟨g, 0, rfl, by simpa using hlt, fun i hi => ?_⟩
  rw [getD_set]
  by_cases e : j = i
  · subst e
    rw [if_pos ⟨rfl, by have := h.1; omega⟩, Nat.zero_add]
    exact World.cell?_setCell_same' _ _ _ (by have := hc j hj; rw [Nat.zero_add] at this; rw [this]; rfl)
  · rw [if_neg (fun q => e q.1), World.cell?_setCell_other _ _ _ _ (fun q => e (by injection q with _ q2; omega))]
    exact hc i hi

/-- Bytes. -/
def Byt (w : World) (A : Option Addr) (n c : Nat) (zs : Pg) : Prop := Row w 1 A n c (zs.map u8)
theorem Byt.below {w w' : World} {A : Option Addr} {n c : Nat} {zs : Pg} (h : Byt w A n c zs) (hb : Below w.heap.size w w') : Byt w' A n c zs := Row.below h hb
theorem Byt.len {w : World} {A : Option Addr} {n c : Nat} {zs : Pg} (h : Byt w A n c zs) : zs.length = n := by have := h.1; rw [List.length_map] at this; omega
theorem Byt.max {w : World} {A : Option Addr} {n c : Nat} {zs : Pg} (h : Byt w A n c zs) : n ≤ 9223372036854775807 := Row.max h
theorem byt_nil (w : World) : Byt w none 0 0 [] := row_nil w 1
theorem Byt.cell {w : World} {A : Option Addr} {n c : Nat} {zs : Pg} (h : Byt w A n c zs) (hn : 0 < n) : ∃ b off, A = some ⟨b, off, .none⟩ ∧ b < w.heap.size ∧ ∀ j, j < n → w.cell? ⟨b, off + j, .none⟩ = some (.int .u8 (zs.getD j 0)) := by
  obtain ⟨b, off, e, hlt, hc⟩ := h.2.2.2.2 hn
  refine ⟨b, off, e, hlt, fun j hj => ?_⟩
  have hl := h.len
  rw [hc j (by omega)]
  have hj2 : j < zs.length := by omega
  simp [List.getD_eq_getElem?_getD, hj2, u8]
theorem Byt.mk {w : World} {b off n c : Nat} {zs : Pg} (hl : zs.length = n) (hc : n ≤ c) (hm : c ≤ maxLen) (hb : b < w.heap.size) (h : ∀ j, j < n → w.cell? ⟨b, off + j, .none⟩ = some (.int .u8 (zs.getD j 0))) : Byt w (some ⟨b, off, .none⟩) n c zs := by
  refine ⟨by rw [List.length_map]; omega, hc, hm, (fun e => by cases e), fun hn => ⟨b, off, rfl, hb, fun j hj => ?_⟩⟩
  rw [h j (by omega)]
  have hj2 : j < zs.length := by omega
  simp [List.getD_eq_getElem?_getD, hj2, u8]
theorem Byt.at_ {w wr : World} {A : Option Addr} {n c : Nat} {zs : Pg} (h : Byt w A n c zs) (hB : Below w.heap.size w wr) {k : Nat} (hk : k < n) :
    ∃ b off, A = some ⟨b, off, .none⟩ ∧ b < wr.heap.size ∧ wr.cell? ⟨b, off + k, .none⟩ = some (.int .u8 (zs.getD k 0)) := by
  obtain ⟨b, off, e, hlt, hc⟩ := (h.below hB).cell (by omega)
  exact ⟨b, off, e, hlt, hc k hk⟩
/-- A value that is a slice of bytes. -/
def PgV (w : World) (v : Value) (zs : Pg) : Prop := ∃ A n c, v = .slice A n c ∧ Byt w A n c zs
theorem PgV.below {w w' : World} {v : Value} {zs : Pg} (h : PgV w v zs) (hb : Below w.heap.size w w') : PgV w' v zs := by
  obtain ⟨A, n, c, e, h⟩ := h; exact ⟨A, n, c, e, h.below hb⟩
theorem Byt.pg {w : World} {A : Option Addr} {n c : Nat} {zs : Pg} (h : Byt w A n c zs) : PgV w (.slice A n c) zs := ⟨A, n, c, rfl, h⟩
theorem PgV.one {w : World} {v : Value} {zs : Pg} (h : PgV w v zs) : v.oneCell' = true := by obtain ⟨A, n, c, rfl, _⟩ := h; rfl
/-- What is stored where a slice lay leaves all bytes alone. -/
theorem Byt.set {w : World} {A : Option Addr} {n c : Nat} {zs : Pg} (h : Byt w A n c zs) {p : Addr} {A' : Option Addr} {n' c' : Nat} (hp : w.cell? p = some (.slice A' n' c')) (x : Value) : Byt (w.setCell p x) A n c zs := by
  refine ⟨h.1, h.2.1, h.2.2.1, h.2.2.2.1, fun hn => ?_⟩
  obtain ⟨b, off, e, hlt, hc⟩ := h.2.2.2.2 hn
  refine ⟨b, off, e, by simpa using hlt, fun j hj => ?_⟩
  rw [World.cell?_setCell_other _ _ _ _ (fun q => ?_)]
  · exact hc j hj
  · have h2 := hc j hj
    have hj2 : j < (zs.map u8).length := by have := h.1; omega
    rw [← q, hp, List.getD_eq_getElem?_getD, List.getElem?_eq_getElem hj2] at h2
    simp [u8] at h2
theorem PgV.set {w : World} {v : Value} {zs : Pg} (h : PgV w v zs) {p : Addr} {A' : Option Addr} {n' c' : Nat} (hp : w.cell? p = some (.slice A' n' c')) (x : Value) : PgV (w.setCell p x) v zs := by
  obtain ⟨A, n, c, e, h⟩ := h; exact ⟨A, n, c, e, h.set hp x⟩
/-- Pages. -/
def Pags (w : World) (A : Option Addr) (n c : Nat) (ps : List Pg) : Prop := ps.length = n ∧ ∃ vs, Row w 1 A n c vs ∧ ∀ j, j < n → PgV w (vs.getD j nul) (ps.getD j [])
theorem Pags.below {w w' : World} {A : Option Addr} {n c : Nat} {ps : List Pg} (h : Pags w A n c ps) (hb : Below w.heap.size w w') : Pags w' A n c ps := by
  obtain ⟨hl, vs, hr, hp⟩ := h
  exact ⟨hl, vs, hr.below hb, fun j hj => (hp j hj).below hb⟩
theorem Pags.max {w : World} {A : Option Addr} {n c : Nat} {ps : List Pg} (h : Pags w A n c ps) : n ≤ 9223372036854775807 := by obtain ⟨_, vs, hr, _⟩ := h; exact hr.max
theorem pags_nil (w : World) : Pags w none 0 0 [] := ⟨rfl, [], row_nil w 1, fun j hj => by omega⟩
theorem Pags.at_ {w wr : World} {A : Option Addr} {n c : Nat} {ps : List Pg} (h : Pags w A n c ps) (hB : Below w.heap.size w wr) {k : Nat} (hk : k < n) :
    ∃ b off Aj nj cj, A = some ⟨b, off, .none⟩ ∧ b < wr.heap.size ∧ wr.cell? ⟨b, off + k, .none⟩ = some (.slice Aj nj cj) ∧ Byt wr Aj nj cj (ps.getD k []) := by
  obtain ⟨hl, vs, hr, hp⟩ := h.below hB
  obtain ⟨b, off, e, hlt, hc⟩ := hr.2.2.2.2 (by omega)
  obtain ⟨Aj, nj, cj, e2, hb⟩ := hp k hk
  exact ⟨b, off, Aj, nj, cj, e, hlt, by rw [hc k (by omega), e2], hb⟩
theorem pags_one {w : World} {n : Nat} {vs : List Value} {ps : List Pg} (hl : vs.length = n) (h : ∀ j, j < n → PgV w (vs.getD j nul) (ps.getD j [])) : ∀ u ∈ vs, u.oneCell' = true := by
  intro u hu
  obtain ⟨j, hj, rfl⟩ := List.getElem_of_mem hu
  have := (h j (by omega)).one
  rwa [List.getD_eq_getElem?_getD, List.getElem?_eq_getElem hj] at this
/-- Old pages: which one, and its bytes. -/
def OdV (w : World) (vs : List Value) (j : Nat) (o : Od) : Prop := vs.getD (j * 2) nul = .int .i64 o.1 ∧ PgV w (vs.getD (j * 2 + 1) nul) o.2
def Olds (w : World) (A : Option Addr) (n c : Nat) (ws : List Od) : Prop := ws.length = n ∧ ∃ vs, Row w 2 A n c vs ∧ ∀ j, j < n → OdV w vs j (ws.getD j od0)
theorem OdV.below {w w' : World} {vs : List Value} {j : Nat} {o : Od} (h : OdV w vs j o) (hb : Below w.heap.size w w') : OdV w' vs j o := ⟨h.1, h.2.below hb⟩
theorem Olds.below {w w' : World} {A : Option Addr} {n c : Nat} {ws : List Od} (h : Olds w A n c ws) (hb : Below w.heap.size w w') : Olds w' A n c ws := by
  obtain ⟨hl, vs, hr, hp⟩ := h
  exact ⟨hl, vs, hr.below hb, fun j hj => (hp j hj).below hb⟩
theorem Olds.max {w : World} {A : Option Addr} {n c : Nat} {ws : List Od} (h : Olds w A n c ws) : n ≤ 9223372036854775807 := by obtain ⟨_, vs, hr, _⟩ := h; exact hr.max
theorem olds_nil (w : World) : Olds w none 0 0 [] := ⟨rfl, [], row_nil w 2, fun j hj => by omega⟩
theorem Olds.at_ {w wr : World} {A : Option Addr} {n c : Nat} {ws : List Od} (h : Olds w A n c ws) (hB : Below w.heap.size w wr) {k : Nat} (hk : k < n) :
    ∃ b off Aj nj cj, A = some ⟨b, off, .none⟩ ∧ b < wr.heap.size ∧ wr.cell? ⟨b, off + k * 2, .none⟩ = some (.int .i64 (ws.getD k od0).1) ∧ wr.cell? ⟨b, off + k * 2 + 1, .none⟩ = some (.slice Aj nj cj) ∧ Byt wr Aj nj cj (ws.getD k od0).2 := by
  obtain ⟨hl, vs, hr, hp⟩ := h.below hB
  obtain ⟨b, off, e, hlt, hc⟩ := hr.2.2.2.2 (by omega)
  obtain ⟨e1, Aj, nj, cj, e2, hb⟩ := hp k hk
  exact ⟨b, off, Aj, nj, cj, e, hlt, by rw [hc (k * 2) (by omega), e1], by rw [Nat.add_assoc, hc (k * 2 + 1) (by omega), e2], hb⟩
theorem olds_one {w : World} {n : Nat} {vs : List Value} {ws : List Od} (hl : vs.length = n * 2) (h : ∀ j, j < n → OdV w vs j (ws.getD j od0)) : ∀ u ∈ vs, u.oneCell' = true := by
  intro u hu
  obtain ⟨j, hj, rfl⟩ := List.getElem_of_mem hu
  have hi : j / 2 < n := by omega
  obtain ⟨e1, e2⟩ := h (j / 2) hi
  have e2 := e2.one
  have e1 : (vs.getD (j / 2 * 2) nul).oneCell' = true := by rw [e1]; rfl
  rcases (by omega : j = j / 2 * 2 ∨ j = j / 2 * 2 + 1) with q | q
  · rw [← q, List.getD_eq_getElem?_getD, List.getElem?_eq_getElem hj] at e1; exact e1
  · rw [← q, List.getD_eq_getElem?_getD, List.getElem?_eq_getElem hj] at e2; exact e2

/-! ### What is appended -/
theorem info5 : (Try.prog.info? 5).map (fun i => (i.zero, i.size, i.bytes)) = some (some (.int .u8 0), 1, 1) := by kernel_rfl
theorem info3 : (Try.prog.info? 3).map (fun i => (i.zero, i.size, i.bytes)) = some (some (.int .i64 0), 1, 8) := by kernel_rfl
theorem info26 : (Try.prog.info? 26).map (fun i => (i.zero, i.size, i.bytes)) = some (some (.slice none 0 0), 1, 24) := by kernel_rfl
theorem info47 : (Try.prog.info? 47).map (fun i => (i.zero, i.size, i.bytes)) = some (some (.agg #[.int .i64 0, .slice none 0 0]), 2, 32) := by kernel_rfl
section
variable {P : Program} {ops : Array Oper} {rest : List Oper} {o : Oper} {a : Act} {Q : Exit → Act → World → Prop} {w : World}
/-- 'append(own, xs...)', xs a row that came of wherever (nil, too). -/
theorem wpList_append_row {T E s bytes : Nat} {z : Value} (hT : P.underlying T = some (.slice E)) (hinfo : (P.info? E).map (fun i => (i.zero, i.size, i.bytes)) = some (some z, s, bytes)) (hzs : z.cells.size = s) (hs0 : 0 < s) (hby : bytes ≤ 100)
    (hgd : o.guard = none) (s1 x : Operand) (ho : o.op = .call { callee := .builtin .append, args := #[s1, x], argTypes := #[T, T] }) (base : Nat) (v : Value) (k : Nat) (xs : List Value) (hs : a.eval s1 = v) (hown : w.ownsRow base E s v k xs)
    (A : Option Addr) (n c : Nat) (vs : List Value) (hx : a.eval x = .slice A n c) (hN : Row w s A n c vs) (hone : ∀ u ∈ vs, u.oneCell' = true) (hk : k + n ≤ 1000000) (hbase : base ≤ w.heap.size)
    (h : ∀ v' w', w'.ownsRow base E s v' (k + n) (xs ++ vs) → Below base w w' → wpList P ops Q rest (a.put o.dst v') w') : wpList P ops Q (o :: rest) a w := by
  obtain ⟨i0, hi0, hz0, hz1, hz2⟩ := info_parts hinfo
  cases A with
  | none =>
    obtain ⟨rfl, rfl, rfl⟩ := hN.none
    refine wpList_append_own_none hgd s1 x T ho base E i0 s hT hi0 v k _ hs hown hx (h v w ?_ (Below.refl _ _))
    simpa using hown
  | some ad =>
    refine wpList_append_own _ hgd s1 x T ho base E i0 z s bytes hT hi0 hz0 hz1 hz2 hzs hs0 v k _ hs hown ad n c vs hx hN.1 hN.cells hone (by unfold maxLen; omega) ?_ hbase ?_
    · have : (k + n) * bytes ≤ 1000000 * 100 := Nat.mul_le_mul hk hby
      omega
    · intro v' w' hown' hg _
      exact h v' w' hown' ((Below.refl _ _).grown hg hbase (fun b e => (hown.lt b e).1))
end
end Go.Proofs.Ytfmgmpelgnickaa

/-
  Chapter 31: writes: what it hands on.
-/
import Derived.Test.YtfmgmpelgnickaaFun2
namespace Go.Proofs.Ytfmgmpelgnickaa
open Go.RowKit Go.Shelf Plain
set_option linter.unusedSimpArgs false
set_option linter.unusedVariables false
attribute [local go_sem] Oper.semAt_some

/-- All that lay in w lies as it lay. -/
structure Lies (w W : World) : Prop where
  size : w.heap.size ≤ W.heap.size
  block : ∀ k, k < w.heap.size → W.heap[k]? = w.heap[k]?
theorem Lies.of {w W : World} (h : Below w.heap.size w W) : Lies w W := ⟨h.size, h.block⟩
theorem Lies.but {w W W' : World} {n g h : Nat} (x : Lies w W) (y : But n g h W W') (hn : w.heap.size ≤ n) (hg : w.heap.size ≤ g) (hh : w.heap.size ≤ h) : Lies w W' :=
  ⟨Nat.le_trans x.size y.size, fun k hk => (y.block k (by omega) (by omega) (by omega)).trans (x.block k hk)⟩
theorem Lies.cell {w W : World} (x : Lies w W) {p : Addr} (h : p.block < w.heap.size) : W.cell? p = w.cell? p := World.cell?_of_block (x.block _ h)
theorem Row.lies {w W : World} {s : Nat} {A : Option Addr} {n c : Nat} {vs : List Value} (h : Row w s A n c vs) (x : Lies w W) : Row W s A n c vs := by
  refine ⟨h.1, h.2.1, h.2.2.1, h.2.2.2.1, fun hn => ?_⟩
  obtain ⟨b, off, e, hlt, hc⟩ := h.2.2.2.2 hn
  exact ⟨b, off, e, Nat.lt_of_lt_of_le hlt x.size, fun j hj => (x.cell (p := ⟨b, off + j, .none⟩) hlt).trans (hc j hj)⟩
theorem PgV.lies {w W : World} {v : Value} {zs : Pg} (h : PgV w v zs) (x : Lies w W) : PgV W v zs := by
  obtain ⟨A, n, c, e, h⟩ := h; exact ⟨A, n, c, e, Row.lies h x⟩
/-- A disk's cells: of its pages, of its old pages. -/
structure Disk (w : World) (A B : Option Addr) (n c m d : Nat) (pv vs : List Value) (ps : List Pg) (ws : List Od) : Prop where
  pl : ps.length = n
  pr : Row w 1 A n c pv
  pp : ∀ j, j < n → PgV w (pv.getD j nul) (ps.getD j [])
  ol : ws.length = m
  or : Row w 2 B m d vs
  oo : ∀ j, j < m → OdV w vs j (ws.getD j od0)
theorem Disk.of {w : World} {A B : Option Addr} {n c m d : Nat} {ps : List Pg} {ws : List Od} (h : Pags w A n c ps) (g : Olds w B m d ws) : ∃ pv vs, Disk w A B n c m d pv vs ps ws := by
  obtain ⟨h1, pv, h2, h3⟩ := h
  obtain ⟨g1, vs, g2, g3⟩ := g
  exact ⟨pv, vs, h1, h2, h3, g1, g2, g3⟩
theorem Disk.lies {w W : World} {A B : Option Addr} {n c m d : Nat} {pv vs : List Value} {ps : List Pg} {ws : List Od} (h : Disk w A B n c m d pv vs ps ws) (x : Lies w W) : Disk W A B n c m d pv vs ps ws :=
  ⟨h.pl, h.pr.lies x, fun j hj => (h.pp j hj).lies x, h.ol, h.or.lies x, fun j hj => ⟨(h.oo j hj).1, (h.oo j hj).2.lies x⟩⟩
theorem Disk.pags {w : World} {A B : Option Addr} {n c m d : Nat} {pv vs : List Value} {ps : List Pg} {ws : List Od} (h : Disk w A B n c m d pv vs ps ws) : Pags w A n c ps := ⟨h.pl, pv, h.pr, h.pp⟩
theorem Disk.olds {w : World} {A B : Option Addr} {n c m d : Nat} {pv vs : List Value} {ps : List Pg} {ws : List Od} (h : Disk w A B n c m d pv vs ps ws) : Olds w B m d ws := ⟨h.ol, vs, h.or, h.oo⟩
theorem Disk.old {w : World} {A B : Option Addr} {n c m d : Nat} {pv vs : List Value} {ps : List Pg} {ws : List Od} (h : Disk w A B n c m d pv vs ps ws) {k : Nat} (hk : k < m) :
    ∃ b off Aj nj cj, B = some ⟨b, off, none⟩ ∧ b < w.heap.size ∧ w.cell? ⟨b, off + k * 2, none⟩ = some (.int .i64 (ws.getD k od0).1) ∧ w.cell? ⟨b, off + k * 2 + 1, none⟩ = some (.slice Aj nj cj) ∧ vs.getD (k * 2 + 1) nul = .slice Aj nj cj := by
  obtain ⟨b, off, e, hlt, hc⟩ := h.or.2.2.2.2 (by omega)
  obtain ⟨e1, Aj, nj, cj, e2, _⟩ := h.oo k hk
  exact ⟨b, off, Aj, nj, cj, e, hlt, by rw [hc (k * 2) (by omega), e1], by rw [Nat.add_assoc, hc (k * 2 + 1) (by omega), e2], e2⟩
theorem Disk.page {w : World} {A B : Option Addr} {n c m d : Nat} {pv vs : List Value} {ps : List Pg} {ws : List Od} (h : Disk w A B n c m d pv vs ps ws) {k : Nat} (hk : k < n) :
    ∃ b off Aj nj cj, A = some ⟨b, off, none⟩ ∧ b < w.heap.size ∧ w.cell? ⟨b, off + k, none⟩ = some (.slice Aj nj cj) ∧ pv.getD k nul = .slice Aj nj cj := by
  obtain ⟨b, off, e, hlt, hc⟩ := h.pr.2.2.2.2 (by omega)
  obtain ⟨Aj, nj, cj, e2, _⟩ := h.pp k hk
  exact ⟨b, off, Aj, nj, cj, e, hlt, by rw [hc k (by omega), e2], e2⟩
theorem Disk.oldsAt {w W : World} {A B : Option Addr} {n c m d N g h : Nat} {pv vs : List Value} {ps : List Pg} {ws : List Od} (x : Disk w A B n c m d pv vs ps ws) (y : Lies w W) (hn : w.heap.size ≤ N) (hg : w.heap.size ≤ g) (hh : w.heap.size ≤ h) : OldsAt W N g h B m ws vs := ⟨fun j hj => by
  obtain ⟨b, off, Aj, nj, cj, e, hb, p0, p1, hv⟩ := x.old hj
  exact ⟨b, off, Aj, nj, cj, e, by omega, by omega, by omega, (y.cell (p := ⟨b, _, none⟩) hb).trans p0, (y.cell (p := ⟨b, _, none⟩) hb).trans p1, hv⟩⟩
theorem getD_drop {α : Type} (l : List α) (q j : Nat) (d : α) : (l.drop q).getD j d = l.getD (q + j) d := by simp [List.getD_eq_getElem?_getD, List.getElem?_drop]
/-- Old pages from the q-th one on. -/
theorem Disk.tail {w : World} {A : Option Addr} {b off n c m d q : Nat} {pv vs : List Value} {ps : List Pg} {ws : List Od} (h : Disk w A (some ⟨b, off, none⟩) n c m d pv vs ps ws) (hq : q ≤ m) (hm : 0 < m) : Olds w (some ⟨b, off + q * 2, none⟩) (m - q) (d - q) (ws.drop q) := by
  obtain ⟨hl, hc, hmx, _, hr⟩ := h.or
  obtain ⟨b', off', e, hlt, hcell⟩ := hr hm
  injection e with e
  injection e with e1 e2
  subst e1 e2
  refine ⟨by rw [List.length_drop, h.ol], vs.drop (q * 2), ⟨by rw [List.length_drop, hl, Nat.sub_mul], by omega, by omega, (fun e => by cases e), fun hn => ⟨b, off + q * 2, rfl, hlt, fun j hj => ?_⟩⟩, fun j hj => ?_⟩
  · rw [getD_drop, Nat.add_assoc, hcell (q * 2 + j) (by omega)]
  · obtain ⟨e1, e2⟩ := h.oo (q + j) (by omega)
    unfold OdV
    rw [getD_drop, getD_drop, getD_drop, show q * 2 + j * 2 = (q + j) * 2 by omega, show q * 2 + (j * 2 + 1) = (q + j) * 2 + 1 by omega]
    exact ⟨e1, e2⟩
theorem olds_none (w : World) (A : Option Addr) : Olds w A 0 0 [] := ⟨rfl, [], ⟨by simp, Nat.le_refl _, by unfold maxLen; omega, fun _ => rfl, fun h => by omega⟩, fun j hj => by omega⟩
theorem first_lt {α : Type} (p : α → Bool) (l : List α) (h : 0 ≤ firstI p l) : firstI p l < (l.length : Int) := by
  unfold firstI at *
  cases e : l.findIdx? p with
  | none => rw [e] at h; simp at h
  | some k =>
    rw [List.findIdx?_eq_some_iff_getElem] at e
    obtain ⟨hk, _⟩ := e
    simp; omega
/-- The slice that the k-th write wrote. -/
def bV (ws : List Od) (vs pv : List Value) (k : Nat) : Value := if 0 ≤ firstI (mineP (ws.getD k od0).1) (ws.drop (k + 1)) then vs.getD ((k + 1 + (firstI (mineP (ws.getD k od0).1) (ws.drop (k + 1))).toNat) * 2 + 1) nul else pv.getD (ws.getD k od0).1.toNat nul
def encW (ws : List Od) (vs pv : List Value) (m x : Nat) : Array Value := #[.int .i64 (ws.getD (ix m x) od0).1, bV ws vs pv (ix m x)]
theorem bV_is {w : World} {A B : Option Addr} {n c m d : Nat} {pv vs : List Value} {ps : List Pg} {ws : List Od} (h : Disk w A B n c m d pv vs ps ws) (R : Rt ps ws) {k : Nat} (hk : k < m) : PgV w (bV ws vs pv k) (wrote ps ws k) := by
  unfold bV wrote
  rw [wroteAt_first]
  have hr := R.old k (by rw [h.ol]; exact hk)
  rw [h.pl] at hr
  split
  · rename_i h0
    have h1 := first_lt _ _ h0
    rw [List.length_drop, h.ol] at h1
    rw [getD_drop]
    exact (h.oo _ (by omega)).2
  · exact h.pp _ (by omega)
end Go.Proofs.Ytfmgmpelgnickaa

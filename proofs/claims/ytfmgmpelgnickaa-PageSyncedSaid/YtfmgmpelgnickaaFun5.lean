/-
  Chapter 31: Crash, by the program, of a disk that may not be; plain words for its two loops.
-/
import Derived.Test.YtfmgmpelgnickaaFun4
namespace Go.Proofs.Ytfmgmpelgnickaa
open Go.RowKit Go.Shelf Plain
set_option linter.unusedSimpArgs false
set_option linter.unusedVariables false

theorem writes_stops (k : Nat) (hk : 1 ≤ k) (Bs N g h : Nat) (A B : Option Addr) (n c m d : Nat) (ps : List Pg) (ws : List Od) (pv vs : List Value) (w : World) (D : Disk w A B n c m d pv vs ps ws) (R : Rt ps ws) (hm : m ≤ 100000)
    (hN : w.heap.size ≤ N) (hg : w.heap.size ≤ g) (hh : w.heap.size ≤ h) (hBs : Bs < N) (hBg : Bs ≠ g) (hBh : Bs ≠ h) (W : World) (hNW : N ≤ W.heap.size) (hW : Lies w W)
    (hc0 : W.cell? ⟨Bs, 0, none⟩ = some (.slice A n c)) (hc1 : W.cell? ⟨Bs, 1, none⟩ = some (.slice B m d)) :
    SeqStopsK Fence.wide k Try.prog 42 #[.pointer (some ⟨Bs, 0, none⟩)] (encW ws vs pv m) (But N g h) (fun ys => ys = List.range m) (fun _ => True) m W := fun l J Jx W2 hW2 hJ hJx hY h0 =>
  writes1_in k hk l Bs N g h A B n c m d ps ws pv vs w D R hm hN hg hh hBs hBg hBh J Jx W2 (Nat.le_trans hNW hW2.size) hJ hY
    ⟨Nat.le_trans hW.size hW2.size, fun j hj => (hW2.block j (Nat.lt_of_lt_of_le hj hW.size)).trans (hW.block j hj)⟩ ((hW2.cell (p := ⟨Bs, 0, .none⟩) (by show Bs < _; omega)).trans hc0) ((hW2.cell (p := ⟨Bs, 1, .none⟩) (by show Bs < _; omega)).trans hc1) h0
/-- Pages, old ones put back in this order. -/
def backL (ps : List Pg) (ws : List Od) (m : Nat) (pre : List Nat) : List Pg := pre.foldl (fun l x => l.set (ws.getD (ix m x) od0).1.toNat (ws.getD (ix m x) od0).2) ps
theorem backL_snoc (ps : List Pg) (ws : List Od) (m : Nat) (pre : List Nat) (x : Nat) : backL ps ws m (pre ++ [x]) = (backL ps ws m pre).set (ws.getD (ix m x) od0).1.toNat (ws.getD (ix m x) od0).2 := by simp [backL]
theorem backL_len (ps : List Pg) (ws : List Od) (m : Nat) (pre : List Nat) : (backL ps ws m pre).length = ps.length := by
  unfold backL
  induction pre generalizing ps with
  | nil => rfl
  | cons x r ih => rw [List.foldl_cons, ih, List.length_set]
theorem backL_down {ps : List Pg} {ws : List Od} {m : Nat} (hm : ws.length = m) {t : Nat} (ht : t ≤ m) : backL ps ws m (down m t) = synced ps (ws.drop (m - t)) := by
  induction t with
  | zero => rw [Nat.sub_zero, List.drop_of_length_le (by omega)]; rfl
  | succ t ih =>
    rw [down_succ, backL_snoc, ih (by omega), ix_self (by omega), synced_drop ps (k := m - (t + 1)) (by omega), show m - (t + 1) + 1 = m - t by omega, show m - (t + 1) = m - 1 - t by omega]
theorem backL_all {ps : List Pg} {ws : List Od} {m : Nat} (hm : ws.length = m) : backL ps ws m (down m m) = synced ps ws := by rw [backL_down hm (Nat.le_refl _), Nat.sub_self, List.drop_zero]
/-- Pages, behind these writes, torn in turn. -/
def tornF (ws : List Od) (ps : List Pg) (cuts : List Int) (m : Nat) (s : List Pg × Nat) (x : Nat) : List Pg × Nat :=
  (s.1.set (ws.getD (ix m x) od0).1.toNat (torn (wrote ps ws (ix m x)) (s.1.getD (ws.getD (ix m x) od0).1.toNat []) (cutAt cuts s.2)), s.2 + 1)
def crashF (ps : List Pg) (ws : List Od) (cuts : List Int) (m : Nat) (pre : List Nat) : List Pg × Nat := pre.foldl (tornF ws ps cuts m) (synced ps ws, 0)
theorem crashF_count (ps : List Pg) (ws : List Od) (cuts : List Int) (m : Nat) (pre : List Nat) : (crashF ps ws cuts m pre).2 = pre.length := by
  suffices h : ∀ s, (pre.foldl (tornF ws ps cuts m) s).2 = s.2 + pre.length by
    unfold crashF; rw [h]; simp
  induction pre with
  | nil => intro s; rfl
  | cons x r ih => intro s; rw [List.foldl_cons, ih]; simp [tornF]; omega
def crashL (ps : List Pg) (ws : List Od) (cuts : List Int) (m : Nat) (pre : List Nat) : List Pg := (crashF ps ws cuts m pre).1
theorem crashL_snoc (ps : List Pg) (ws : List Od) (cuts : List Int) (m : Nat) (pre : List Nat) (x : Nat) : crashL ps ws cuts m (pre ++ [x]) =
    (crashL ps ws cuts m pre).set (ws.getD (ix m x) od0).1.toNat (torn (wrote ps ws (ix m x)) ((crashL ps ws cuts m pre).getD (ws.getD (ix m x) od0).1.toNat []) (cutAt cuts pre.length)) := by
  unfold crashL
  have h : crashF ps ws cuts m (pre ++ [x]) = tornF ws ps cuts m (crashF ps ws cuts m pre) x := by simp [crashF]
  rw [h, ← crashF_count ps ws cuts m pre]; rfl
theorem crashL_nil (ps : List Pg) (ws : List Od) (cuts : List Int) (m : Nat) : crashL ps ws cuts m [] = synced ps ws := rfl
theorem crashL_range (ps : List Pg) (ws : List Od) (cuts : List Int) {m t : Nat} (ht : t ≤ m) : crashL ps ws cuts m (List.range t) = crashTo ps ws cuts t := by
  induction t with
  | zero => rfl
  | succ t ih =>
    rw [List.range_succ, crashL_snoc, ih (by omega), ix_self (by omega), List.length_range]; rfl
theorem crashL_page {ps : List Pg} {ws : List Od} (R : Rt ps ws) (cuts : List Int) {m : Nat} (hm : ws.length = m) (h0 : 0 < m) (pre : List Nat) : (crashL ps ws cuts m pre).length = ps.length ∧ ∀ j, j < ps.length → ((crashL ps ws cuts m pre).getD j []).length = 256 := by
  rw [← List.reverse_reverse pre]
  induction pre.reverse with
  | nil => exact ⟨synced_len ps ws, fun j hj => synced_page R hj⟩
  | cons x r ih =>
    rw [List.reverse_cons]
    generalize r.reverse = pre at ih ⊢
    obtain ⟨h1, h2⟩ := ih
    have hx : ix m x < ws.length := by rw [hm]; exact ix_lt h0
    have ho := R.old _ hx
    rw [crashL_snoc]
    refine ⟨by rw [List.length_set]; exact h1, fun j hj => ?_⟩
    rw [getD_set]
    split
    · exact torn_len (wrote_len R hx) (h2 _ (by omega)) (cutAt_le _ _)
    · exact h2 j hj
/-- A box of two cells. -/
def Box2 (W : World) (B : Nat) (t : TypeId) (u v : Value) : Prop := W.heap[B]? = some (.cells #[u, v] t (0, 0))
theorem Box2.lt {W : World} {B : Nat} {t : TypeId} {u v : Value} (h : Box2 W B t u v) : B < W.heap.size := (Array.getElem?_eq_some_iff.1 h).1
theorem Box2.c0 {W : World} {B : Nat} {t : TypeId} {u v : Value} (h : Box2 W B t u v) : W.cell? ⟨B, 0, none⟩ = some u := by simp [World.cell?, show W.heap[B]? = _ from h]
theorem Box2.c1 {W : World} {B : Nat} {t : TypeId} {u v : Value} (h : Box2 W B t u v) : W.cell? ⟨B, 1, none⟩ = some v := by simp [World.cell?, show W.heap[B]? = _ from h]
theorem Box2.new (W : World) (t : TypeId) (u v : Value) : Box2 (W.alloc (.cells #[u, v] t)) W.heap.size t u v := World.alloc_heap_new W _
theorem box2_own {β : Type} (B : Nat) (t : TypeId) (f g : β → Value) : _root_.Go.Own (fun s W => Box2 W B t (f s) (g s)) := fun s X Y row hs hg hrow =>
  (hg.block B hs.lt (fun e => by obtain ⟨o, ho, hc⟩ := hrow B e.symm; rw [show X.heap[B]? = _ from hs] at ho; cases ho; cases hc)).trans hs

/-- What the call's own boxes hold: the disk, the cuts, the result. -/
structure Held3 (w W : World) (v0 v1 u : Value) : Prop where
  c0 : W.cell? ⟨w.heap.size, 0, none⟩ = some v0
  c1 : W.cell? ⟨w.heap.size, 1, none⟩ = some v1
  u0 : W.cell? ⟨w.heap.size + 1, 0, none⟩ = some u
  r0 : W.cell? ⟨w.heap.size + 1 + 1, 0, none⟩ = some (.slice none 0 0)
  r1 : W.cell? ⟨w.heap.size + 1 + 1, 1, none⟩ = some (.slice none 0 0)
  f0 : W.frozen? ⟨w.heap.size + 1 + 1, 0, none⟩ = false
  f1 : W.frozen? ⟨w.heap.size + 1 + 1, 1, none⟩ = false
  sz : w.heap.size + 3 ≤ W.heap.size
theorem Held3.but {w W W' : World} {v0 v1 u : Value} {n g h : Nat} (x : Held3 w W v0 v1 u) (hb : But n g h W W') (hn : w.heap.size + 3 ≤ n) (hg : w.heap.size + 3 ≤ g) (hh : w.heap.size + 3 ≤ h) : Held3 w W' v0 v1 u :=
  ⟨(hb.cell (p := ⟨_, 0, .none⟩) (by simp; omega) (by simp; omega) (by simp; omega)).trans x.c0, (hb.cell (p := ⟨_, 1, .none⟩) (by simp; omega) (by simp; omega) (by simp; omega)).trans x.c1, (hb.cell (p := ⟨_, 0, .none⟩) (by simp; omega) (by simp; omega) (by simp; omega)).trans x.u0,
    (hb.cell (p := ⟨_, 0, .none⟩) (by simp; omega) (by simp; omega) (by simp; omega)).trans x.r0, (hb.cell (p := ⟨_, 1, .none⟩) (by simp; omega) (by simp; omega) (by simp; omega)).trans x.r1,
    (hb.frozen (p := ⟨_, 0, .none⟩) (by simp; omega) (by simp; omega) (by simp; omega)).trans x.f0, (hb.frozen (p := ⟨_, 1, .none⟩) (by simp; omega) (by simp; omega) (by simp; omega)).trans x.f1, Nat.le_trans x.sz hb.size⟩
theorem Held3.below {w W W' : World} {v0 v1 u : Value} (x : Held3 w W v0 v1 u) (hb : Below W.heap.size W W') : Held3 w W' v0 v1 u :=
  x.but (n := W.heap.size) (g := W.heap.size) (h := W.heap.size) ((But.refl _ _ _ W).below (Nat.le_refl _) hb) x.sz x.sz x.sz
theorem crash_wrong {A B C : Option Addr} {n c m d l e : Nat} {ps : List Pg} {ws : List Od} {w : World} (h : Pags w A n c ps) (g : Olds w B m d ws) (hr : rightB ps ws = false) : Calls Try.prog 23 #[.agg #[.slice A n c, .slice B m d], .slice C l e] w (RetD w ps ws) := by
  have g0 : Below w.heap.size w (((w.alloc (.cells #[.slice A n c, .slice B m d] 25)).alloc (.cells #[.slice C l e] 40)).alloc (.cells #[.slice none 0 0, .slice none 0 0] 25)) := by go_grown
  have h0 := hide h
  have gg := hide g
  replace h := hide (h.below g0)
  replace g := hide (g.below g0)
  replace g0 := hide g0
  replace hr := hide hr
  go_enter Try.func23, Try.ntmps23
  go_wp2_with fail
  refine (right_any h.out g.out false hr.out).mono ?_
  rintro e1 w1 ⟨rfl, hb⟩
  have DB := hide (g0.out.trans (hb.mono g0.out.size))
  have H : Held3 w w1 (.slice A n c) (.slice B m d) (.slice C l e) := Held3.below ⟨by go_side, by go_side, by go_side, by go_side, by go_side, by go_side, by go_side, by simp⟩ hb
  have c0 := H.c0
  have c1 := H.c1
  have r0 := H.r0
  have r1 := H.r1
  have f0 := H.f0
  have f1 := H.f1
  have sz := H.sz
  clear hb hr H
  go_wp2_with fail
  refine bodyPost_ret (v := .agg #[.slice A n c, .slice B m d]) (by simp [results, Try.results23, go_sem, r0, r1, f0, f1]) rfl ?_
  have BV := (DB.out.setCell (p := ⟨w.heap.size + 1 + 1, 0, none⟩) (by simp; omega) (.slice A n c)).setCell (p := ⟨w.heap.size + 1 + 1, 1, none⟩) (by simp; omega) (.slice B m d)
  exact ⟨A, n, c, B, m, d, rfl, h0.out.below BV, gg.out.below BV, BV⟩
end Go.Proofs.Ytfmgmpelgnickaa

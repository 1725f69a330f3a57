/-
  Chapter 31: Crash, by the program.
-/
import Derived.Test.YtfmgmpelgnickaaFun5
namespace Go.Proofs.Ytfmgmpelgnickaa
open Go.RowKit Go.Shelf Plain
set_option linter.unusedSimpArgs false
set_option linter.unusedVariables false
attribute [local go_sem] Oper.semAt_some

/-- The law of a loop over a function whose assign code lays one block, with the frame written out of the one at hand. -/
theorem loop_boxed {k : Nat} {α : Type} {gop : Operand} {ps : Array Tmp} {assign body : Code} {Q : Exit → Act → World → Prop} {a : Act} {w : World} (h1 : 1 ≤ k) {gf : Nat} {lb : Array Value} (hg : a.eval gop = .func (.func gf) #[] lb) (eg : ∀ args w, (callFunc gf args).run Try.prog w = .ok (.enter gf args) w)
    {encs : α → Array Value} {Kp : World → World → Prop} {S Sp : List α → Prop} {N : Nat} (hseq : SeqStopsK Fence.wide (k - 1) Try.prog gf lb encs Kp S Sp N w)
    (hKt : ∀ {A B C : World}, Kp A B → Kp B C → Kp A C) (hKb : ∀ (W : World) (l : Nat) (o o' : Obj), w.heap.size ≤ l → W.heap[l]? = some o → o.isCells = false → o.isWalk = false → Kp W (W.putObj l o')) (hps : ∀ x, (encs x).size = ps.size)
    (I : List α → World → Prop) (hI : OwnFrom w.heap.size I) (h0 : I [] w) (X : α → Nat → World → Prop) (hX : ∀ x B, OwnFrom w.heap.size (fun (_ : Unit) W => X x B W)) (put : α → Nat → Array Value → Array Value)
    (hassign : ∀ (l : Nat) (pre : List α) (x : α) (W : World) (K : Act → World → Prop), I pre W → (∀ B W', KeepsFrom w.heap.size W W' → Kp W W' → I pre W' → X x B W' → K { tmps := put x B a.tmps, defers := [] } W') →
      assign.wpIn (Fence.wide.inRound l) (k - 1 - 1) Try.prog (Exit.then K (fun _ _ _ => False)) { tmps := (ps.zip (encs x)).foldl (fun t (p, v) => t.setIfInBounds p v) a.tmps, defers := [] } W)
    (hbody : ∀ (l : Nat) (pre : List α) (x : α) (B : Nat) (W : World), I pre W → X x B W → pre.length < N → body.wpIn (Fence.wide.inRound l) (k - 1 - 1) Try.prog (ownPostG w.heap.size Kp I (fun _ _ _ => False) (pre ++ [x]) W) { tmps := put x B a.tmps, defers := [] } W)
    (hdone : ∀ (D : Nat) (xs : List α) (W : World), w.heap.size ≤ D → S xs → I xs W → W.heap[D]? = some (.deferred (some [])) → Q .normal { a with defers := { target := .collected D, args := #[] } :: a.defers } W) :
    (Code.rangeFunc gop ps assign body).wpIn Fence.wide k Try.prog Q a w := by
  refine wpIn_rangeFunc_ownH (F := Fence.wide) rfl h1 hg trivial eg hseq hKt hKb (Below.refl _ _) hps I (fun _ _ _ => False) hI (fun _ _ _ _ _ hs _ _ => hs) h0
    (fun x a' W => ∃ B, X x B W ∧ a' = { tmps := put x B a.tmps, defers := [] }) (fun x a' s Y Z row hs hg2 hr => ?_) (fun l pre x W K hi hK => ?_) (fun l pre x a' W _ _ hi hs hlt => ?_) hdone (fun D c pre W _ _ h _ => h.elim)
  · obtain ⟨B, h1, h2⟩ := hs
    exact ⟨B, hX x B () Y Z row h1 hg2 hr, h2⟩
  · exact hassign l pre x W K hi (fun B W' x1 x2 x3 x4 => hK _ W' x1 x2 x3 ⟨B, x4, rfl⟩)
  · obtain ⟨B, h1, rfl⟩ := hs
    exact hbody l pre x B W hi h1 hlt

/-- The same where the assign code lays nothing. -/
theorem loop_plain {k : Nat} {α : Type} {gop : Operand} {ps : Array Tmp} {assign body : Code} {Q : Exit → Act → World → Prop} {a : Act} {w : World} (h1 : 1 ≤ k) {gf : Nat} {lb : Array Value} (hg : a.eval gop = .func (.func gf) #[] lb) (eg : ∀ args w, (callFunc gf args).run Try.prog w = .ok (.enter gf args) w)
    {encs : α → Array Value} {Kp : World → World → Prop} {S Sp : List α → Prop} {N : Nat} (hseq : SeqStopsK Fence.wide (k - 1) Try.prog gf lb encs Kp S Sp N w)
    (hKt : ∀ {A B C : World}, Kp A B → Kp B C → Kp A C) (hKb : ∀ (W : World) (l : Nat) (o o' : Obj), w.heap.size ≤ l → W.heap[l]? = some o → o.isCells = false → o.isWalk = false → Kp W (W.putObj l o')) (hps : ∀ x, (encs x).size = ps.size)
    (I : List α → World → Prop) (hI : OwnFrom w.heap.size I) (h0 : I [] w) (put : α → Array Value → Array Value)
    (hassign : ∀ (l : Nat) (x : α) (W : World) (K : Act → World → Prop), K { tmps := put x a.tmps, defers := [] } W →
      assign.wpIn (Fence.wide.inRound l) (k - 1 - 1) Try.prog (Exit.then K (fun _ _ _ => False)) { tmps := (ps.zip (encs x)).foldl (fun t (p, v) => t.setIfInBounds p v) a.tmps, defers := [] } W)
    (hbody : ∀ (l : Nat) (pre : List α) (x : α) (W : World), I pre W → pre.length < N → body.wpIn (Fence.wide.inRound l) (k - 1 - 1) Try.prog (ownPostG w.heap.size Kp I (fun _ _ _ => False) (pre ++ [x]) W) { tmps := put x a.tmps, defers := [] } W)
    (hdone : ∀ (D : Nat) (xs : List α) (W : World), w.heap.size ≤ D → S xs → I xs W → W.heap[D]? = some (.deferred (some [])) → Q .normal { a with defers := { target := .collected D, args := #[] } :: a.defers } W) :
    (Code.rangeFunc gop ps assign body).wpIn Fence.wide k Try.prog Q a w :=
  wpIn_rangeFunc_ownG (F := Fence.wide) rfl h1 hg trivial eg hseq hKt hKb (Below.refl _ _) hps I (fun _ _ _ => False) hI (fun _ _ _ _ _ hs _ _ => hs) h0 (fun x => { tmps := put x a.tmps, defers := [] }) hassign hbody hdone (fun D c pre W _ _ h _ => h.elim)

set_option maxRecDepth 100000 in
set_option maxHeartbeats 8000000 in
theorem crash_good {A B C : Option Addr} {n c m d l e : Nat} {ps : List Pg} {ws : List Od} {cuts : List Int} {w : World} (h : Pags w A n c ps) (g : Olds w B m d ws) (u : Nts w C l e cuts) (R : Rt ps ws) (hm : m ≤ 100000) (P : List Pg) (hP : crashTo ps ws cuts m = P) :
    Calls Try.prog 23 #[.agg #[.slice A n c, .slice B m d], .slice C l e] w (RetD w P []) := by
  have hr := (right_iff ps ws).2 R
  have hl := hide h.1
  have gl := hide g.1
  have hn : n ≤ 4096 := by rw [← hl.out]; exact R.hi
  have hn1 : 1 ≤ n := by rw [← hl.out]; exact R.lo
  obtain ⟨pv, vs, D0⟩ := Disk.of h g
  have g0 : Below w.heap.size w (((w.alloc (.cells #[.slice A n c, .slice B m d] 25)).alloc (.cells #[.slice C l e] 40)).alloc (.cells #[.slice none 0 0, .slice none 0 0] 25)) := by go_grown
  replace h := hide (h.below g0)
  replace g := hide (g.below g0)
  have u0 := hide u
  have hum := u.max
  replace hr := hide hr
  replace R := hide R
  replace D0 := hide D0
  replace hP := hide hP
  refine (callsIn_wide (n := 6)).1 ?_
  refine callsIn_of_wp_marks Try.func23 rfl trivial ?_ rfl
  simp only [Try.ntmps23, List.size_toArray, List.length_cons, List.length_nil, Nat.reduceAdd, Nat.reduceSub, Array.replicate_succ, Array.replicate_zero, List.push_toArray, List.append_toArray, List.nil_append, List.cons_append]
  gi_wp2_with fail
  refine ⟨trivial, ?_⟩
  with_reducible refine (callsIn_wide.2 (right_any h.out g.out true hr.out)).mono ?_
  rintro e1 w1 ⟨rfl, hb⟩
  have H : Hid (Held3 w w1 (.slice A n c) (.slice B m d) (.slice C l e)) := hide (Held3.below ⟨by go_side, by go_side, by go_side, by go_side, by go_side, by go_side, by go_side, by simp⟩ hb)
  have DB := hide (g0.trans (hb.mono g0.size))
  have c0 := H.out.c0
  have c1 := H.out.c1
  replace h := hide (h.out.below hb)
  clear hb g g0 hr
  gi_wp2_with fail
  refine ⟨trivial, ?_⟩
  with_reducible refine (callsIn_wide.2 (clone_pages h.out (by omega))).mono ?_
  rintro e1 w2 ⟨A2, n2, c2, rfl, P2, O2, hb⟩
  have hn2 : n2 = n := by have := P2.1; rw [h.out.1] at this; exact this.symm
  subst hn2
  obtain ⟨g2, rfl, hg1, hg2, hg3⟩ := O2 (by omega)
  have M2 : Mine w2 g2 n2 c2 ps := ⟨P2, fun j _ => hg3 j⟩
  have DB2 := hide (st DB.out hb (Below.refl _ _))
  have H2 := hide (H.out.below hb)
  have sz1 := H.out.sz
  have sz2 := H2.out.sz
  replace c0 := H2.out.c0
  replace c1 := H2.out.c1
  replace M2 := hide M2
  have lw : w.heap.size < w2.heap.size := by omega
  clear hb hg3 P2 O2 h H DB
  gi_wp2_with fail
  refine ⟨trivial, ?_⟩
  with_reducible refine (callsIn_wide.2 (back_any B m d _)).mono ?_
  rintro e1 w3 ⟨rfl, rfl⟩
  gi_wp2_with fail
  obtain ⟨W0, hW0⟩ : ∃ W0, (w2.alloc (.cells #[.slice (some ⟨g2, 0, none⟩) n2 c2, .slice none 0 0] 25)).alloc (.cells #[.slice B m d] 23) = W0 := ⟨_, rfl⟩
  have G0 : Below w2.heap.size w2 W0 := by rw [← hW0]; go_grown
  have ob : Box2 W0 w2.heap.size 25 (.slice (some ⟨g2, 0, none⟩) n2 c2) (.slice none 0 0) := by rw [← hW0]; exact (Below.heap_alloc _ _ _ (by simp)).trans (Box2.new w2 25 _ _)
  have kB : W0.cell? ⟨w2.heap.size + 1, 0, none⟩ = some (.slice B m d) := by rw [← hW0]; go_side
  have hsz0 : W0.heap.size = w2.heap.size + 2 := by rw [← hW0]; simp
  rw [hW0]
  clear hW0 c0 c1
  have M0 : Mine W0 g2 n2 c2 (backL ps ws m []) := M2.out.below G0
  have H0 := hide (H2.out.below G0)
  have DB0 : Below w.heap.size w W0 := st DB2.out G0 (Below.refl _ _)
  have L0 : Lies w W0 := Lies.of DB0
  have wsl := hide D0.out.ol
  have hvx : Hid (∀ x, ∃ Aj nj cj, vs.getD (ix m x * 2 + 1) nul = .slice Aj nj cj) := hide (fun x => by
    rcases Nat.eq_zero_or_pos m with q | q
    · have hv : vs = [] := List.eq_nil_of_length_eq_zero (by rw [D0.out.or.1, q, Nat.zero_mul])
      exact ⟨none, 0, 0, by rw [hv]; rfl⟩
    · obtain ⟨_, _, Aj, nj, cj, _, _, _, _, hv⟩ := D0.out.old (ix_lt (x := x) q)
      exact ⟨Aj, nj, cj, hv⟩)
  refine loop_boxed (by omega) (gf := 41) (lb := #[.pointer (some ⟨w2.heap.size + 1, 0, none⟩)]) rfl (enters_of Try.func41 (by kernel_rfl) rfl)
    (back_stops (6 - 1) (by omega) (w2.heap.size + 1) W0.heap.size g2 g2 B m d ws vs (by omega) (by omega) (by omega) (by omega) W0 (Nat.le_refl _) kB (D0.out.oldsAt L0 (by omega) (by omega) (by omega))) butK_t (butK_b (Nat.le_refl _)) (fun _ => rfl)
    (fun pre W => Mine W g2 n2 c2 (backL ps ws m pre) ∧ (But W0.heap.size g2 g2 W0 W ∧ Below w.heap.size w W))
    (OwnFrom.and (Own.from (mine_own g2 n2 c2 (backL ps ws m)) _) (OwnFrom.and (ownFrom_but (Nat.le_refl _) (Nat.le_refl _)) (ownFrom_below (Nat.le_refl _) (by omega))))
    ⟨M0, But.refl _ _ _ _, DB0⟩
    (fun x Bx W => W0.heap.size ≤ Bx ∧ Box2 W Bx 47 (.int .i64 (ws.getD (ix m x) od0).1) (vs.getD (ix m x * 2 + 1) nul))
    (fun x Bx => OwnFrom.and (ownFrom_pure _ (fun _ => W0.heap.size ≤ Bx)) (Own.from (box2_own Bx 47 (fun _ => .int .i64 (ws.getD (ix m x) od0).1) (fun _ => vs.getD (ix m x * 2 + 1) nul)) _))
    (fun x Bx T => ((T.setIfInBounds 24 (.int .i64 (x : Int))).setIfInBounds 25 (.agg #[.int .i64 (ws.getD (ix m x) od0).1, vs.getD (ix m x * 2 + 1) nul])).setIfInBounds 7 (.pointer (some ⟨Bx, 0, none⟩)))
    ?assign ?body ?done
  case assign =>
    rintro l2 pre x W K ⟨M1, B1, E1⟩ hK
    obtain ⟨Aj, nj, cj, hv⟩ := hvx.out x
    unfold encB
    rw [hv] at hK ⊢
    generalize (ws.getD (ix m x) od0).1 = X at *
    replace M1 := hide M1
    replace E1 := hide E1
    clear hv
    gi_wp2
    have F1 : Below W.heap.size W (W.alloc (.cells #[.int .i64 X, .slice Aj nj cj] 47)) := (Below.refl _ W).alloc (Nat.le_refl _) _
    exact hK W.heap.size _ ((KeepsOthers.alloc _ _).from _) ((But.refl _ _ _ W).below B1.size F1) ⟨M1.out.below F1, B1.below (Nat.le_refl _) F1, st E1.out F1 (Below.refl _ _)⟩ ⟨B1.size, Box2.new W 47 _ _⟩
  case body =>
    rintro l2 pre x Bx W ⟨M1, B1, E1⟩ ⟨hBx, bx⟩ hlt
    have hix : ix m x < m := ix_lt (by omega)
    have hX := R.out.old (ix m x) (by rw [wsl.out]; exact hix)
    rw [hl.out] at hX
    have hsn := hide (backL_snoc ps ws m pre x)
    obtain ⟨Aj, nj, cj, hv⟩ := hvx.out x
    have hZ : Hid (Byt W Aj nj cj (ws.getD (ix m x) od0).2) := hide (by
      obtain ⟨A9, n9, c9, e9, hB9⟩ := ((D0.out.lies (L0.but B1 (by omega) (by omega) (by omega))).oo (ix m x) hix).2
      rw [hv] at e9
      injection e9 with e1 e2 e3
      subst e1 e2 e3
      exact hB9)
    rw [hv] at bx ⊢
    generalize (ws.getD (ix m x) od0).1 = X at *
    generalize (ws.getD (ix m x) od0).2 = Z at *
    obtain ⟨a, ha⟩ : ∃ a : Nat, X = (a : Int) := ⟨X.toNat, by omega⟩
    subst ha
    rw [Int.toNat_natCast] at hsn
    have han : a < n2 := by omega
    have ha0 : (0 : Int) ≤ (a : Int) := by omega
    have han2 : (a : Int) < (n2 : Int) := by omega
    have x0 := bx.c0
    have x1 := bx.c1
    have o0 := (B1.cell (p := ⟨w2.heap.size, 0, none⟩) (by simp; omega) (by simp; omega) (by simp; omega)).trans ob.c0
    obtain ⟨A8, n8, c8, mc, _⟩ := M1.cellAt han
    have mf := M1.2 a han
    have lg := M1.lt (by omega)
    have lb := bx.lt
    replace M1 := hide M1
    replace E1 := hide E1
    replace B1 := hide B1
    clear hv hX
    simp only [List.setIfInBounds_toArray, List.set_cons_zero, List.set_cons_succ]
    gi_wp2
    exact ⟨(KeepsOthers.setCell _ _ _).from _, (But.refl _ _ _ W).grown (grow_set W g2 a _) B1.out.size (fun r e => .inr (.inl (by injection e with e; exact e.symm))), by rw [hsn.out]; exact M1.out.setAt han hZ.out,
      B1.out.grown (grow_set W g2 a _) (Nat.le_refl _) (fun r e => .inr (.inl (by injection e with e; exact e.symm))), E1.out.setCell (p := ⟨g2, a, none⟩) (by simp; omega) _⟩
  case done =>
    rintro D xs W hD rfl ⟨M1, B1, E1⟩ hK
    rw [backL_all wsl.out] at M1
    have H3 := hide (H0.out.but B1 (by omega) (by omega) (by omega))
    have c0 := H3.out.c0
    have c1 := H3.out.c1
    have szW := B1.size
    have lw3 : w.heap.size < W.heap.size := by omega
    have lg := M1.lt (by omega)
    have ob3 : Box2 W w2.heap.size 25 (.slice (some ⟨g2, 0, none⟩) n2 c2) (.slice none 0 0) := (B1.block _ (by omega) (by omega) (by omega)).trans ob
    replace M1 := hide M1
    replace E1 := hide E1
    replace ob3 := hide ob3
    replace hK := hide hK
    have L3 := hide (L0.but B1 (by omega) (by omega) (by omega))
    replace B1 := hide B1
    clear M0 H0 DB0 L0 ob kB G0 M2 H2 DB2
    gi_wp2_with fail
    refine ⟨trivial, ?_⟩
    with_reducible refine (callsIn_wide.2 (writes_any A B n2 c m d _)).mono ?_
    rintro e1 w5 ⟨rfl, rfl⟩
    gi_wp2_with fail
    obtain ⟨W5, hW5⟩ : ∃ W5, (W.alloc (.cells #[.int .i64 0] 3)).alloc (.cells #[.slice A n2 c, .slice B m d] 25) = W5 := ⟨_, rfl⟩
    have G5 : Below W.heap.size W W5 := by rw [← hW5]; go_grown
    have bx0 : Boxed W5 W.heap.size 3 (.int .i64 ((([] : List Nat).length : Nat) : Int)) := by rw [← hW5]; exact (Below.heap_alloc _ _ _ (by simp)).trans (Boxed.new W 3 _)
    have q0 : W5.cell? ⟨W.heap.size + 1, 0, none⟩ = some (.slice A n2 c) := by rw [← hW5]; go_side
    have q1 : W5.cell? ⟨W.heap.size + 1, 1, none⟩ = some (.slice B m d) := by rw [← hW5]; go_side
    have hsz5 : W5.heap.size = W.heap.size + 2 := by rw [← hW5]; simp
    rw [hW5]
    clear hW5 c0 c1
    have M5 : Mine W5 g2 n2 c2 (crashL ps ws cuts m []) := M1.out.below G5
    have H5 := hide (H3.out.below G5)
    have E5 : Below w.heap.size w W5 := st E1.out G5 (Below.refl _ _)
    have L5 : Lies w W5 := Lies.of E5
    have ob5 : Box2 W5 w2.heap.size 25 (.slice (some ⟨g2, 0, none⟩) n2 c2) (.slice none 0 0) := (G5.block _ (by omega)).trans ob3.out
    have hDW : D < W.heap.size := (Array.getElem?_eq_some_iff.1 hK.out).1
    have hK5 : W5.heap[D]? = some (.deferred (some [])) := (G5.block _ hDW).trans hK.out
    have hcp := hide (crashL_page R.out cuts wsl.out)
    refine loop_plain (by omega) (gf := 42) (lb := #[.pointer (some ⟨W.heap.size + 1, 0, none⟩)]) rfl (enters_of Try.func42 (by kernel_rfl) rfl)
      (writes_stops (6 - 1) (by omega) (W.heap.size + 1) W5.heap.size g2 W.heap.size A B n2 c m d ps ws pv vs w D0.out R.out hm (by omega) (by omega) (by omega) (by omega) (by omega) (by omega) W5 (Nat.le_refl _) L5 q0 q1) butK_t (butK_b (Nat.le_refl _)) (fun _ => rfl)
      (fun pre W' => (Mine W' g2 n2 c2 (crashL ps ws cuts m pre) ∧ Boxed W' W.heap.size 3 (.int .i64 ((pre.length : Nat) : Int))) ∧ (But W5.heap.size g2 W.heap.size W5 W' ∧ Below w.heap.size w W'))
      (OwnFrom.and (OwnFrom.and (Own.from (mine_own g2 n2 c2 (crashL ps ws cuts m)) _) (Own.from (boxed_own W.heap.size 3 (fun pre : List Nat => .int .i64 ((pre.length : Nat) : Int))) _)) (OwnFrom.and (ownFrom_but (Nat.le_refl _) (Nat.le_refl _)) (ownFrom_below (Nat.le_refl _) (by omega))))
      ⟨⟨M5, bx0⟩, But.refl _ _ _ _, E5⟩
      (fun x T => (((T.setIfInBounds 35 (.int .i64 (ws.getD (ix m x) od0).1)).setIfInBounds 36 (bV ws vs pv (ix m x))).setIfInBounds 9 (.int .i64 (ws.getD (ix m x) od0).1)).setIfInBounds 10 (bV ws vs pv (ix m x)))
      ?assign2 ?body2 ?done2
    case assign2 =>
      intro l2 x W' K hK2
      unfold encW
      generalize (ws.getD (ix m x) od0).1 = X at *
      generalize bV ws vs pv (ix m x) = V at *
      gi_wp2
      exact hK2
    case body2 =>
      rintro l2 pre x W' ⟨⟨M6, bx⟩, B6, E6⟩ hlt
      have hix : ix m x < m := ix_lt (by omega)
      have hX := R.out.old (ix m x) (by rw [wsl.out]; exact hix)
      rw [hl.out] at hX
      have hsn := hide (crashL_snoc ps ws cuts m pre x)
      have L6 := L5.but B6 (by omega) (by omega) (by omega)
      obtain ⟨Ab, nb, cb, hv, hbb⟩ := bV_is (D0.out.lies L6) R.out hix
      have hwl := hide (wrote_len R.out (k := ix m x) (by rw [wsl.out]; exact hix))
      have hnb : nb = 256 := by have := hbb.len; rw [hwl.out] at this; exact this.symm
      subst hnb
      have hcb : 256 ≤ cb := hbb.2.1
      rw [hv]
      generalize (ws.getD (ix m x) od0).1 = X at *
      generalize wrote ps ws (ix m x) = Z at *
      obtain ⟨a, ha⟩ : ∃ a : Nat, X = (a : Int) := ⟨X.toNat, by omega⟩
      subst ha
      rw [Int.toNat_natCast] at hsn
      have han : a < n2 := by omega
      have ha0 : (0 : Int) ≤ (a : Int) := by omega
      have han2 : (a : Int) < (n2 : Int) := by omega
      have o0 := (B6.cell (p := ⟨w2.heap.size, 0, none⟩) (by simp; omega) (by simp; omega) (by simp; omega)).trans ob5.c0
      have H6 := H5.out.but B6 (by omega) (by omega) (by omega)
      have u1 := H6.u0
      obtain ⟨A8, n8, c8, mc, mb⟩ := M6.cellAt han
      have hn8 : n8 = 256 := by have := mb.len; rw [(hcp.out (by omega) pre).2 a (by rw [hl.out]; exact han)] at this; exact this.symm
      subst hn8
      obtain ⟨b8, off8, hA8, hb8, _⟩ := mb.cell (by omega)
      subst hA8
      have mf := M6.2 a han
      have lg := M6.lt (by omega)
      have k8 := bx.cell
      have f8 := bx.frozen
      have lb8 := bx.lt
      have sz6 := B6.size
      have U6 := Row.lies u0.out L6
      have ul := hide u0.out.len
      obtain ⟨pl, hpl⟩ : ∃ p, pre.length = p := ⟨_, rfl⟩
      rw [hpl] at hsn k8 bx hlt
      have o1 : (W'.setCell ⟨W.heap.size, 0, none⟩ (.int .i64 ((pl : Int) + 1))).cell? ⟨w2.heap.size, 0, none⟩ = some (.slice (some ⟨g2, 0, none⟩) n2 c2) := (World.cell?_setCell_other _ _ _ _ (by intro q; injection q with q1 q2; omega)).trans o0
      have mc1 : (W'.setCell ⟨W.heap.size, 0, none⟩ (.int .i64 ((pl : Int) + 1))).cell? ⟨g2, a, none⟩ = some (.slice (some ⟨b8, off8, none⟩) 256 c8) := (World.cell?_setCell_other _ _ _ _ (by intro q; injection q with q1 q2; omega)).trans mc
      have mf1 : (W'.setCell ⟨W.heap.size, 0, none⟩ (.int .i64 ((pl : Int) + 1))).frozen? ⟨g2, a, none⟩ = false := by rw [World.frozen?_setCell]; exact mf
      have mb1 := hide (mb.set' k8 (by intro z q; cases q) (.int .i64 ((pl : Int) + 1)))
      replace hpl := hide hpl
      replace M6 := hide M6
      replace bx := hide bx
      replace B6 := hide B6
      replace E6 := hide E6
      replace hbb := hide hbb
      clear mb hv mc mf L6 hX H6 M5 bx0 q0 q1 G5 E5
      simp only [List.setIfInBounds_toArray, List.set_cons_zero, List.set_cons_succ]
      by_cases kl : pl < l
      · have klI : (pl : Int) < (l : Int) := by omega
        obtain ⟨bc, offc, hC, hbc, y1⟩ := (show Nts W' C l e cuts from U6).at_ (Below.refl _ _) kl
        subst hC
        have hcut : Hid (cutAt cuts pl = if 0 ≤ cuts.getD pl 0 ∧ cuts.getD pl 0 < 256 then (cuts.getD pl 0).toNat else 256) := hide (by unfold cutAt; rw [ul.out]; simp [kl])
        generalize cuts.getD pl 0 = Y at *
        have hp0 : (0 : Int) ≤ (pl : Int) := by omega
        clear U6
        by_cases y2 : Y < 0
        · have hc : Hid (cutAt cuts pl = 256) := hide (by rw [hcut.out, if_neg (fun q => by omega)])
          gi_wp2_with fail
          refine ⟨trivial, ?_⟩
          with_reducible refine (CallsIn.inRound l2 (callsIn_wide.2 (clone_owned mb1.out (by omega)))).mono ?_
          rintro e2 w7 ⟨v7, rfl, own7, hb7⟩
          obtain ⟨g7, cap7, rfl⟩ := ownsRow_succ own7
          have hz7 : Byt w7 Ab 256 cb Z := (hbb.out.set' k8 (by intro z q; cases q) (.int .i64 ((pl : Int) + 1))).below hb7
          have lt7 := own7.lt g7 rfl
          rw [World.size_setCell] at lt7
          replace own7 := hide own7
          replace hz7 := hide hz7
          have o7 := (hb7.cell (p := ⟨w2.heap.size, 0, none⟩) (by simp; omega)).trans o1
          have mc7 := (hb7.cell (p := ⟨g2, a, none⟩) (by simp; omega)).trans mc1
          have mf7 := (hb7.frozen (p := ⟨g2, a, none⟩) (by simp; omega)).trans mf1
          have sz7 := hb7.size
          rw [World.size_setCell] at sz7
          gi_wp2_with (refine wpListIn_copy_torn rfl (.tmp 59) (.tmp 62) rfl _ g7 cap7 256 _ Z rfl own7.out Ab 256 cb cb rfl hz7.out rfl (by omega) ?_; intro w8 own8 hg8; have o8 := (hg8.cell_far ⟨w2.heap.size, 0, none⟩ (by simp; omega) (by intro q; injection q with q; simp at q; omega)).trans o7; have mc8 := (hg8.cell_far ⟨g2, a, none⟩ (by simp; omega) (by intro q; injection q with q; simp at q; omega)).trans mc7; have mf8 := (hg8.frozen_far ⟨g2, a, none⟩ (by simp; omega) (by intro q; injection q with q; simp at q; omega)).trans mf7; have lg8 := hg8.size; replace own8 := hide own8)
          have D8 : Below (W'.setCell ⟨W.heap.size, 0, none⟩ (.int .i64 ((pl : Int) + 1))).heap.size (W'.setCell ⟨W.heap.size, 0, none⟩ (.int .i64 ((pl : Int) + 1))) w8 := hb7.grown hg8 (by rw [World.size_setCell]; omega) (fun r e => by injection e with e; rw [World.size_setCell]; omega)
          have M7 : Mine (W'.setCell ⟨W.heap.size, 0, none⟩ (.int .i64 ((pl : Int) + 1))) g2 n2 c2 (crashL ps ws cuts m pre) := M6.out.setBox k8 (by intro z q; cases q) (by simp; omega) _
          have hp8 : Byt w8 (some ⟨g7, 0, none⟩) 256 cap7 (torn Z ((crashL ps ws cuts m pre).getD a []) (cutAt cuts pl)) := by
            rw [hc.out]
            obtain ⟨A9, c9, e9, hr9, _⟩ := row_own own8.out
            injection e9 with e1 e2 e3
            subst e1 e3
            exact hr9
          have M9 := (M7.below D8).setAt han hp8
          rw [← hsn.out] at M9
          have bx9 : Boxed (w8.setCell ⟨g2, a, none⟩ (.slice (some ⟨g7, 0, none⟩) 256 cap7)) W.heap.size 3 (.int .i64 ((pl : Int) + 1)) :=
            Boxed.kept ((D8.block _ (by rw [World.size_setCell]; exact lb8)).trans (Boxed.set _ bx.out)) (grow_set w8 g2 a _) (by intro q; injection q with q; omega)
          have K9 : KeepsOthers W' (w8.setCell ⟨g2, a, none⟩ (.slice (some ⟨g7, 0, none⟩) 256 cap7)) := ((KeepsOthers.setCell W' _ _).trans (keeps_below D8)).trans (KeepsOthers.setCell _ _ _)
          have T9 : ∀ W0', But W5.heap.size g2 W.heap.size W0' W' → W5.heap.size ≤ W0'.heap.size → But W5.heap.size g2 W.heap.size W0' (w8.setCell ⟨g2, a, none⟩ (.slice (some ⟨g7, 0, none⟩) 256 cap7)) := fun W0' hb0 h0 =>
            ((hb0.grown (grow_set W' W.heap.size 0 _) h0 (fun r e => .inr (.inr (by injection e with e; exact e.symm)))).below h0 D8).grown (grow_set w8 g2 a _) h0 (fun r e => .inr (.inl (by injection e with e; exact e.symm)))
          have E9 : Below w.heap.size w (w8.setCell ⟨g2, a, none⟩ (.slice (some ⟨g7, 0, none⟩) 256 cap7)) := ((E6.out.setCell (p := ⟨W.heap.size, 0, none⟩) (by simp; omega) (.int .i64 ((pl : Int) + 1))).trans (D8.mono (by rw [World.size_setCell]; omega))).setCell (p := ⟨g2, a, none⟩) (by simp; omega) _
          exact ⟨K9.from _, T9 W' (But.refl _ _ _ _) sz6, ⟨M9, by rw [List.length_append, List.length_singleton, hpl.out]; exact bx9⟩, T9 W5 B6.out (Nat.le_refl _), E9⟩
        · by_cases y3 : 256 < Y
          · have hc : Hid (cutAt cuts pl = 256) := hide (by rw [hcut.out, if_neg (fun q => by omega)])
            gi_wp2_with fail
            refine ⟨trivial, ?_⟩
            with_reducible refine (CallsIn.inRound l2 (callsIn_wide.2 (clone_owned mb1.out (by omega)))).mono ?_
            rintro e2 w7 ⟨v7, rfl, own7, hb7⟩
            obtain ⟨g7, cap7, rfl⟩ := ownsRow_succ own7
            have hz7 : Byt w7 Ab 256 cb Z := (hbb.out.set' k8 (by intro z q; cases q) (.int .i64 ((pl : Int) + 1))).below hb7
            have lt7 := own7.lt g7 rfl
            rw [World.size_setCell] at lt7
            replace own7 := hide own7
            replace hz7 := hide hz7
            have o7 := (hb7.cell (p := ⟨w2.heap.size, 0, none⟩) (by simp; omega)).trans o1
            have mc7 := (hb7.cell (p := ⟨g2, a, none⟩) (by simp; omega)).trans mc1
            have mf7 := (hb7.frozen (p := ⟨g2, a, none⟩) (by simp; omega)).trans mf1
            have sz7 := hb7.size
            rw [World.size_setCell] at sz7
            gi_wp2_with (refine wpListIn_copy_torn rfl (.tmp 59) (.tmp 62) rfl _ g7 cap7 256 _ Z rfl own7.out Ab 256 cb cb rfl hz7.out rfl (by omega) ?_; intro w8 own8 hg8; have o8 := (hg8.cell_far ⟨w2.heap.size, 0, none⟩ (by simp; omega) (by intro q; injection q with q; simp at q; omega)).trans o7; have mc8 := (hg8.cell_far ⟨g2, a, none⟩ (by simp; omega) (by intro q; injection q with q; simp at q; omega)).trans mc7; have mf8 := (hg8.frozen_far ⟨g2, a, none⟩ (by simp; omega) (by intro q; injection q with q; simp at q; omega)).trans mf7; have lg8 := hg8.size; replace own8 := hide own8)
            have D8 : Below (W'.setCell ⟨W.heap.size, 0, none⟩ (.int .i64 ((pl : Int) + 1))).heap.size (W'.setCell ⟨W.heap.size, 0, none⟩ (.int .i64 ((pl : Int) + 1))) w8 := hb7.grown hg8 (by rw [World.size_setCell]; omega) (fun r e => by injection e with e; rw [World.size_setCell]; omega)
            have M7 : Mine (W'.setCell ⟨W.heap.size, 0, none⟩ (.int .i64 ((pl : Int) + 1))) g2 n2 c2 (crashL ps ws cuts m pre) := M6.out.setBox k8 (by intro z q; cases q) (by simp; omega) _
            have hp8 : Byt w8 (some ⟨g7, 0, none⟩) 256 cap7 (torn Z ((crashL ps ws cuts m pre).getD a []) (cutAt cuts pl)) := by
              rw [hc.out]
              obtain ⟨A9, c9, e9, hr9, _⟩ := row_own own8.out
              injection e9 with e1 e2 e3
              subst e1 e3
              exact hr9
            have M9 := (M7.below D8).setAt han hp8
            rw [← hsn.out] at M9
            have bx9 : Boxed (w8.setCell ⟨g2, a, none⟩ (.slice (some ⟨g7, 0, none⟩) 256 cap7)) W.heap.size 3 (.int .i64 ((pl : Int) + 1)) :=
              Boxed.kept ((D8.block _ (by rw [World.size_setCell]; exact lb8)).trans (Boxed.set _ bx.out)) (grow_set w8 g2 a _) (by intro q; injection q with q; omega)
            have K9 : KeepsOthers W' (w8.setCell ⟨g2, a, none⟩ (.slice (some ⟨g7, 0, none⟩) 256 cap7)) := ((KeepsOthers.setCell W' _ _).trans (keeps_below D8)).trans (KeepsOthers.setCell _ _ _)
            have T9 : ∀ W0', But W5.heap.size g2 W.heap.size W0' W' → W5.heap.size ≤ W0'.heap.size → But W5.heap.size g2 W.heap.size W0' (w8.setCell ⟨g2, a, none⟩ (.slice (some ⟨g7, 0, none⟩) 256 cap7)) := fun W0' hb0 h0 =>
              ((hb0.grown (grow_set W' W.heap.size 0 _) h0 (fun r e => .inr (.inr (by injection e with e; exact e.symm)))).below h0 D8).grown (grow_set w8 g2 a _) h0 (fun r e => .inr (.inl (by injection e with e; exact e.symm)))
            have E9 : Below w.heap.size w (w8.setCell ⟨g2, a, none⟩ (.slice (some ⟨g7, 0, none⟩) 256 cap7)) := ((E6.out.setCell (p := ⟨W.heap.size, 0, none⟩) (by simp; omega) (.int .i64 ((pl : Int) + 1))).trans (D8.mono (by rw [World.size_setCell]; omega))).setCell (p := ⟨g2, a, none⟩) (by simp; omega) _
            exact ⟨K9.from _, T9 W' (But.refl _ _ _ _) sz6, ⟨M9, by rw [List.length_append, List.length_singleton, hpl.out]; exact bx9⟩, T9 W5 B6.out (Nat.le_refl _), E9⟩
          · obtain ⟨q, hq⟩ : ∃ q : Nat, Y = (q : Int) := ⟨Y.toNat, by omega⟩
            subst hq
            have hq2 : q ≤ 256 := by omega
            have hqc : (q : Int) ≤ (cb : Int) := by omega
            have hc : Hid (cutAt cuts pl = q) := hide (by
              rw [hcut.out]
              by_cases q3 : q < 256
              · rw [if_pos ⟨by omega, by omega⟩, Int.toNat_natCast]
              · rw [if_neg (fun q => by omega)]; omega)
            gi_wp2_with fail
            refine ⟨trivial, ?_⟩
            with_reducible refine (CallsIn.inRound l2 (callsIn_wide.2 (clone_owned mb1.out (by omega)))).mono ?_
            rintro e2 w7 ⟨v7, rfl, own7, hb7⟩
            obtain ⟨g7, cap7, rfl⟩ := ownsRow_succ own7
            have hz7 : Byt w7 Ab 256 cb Z := (hbb.out.set' k8 (by intro z q; cases q) (.int .i64 ((pl : Int) + 1))).below hb7
            have lt7 := own7.lt g7 rfl
            rw [World.size_setCell] at lt7
            replace own7 := hide own7
            replace hz7 := hide hz7
            have o7 := (hb7.cell (p := ⟨w2.heap.size, 0, none⟩) (by simp; omega)).trans o1
            have mc7 := (hb7.cell (p := ⟨g2, a, none⟩) (by simp; omega)).trans mc1
            have mf7 := (hb7.frozen (p := ⟨g2, a, none⟩) (by simp; omega)).trans mf1
            have sz7 := hb7.size
            rw [World.size_setCell] at sz7
            gi_wp2_with (refine wpListIn_copy_torn rfl (.tmp 59) (.tmp 62) rfl _ g7 cap7 q _ Z rfl own7.out Ab 256 cb cb rfl hz7.out rfl (by omega) ?_; intro w8 own8 hg8; have o8 := (hg8.cell_far ⟨w2.heap.size, 0, none⟩ (by simp; omega) (by intro q; injection q with q; simp at q; omega)).trans o7; have mc8 := (hg8.cell_far ⟨g2, a, none⟩ (by simp; omega) (by intro q; injection q with q; simp at q; omega)).trans mc7; have mf8 := (hg8.frozen_far ⟨g2, a, none⟩ (by simp; omega) (by intro q; injection q with q; simp at q; omega)).trans mf7; have lg8 := hg8.size; replace own8 := hide own8)
            have D8 : Below (W'.setCell ⟨W.heap.size, 0, none⟩ (.int .i64 ((pl : Int) + 1))).heap.size (W'.setCell ⟨W.heap.size, 0, none⟩ (.int .i64 ((pl : Int) + 1))) w8 := hb7.grown hg8 (by rw [World.size_setCell]; omega) (fun r e => by injection e with e; rw [World.size_setCell]; omega)
            have M7 : Mine (W'.setCell ⟨W.heap.size, 0, none⟩ (.int .i64 ((pl : Int) + 1))) g2 n2 c2 (crashL ps ws cuts m pre) := M6.out.setBox k8 (by intro z q; cases q) (by simp; omega) _
            have hp8 : Byt w8 (some ⟨g7, 0, none⟩) 256 cap7 (torn Z ((crashL ps ws cuts m pre).getD a []) (cutAt cuts pl)) := by
              rw [hc.out]
              obtain ⟨A9, c9, e9, hr9, _⟩ := row_own own8.out
              injection e9 with e1 e2 e3
              subst e1 e3
              exact hr9
            have M9 := (M7.below D8).setAt han hp8
            rw [← hsn.out] at M9
            have bx9 : Boxed (w8.setCell ⟨g2, a, none⟩ (.slice (some ⟨g7, 0, none⟩) 256 cap7)) W.heap.size 3 (.int .i64 ((pl : Int) + 1)) :=
              Boxed.kept ((D8.block _ (by rw [World.size_setCell]; exact lb8)).trans (Boxed.set _ bx.out)) (grow_set w8 g2 a _) (by intro q; injection q with q; omega)
            have K9 : KeepsOthers W' (w8.setCell ⟨g2, a, none⟩ (.slice (some ⟨g7, 0, none⟩) 256 cap7)) := ((KeepsOthers.setCell W' _ _).trans (keeps_below D8)).trans (KeepsOthers.setCell _ _ _)
            have T9 : ∀ W0', But W5.heap.size g2 W.heap.size W0' W' → W5.heap.size ≤ W0'.heap.size → But W5.heap.size g2 W.heap.size W0' (w8.setCell ⟨g2, a, none⟩ (.slice (some ⟨g7, 0, none⟩) 256 cap7)) := fun W0' hb0 h0 =>
              ((hb0.grown (grow_set W' W.heap.size 0 _) h0 (fun r e => .inr (.inr (by injection e with e; exact e.symm)))).below h0 D8).grown (grow_set w8 g2 a _) h0 (fun r e => .inr (.inl (by injection e with e; exact e.symm)))
            have E9 : Below w.heap.size w (w8.setCell ⟨g2, a, none⟩ (.slice (some ⟨g7, 0, none⟩) 256 cap7)) := ((E6.out.setCell (p := ⟨W.heap.size, 0, none⟩) (by simp; omega) (.int .i64 ((pl : Int) + 1))).trans (D8.mono (by rw [World.size_setCell]; omega))).setCell (p := ⟨g2, a, none⟩) (by simp; omega) _
            exact ⟨K9.from _, T9 W' (But.refl _ _ _ _) sz6, ⟨M9, by rw [List.length_append, List.length_singleton, hpl.out]; exact bx9⟩, T9 W5 B6.out (Nat.le_refl _), E9⟩
      · have klI : ¬ (pl : Int) < (l : Int) := by omega
        have hc : Hid (cutAt cuts pl = 256) := hide (by unfold cutAt; rw [ul.out, if_neg (fun q => kl q.1)])
        clear U6
        gi_wp2_with fail
        refine ⟨trivial, ?_⟩
        with_reducible refine (CallsIn.inRound l2 (callsIn_wide.2 (clone_owned mb1.out (by omega)))).mono ?_
        rintro e2 w7 ⟨v7, rfl, own7, hb7⟩
        obtain ⟨g7, cap7, rfl⟩ := ownsRow_succ own7
        have hz7 : Byt w7 Ab 256 cb Z := (hbb.out.set' k8 (by intro z q; cases q) (.int .i64 ((pl : Int) + 1))).below hb7
        have lt7 := own7.lt g7 rfl
        rw [World.size_setCell] at lt7
        replace own7 := hide own7
        replace hz7 := hide hz7
        have o7 := (hb7.cell (p := ⟨w2.heap.size, 0, none⟩) (by simp; omega)).trans o1
        have mc7 := (hb7.cell (p := ⟨g2, a, none⟩) (by simp; omega)).trans mc1
        have mf7 := (hb7.frozen (p := ⟨g2, a, none⟩) (by simp; omega)).trans mf1
        have sz7 := hb7.size
        rw [World.size_setCell] at sz7
        gi_wp2_with (refine wpListIn_copy_torn rfl (.tmp 59) (.tmp 62) rfl _ g7 cap7 256 _ Z rfl own7.out Ab 256 cb cb rfl hz7.out rfl (by omega) ?_; intro w8 own8 hg8; have o8 := (hg8.cell_far ⟨w2.heap.size, 0, none⟩ (by simp; omega) (by intro q; injection q with q; simp at q; omega)).trans o7; have mc8 := (hg8.cell_far ⟨g2, a, none⟩ (by simp; omega) (by intro q; injection q with q; simp at q; omega)).trans mc7; have mf8 := (hg8.frozen_far ⟨g2, a, none⟩ (by simp; omega) (by intro q; injection q with q; simp at q; omega)).trans mf7; have lg8 := hg8.size; replace own8 := hide own8)
        have D8 : Below (W'.setCell ⟨W.heap.size, 0, none⟩ (.int .i64 ((pl : Int) + 1))).heap.size (W'.setCell ⟨W.heap.size, 0, none⟩ (.int .i64 ((pl : Int) + 1))) w8 := hb7.grown hg8 (by rw [World.size_setCell]; omega) (fun r e => by injection e with e; rw [World.size_setCell]; omega)
        have M7 : Mine (W'.setCell ⟨W.heap.size, 0, none⟩ (.int .i64 ((pl : Int) + 1))) g2 n2 c2 (crashL ps ws cuts m pre) := M6.out.setBox k8 (by intro z q; cases q) (by simp; omega) _
        have hp8 : Byt w8 (some ⟨g7, 0, none⟩) 256 cap7 (torn Z ((crashL ps ws cuts m pre).getD a []) (cutAt cuts pl)) := by
          rw [hc.out]
          obtain ⟨A9, c9, e9, hr9, _⟩ := row_own own8.out
          injection e9 with e1 e2 e3
          subst e1 e3
          exact hr9
        have M9 := (M7.below D8).setAt han hp8
        rw [← hsn.out] at M9
        have bx9 : Boxed (w8.setCell ⟨g2, a, none⟩ (.slice (some ⟨g7, 0, none⟩) 256 cap7)) W.heap.size 3 (.int .i64 ((pl : Int) + 1)) :=
          Boxed.kept ((D8.block _ (by rw [World.size_setCell]; exact lb8)).trans (Boxed.set _ bx.out)) (grow_set w8 g2 a _) (by intro q; injection q with q; omega)
        have K9 : KeepsOthers W' (w8.setCell ⟨g2, a, none⟩ (.slice (some ⟨g7, 0, none⟩) 256 cap7)) := ((KeepsOthers.setCell W' _ _).trans (keeps_below D8)).trans (KeepsOthers.setCell _ _ _)
        have T9 : ∀ W0', But W5.heap.size g2 W.heap.size W0' W' → W5.heap.size ≤ W0'.heap.size → But W5.heap.size g2 W.heap.size W0' (w8.setCell ⟨g2, a, none⟩ (.slice (some ⟨g7, 0, none⟩) 256 cap7)) := fun W0' hb0 h0 =>
          ((hb0.grown (grow_set W' W.heap.size 0 _) h0 (fun r e => .inr (.inr (by injection e with e; exact e.symm)))).below h0 D8).grown (grow_set w8 g2 a _) h0 (fun r e => .inr (.inl (by injection e with e; exact e.symm)))
        have E9 : Below w.heap.size w (w8.setCell ⟨g2, a, none⟩ (.slice (some ⟨g7, 0, none⟩) 256 cap7)) := ((E6.out.setCell (p := ⟨W.heap.size, 0, none⟩) (by simp; omega) (.int .i64 ((pl : Int) + 1))).trans (D8.mono (by rw [World.size_setCell]; omega))).setCell (p := ⟨g2, a, none⟩) (by simp; omega) _
        exact ⟨K9.from _, T9 W' (But.refl _ _ _ _) sz6, ⟨M9, by rw [List.length_append, List.length_singleton, hpl.out]; exact bx9⟩, T9 W5 B6.out (Nat.le_refl _), E9⟩
    case done2 =>
      rintro D2 xs W' hD2 rfl ⟨⟨M6, bx⟩, B6, E6⟩ hK2
      rw [crashL_range ps ws cuts (Nat.le_refl m), hP.out] at M6
      have H6 := H5.out.but B6 (by omega) (by omega) (by omega)
      have o0 := (B6.cell (p := ⟨w2.heap.size, 0, none⟩) (by simp; omega) (by simp; omega) (by simp; omega)).trans ob5.c0
      have o1 := (B6.cell (p := ⟨w2.heap.size, 1, none⟩) (by simp; omega) (by simp; omega) (by simp; omega)).trans ob5.c1
      have r0 := H6.r0
      have r1 := H6.r1
      have f0 := H6.f0
      have f1 := H6.f1
      have sz6 := B6.size
      have hKD := (B6.block D (by omega) (by omega) (by omega)).trans hK5
      have M8 := M6.setBox r0 (by intro z q; cases q) (by simp; omega) (.slice (some ⟨g2, 0, none⟩) n2 c2)
      have M9 := M8.setBox (p := ⟨w.heap.size + 1 + 1, 1, none⟩) ((World.cell?_setCell_other _ _ _ _ (by intro q; cases q)).trans r1) (by intro z q; cases q) (by simp; omega) (.slice none 0 0)
      have KK : KeepsOthers W' ((W'.setCell ⟨w.heap.size + 1 + 1, 0, none⟩ (.slice (some ⟨g2, 0, none⟩) n2 c2)).setCell ⟨w.heap.size + 1 + 1, 1, none⟩ (.slice none 0 0)) := (KeepsOthers.setCell _ _ _).trans (KeepsOthers.setCell _ _ _)
      have EE : Below w.heap.size w ((W'.setCell ⟨w.heap.size + 1 + 1, 0, none⟩ (.slice (some ⟨g2, 0, none⟩) n2 c2)).setCell ⟨w.heap.size + 1 + 1, 1, none⟩ (.slice none 0 0)) := (E6.setCell (p := ⟨w.heap.size + 1 + 1, 0, none⟩) (by simp; omega) _).setCell (p := ⟨w.heap.size + 1 + 1, 1, none⟩) (by simp; omega) _
      have hK2' := KK.same D2 _ hK2 rfl
      have hKD' := KK.same D _ hKD rfl
      have s0 : ((W'.setCell ⟨w.heap.size + 1 + 1, 0, none⟩ (.slice (some ⟨g2, 0, none⟩) n2 c2)).setCell ⟨w.heap.size + 1 + 1, 1, none⟩ (.slice none 0 0)).cell? ⟨w.heap.size + 1 + 1, 0, none⟩ = some (.slice (some ⟨g2, 0, none⟩) n2 c2) := (World.cell?_setCell_other _ _ _ _ (by intro q; cases q)).trans (World.cell?_setCell_same' _ _ _ (by rw [r0]; rfl))
      have s1 : ((W'.setCell ⟨w.heap.size + 1 + 1, 0, none⟩ (.slice (some ⟨g2, 0, none⟩) n2 c2)).setCell ⟨w.heap.size + 1 + 1, 1, none⟩ (.slice none 0 0)).cell? ⟨w.heap.size + 1 + 1, 1, none⟩ = some (.slice none 0 0) := World.cell?_setCell_same' _ _ _ (by rw [World.cell?_setCell_other _ _ _ _ (by intro q; cases q), r1]; rfl)
      replace M9 := hide M9
      replace EE := hide EE
      replace hK2' := hide hK2'
      replace hKD' := hide hKD'
      replace s0 := hide s0
      replace s1 := hide s1
      clear M6 M8 KK bx M5 bx0 q0 q1 G5 E5 L5 hcp hK2 hKD hK5
      gi_wp2
      generalize hW9 : ((W'.setCell ⟨w.heap.size + 1 + 1, 0, none⟩ (.slice (some ⟨g2, 0, none⟩) n2 c2)).setCell ⟨w.heap.size + 1 + 1, 1, none⟩ (.slice none 0 0)) = W9 at *
      have hne : D ≠ D2 := by omega
      have hKD2 : (W9.putObj D2 (.deferred none)).heap[D]? = some (.deferred (some [])) := (World.putObj_heap_other hne).trans hKD'.out
      have t0 := cell_kept (cell_kept s0.out (grownBy_putObj' _ D2 (.deferred none)) (fun r e => by cases e; exact ⟨_, hK2'.out, rfl⟩)) (grownBy_putObj' _ D (.deferred none)) (fun r e => by cases e; exact ⟨_, hKD2, rfl⟩)
      have t1 := cell_kept (cell_kept s1.out (grownBy_putObj' _ D2 (.deferred none)) (fun r e => by cases e; exact ⟨_, hK2'.out, rfl⟩)) (grownBy_putObj' _ D (.deferred none)) (fun r e => by cases e; exact ⟨_, hKD2, rfl⟩)
      refine ⟨by simp, .inl ⟨_, _, rfl, run_takeDeferred hK2'.out, ?_⟩⟩
      refine ⟨by simp, .inl ⟨_, _, rfl, run_takeDeferred hKD2, ?_⟩⟩
      have MM := (mine_own g2 n2 c2 (fun _ : Unit => P)) () _ _ (some D) ((mine_own g2 n2 c2 (fun _ : Unit => P)) () _ _ (some D2) M9.out (grownBy_putObj' _ D2 (.deferred none)) (fun r e => by cases e; exact ⟨_, hK2'.out, rfl⟩)) (grownBy_putObj' _ D (.deferred none)) (fun r e => by cases e; exact ⟨_, hKD2, rfl⟩)
      have BB := (EE.out.trans (belowK_b (w := w) (Nat.le_refl _) W9 D2 _ (.deferred none) (by omega) hK2'.out rfl rfl)).trans (belowK_b (w := w) (Nat.le_refl _) _ D _ (.deferred none) (by omega) hKD2 rfl rfl)
      refine ⟨.agg #[.slice (some ⟨g2, 0, none⟩) n2 c2, .slice none 0 0], ?_, ⟨some ⟨g2, 0, none⟩, n2, c2, none, 0, 0, rfl, MM.1, olds_nil _, BB⟩⟩
      simp [results, Try.f23, go_sem, t0, t1]
theorem crash_any {A B C : Option Addr} {n c m d l e : Nat} {ps : List Pg} {ws : List Od} {cuts : List Int} {w : World} (h : Pags w A n c ps) (g : Olds w B m d ws) (u : Nts w C l e cuts) (hm : m ≤ 100000) (P : List Pg) (W : List Od) (hP : crashP ps ws cuts = P) (hW : crashW ps ws = W) :
    Calls Try.prog 23 #[.agg #[.slice A n c, .slice B m d], .slice C l e] w (RetD w P W) := by
  subst hP hW
  unfold crashP crashW
  cases hr : rightB ps ws with
  | false => exact crash_wrong h g hr
  | true => exact crash_good h g u ((right_iff ps ws).1 hr) hm _ (by rw [← g.1]; rfl)
end Go.Proofs.Ytfmgmpelgnickaa

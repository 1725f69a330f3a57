/-
  Chapter 34: Peel, by the reference: it tells what package sketch tells.
-/
import Derived.Test.YtabgenhednhagaaWalks9
import Derived.Deep.CutBlock
namespace Go.Proofs.Ytabgenhednhagaa
open Go.RowKit Plain
set_option linter.unusedSimpArgs false
set_option linter.unusedVariables false
attribute [local go_sem ↓] Go.wp_at_zero Go.wp_at_succ

/-! ### What is left, as a function of what was told -/
theorem oneS_nil (i : Int) : oneS [] i = Sym.zero := rfl
theorem oneS_snoc (ms : List W) (x : W) (i : Int) : oneS (ms ++ [x]) i = if inI x i then (oneS ms i).put x 1#64 else oneS ms i := by
  unfold oneS; rw [List.foldl_append]; rfl
theorem sym_ext {s t : Sym} (h1 : s.many = t.many) (h2 : s.sum = t.sum) (h3 : s.check = t.check) : s = t := by
  cases s; cases t; simp_all
theorem remS_zero (s : Sym) : remS s Sym.zero Sym.zero = s := by
  apply sym_ext
  · show s.many - 0#64 + 0#64 = s.many; simp
  · show s.sum ^^^ (0#64 ^^^ 0#64) = s.sum; simp
  · show s.check ^^^ (0#64 ^^^ 0#64) = s.check; simp
theorem remS_mine (s a b : Sym) (x : W) : remS s (a.put x 1#64) b = (remS s a b).put x (-1#64) := by
  apply sym_ext
  · show s.many - (a.many + 1#64) + b.many = s.many - a.many + b.many + -1#64
    rw [← BitVec.sub_sub, BitVec.sub_eq_add_neg (s.many - a.many) 1#64, BitVec.add_assoc, BitVec.add_comm (-1#64) b.many, ← BitVec.add_assoc]
  · show s.sum ^^^ (a.sum ^^^ x ^^^ b.sum) = s.sum ^^^ (a.sum ^^^ b.sum) ^^^ x
    rw [BitVec.xor_assoc a.sum x b.sum, BitVec.xor_comm x b.sum, ← BitVec.xor_assoc a.sum, ← BitVec.xor_assoc]
  · show s.check ^^^ (a.check ^^^ checkW x ^^^ b.check) = s.check ^^^ (a.check ^^^ b.check) ^^^ checkW x
    rw [BitVec.xor_assoc a.check (checkW x) b.check, BitVec.xor_comm (checkW x) b.check, ← BitVec.xor_assoc a.check, ← BitVec.xor_assoc]
theorem remS_theirs (s a b : Sym) (x : W) : remS s a (b.put x 1#64) = (remS s a b).put x (- -1#64) := by
  apply sym_ext
  · show s.many - a.many + (b.many + 1#64) = s.many - a.many + b.many + - -1#64
    rw [BitVec.neg_neg, ← BitVec.add_assoc]
  · show s.sum ^^^ (a.sum ^^^ (b.sum ^^^ x)) = s.sum ^^^ (a.sum ^^^ b.sum) ^^^ x
    rw [← BitVec.xor_assoc a.sum, ← BitVec.xor_assoc]
  · show s.check ^^^ (a.check ^^^ (b.check ^^^ checkW x)) = s.check ^^^ (a.check ^^^ b.check) ^^^ checkW x
    rw [← BitVec.xor_assoc a.check, ← BitVec.xor_assoc]
theorem remL_nil (l : List Sym) : remL l [] [] = l := by
  apply list_same Sym.zero
  · exact remL_len _ _ _
  · intro j hj
    rw [remL_get _ _ _ _ (by rwa [remL_len] at hj)]
    exact remS_zero _
theorem remL_mine (l : List Sym) (ms ts : List W) (x : W) : outL (remL l ms ts) x 1#64 = remL l (ms ++ [x]) ts := by
  apply list_same Sym.zero
  · rw [outL_len, remL_len, remL_len]
  · intro j hj
    have hj' : j < l.length := by rwa [outL_len, remL_len] at hj
    rw [outL_get _ _ _ _ (by rwa [remL_len]), remL_get _ _ _ _ hj']
    unfold outF
    simp only []
    rw [remL_get _ _ _ _ hj']
    unfold remF
    rw [oneS_snoc]
    split
    · rw [remS_mine]
    · rfl
theorem remL_theirs (l : List Sym) (ms ts : List W) (x : W) : outL (remL l ms ts) x (-1#64) = remL l ms (ts ++ [x]) := by
  apply list_same Sym.zero
  · rw [outL_len, remL_len, remL_len]
  · intro j hj
    have hj' : j < l.length := by rwa [outL_len, remL_len] at hj
    rw [outL_get _ _ _ _ (by rwa [remL_len]), remL_get _ _ _ _ hj']
    unfold outF
    simp only []
    rw [remL_get _ _ _ _ hj']
    unfold remF
    rw [oneS_snoc]
    split
    · rw [remS_theirs]
    · rfl
/-- Is all that was seen of the first k symbols nought? -/
def dK (l : List Sym) (ms ts : List W) (k : Nat) : Bool := decide (0 < l.length) && (List.range k).all fun j => !nz (remF l ms ts j)
theorem dK_zero (l : List Sym) (ms ts : List W) : dK l ms ts 0 = decide (0 < l.length) := by simp [dK]
theorem dK_no {l : List Sym} {ms ts : List W} {k : Nat} (h : nz (remF l ms ts k) = true) : dK l ms ts (k + 1) = false := by
  unfold dK; rw [List.range_succ, List.all_append]; simp [h]
theorem dK_yes {l : List Sym} {ms ts : List W} {k : Nat} (h : nz (remF l ms ts k) = false) : dK l ms ts (k + 1) = dK l ms ts k := by
  unfold dK; rw [List.range_succ, List.all_append]; simp [h]
theorem dK_end (l : List Sym) (ms ts : List W) : doneB (remL l ms ts) = dK l ms ts l.length := by
  unfold doneB dK
  rw [remL_len]
  congr 1
  rw [Bool.eq_iff_iff]
  simp [remL]
theorem nz_rem {s a b : Sym} : nz (remS s a b) = false ↔ s.many.toInt = (a.many - b.many).toInt ∧ (s.sum.toNat : Int) = ((a.sum ^^^ b.sum).toNat : Int) ∧ (s.check.toNat : Int) = ((a.check ^^^ b.check).toNat : Int) := by
  have x0 : ∀ (u v : W), u ^^^ v = 0#64 ↔ u = v := fun u v => ⟨fun h => by
    have : u ^^^ v ^^^ v = 0#64 ^^^ v := by rw [h]
    rwa [BitVec.xor_assoc, BitVec.xor_self, BitVec.xor_zero, BitVec.zero_xor] at this, fun h => by rw [h, BitVec.xor_self]⟩
  have m0 : ∀ (u v z : W), u - v + z = 0#64 ↔ u = v - z := fun u v z => by
    constructor
    · intro h
      have h1 : u - v + z - z + v = 0#64 - z + v := by rw [h]
      rw [BitVec.add_sub_cancel, BitVec.sub_add_cancel] at h1
      rw [h1, BitVec.zero_sub, BitVec.sub_eq_add_neg, BitVec.add_comm]
    · intro h
      rw [h, BitVec.sub_eq_add_neg v z, BitVec.add_comm v, BitVec.add_sub_cancel, BitVec.add_comm, BitVec.add_right_neg]
  unfold nz
  rw [decide_eq_false_iff_not, Decidable.not_not]
  constructor
  · intro h
    have h1 : s.many - a.many + b.many = 0#64 := congrArg Sym.many h
    have h2 : s.sum ^^^ (a.sum ^^^ b.sum) = 0#64 := congrArg Sym.sum h
    have h3 : s.check ^^^ (a.check ^^^ b.check) = 0#64 := congrArg Sym.check h
    rw [← (m0 _ _ _).1 h1, ← (x0 _ _).1 h2, ← (x0 _ _).1 h3]
    exact ⟨rfl, rfl, rfl⟩
  · rintro ⟨h1, h2, h3⟩
    exact sym_ext ((m0 _ _ _).2 (BitVec.eq_of_toInt_eq h1)) ((x0 _ _).2 (BitVec.eq_of_toNat_eq (Int.ofNat.inj h2))) ((x0 _ _).2 (BitVec.eq_of_toNat_eq (Int.ofNat.inj h3)))

theorem next_to {w w' : World} {A B D : Option Addr} {n m p c d q : Nat} {ss : List Sym} {ms ts : List W} (h : Syms w A n c ss) (hB : Below w.heap.size w w') (gm : Nums w' B m d ms) (gt : Nums w' D p q ts) (i : Int) (s : Sym) (hr : nextR ss ms ts = (i, s)) :
    Calls Try.prog 36 #[.slice A n c, .slice B m d, .slice D p q] w' fun e w'' => e = .returned (.tuple #[.int .i64 i, .agg #[.int .i64 s.many.toInt, .int .u64 (s.sum.toNat : Int), .int .u64 (s.check.toNat : Int)]]) ∧ Below w'.heap.size w' w'' := by
  have := next_any (h.below hB) gm gt
  rw [hr] at this
  exact this
/-- What holds in the first loop of the reference's Peel. -/
structure RefAt (w wr : World) (n : Nat) (ss : List Sym) (ms ts : List W) (vm vt : Value) : Prop where
  mine : wr.ownsRow w.heap.size 22 1 vm ms.length (ms.map numV)
  theirs : wr.ownsRow w.heap.size 22 1 vt ts.length (ts.map numV)
  apart : ∀ b, vm.ownBlock = some b → vt.ownBlock = some b → False
  old : Below w.heap.size w wr
  few : ms.length + ts.length ≤ n
theorem RefAt.swap {w wr : World} {n : Nat} {ss : List Sym} {ms ts : List W} {vm vt : Value} (h : RefAt w wr n ss ms ts vm vt) : RefAt w wr n ss ts ms vt vm :=
  ⟨h.theirs, h.mine, fun b h1 h2 => h.apart b h2 h1, h.old, by have := h.few; omega⟩
theorem RefAt.tell {w wr u1 w4 : World} {n g1 cap : Nat} {ss : List Sym} {ms ts : List W} {vm vt : Value} {x : W} {o : Obj} (h : RefAt w wr n ss ms ts vm vt) (hb : Below wr.heap.size wr u1) (hfew : ms.length + ts.length < n)
    (hown : w4.ownsRow w.heap.size 22 1 (.slice (some ⟨g1, 0, none⟩) (ms.length + 1) cap) (ms.length + 1) (ms.map numV ++ [numV x])) (hg : (u1.alloc o).grownBy w4 vm.ownBlock) (hat : vm.ownBlock = some g1 ∨ g1 = (u1.alloc o).heap.size) :
    RefAt w w4 n ss (ms ++ [x]) ts (.slice (some ⟨g1, 0, none⟩) (ms.length + 1) cap) vt := by
  have B1 := st h.old hb (Below.refl _ _)
  refine ⟨by rw [List.length_append, List.map_append]; exact hown, own_row_kept ((own_below h.theirs hb).alloc o) hg (fun b e e2 => h.apart b e2 e), fun b e1 e2 => ?_, ?_, by rw [List.length_append]; simp only [List.length_cons, List.length_nil]; omega⟩
  · simp [Value.ownBlock] at e1
    subst e1
    rcases hat with e | e
    · exact h.apart _ e e2
    · have := (h.theirs.lt _ e2).2; have := hb.size; simp at e; omega
  · exact (B1.alloc B1.size o).grown hg (by have := B1.size; simp; omega) (fun b e => (h.mine.lt b e).1)
theorem ok_many_is {l : List Sym} {ms ts : List W} {i : Nat} (h : nextI (remL l ms ts) (ms ++ ts) = some i) (hi : i < l.length) : (remF l ms ts i).many = 1#64 ∨ (remF l ms ts i).many = -1#64 := by
  have hs := (next_spec h).2.1
  unfold okAt at hs
  rw [Bool.and_eq_true, remL_get _ _ _ _ hi] at hs
  exact pure_many_is hs.1
set_option maxRecDepth 4000 in
set_option maxHeartbeats 8000000 in
theorem ref_peel_any {w : World} {A : Option Addr} {n c : Nat} {ss : List Sym} (h : Syms w A n c ss) (hs : n ≤ 1000) : Calls Try.prog 21 #[.slice A n c] w (RetPeel w (peelL ss)) := by
  have hnc := h.2.1
  have hcm : c ≤ 9223372036854775807 := by have := h.2.2.1; unfold maxLen at this; exact this
  have hl := hide h.1
  have hsI : (n : Int) ≤ 16384 := by omega
  replace h := hide h
  obtain ⟨i0, hi0, hz0, hz1, hz2⟩ := info_parts info22
  go_enter Try.func21, Try.ntmps21
  go_upto_block 0 with fail
  go_cut [5, 6] (fun v5 v6 wx => ∃ (ms ts : List W), Hid (RefAt w wx n ss ms ts v5 v6) ∧ Hid (peelL ss = (remL ss ms ts, ms, ts)))
  case first =>
    go_wp2_with fail
    go_loopw [5, 6] (fun v5 v6 wx => ∃ (ms ts : List W), Hid (RefAt w wx n ss ms ts v5 v6) ∧ Hid (peelGo (n - (ms.length + ts.length)) (remL ss ms ts) ms ts = peelL ss)) (fun v5 v6 _ => n - (lenV v5 + lenV v6))
    case atStart => exact ⟨[], [], hide ⟨World.ownsRow_nil _ _ _ _, World.ownsRow_nil _ _ _ _, (fun b h => by simp [Value.ownBlock] at h), Below.refl _ _, Nat.zero_le _⟩, hide (by rw [remL_nil]; unfold peelL; rw [hl.out]; rfl)⟩
    case round =>
      obtain ⟨ms, ts, HR, HG⟩ := hrel
      obtain ⟨A1, c1, rfl, N1⟩ := nums_own HR.out.mine
      obtain ⟨A2, c2, rfl, N2⟩ := nums_own HR.out.theirs
      have hfew := HR.out.few
      have m1 := N1.max
      have m2 := N2.max
      by_cases hlt : ms.length + ts.length < n
      · have hltI : (ms.length : Int) + (ts.length : Int) < (n : Int) := by omega
        cases hnx : nextI (remL ss ms ts) (ms ++ ts) with
        | none =>
          have hC := hide (next_to h.out HR.out.old N1 N2 _ _ (nextR_none hnx))
          have hend : Hid (peelL ss = (remL ss ms ts, ms, ts)) := hide (by rw [← HG.out]; exact peelGo_none hnx)
          clear hnx HG N1 N2
          go_wp2_with fail
          refine hC.out.mono ?_
          rintro e u1 ⟨rfl, hb1⟩
          have HR2 : Hid (RefAt w u1 n ss ms ts (.slice A1 ms.length c1) (.slice A2 ts.length c2)) := hide ⟨own_below HR.out.mine hb1, own_below HR.out.theirs hb1, HR.out.apart, st HR.out.old hb1 (Below.refl _ _), hfew⟩
          have HR3 : Hid (RefAt w (u1.alloc (.cells #[.int .i64 0, .int .u64 0, .int .u64 0] 41)) n ss ms ts (.slice A1 ms.length c1) (.slice A2 ts.length c2)) := hide ⟨HR2.out.mine.alloc _, HR2.out.theirs.alloc _, HR.out.apart, HR2.out.old.alloc HR2.out.old.size _, hfew⟩
          clear HR HR2 hC hb1
          go_wp2_with fail
          go_meet
          exact ⟨ms, ts, HR3, hend⟩
        | some i =>
          have hi : i < ss.length := by have := (next_spec hnx).1; rwa [remL_len] at this
          have hmany := ok_many_is hnx hi
          have hC := hide (next_to h.out HR.out.old N1 N2 _ _ (nextR_some hnx))
          obtain ⟨f, hf⟩ : ∃ f, n - (ms.length + ts.length) = f + 1 := ⟨n - (ms.length + ts.length) - 1, by omega⟩
          have HG' := HG.out
          rw [hf] at HG'
          have hat : (remL ss ms ts).getD i Sym.zero = remF ss ms ts i := remL_get _ _ _ _ hi
          have hi0I : ¬ (i : Int) < 0 := by omega
          clear HG N1 N2
          by_cases hm1 : (remF ss ms ts i).many = 1#64
          · have HN := hide (peelGo_mine (f := f) hnx (by rw [hat]; exact hm1))
            rw [HG', hat, hm1, remL_mine] at HN
            have hM : (remF ss ms ts i).many.toInt = 1 := by rw [hm1]; rfl
            rw [hM] at hC
            generalize hx : (remF ss ms ts i).sum = x at *
            generalize (remF ss ms ts i).check = y at *
            clear hnx HG' hmany hm1 hM hat
            obtain ⟨S, hS⟩ : ∃ Z, Z = (x.toNat : Int) := ⟨_, rfl⟩
            rw [← hS] at hC
            generalize (y.toNat : Int) = K at *
            replace hS := hide hS
            replace hx := hide hx
            go_wp2_with fail
            refine hC.out.mono ?_
            rintro e u1 ⟨rfl, hb1⟩
            have D1 : Below wr.heap.size wr (u1.alloc (.cells #[.int .i64 (1), .int .u64 S, .int .u64 K] 41)) := hb1.trans ((by go_grown : Below u1.heap.size u1 _).mono hb1.size)
            have a0 : (u1.alloc (.cells #[.int .i64 (1), .int .u64 S, .int .u64 K] 41)).cell? ⟨u1.heap.size, 0, none⟩ = some (.int .i64 (1)) := by go_side
            have a1 : (u1.alloc (.cells #[.int .i64 (1), .int .u64 S, .int .u64 K] 41)).cell? ⟨u1.heap.size, 1, none⟩ = some (.int .u64 S) := by go_side
            have hown := own_below HR.out.mine D1
            have Bv := st HR.out.old D1 (Below.refl _ _)
            have sv := Bv.size
            replace D1 := hide D1
            clear hb1 hC a0 a1
            go_wp2_with (at_builtin; refine wpList_append_lies _ rfl (.tmp 38) (.tmp 41) 23 rfl w.heap.size 22 i0 (.int .u64 0) 1 8 Try.underlying23 hi0 hz0 hz1 hz2 rfl (by omega) (.slice A1 ms.length c1) ms.length (ms.map numV) rfl (hown.alloc _) ⟨u1.heap.size + 1, 0, none⟩ 1 1 [.int .u64 S] rfl rfl ?mine1 ?mine2 (by omega) ?mine3 ?mine4 ?mine5 (u1.heap.size + 2) (by simp) ?_)
            case mine1 =>
              intro j u hj
              match j, hj with
              | 0, hj => simp at hj; subst hj; simp [go_sem, Addr.add]
              | q + 1, hj => simp at hj
            case mine2 => simp [Value.oneCell']
            case mine3 => unfold maxLen; omega
            case mine4 => omega
            case mine5 => simp at sv ⊢; omega
            intro g1 cap w4 hown4 hG4 hat4 hlt4
            rw [hS.out, show Value.int .u64 (x.toNat : Int) = numV x from rfl] at hown4
            have HR4 : Hid (RefAt w w4 n ss _ _ _ _) := hide (HR.out.tell (o := .cells #[.int .u64 S] 22) D1.out (by omega) hown4 hG4 (by simpa using hat4))
            clear hown4 hG4 hat4 hown Bv sv D1 HR
            go_wp2_with fail
            go_roundw
            case rel => exact ⟨ms ++ [x], ts, HR4, hide (by rw [List.length_append]; simp only [List.length_cons, List.length_nil]; rw [show n - (ms.length + (0 + 1) + ts.length) = f by omega]; exact HN.out.symm)⟩
            case measure => simp only [lenV]; omega
          · have hm2 : (remF ss ms ts i).many = -1#64 := by rcases hmany with e | e; exact absurd e hm1; exact e
            have HN := hide (peelGo_theirs (f := f) hnx (by rw [hat]; exact hm1))
            rw [HG', hat, hm2, remL_theirs] at HN
            have hM : (remF ss ms ts i).many.toInt = -1 := by rw [hm2]; rfl
            rw [hM] at hC
            generalize hx : (remF ss ms ts i).sum = x at *
            generalize (remF ss ms ts i).check = y at *
            clear hnx HG' hmany hm1 hM hat
            obtain ⟨S, hS⟩ : ∃ Z, Z = (x.toNat : Int) := ⟨_, rfl⟩
            rw [← hS] at hC
            generalize (y.toNat : Int) = K at *
            replace hS := hide hS
            replace hx := hide hx
            go_wp2_with fail
            refine hC.out.mono ?_
            rintro e u1 ⟨rfl, hb1⟩
            have D1 : Below wr.heap.size wr (u1.alloc (.cells #[.int .i64 (-1), .int .u64 S, .int .u64 K] 41)) := hb1.trans ((by go_grown : Below u1.heap.size u1 _).mono hb1.size)
            have a0 : (u1.alloc (.cells #[.int .i64 (-1), .int .u64 S, .int .u64 K] 41)).cell? ⟨u1.heap.size, 0, none⟩ = some (.int .i64 (-1)) := by go_side
            have a1 : (u1.alloc (.cells #[.int .i64 (-1), .int .u64 S, .int .u64 K] 41)).cell? ⟨u1.heap.size, 1, none⟩ = some (.int .u64 S) := by go_side
            have hown := own_below HR.out.theirs D1
            have Bv := st HR.out.old D1 (Below.refl _ _)
            have sv := Bv.size
            replace D1 := hide D1
            clear hb1 hC a0 a1
            go_wp2_with (at_builtin; refine wpList_append_lies _ rfl (.tmp 43) (.tmp 46) 23 rfl w.heap.size 22 i0 (.int .u64 0) 1 8 Try.underlying23 hi0 hz0 hz1 hz2 rfl (by omega) (.slice A2 ts.length c2) ts.length (ts.map numV) rfl (hown.alloc _) ⟨u1.heap.size + 1, 0, none⟩ 1 1 [.int .u64 S] rfl rfl ?theirs1 ?theirs2 (by omega) ?theirs3 ?theirs4 ?theirs5 (u1.heap.size + 2) (by simp) ?_)
            case theirs1 =>
              intro j u hj
              match j, hj with
              | 0, hj => simp at hj; subst hj; simp [go_sem, Addr.add]
              | q + 1, hj => simp at hj
            case theirs2 => simp [Value.oneCell']
            case theirs3 => unfold maxLen; omega
            case theirs4 => omega
            case theirs5 => simp at sv ⊢; omega
            intro g1 cap w4 hown4 hG4 hat4 hlt4
            rw [hS.out, show Value.int .u64 (x.toNat : Int) = numV x from rfl] at hown4
            have HR4 : Hid (RefAt w w4 n ss _ _ _ _) := hide (HR.out.swap.tell (o := .cells #[.int .u64 S] 22) D1.out (by omega) hown4 hG4 (by simpa using hat4))
            replace HR4 := hide HR4.out.swap
            clear hown4 hG4 hat4 hown Bv sv D1 HR
            go_wp2_with fail
            go_roundw
            case rel => exact ⟨ms, ts ++ [x], HR4, hide (by rw [List.length_append]; simp only [List.length_cons, List.length_nil]; rw [show n - (ms.length + (ts.length + (0 + 1))) = f by omega]; exact HN.out.symm)⟩
            case measure => simp only [lenV]; omega
      · have hltI : ¬ (ms.length : Int) + (ts.length : Int) < (n : Int) := by omega
        have hend : Hid (peelL ss = (remL ss ms ts, ms, ts)) := hide (by
          rw [← HG.out, show n - (ms.length + ts.length) = 0 by omega]; rfl)
        clear HG N1 N2
        go_wp2_with fail
        go_meet
        exact ⟨ms, ts, HR, hend⟩
  case rest =>
    obtain ⟨ms, ts, HR, hend⟩ := hcut
    obtain ⟨A1, c1, rfl, N1⟩ := nums_own HR.out.mine
    obtain ⟨A2, c2, rfl, N2⟩ := nums_own HR.out.theirs
    have B0 := HR.out.old
    replace N1 := hide N1
    replace N2 := hide N2
    clear HR hi0 hz0 hz1 hz2 hsI
    have hn9 : n ≤ 9223372036854775807 := by omega
    have hfin : Hid (doneB (remL ss ms ts) = dK ss ms ts n) := hide (by rw [dK_end, hl.out])
    have hz : Hid (dK ss ms ts 0 = decide (0 < n)) := hide (by rw [dK_zero, hl.out])
    rcases Nat.eq_zero_or_pos n with h0 | hpos
    · subst h0
      have hd : Hid (doneB (remL ss ms ts) = false) := hide (by rw [hfin.out, hz.out]; rfl)
      clear hfin hz
      go_wp2_with fail
      refine wp_loop_rounds 1 ?_
      rw [rounds_succ]
      go_wp2_with fail
      go_ret3
      unfold RetPeel
      rw [hend.out]
      exact ⟨_, _, _, _, _, _, (by rw [hd.out]; rfl), N1.out, N2.out, B0⟩
    · have hposI : (0 : Int) < (n : Int) := by omega
      have hz' : Hid (Value.bool true = .bool (dK ss ms ts 0)) := hide (by rw [hz.out, decide_eq_true hpos])
      clear hz
      go_wp2_with fail
      go_loopw [9, 10] (fun dv i wr => ∃ k : Nat, k ≤ n ∧ i = .int .i64 (k : Int) ∧ dv = .bool (dK ss ms ts k) ∧ Hid (Below wc.heap.size wc wr)) (fun _ i _ => n - (intOf i).toNat)
      case atStart => exact ⟨0, Nat.zero_le _, rfl, hz'.out, hide (Below.refl _ _)⟩
      case round =>
        clear hz' hposI
        obtain ⟨k, hk, rfl, rfl, B1⟩ := hrel
        have B2 := hide (B0.trans (B1.out.mono B0.size))
        by_cases hlt : k < n
        · clear hend hfin
          have hk0 : (0 : Int) ≤ (k : Int) := by omega
          have hkn : (k : Int) < (n : Int) := by omega
          obtain ⟨b, off, rfl, lb, q0, q1, q2⟩ := h.out.at_ B2.out hlt
          have CA := hide (fun (V : World) (hV : Below wc.heap.size wc V) => ref_one_to N1.out hV (k : Int) _ rfl)
          have CB := hide (fun (V : World) (hV : Below wc.heap.size wc V) => ref_one_to N2.out hV (k : Int) _ rfl)
          have hyes := hide (@dK_yes ss ms ts k)
          have hno := hide (@dK_no ss ms ts k)
          have hnz := hide (@nz_rem (ss.getD k Sym.zero) (oneS ms (k : Int)) (oneS ts (k : Int)))
          have hF : remF ss ms ts k = remS (ss.getD k Sym.zero) (oneS ms (k : Int)) (oneS ts (k : Int)) := rfl
          rw [hF] at hyes hno
          clear hF
          generalize dK ss ms ts k = dk at *
          generalize ss.getD k Sym.zero = s at *
          generalize oneS ms (k : Int) = sa at *
          generalize oneS ts (k : Int) = sb at *
          have e1 : IntKind.i64.wrap (sa.many.toInt - sb.many.toInt) = (sa.many - sb.many).toInt := sub_i64 _ _
          obtain ⟨X1, hX1⟩ : ∃ Z, Z = ((sa.sum ^^^ sb.sum).toNat : Int) := ⟨_, rfl⟩
          obtain ⟨X2, hX2⟩ : ∃ Z, Z = ((sa.check ^^^ sb.check).toNat : Int) := ⟨_, rfl⟩
          rw [← hX1, ← hX2] at hnz
          have hcase := @three s.many.toInt (s.sum.toNat : Int) (s.check.toNat : Int) (sa.many - sb.many).toInt X1 X2
          obtain ⟨Sa, hSa⟩ : ∃ Z, Z = (sa.sum.toNat : Int) := ⟨_, rfl⟩
          obtain ⟨Ka, hKa⟩ : ∃ Z, Z = (sa.check.toNat : Int) := ⟨_, rfl⟩
          obtain ⟨Sb, hSb⟩ : ∃ Z, Z = (sb.sum.toNat : Int) := ⟨_, rfl⟩
          obtain ⟨Kb, hKb⟩ : ∃ Z, Z = (sb.check.toNat : Int) := ⟨_, rfl⟩
          rw [← hSa, ← hKa] at CA
          rw [← hSb, ← hKb] at CB
          generalize (sa.many - sb.many).toInt = D at *
          generalize s.many.toInt = M1 at *
          generalize (s.sum.toNat : Int) = S1 at *
          generalize (s.check.toNat : Int) = K1 at *
          generalize sa.many.toInt = Ma at *
          generalize sb.many.toInt = Mb at *
          replace hX1 := hide hX1
          replace hX2 := hide hX2
          replace hSa := hide hSa
          replace hKa := hide hKa
          replace hSb := hide hSb
          replace hKb := hide hKb
          replace hcase := hide hcase
          go_wp2_with fail
          refine (CA.out _ B1.out).mono ?_
          rintro e u1 ⟨rfl, hb1⟩
          have lu1 := hb1.size
          have C1 := st B1.out hb1 (Below.refl _ _)
          obtain ⟨v1, hv1⟩ : ∃ V, V = u1.alloc (.cells #[.int .i64 Ma, .int .u64 Sa, .int .u64 Ka] 41) := ⟨_, rfl⟩
          have D1 : Below u1.heap.size u1 v1 := by rw [hv1]; go_grown
          have a0 : v1.cell? ⟨u1.heap.size, 0, none⟩ = some (.int .i64 Ma) := by rw [hv1]; go_side
          have a1 : v1.cell? ⟨u1.heap.size, 1, none⟩ = some (.int .u64 Sa) := by rw [hv1]; go_side
          have a2 : v1.cell? ⟨u1.heap.size, 2, none⟩ = some (.int .u64 Ka) := by rw [hv1]; go_side
          have lv1 : u1.heap.size < v1.heap.size := by rw [hv1]; simp
          replace hv1 := hide hv1
          go_wp2_with fail
          rw [← hv1.out]
          have C2 := C1.trans (D1.mono C1.size)
          refine (CB.out _ C2).mono ?_
          rintro e u2 ⟨rfl, hb2⟩
          have lu2 := hb2.size
          have C3 := st C2 hb2 (Below.refl _ _)
          obtain ⟨W1, hW1⟩ : ∃ V, V = u2.alloc (.cells #[.int .i64 Mb, .int .u64 Sb, .int .u64 Kb] 41) := ⟨_, rfl⟩
          have D2 : Below u2.heap.size u2 W1 := by rw [hW1]; go_grown
          have b0 : W1.cell? ⟨u2.heap.size, 0, none⟩ = some (.int .i64 Mb) := by rw [hW1]; go_side
          have b1 : W1.cell? ⟨u2.heap.size, 1, none⟩ = some (.int .u64 Sb) := by rw [hW1]; go_side
          have b2 : W1.cell? ⟨u2.heap.size, 2, none⟩ = some (.int .u64 Kb) := by rw [hW1]; go_side
          have lw1 : u2.heap.size < W1.heap.size := by rw [hW1]; simp
          replace hW1 := hide hW1
          have C4 := C3.trans (D2.mono C3.size)
          have E1 : Below v1.heap.size v1 W1 := hb2.trans (D2.mono hb2.size)
          have E0 : Below wr.heap.size wr W1 := hb1.trans ((D1.trans (E1.mono D1.size)).mono hb1.size)
          have a0' : W1.cell? ⟨u1.heap.size, 0, none⟩ = some (.int .i64 Ma) := (E1.cell (p := ⟨u1.heap.size, 0, none⟩) lv1).trans a0
          have a1' : W1.cell? ⟨u1.heap.size, 1, none⟩ = some (.int .u64 Sa) := (E1.cell (p := ⟨u1.heap.size, 1, none⟩) lv1).trans a1
          have a2' : W1.cell? ⟨u1.heap.size, 2, none⟩ = some (.int .u64 Ka) := (E1.cell (p := ⟨u1.heap.size, 2, none⟩) lv1).trans a2
          have q0' : W1.cell? ⟨b, off + k * 3, none⟩ = some (.int .i64 M1) := (E0.cell (p := ⟨b, off + k * 3, none⟩) lb).trans q0
          have q1' : W1.cell? ⟨b, off + k * 3 + 1, none⟩ = some (.int .u64 S1) := (E0.cell (p := ⟨b, off + k * 3 + 1, none⟩) lb).trans q1
          have q2' : W1.cell? ⟨b, off + k * 3 + 2, none⟩ = some (.int .u64 K1) := (E0.cell (p := ⟨b, off + k * 3 + 2, none⟩) lb).trans q2
          have lb1 : b < W1.heap.size := Nat.lt_of_lt_of_le lb E0.size
          have la1 : u1.heap.size < W1.heap.size := Nat.lt_of_lt_of_le lv1 E1.size
          replace C4 := hide C4
          clear hv1 D1 D2 a0 a1 a2 q0 q1 q2 hb1 hb2 E0 E1 C1 C2 C3 CA CB B1 B2 lu1 lu2 lv1
          go_wp2_with fail
          rw [← hW1.out]
          clear hW1
          rcases hcase.out with ⟨rfl, rfl, rfl⟩ | hM | ⟨rfl, hM⟩ | ⟨rfl, rfl, hM⟩
          · have hy := hide (hyes.out (hnz.out.2 ⟨rfl, rfl, rfl⟩))
            clear hyes hno hnz hcase
            refine wp_region_calm (fun w' => Below W1.heap.size W1 w') (by kernel_rfl) (by kernel_rfl) (below_drewN (Below.refl _ _) 1) ?_
            repeat (first
              | go_big_quiet_skip
              | (go_big_quiet_want
                 first
                   | (go_big_quiet_op; go_big_quiet_on)
                   | (apply Exists.intro
                      refine ⟨fun w' hw' => ?_, ?_⟩
                      focus
                        obtain ⟨hc', hf'⟩ := bcell hw'
                        go_simp
                        try first
                          | rfl
                          | (with_reducible rfl)
                          | (with_reducible refine (xor_to _ _ _ sa.sum sb.sum hSa.out hSb.out hX1.out _).mono ?_; exact fun _ _ h => ⟨h.1, h.2 ▸ hw'⟩)
                          | (with_reducible refine (xor_to _ _ _ sa.check sb.check hKa.out hKb.out hX2.out _).mono ?_; exact fun _ _ h => ⟨h.1, h.2 ▸ hw'⟩)
                      go_big_quiet_on)
                 try simp only [Act.put, List.setIfInBounds_toArray, List.set_cons_zero, List.set_cons_succ]))
            refine wpQuiet_nil ?_
            intro V HV
            have BV := hide (C4.out.trans (HV.mono C4.out.size))
            clear HV
            go_wp2_with fail
            go_roundw
            case rel => exact ⟨k + 1, by omega, by go_num, by rw [hy.out], BV⟩
            case measure => simp [intOf]; omega
          · have hy := hide (hno.out (by rw [← Bool.not_eq_false]; exact fun e => hM (hnz.out.1 e).1))
            have g1 : (M1 == D) = false := by simpa using hM
            have g2 : (M1 != D) = true := by simpa using hM
            clear hyes hno hnz hcase
            refine wp_region_calm (fun w' => Below W1.heap.size W1 w') (by kernel_rfl) (by kernel_rfl) (below_drewN (Below.refl _ _) 1) ?_
            repeat (first
              | go_big_quiet_skip
              | (go_big_quiet_want
                 first
                   | (go_big_quiet_op; go_big_quiet_on)
                   | (apply Exists.intro
                      refine ⟨fun w' hw' => ?_, ?_⟩
                      focus
                        obtain ⟨hc', hf'⟩ := bcell hw'
                        go_simp
                        try first
                          | rfl
                          | (with_reducible rfl)
                      go_big_quiet_on)
                 try simp only [Act.put, List.setIfInBounds_toArray, List.set_cons_zero, List.set_cons_succ]))
            refine wpQuiet_nil ?_
            intro V HV
            have BV := hide (C4.out.trans (HV.mono C4.out.size))
            clear HV
            go_wp2_with fail
            go_roundw
            case rel => exact ⟨k + 1, by omega, by go_num, by rw [hy.out], BV⟩
            case measure => simp [intOf]; omega
          · have hy := hide (hno.out (by rw [← Bool.not_eq_false]; exact fun e => hM (hnz.out.1 e).2.1))
            have g1 : (S1 == X1) = false := by simpa using hM
            have g2 : (S1 != X1) = true := by simpa using hM
            clear hyes hno hnz hcase
            refine wp_region_calm (fun w' => Below W1.heap.size W1 w') (by kernel_rfl) (by kernel_rfl) (below_drewN (Below.refl _ _) 1) ?_
            repeat (first
              | go_big_quiet_skip
              | (go_big_quiet_want
                 first
                   | (go_big_quiet_op; go_big_quiet_on)
                   | (apply Exists.intro
                      refine ⟨fun w' hw' => ?_, ?_⟩
                      focus
                        obtain ⟨hc', hf'⟩ := bcell hw'
                        go_simp
                        try first
                          | rfl
                          | (with_reducible rfl)
                          | (with_reducible refine (xor_to _ _ _ sa.sum sb.sum hSa.out hSb.out hX1.out _).mono ?_; exact fun _ _ h => ⟨h.1, h.2 ▸ hw'⟩)
                      go_big_quiet_on)
                 try simp only [Act.put, List.setIfInBounds_toArray, List.set_cons_zero, List.set_cons_succ]))
            refine wpQuiet_nil ?_
            intro V HV
            have BV := hide (C4.out.trans (HV.mono C4.out.size))
            clear HV
            go_wp2_with fail
            go_roundw
            case rel => exact ⟨k + 1, by omega, by go_num, by rw [hy.out], BV⟩
            case measure => simp [intOf]; omega
          · have hy := hide (hno.out (by rw [← Bool.not_eq_false]; exact fun e => hM (hnz.out.1 e).2.2))
            have g1 : (K1 == X2) = false := by simpa using hM
            have g2 : (K1 != X2) = true := by simpa using hM
            clear hyes hno hnz hcase
            refine wp_region_calm (fun w' => Below W1.heap.size W1 w') (by kernel_rfl) (by kernel_rfl) (below_drewN (Below.refl _ _) 1) ?_
            repeat (first
              | go_big_quiet_skip
              | (go_big_quiet_want
                 first
                   | (go_big_quiet_op; go_big_quiet_on)
                   | (apply Exists.intro
                      refine ⟨fun w' hw' => ?_, ?_⟩
                      focus
                        obtain ⟨hc', hf'⟩ := bcell hw'
                        go_simp
                        try first
                          | rfl
                          | (with_reducible rfl)
                          | (with_reducible refine (xor_to _ _ _ sa.sum sb.sum hSa.out hSb.out hX1.out _).mono ?_; exact fun _ _ h => ⟨h.1, h.2 ▸ hw'⟩)
                          | (with_reducible refine (xor_to _ _ _ sa.check sb.check hKa.out hKb.out hX2.out _).mono ?_; exact fun _ _ h => ⟨h.1, h.2 ▸ hw'⟩)
                      go_big_quiet_on)
                 try simp only [Act.put, List.setIfInBounds_toArray, List.set_cons_zero, List.set_cons_succ]))
            refine wpQuiet_nil ?_
            intro V HV
            have BV := hide (C4.out.trans (HV.mono C4.out.size))
            clear HV
            go_wp2_with fail
            go_roundw
            case rel => exact ⟨k + 1, by omega, by go_num, by rw [hy.out], BV⟩
            case measure => simp [intOf]; omega
        · obtain rfl : k = n := by omega
          have N3 := hide (N1.out.below B1.out)
          have N4 := hide (N2.out.below B1.out)
          clear N1 N2
          go_wp2_with fail
          go_ret3
          unfold RetPeel
          rw [hend.out]
          exact ⟨_, _, _, _, _, _, (by rw [hfin.out]; rfl), N3.out, N4.out, B2.out⟩
end Go.Proofs.Ytabgenhednhagaa

/-
  Chapter 31: numbers of one's own whose rows hold numbers only: what is appended to them leaves pages as they are.
-/
import Derived.Test.YtfmgmpelgnickaaReads
namespace Go.Proofs.Ytfmgmpelgnickaa
open Go.RowKit Plain
set_option linter.unusedSimpArgs false
set_option linter.unusedVariables false

/-- x, q times over, in a row of one's own all of whose room holds numbers. -/
def Cnt (w : World) (base : Nat) (x : Int) (v : Value) (q : Nat) : Prop :=
  (v = .slice none 0 0 ∧ q = 0) ∨ ∃ g cap cur, v = .slice (some ⟨g, 0, none⟩) q cap ∧ base ≤ g ∧ w.heap[g]? = some (.cells cur 3 (0, 0)) ∧ 0 < q ∧ q ≤ cap ∧ cap ≤ maxLen ∧ cur.size = cap ∧ (∀ j, j < q → cur[j]? = some (.int .i64 x)) ∧ ∀ j, j < cap → ∃ i, cur[j]? = some (.int .i64 i)
def Digits (w : World) (g : Nat) : Prop := ∀ o u, w.cell? ⟨g, o, none⟩ = some u → ∃ i, u = .int .i64 i
theorem grown_of {w w' : World} (hb : Below w.heap.size w w') : w.grownBy w' .none := ⟨hb.os, hb.tape, hb.output, hb.size, fun i hi _ => hb.block i hi⟩
theorem grown_set (w : World) (p : Addr) (u : Value) : w.grownBy (w.setCell p u) (some p.block) :=
  ⟨rfl, rfl, rfl, by simp [World.setCell], fun k hk hne => Below.heap_setCell _ _ _ _ (fun e => hne (by rw [e]))⟩
theorem Cnt.nil (w : World) (base : Nat) (x : Int) : Cnt w base x (.slice none 0 0) 0 := .inl ⟨rfl, rfl⟩
theorem Cnt.kept {w w' : World} {base q : Nat} {x : Int} {v : Value} {row : Option Nat} (h : Cnt w base x v q) (hg : w.grownBy w' row) (hne : v.ownBlock = .none ∨ v.ownBlock ≠ row) : Cnt w' base x v q := by
  rcases h with h | ⟨g, cap, cur, rfl, hb, hh, hr⟩
  · exact .inl h
  · refine .inr ⟨g, cap, cur, rfl, hb, (hg.block g (Array.getElem?_eq_some_iff.1 hh).1 ?_).trans hh, hr⟩
    rcases hne with e | e
    · cases e
    · exact e
theorem Cnt.below {w w' : World} {base q : Nat} {x : Int} {v : Value} (h : Cnt w base x v q) (hb : Below w.heap.size w w') : Cnt w' base x v q :=
  h.kept (grown_of hb) (by cases v.ownBlock <;> simp)
theorem Cnt.set {w : World} {base q : Nat} {x : Int} {v : Value} (h : Cnt w base x v q) {p : Addr} (hp : p.block < base) (u : Value) : Cnt (w.setCell p u) base x v q := by
  refine h.kept (grown_set w p u) ?_
  rcases h with ⟨rfl, _⟩ | ⟨g, cap, cur, rfl, hb, _⟩
  · exact .inl rfl
  · refine .inr (fun e => ?_)
    have e2 : g = p.block := by injection e
    omega
theorem Cnt.sep {w : World} {base q q' : Nat} {x y : Int} {v v' : Value} (h : Cnt w base x v q) (h' : Cnt w base y v' q') (hxy : x ≠ y) : v'.ownBlock = .none ∨ v'.ownBlock ≠ v.ownBlock := by
  rcases h' with ⟨rfl, _⟩ | ⟨g', cap', cur', rfl, hb', hh', hq', _, _, _, hx', _⟩
  · exact .inl rfl
  · refine .inr (fun e => ?_)
    rcases h with ⟨rfl, _⟩ | ⟨g, cap, cur, rfl, hb, hh, hq, _, _, _, hx, _⟩
    · cases e
    · injection e with e
      subst e
      rw [hh] at hh'
      injection hh' with hh'
      injection hh' with hh'
      subst hh'
      have e1 := hx 0 hq
      rw [hx' 0 hq'] at e1
      injection e1 with e1
      injection e1 with _ e1
      exact hxy e1.symm
theorem Cnt.digits {w : World} {base q : Nat} {x : Int} {v : Value} (h : Cnt w base x v q) : ∀ g, v.ownBlock = some g → Digits w g := by
  intro g0 e o u hu
  rcases h with ⟨rfl, _⟩ | ⟨g, cap, cur, rfl, hb, hh, hq, _, _, hs, _, hi⟩
  · cases e
  · injection e with e
    subst e
    rw [cell_of_row w g o cur 3 (0, 0) hh] at hu
    have ho : o < cap := by rw [← hs]; exact (Array.getElem?_eq_some_iff.1 hu).1
    obtain ⟨i, hi⟩ := hi o ho
    rw [hi] at hu
    injection hu with hu
    exact ⟨i, hu.symm⟩
theorem Cnt.base_le {w : World} {base q : Nat} {x : Int} {v : Value} (h : Cnt w base x v q) : ∀ g, v.ownBlock = some g → base ≤ g := by
  intro g0 e
  rcases h with ⟨rfl, _⟩ | ⟨g, cap, cur, rfl, hb, _⟩
  · cases e
  · injection e with e
    subst e
    exact hb
theorem Cnt.nts {w : World} {base q : Nat} {x : Int} {v : Value} (h : Cnt w base x v q) : ∃ A c, v = .slice A q c ∧ Nts w A q c (List.replicate q x) := by
  rcases h with ⟨rfl, rfl⟩ | ⟨g, cap, cur, rfl, hb, hh, hq, hqc, hcm, hs, hx, hi⟩
  · exact ⟨.none, 0, rfl, nts_nil w⟩
  · refine ⟨_, cap, rfl, by simp, hqc, hcm, (fun e => by cases e), fun _ => ⟨g, 0, rfl, (Array.getElem?_eq_some_iff.1 hh).1, fun j hj => ?_⟩⟩
    have hj' : j < q := by omega
    rw [Nat.zero_add, cell_of_row w g j cur 3 (0, 0) hh, hx j hj']
    simp [List.getD_eq_getElem?_getD, List.getElem?_map, List.getElem?_replicate, hj', i64]
theorem Row.spared {w w' : World} {s : Nat} {A : Option Addr} {n c : Nat} {vs : List Value} {row : Option Nat} (h : Row w s A n c vs) (hg : w.grownBy w' row) (hN : ∀ g, row = some g → Digits w g) (hx : 0 < n → ∃ j, j < n * s ∧ ∀ i, vs.getD j nul ≠ .int .i64 i) : Row w' s A n c vs := by
  refine ⟨h.1, h.2.1, h.2.2.1, h.2.2.2.1, fun hn => ?_⟩
  obtain ⟨b, off, e, hlt, hc⟩ := h.2.2.2.2 hn
  have hne : some b ≠ row := fun q => by
    obtain ⟨j, hj, hxj⟩ := hx hn
    obtain ⟨i, hi⟩ := hN b q.symm _ _ (hc j hj)
    exact hxj i hi
  exact ⟨b, off, e, Nat.lt_of_lt_of_le hlt hg.size, fun j hj => (World.cell?_of_block (a := ⟨b, off + j, .none⟩) (hg.block b hlt hne)).trans (hc j hj)⟩
theorem Byt.spared {w w' : World} {A : Option Addr} {n c : Nat} {zs : Pg} {row : Option Nat} (h : Byt w A n c zs) (hg : w.grownBy w' row) (hN : ∀ g, row = some g → Digits w g) : Byt w' A n c zs := by
  have hl := h.len
  refine Row.spared h hg hN (fun hn => ⟨0, by omega, fun i e => ?_⟩)
  cases zs with
  | nil => simp at hl; omega
  | cons z zs => simp [u8] at e
theorem PgV.spared {w w' : World} {v : Value} {zs : Pg} {row : Option Nat} (h : PgV w v zs) (hg : w.grownBy w' row) (hN : ∀ g, row = some g → Digits w g) : PgV w' v zs := by
  obtain ⟨A, n, c, e, hb⟩ := h
  exact ⟨A, n, c, e, hb.spared hg hN⟩
theorem Pags.spared {w w' : World} {A : Option Addr} {n c : Nat} {ps : List Pg} {row : Option Nat} (h : Pags w A n c ps) (hg : w.grownBy w' row) (hN : ∀ g, row = some g → Digits w g) : Pags w' A n c ps := by
  obtain ⟨hl, vs, hr, hp⟩ := h
  refine ⟨hl, vs, hr.spared hg hN (fun hn => ⟨0, by omega, fun i e => ?_⟩), fun j hj => (hp j hj).spared hg hN⟩
  obtain ⟨A', n', c', e', _⟩ := hp 0 hn
  rw [e'] at e
  cases e
theorem Olds.spared {w w' : World} {A : Option Addr} {n c : Nat} {ws : List Od} {row : Option Nat} (h : Olds w A n c ws) (hg : w.grownBy w' row) (hN : ∀ g, row = some g → Digits w g) : Olds w' A n c ws := by
  obtain ⟨hl, vs, hr, hp⟩ := h
  refine ⟨hl, vs, hr.spared hg hN (fun hn => ⟨1, by omega, fun i e => ?_⟩), fun j hj => ⟨(hp j hj).1, (hp j hj).2.spared hg hN⟩⟩
  obtain ⟨A', n', c', e', _⟩ := (hp 0 hn).2
  rw [show 0 * 2 + 1 = 1 from rfl, e] at e'
  cases e'
theorem Var.kept {w w' : World} {b : Nat} {A B : Option Addr} {n c m d : Nat} {row : Option Nat} (h : Var w b A B n c m d) (hg : w.grownBy w' row) (hne : some b ≠ row) : Var w' b A B n c m d :=
  ⟨(World.cell?_of_block (a := ⟨b, 0, .none⟩) (hg.block b h.lt hne)).trans h.c0, (World.cell?_of_block (a := ⟨b, 1, .none⟩) (hg.block b h.lt hne)).trans h.c1, (World.frozen?_of_block (a := ⟨b, 0, .none⟩) (hg.block b h.lt hne)).trans h.f0, (World.frozen?_of_block (a := ⟨b, 1, .none⟩) (hg.block b h.lt hne)).trans h.f1, Nat.lt_of_lt_of_le h.lt hg.size⟩
theorem Var.other {w : World} {b : Nat} {A B : Option Addr} {n c m d : Nat} (h : Var w b A B n c m d) {p : Addr} (hp : b ≠ p.block) (u : Value) : Var (w.setCell p u) b A B n c m d := h.kept (grown_set w p u) (fun e => hp (by injection e))

theorem zeros_get (k j : Nat) (h : j < k) : (Builtin.zeroCells #[Value.int .i64 0] k)[j]? = some (.int .i64 0) := by
  simp [Builtin.zeroCells, h, Nat.mod_one]
theorem run_append_cnt {w : World} {base q : Nat} {x : Int} {v : Value} (ty : TypeId) (h : Cnt w base x v q) {b o : Nat} (hc : w.cell? ⟨b, o, none⟩ = some (.int .i64 x)) (hq : q < 1000) (hb : base ≤ w.heap.size) :
    ∃ v' w', (Builtin.append_ #[40, 40] ty #[v, .slice (some ⟨b, o, none⟩) 1 1]).run Try.prog w = .ok v' w' ∧ Cnt w' base x v' (q + 1) ∧ w.grownBy w' v.ownBlock := by
  obtain ⟨i0, hi0, hz0, hz1, hz2⟩ := info_parts info3
  have hnews : ∀ j u, [Value.int .i64 x][j]? = some u → w.cell? ((⟨b, o, none⟩ : Addr).add j) = some u := by
    intro j u hu
    cases j with
    | zero => simp at hu; rw [Addr.add_lit, Nat.add_zero, hc, hu]
    | succ j => simp at hu
  have new : ∀ (xs : List Value) (old : Nat) (row : Option Nat), xs.length = q → (∀ j, j < q → xs[j]? = some (.int .i64 x)) →
      Cnt (w.drew.alloc (.cells (xs.toArray ++ [Value.int .i64 x].toArray ++ Builtin.zeroCells (Value.int .i64 0).cells (grownCap w (q + 1) old 3 - (q + 1))) 3)) base x (.slice (some ⟨w.heap.size, 0, none⟩) (q + 1) (grownCap w (q + 1) old 3)) (q + 1) ∧
      w.grownBy (w.drew.alloc (.cells (xs.toArray ++ [Value.int .i64 x].toArray ++ Builtin.zeroCells (Value.int .i64 0).cells (grownCap w (q + 1) old 3 - (q + 1))) 3)) row := by
    intro xs old row hl hx
    have hge := grownCap_ge w (q + 1) old 3
    have hcm : grownCap w (q + 1) old 3 ≤ maxLen := grownCap_le_maxLen w (q + 1) old 3 (by unfold maxLen; omega)
    generalize grownCap w (q + 1) old 3 = cap at *
    have hxs : ∀ j, j < q + 1 → (xs.toArray ++ [Value.int .i64 x].toArray ++ Builtin.zeroCells (Value.int .i64 0).cells (cap - (q + 1)))[j]? = some (.int .i64 x) := by
      intro j hj
      rw [Array.getElem?_append_left (by simp [hl]; omega)]
      rcases Nat.lt_or_ge j q with e | e
      · rw [Array.getElem?_append_left (by simp [hl]; omega)]
        simpa using hx j e
      · obtain rfl : j = q := by omega
        rw [Array.getElem?_append_right (by simp [hl])]
        simp [hl]
    refine ⟨.inr ⟨w.heap.size, cap, _, rfl, hb, heap_alloc_new w.drew _, by omega, hge, hcm, ?_, hxs, fun j hj => ?_⟩, ⟨rfl, rfl, rfl, by simp, fun k hk _ => Below.heap_alloc w.drew _ k hk⟩⟩
    · simp only [Array.size_append, List.size_toArray, size_zeroCells, hl, List.length_cons, List.length_nil]
      show q + (0 + 1) + (cap - (q + 1)) * 1 = cap
      omega
    · rcases Nat.lt_or_ge j (q + 1) with e | e
      · exact ⟨x, hxs j e⟩
      · refine ⟨0, ?_⟩
        rw [Array.getElem?_append_right (by simp [hl]; omega)]
        exact zeros_get _ _ (by simp [hl]; omega)
  rcases h with ⟨rfl, rfl⟩ | ⟨g, cap, cur, rfl, hbg, hh, hq0, hqc, hcm, hs, hx, hi⟩
  · have hr := run_append_nil (P := Try.prog) w 40 ty 3 i0 (.int .i64 0) Try.underlying40 hi0 hz0 ⟨b, o, none⟩ 1 1 [.int .i64 x] (by rw [hz1]; rfl) hnews (by omega) (by omega) (by rw [hz2]; omega)
    have hn := new [] 0 (Value.ownBlock (.slice none 0 0)) rfl (fun j hj => by omega)
    simp only [Nat.zero_add, List.nil_append, Array.empty_append] at hn ⊢
    exact ⟨_, _, hr, hn.1, hn.2⟩
  · by_cases hroom : q + 1 ≤ cap
    · have hr := run_append_room (P := Try.prog) w 40 ty 3 i0 Try.underlying40 hi0 g q cap cur hh ⟨b, o, none⟩ 1 1 [.int .i64 x] (by rw [hz1]; rfl) hnews (by simp [Value.oneCell']) hroom (by rw [hz1, hs]; simp; omega)
      rw [hz1] at hr
      have hget : ∀ j, (cur.toList.take (q * 1) ++ [Value.int .i64 x] ++ cur.toList.drop (q * 1 + [Value.int .i64 x].length)).toArray[j]? = if j = q then some (.int .i64 x) else cur[j]? := by
        intro j
        have hcl : cur.toList.length = cap := by rw [Array.length_toList]; exact hs
        rw [Nat.mul_one]
        simp only [List.getElem?_toArray, List.length_cons, List.length_nil]
        rcases Nat.lt_trichotomy j q with e | e | e
        · rw [List.append_assoc, List.getElem?_append_left (by rw [List.length_take]; omega), List.getElem?_take, if_pos e, if_neg (by omega)]
          simp
        · subst e
          rw [List.append_assoc, List.getElem?_append_right (by rw [List.length_take]; omega), List.length_take, hcl, Nat.min_eq_left (by omega), Nat.sub_self, if_pos rfl]
          rfl
        · rw [List.getElem?_append_right (by rw [List.length_append, List.length_take]; simp; omega), List.length_append, List.length_take, hcl, Nat.min_eq_left (by omega), List.getElem?_drop, if_neg (by omega)]
          simp only [List.length_cons, List.length_nil]
          rw [show q + (0 + 1) + (j - (q + (0 + 1))) = j by omega]
          simp
      refine ⟨_, _, hr, .inr ⟨g, cap, _, rfl, hbg, setRow_heap w g cur _ 3 _ hh, by omega, hroom, hcm, ?_, fun j hj => ?_, fun j hj => ?_⟩, ⟨rfl, rfl, rfl, by simp, fun k _ hk => setRow_other w g k _ (fun e => hk (by simp [Value.ownBlock, e]))⟩⟩
      · simp only [List.size_toArray, List.length_append, List.length_take, List.length_drop, Array.length_toList, List.length_cons, List.length_nil]
        omega
      · rw [hget]
        split
        · rfl
        · exact hx j (by omega)
      · rw [hget]
        split
        · exact ⟨x, rfl⟩
        · exact hi j hj
    · have hxs : ∀ j, j < q → (List.replicate q (Value.int .i64 x))[j]? = some (.int .i64 x) := fun j hj => by simp [List.getElem?_replicate, hj]
      have hr := run_append_grow (P := Try.prog) w 40 ty 3 i0 (.int .i64 0) Try.underlying40 hi0 hz0 ⟨g, 0, none⟩ q cap (List.replicate q (.int .i64 x)) (by rw [hz1]; simp) (fun j u hu => by
        have hj : j < q := by have := (List.getElem?_eq_some_iff.1 hu).1; simpa using this
        rw [hxs j hj] at hu
        rw [Addr.add_lit, Nat.zero_add, cell_of_row w g j cur 3 (0, 0) hh, hx j hj, hu]) ⟨b, o, none⟩ 1 1 [.int .i64 x] (by rw [hz1]; rfl) hnews (by omega) (by omega) (growslice_fits (by omega) (by rw [hz2]; omega))
      have hn := new (List.replicate q (.int .i64 x)) cap (Value.ownBlock (.slice (some ⟨g, 0, none⟩) q cap)) (by simp) hxs
      exact ⟨_, _, hr, hn.1, hn.2⟩
theorem wpList_append_cnt {ops : Array Oper} {rest : List Oper} {o : Oper} {a : Act} {Q : Exit → Act → World → Prop} {w : World} (hgd : o.guard = none) (s1 x1 : Operand) (ho : o.op = .call { callee := .builtin .append, args := #[s1, x1], argTypes := #[40, 40] })
    {base q : Nat} {x : Int} {v : Value} (hs : a.eval s1 = v) (h : Cnt w base x v q) {b of : Nat} (hx : a.eval x1 = .slice (some ⟨b, of, none⟩) 1 1) (hc : w.cell? ⟨b, of, none⟩ = some (.int .i64 x)) (hq : q < 1000) (hb : base ≤ w.heap.size)
    (hk : ∀ v' w', Cnt w' base x v' (q + 1) → w.grownBy w' v.ownBlock → wpList Try.prog ops Q rest (a.put o.dst v') w') : wpList Try.prog ops Q (o :: rest) a w := by
  refine wpList_plain hgd fun K hK => ?_
  obtain ⟨v', w', hr, h2, h3⟩ := run_append_cnt o.type h hc hq hb
  unfold Oper.wp execOp
  simp only [ho, resolve, invoke, builtin, Sem.run_bind, Sem.run_pure, Result.andThen_ok, List.map_toArray, List.map_cons, List.map_nil, hs, hx, hr]
  exact hK _ _ (hk v' w' h2 h3)
theorem write_step {qs ps : List Pg} {us : List Od} {p : Int} {z : Pg} (R : Rt qs us) (hS : synced qs us = ps) (hE : writeE qs us p z = 0) :
    Rt (writeP qs us p z) (writeW qs us p z) ∧ (writeP qs us p z).length = qs.length ∧ (writeW qs us p z).length = us.length + 1 ∧ synced (writeP qs us p z) (writeW qs us p z) = ps := by
  obtain ⟨_, hz, h0, h1⟩ := writeE_zero.1 hE
  obtain ⟨a, rfl⟩ : ∃ a : Nat, p = (a : Int) := ⟨p.toNat, by omega⟩
  have ha : a < qs.length := by omega
  have e1 : writeP qs us (a : Int) z = qs.set a z := by unfold writeP; rw [if_pos hE, Int.toNat_natCast]
  have e2 : writeW qs us (a : Int) z = us ++ [((a : Int), qs.getD a [])] := by unfold writeW; rw [if_pos hE, Int.toNat_natCast]
  rw [e1, e2]
  exact ⟨write_right R hz ha, by rw [List.length_set], by rw [List.length_append]; rfl, by rw [synced_write]; exact hS⟩
theorem write_lens {qs : List Pg} {us : List Od} {p : Int} {z : Pg} (R : Rt qs us) :
    (∀ j, j < (writeP qs us p z).length → ((writeP qs us p z).getD j []).length = 256) ∧ (∀ j, j < (writeW qs us p z).length → ((writeW qs us p z).getD j od0).2.length = 256) := by
  by_cases hE : writeE qs us p z = 0
  · obtain ⟨R2, _⟩ := write_step R rfl hE
    exact ⟨R2.page, fun j hj => (R2.old j hj).2.2⟩
  · obtain ⟨e1, e2⟩ := writeP_bad hE
    rw [e1, e2]
    exact ⟨fun j hj => by simp at hj, fun j hj => by simp at hj⟩
/-- What the law PageSynced keeps while it writes. -/
structure Keep (WS : World) (b9 : Nat) (A3 B3 Aq Bq : Option Addr) (n c3 d3 cq q dq : Nat) (qs : List Pg) (us : List Od) (w : World) : Prop where
  vs : Var w b9 A3 B3 n c3 0 d3
  vx : Var w (b9 + 1) Aq Bq n cq q dq
  px : Pags w Aq n cq qs
  lx : Olds w Bq q dq us
  cw : Below WS.heap.size WS w
  sz : b9 + 2 ≤ w.heap.size
theorem Keep.below {WS w w' : World} {b9 : Nat} {A3 B3 Aq Bq : Option Addr} {n c3 d3 cq q dq : Nat} {qs : List Pg} {us : List Od} (h : Keep WS b9 A3 B3 Aq Bq n c3 d3 cq q dq qs us w) (hb : Below w.heap.size w w') : Keep WS b9 A3 B3 Aq Bq n c3 d3 cq q dq qs us w' :=
  ⟨h.vs.below hb, h.vx.below hb, h.px.below hb, h.lx.below hb, st h.cw hb (Below.refl _ _), Nat.le_trans h.sz hb.size⟩
theorem Keep.grown {WS w w' : World} {b9 : Nat} {A3 B3 Aq Bq : Option Addr} {n c3 d3 cq q dq q1 : Nat} {qs : List Pg} {us : List Od} {x : Int} {v : Value} (h : Keep WS b9 A3 B3 Aq Bq n c3 d3 cq q dq qs us w) (hN : Cnt w (b9 + 2) x v q1) (hg : w.grownBy w' v.ownBlock) (hb9 : b9 = WS.heap.size) : Keep WS b9 A3 B3 Aq Bq n c3 d3 cq q dq qs us w' :=
  ⟨h.vs.kept hg (fun e => by have := hN.base_le _ e.symm; omega), h.vx.kept hg (fun e => by have := hN.base_le _ e.symm; omega), h.px.spared hg hN.digits, h.lx.spared hg hN.digits, h.cw.grown hg h.cw.size (fun g e => by have := hN.base_le _ e; omega), Nat.le_trans h.sz hg.size⟩
theorem one_cell (w : World) (v : Value) (t : TypeId) : (w.alloc (.cells #[v] t)).cell? ⟨w.heap.size, 0, none⟩ = some v := by go_side
theorem one_below (w : World) (v : Value) (t : TypeId) : Below w.heap.size w (w.alloc (.cells #[v] t)) := by go_grown
end Go.Proofs.Ytfmgmpelgnickaa

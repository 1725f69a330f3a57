/-
  Chapter 34: the laws' arguments: numbers, rows of numbers, rows of symbols: what they look like.
-/
import Derived.Test.YtabgenhednhagaaAwake
import Derived.Deep.Slices
namespace Go.Proofs.Ytabgenhednhagaa
open Go.RowKit Go.ChangeShapes Go.WideShapes Go.ChangeAt Plain

theorem own : ownKnob Try.prog.godebug = none := by kernel_rfl
theorem laidOut : laidOutB Try.prog = true := by kernel_rfl
theorem cells22 : Try.prog.cellsOf 22 = 1 := by kernel_rfl
theorem cells3 : Try.prog.cellsOf 3 = 1 := by kernel_rfl
theorem cells41 : Try.prog.cellsOf 41 = 3 := by kernel_rfl
theorem w_of {z : Int} (h : (Lit.int .u64 z).wf = true) : ∃ a : W, z = (a.toNat : Int) := by
  have h2 : 0 ≤ z ∧ z ≤ 18446744073709551615 := by simpa [Lit.wf, IntKind.min, IntKind.max, IntKind.signed, IntKind.bits] using h
  exact ⟨BitVec.ofNat 64 z.toNat, by rw [BitVec.toNat_ofNat, Nat.mod_eq_of_lt (by omega)]; omega⟩
theorem i_of {z : Int} (h : (Lit.int .i64 z).wf = true) : ∃ a : W, z = a.toInt := by
  have h2 : -9223372036854775808 ≤ z ∧ z ≤ 9223372036854775807 := by simpa [Lit.wf, IntKind.min, IntKind.max, IntKind.signed, IntKind.bits] using h
  refine ⟨BitVec.ofInt 64 z, ?_⟩
  rw [BitVec.toInt_ofInt, ← wrap_bmod]
  exact (IntWalk.i64_in z (by omega)).symm
section
variable {H : Type} {enc : TypeId × Value → H} {w : World} {base b0 : Nat} {spare : Nat → Bool} {held : Bool} {r : Reach}
theorem open_u64 {v : Value} {d : DataW H} {ps : List MemPlace} (hv : Value.okWide Try.prog w r b0 22 v) (h : DataW.Trod enc Try.prog w base spare held 22 v d ps) : ∃ a : W, v = .int .u64 (a.toNat : Int) := by
  obtain ⟨n, rfl, _, _, wn⟩ := open_int Try.underlying22 hv h
  obtain ⟨a, rfl⟩ := w_of wn
  exact ⟨a, rfl⟩
theorem open_i64 {v : Value} {d : DataW H} {ps : List MemPlace} (hv : Value.okWide Try.prog w r b0 3 v) (h : DataW.Trod enc Try.prog w base spare held 3 v d ps) : ∃ n : Int, v = .int .i64 n ∧ -9223372036854775808 ≤ n ∧ n ≤ 9223372036854775807 := by
  obtain ⟨n, rfl, _, _, wn⟩ := open_int Try.underlying3 hv h
  exact ⟨n, rfl, by simpa [Lit.wf, IntKind.min, IntKind.max, IntKind.signed, IntKind.bits] using wn⟩
theorem words {zs : List Int} (h : ∀ z ∈ zs, (Lit.int .u64 z).wf = true) : ∃ ws : List W, zs = ws.map fun a => (a.toNat : Int) := by
  induction zs with
  | nil => exact ⟨[], rfl⟩
  | cons z zs ih =>
    obtain ⟨ws, e⟩ := ih (fun y hy => h y (List.mem_cons_of_mem _ hy))
    obtain ⟨a, ea⟩ := w_of (h z (List.mem_cons_self ..))
    exact ⟨a :: ws, by rw [e, ea]; rfl⟩
theorem open_nums {v : Value} {d : DataW H} {ps : List MemPlace} (hv : Value.okWide Try.prog w r b0 23 v) (h : DataW.Trod enc Try.prog w base spare held 23 v d ps) (hlt : ∀ x ∈ ps, x.block < w.heap.size) :
    ∃ A n c zs, v = .slice A n c ∧ Nums w A n c zs := by
  have ht := Try.underlying23
  have he := Try.underlying22
  obtain ⟨a0, len, cap, rfl⟩ := okWide_slice ht hv
  obtain ⟨fuel, hf⟩ := h
  rcases open_ints ht he cells22 hf with ⟨hcs, hx⟩ | ⟨a, len', cap', zs, hcs, _, hl, hm, hz, hx, hcell, hwz⟩
  · have e : Value.slice a0 len cap = .slice none 0 0 := by simpa [Value.cells] using hcs
    injection e with e1 e2 e3
    subst e1 e2 e3
    exact ⟨none, 0, 0, [], rfl, nums_nil w⟩
  · have e : Value.slice a0 len cap = .slice (some a) len' cap' := by simpa [Value.cells] using hcs
    injection e with e1 e2 e3
    subst e1 e2 e3
    obtain ⟨ws, rfl⟩ := words hwz
    rw [List.length_map] at hz
    have hle : len ≤ ws.length := by rw [hz]; split <;> omega
    refine ⟨some a, len, cap, ws.take len, rfl, by simp [hle], hl, hm, (fun h => by cases h), fun hn => ?_⟩
    obtain ⟨b, off, rfl, hc'⟩ := ints_at hcell (by simp; omega)
    refine ⟨b, off, rfl, ?_, fun j hj => ?_⟩
    · have hx2 : ps = MemPlace.row ⟨b, off, none⟩ (ws.map fun a => (a.toNat : Int)).length := by injection hx
      have : MemPlace.cell b off ∈ ps := by
        rw [hx2]
        exact MemPlace.mem_row.2 ⟨0, by simp; omega, rfl⟩
      exact hlt _ this
    · rw [hc' j (by simp; omega)]
      have hj2 : j < ws.length := by omega
      simp [List.getD_eq_getElem?_getD, List.getElem?_take, hj, hj2, numV]
theorem open_syms {v : Value} {d : DataW H} {ps : List MemPlace} (hv : Value.okWide Try.prog w r b0 28 v) (h : DataW.Trod enc Try.prog w base spare held 28 v d ps) (hlt : ∀ x ∈ ps, x.block < w.heap.size) :
    ∃ A n c ss, v = .slice A n c ∧ Syms w A n c ss := by
  have ht := Try.underlying28
  have u41 := Try.underlying41
  obtain ⟨a0, len, cap, rfl⟩ := okWide_slice ht hv
  obtain ⟨fuel, hf⟩ := h
  rcases Go.Deep.open_slice ht hf with ⟨hcs, hx⟩ | ⟨a, len', cap', m, n, D, Pl, hcs, _, hl, hm, hmm, hx, hi⟩
  · have e : Value.slice a0 len cap = .slice none 0 0 := by simpa [Value.cells] using hcs
    injection e with e1 e2 e3
    subst e1 e2 e3
    exact ⟨none, 0, 0, [], rfl, syms_nil w⟩
  · have e : Value.slice a0 len cap = .slice (some a) len' cap' := by simpa [Value.cells] using hcs
    injection e with e1 e2 e3
    subst e1 e2 e3
    have hle : len ≤ m := by rw [hmm]; split <;> omega
    rw [cells41] at hi hx
    have each : ∀ i, i < len → ∃ s : Sym, w.cell? ((a.add (i * 3)).add 0) = some (.int .i64 s.many.toInt) ∧ w.cell? ((a.add (i * 3)).add 1) = some (numV s.sum) ∧ w.cell? ((a.add (i * 3)).add 2) = some (numV s.check) := by
      intro i hil
      obtain ⟨cs', hc, htr⟩ := hi i (by omega)
      obtain ⟨_, hlen, hcell⟩ := World.cells?_some hc
      obtain ⟨xs, n', _, _, _, hxl, hg⟩ := DataW.trod_struct u41 htr
      match cs', hlen with
      | [c0, c1, c2], _ =>
        match xs, hxl with
        | [x0, x1, x2], _ =>
          have h0 := hg 0 _ rfl
          have h1 := hg 1 _ rfl
          have h2 := hg 2 _ rfl
          simp [cells3, cells22] at h0 h1 h2
          obtain ⟨m0, e0, _, w0⟩ := DataW.trod_int Try.underlying3 h0
          obtain ⟨m1, e1, _, w1⟩ := DataW.trod_int Try.underlying22 h1
          obtain ⟨m2, e2, _, w2⟩ := DataW.trod_int Try.underlying22 h2
          simp at e0 e1 e2
          subst e0 e1 e2
          obtain ⟨a0, rfl⟩ := i_of w0
          obtain ⟨a1, rfl⟩ := w_of w1
          obtain ⟨a2, rfl⟩ := w_of w2
          have k0 := hcell 0 (by omega)
          have k1 := hcell 1 (by omega)
          have k2 := hcell 2 (by omega)
          exact ⟨⟨a0, a1, a2⟩, k0, k1, k2⟩
    refine ⟨some a, len, cap, (List.range len).map (fun i => if h : i < len then Classical.choose (each i h) else Sym.zero), rfl, by simp, hl, hm, (fun h => by cases h), fun hn => ?_⟩
    obtain ⟨b, off, spot⟩ := a
    have hspot : spot = none := by
      obtain ⟨s, hs, _⟩ := each 0 hn
      simpa [Addr.add] using World.cell?_spot hs
    subst hspot
    refine ⟨b, off, rfl, ?_, fun j hj => ?_⟩
    · have hx2 : ps = MemPlace.row ⟨b, off, none⟩ (m * 3) ++ (List.range m).flatMap Pl := by injection hx
      have : MemPlace.cell b off ∈ ps := by
        rw [hx2]
        exact List.mem_append_left _ (MemPlace.mem_row.2 ⟨0, by omega, rfl⟩)
      exact hlt _ this
    · rw [range_get _ _ _ hj, dif_pos hj]
      obtain ⟨k0, k1, k2⟩ := Classical.choose_spec (each j hj)
      generalize Classical.choose (each j hj) = s at k0 k1 k2 ⊢
      rw [add_plain, add_plain] at k0 k1 k2
      exact ⟨k0, k1, k2⟩
theorem trodAll_four {P : Program} {t0 t1 t2 t3 : TypeId} {args : Array Value} {ds : List (DataW H)} {ps : List MemPlace} (h : DataW.TrodAll enc P w base spare held [t0, t1, t2, t3] args.toList ds ps) :
    ∃ v0 v1 v2 v3 d0 d1 d2 d3 p0 p1 p2 p3, args = #[v0, v1, v2, v3] ∧ ds = [d0, d1, d2, d3] ∧ ps = p0 ++ (p1 ++ (p2 ++ p3)) ∧ DataW.Trod enc P w base spare held t0 v0 d0 p0 ∧ DataW.Trod enc P w base spare held t1 v1 d1 p1 ∧ DataW.Trod enc P w base spare held t2 v2 d2 p2 ∧ DataW.Trod enc P w base spare held t3 v3 d3 p3 := by
  obtain ⟨v0, vs, d0, ds0, p0, q, hargs, rfl, rfl, h0, hr⟩ := trodAll_cons h
  obtain ⟨v1, vs1, d1, ds1, p1, q1, rfl, rfl, rfl, h1, hr1⟩ := trodAll_cons hr
  obtain ⟨v2, vs2, d2, ds2, p2, q2, rfl, rfl, rfl, h2, hr2⟩ := trodAll_cons hr1
  obtain ⟨v3, vs3, d3, ds3, p3, q3, rfl, rfl, rfl, h3, hr3⟩ := trodAll_cons hr2
  obtain ⟨rfl, rfl, rfl⟩ := trodAll_nil hr3
  exact ⟨v0, v1, v2, v3, d0, d1, d2, d3, p0, p1, p2, p3, by cases args; simp_all, rfl, by simp, h0, h1, h2, h3⟩
theorem trodAll_five {P : Program} {t0 t1 t2 t3 t4 : TypeId} {args : Array Value} {ds : List (DataW H)} {ps : List MemPlace} (h : DataW.TrodAll enc P w base spare held [t0, t1, t2, t3, t4] args.toList ds ps) :
    ∃ v0 v1 v2 v3 v4 d0 d1 d2 d3 d4 p0 p1 p2 p3 p4, args = #[v0, v1, v2, v3, v4] ∧ ds = [d0, d1, d2, d3, d4] ∧ ps = p0 ++ (p1 ++ (p2 ++ (p3 ++ p4))) ∧ DataW.Trod enc P w base spare held t0 v0 d0 p0 ∧ DataW.Trod enc P w base spare held t1 v1 d1 p1 ∧ DataW.Trod enc P w base spare held t2 v2 d2 p2 ∧ DataW.Trod enc P w base spare held t3 v3 d3 p3 ∧ DataW.Trod enc P w base spare held t4 v4 d4 p4 := by
  obtain ⟨v0, vs, d0, ds0, p0, q, hargs, rfl, rfl, h0, hr⟩ := trodAll_cons h
  obtain ⟨v1, vs1, d1, ds1, p1, q1, rfl, rfl, rfl, h1, hr1⟩ := trodAll_cons hr
  obtain ⟨v2, vs2, d2, ds2, p2, q2, rfl, rfl, rfl, h2, hr2⟩ := trodAll_cons hr1
  obtain ⟨v3, vs3, d3, ds3, p3, q3, rfl, rfl, rfl, h3, hr3⟩ := trodAll_cons hr2
  obtain ⟨v4, vs4, d4, ds4, p4, q4, rfl, rfl, rfl, h4, hr4⟩ := trodAll_cons hr3
  obtain ⟨rfl, rfl, rfl⟩ := trodAll_nil hr4
  exact ⟨v0, v1, v2, v3, v4, d0, d1, d2, d3, d4, p0, p1, p2, p3, p4, by cases args; simp_all, rfl, by simp, h0, h1, h2, h3, h4⟩
end
end Go.Proofs.Ytabgenhednhagaa

/-
  Chapter 31: the laws' arguments: disks, rows of bytes, of whole numbers: what they look like.
-/
import Derived.Test.YtfmgmpelgnickaaRef7
import Derived.Deep.Slices
import Derived.ChangeSame
namespace Go.Proofs.Ytfmgmpelgnickaa
open Go.RowKit Go.ChangeShapes Go.WideShapes Go.ChangeAt Plain
set_option linter.unusedSimpArgs false
set_option linter.unusedVariables false

theorem own : ownKnob Try.prog.godebug = none := by kernel_rfl
theorem laidOut : laidOutB Try.prog = true := by kernel_rfl
theorem cells5 : Try.prog.cellsOf 5 = 1 := by kernel_rfl
theorem cells3 : Try.prog.cellsOf 3 = 1 := by kernel_rfl
theorem cells26 : Try.prog.cellsOf 26 = 1 := by kernel_rfl
theorem cells22 : Try.prog.cellsOf 22 = 1 := by kernel_rfl
theorem cells23 : Try.prog.cellsOf 23 = 1 := by kernel_rfl
theorem cells47 : Try.prog.cellsOf 47 = 2 := by kernel_rfl
theorem cells25 : Try.prog.cellsOf 25 = 2 := by kernel_rfl
theorem getD_range {α : Type} (f : Nat → α) {n j : Nat} (h : j < n) (d : α) : ((List.range n).map f).getD j d = f j := by
  simp [List.getD_eq_getElem?_getD, List.getElem?_range h]
section
variable {H : Type} {enc : TypeId × Value → H} {w : World} {base b0 : Nat} {spare : Nat → Bool} {held : Bool} {r : Reach} {fuel : Nat}
theorem row_of_ints {t e : TypeId} {k : IntKind} {cs : List Value} {x : DataW H × List MemPlace} (ht : Try.prog.underlying t = some (.slice e)) (he : Try.prog.underlying e = some (.int k)) (hc : Try.prog.cellsOf e = 1) (h : DataW.trod enc Try.prog w base spare held fuel t cs = some x) (hlt : ∀ p ∈ x.2, p.block < w.heap.size) :
    ∃ A n c, ∃ zs : List Int, cs = [.slice A n c] ∧ Row w 1 A n c (zs.map (Value.int k)) := by
  rcases open_ints ht he hc h with ⟨hcs, hx⟩ | ⟨a, len, cap, zs, hcs, _, hl, hm, hz, hx, hcell, hwz⟩
  · exact ⟨none, 0, 0, [], hcs, row_nil w 1⟩
  · have hle : len ≤ zs.length := by rw [hz]; split <;> omega
    refine ⟨some a, len, cap, zs.take len, hcs, by simp [hle], hl, hm, (fun h => by cases h), fun hn => ?_⟩
    obtain ⟨b, off, rfl, hc'⟩ := ints_at hcell (by omega)
    refine ⟨b, off, rfl, ?_, fun j hj => ?_⟩
    · have : MemPlace.cell b off ∈ x.2 := by
        rw [hx]
        exact MemPlace.mem_row.2 ⟨0, by omega, rfl⟩
      exact hlt _ this
    · have hj1 : j < len := by omega
      rw [hc' j (by omega)]
      have hj2 : j < zs.length := by omega
      simp [List.getD_eq_getElem?_getD, List.getElem?_take, hj1, hj2]
theorem byt_of {cs : List Value} {x : DataW H × List MemPlace} (h : DataW.trod enc Try.prog w base spare held fuel 26 cs = some x) (hlt : ∀ p ∈ x.2, p.block < w.heap.size) : ∃ A n c zs, cs = [.slice A n c] ∧ Byt w A n c zs :=
  row_of_ints Try.underlying26 Try.underlying5 cells5 h hlt
theorem nts_of {cs : List Value} {x : DataW H × List MemPlace} (h : DataW.trod enc Try.prog w base spare held fuel 40 cs = some x) (hlt : ∀ p ∈ x.2, p.block < w.heap.size) : ∃ A n c zs, cs = [.slice A n c] ∧ Nts w A n c zs :=
  row_of_ints Try.underlying40 Try.underlying3 cells3 h hlt
theorem pags_of {cs : List Value} {x : DataW H × List MemPlace} (h : DataW.trod enc Try.prog w base spare held fuel 22 cs = some x) (hlt : ∀ p ∈ x.2, p.block < w.heap.size) : ∃ A n c ps, cs = [.slice A n c] ∧ Pags w A n c ps := by
  rcases Go.Deep.open_slice1 Try.underlying22 cells26 h with ⟨hcs, hx⟩ | ⟨a, len, cap, m, n, V, D, Pl, hcs, _, hl, hm, hmm, hx, hi⟩
  · exact ⟨none, 0, 0, [], hcs, pags_nil w⟩
  · have hle : len ≤ m := by rw [hmm]; split <;> omega
    have hPl : ∀ i, i < m → ∀ p ∈ Pl i, p.block < w.heap.size := fun i hi2 p hp => hlt p (by rw [hx]; exact List.mem_append_right _ (List.mem_flatMap.2 ⟨i, List.mem_range.2 hi2, hp⟩))
    have each : ∀ i, i < len → ∃ zs : Pg, PgV w (V i) zs := fun i hil => by
      obtain ⟨_, ht⟩ := hi i (by omega)
      obtain ⟨A, n', c, zs, e, hb⟩ := byt_of ht (hPl i (by omega))
      injection e with e
      exact ⟨zs, A, n', c, e, hb⟩
    refine ⟨some a, len, cap, (List.range len).map (fun i => if h : i < len then Classical.choose (each i h) else []), hcs, by simp, (List.range len).map V, ⟨by simp, hl, hm, (fun h => by cases h), fun hn => ?_⟩, fun j hj => ?_⟩
    · obtain ⟨b, off, spot⟩ := a
      have hspot : spot = none := by
        obtain ⟨hs, _⟩ := hi 0 (by omega)
        simpa [Addr.add] using World.cell?_spot hs
      subst hspot
      refine ⟨b, off, rfl, ?_, fun j hj => ?_⟩
      · have : MemPlace.cell b off ∈ x.2 := by
          rw [hx]
          exact List.mem_append_left _ (MemPlace.mem_row.2 ⟨0, by omega, rfl⟩)
        exact hlt _ this
      · have hj1 : j < len := by omega
        obtain ⟨hs, _⟩ := hi j (by omega)
        rw [add_plain] at hs
        rw [hs, getD_range V hj1]
    · rw [getD_range V hj, getD_range _ hj, dif_pos hj]
      exact Classical.choose_spec (each j hj)
theorem olds_of {cs : List Value} {x : DataW H × List MemPlace} (h : DataW.trod enc Try.prog w base spare held fuel 23 cs = some x) (hlt : ∀ p ∈ x.2, p.block < w.heap.size) : ∃ A n c ws, cs = [.slice A n c] ∧ Olds w A n c ws := by
  rcases Go.Deep.open_slice Try.underlying23 h with ⟨hcs, hx⟩ | ⟨a, len, cap, m, n, D, Pl, hcs, _, hl, hm, hmm, hx, hi⟩
  · exact ⟨none, 0, 0, [], hcs, olds_nil w⟩
  · have hle : len ≤ m := by rw [hmm]; split <;> omega
    have hPl : ∀ i, i < m → ∀ p ∈ Pl i, p.block < w.heap.size := fun i hi2 p hp => hlt p (by rw [hx]; exact List.mem_append_right _ (List.mem_flatMap.2 ⟨i, List.mem_range.2 hi2, hp⟩))
    rw [cells47] at hi hx
    have u47 := Try.underlying47
    have each : ∀ i, i < len → ∃ q : Od × Value, w.cell? ((a.add (i * 2)).add 0) = some (.int .i64 q.1.1) ∧ w.cell? ((a.add (i * 2)).add 1) = some q.2 ∧ PgV w q.2 q.1.2 := by
      intro i hil
      obtain ⟨cs', hc, htr⟩ := hi i (by omega)
      obtain ⟨_, hlen, hcell⟩ := World.cells?_some hc
      obtain ⟨y0, y1, n', hxx, _, h0, h1⟩ := trod_struct2 u47 htr
      match cs', hlen with
      | [c0, c1], _ =>
        simp [cells3, cells26] at h0 h1
        obtain ⟨m0, e0, _, w0⟩ := DataW.trod_int Try.underlying3 h0
        simp at e0
        subst e0
        have hy1 : ∀ p ∈ y1.2, p.block < w.heap.size := fun p hp => hPl i (by omega) p (by injection hxx with _ e2; rw [e2]; exact List.mem_append_right _ hp)
        obtain ⟨A, n2, c, zs, e, hb⟩ := byt_of h1 hy1
        injection e with e
        subst e
        have k0 := hcell 0 (by omega)
        have k1 := hcell 1 (by omega)
        exact ⟨((m0, zs), .slice A n2 c), k0, k1, A, n2, c, rfl, hb⟩
    refine ⟨some a, len, cap, (List.range len).map (fun i => if h : i < len then (Classical.choose (each i h)).1 else od0), hcs, by simp,
      (List.range (len * 2)).map (fun i => if h : i / 2 < len then (if i % 2 = 0 then .int .i64 (Classical.choose (each (i / 2) h)).1.1 else (Classical.choose (each (i / 2) h)).2) else nul), ⟨by simp, hl, hm, (fun h => by cases h), fun hn => ?_⟩, fun j hj => ?_⟩
    · obtain ⟨b, off, spot⟩ := a
      have hspot : spot = none := by
        obtain ⟨q, hs, _⟩ := each 0 hn
        simpa [Addr.add] using World.cell?_spot hs
      subst hspot
      refine ⟨b, off, rfl, ?_, fun j hj => ?_⟩
      · have : MemPlace.cell b off ∈ x.2 := by
          rw [hx]
          exact List.mem_append_left _ (MemPlace.mem_row.2 ⟨0, by omega, rfl⟩)
        exact hlt _ this
      · have hj1 : j / 2 < len := by omega
        rw [getD_range _ hj, dif_pos hj1]
        obtain ⟨k0, k1, _⟩ := Classical.choose_spec (each (j / 2) hj1)
        generalize Classical.choose (each (j / 2) hj1) = q at k0 k1 ⊢
        rw [add_plain, add_plain] at k0 k1
        rcases (by omega : j % 2 = 0 ∨ j % 2 = 1) with e | e
        · rw [if_pos e, ← k0, show off + j = off + j / 2 * 2 + 0 by omega]
        · rw [if_neg (by omega), ← k1, show off + j = off + j / 2 * 2 + 1 by omega]
    · have hj1 : j * 2 / 2 < len := by omega
      have hj2 : (j * 2 + 1) / 2 < len := by omega
      unfold OdV
      rw [getD_range _ (by omega : j * 2 < len * 2), getD_range _ (by omega : j * 2 + 1 < len * 2), getD_range _ hj, dif_pos hj1, dif_pos hj2, dif_pos hj, if_pos (by omega), if_neg (by omega)]
      have e1 : j * 2 / 2 = j := by omega
      have e2 : (j * 2 + 1) / 2 = j := by omega
      obtain ⟨_, _, hp⟩ := Classical.choose_spec (each j hj)
      refine ⟨?_, ?_⟩
      · congr 3
        simp only [e1]
      · simp only [e2]; exact hp
theorem open_disk {v : Value} {d : DataW H} {ps : List MemPlace} (hv : Value.okWide Try.prog w r b0 25 v) (h : DataW.Trod enc Try.prog w base spare held 25 v d ps) (hlt : ∀ x ∈ ps, x.block < w.heap.size) :
    ∃ A B n c m e qs ws, v = .agg #[.slice A n c, .slice B m e] ∧ Pags w A n c qs ∧ Olds w B m e ws := by
  obtain ⟨cs, rfl, hsz⟩ := okWide_struct Try.underlying25 hv
  obtain ⟨fuel, hf⟩ := h
  obtain ⟨y0, y1, n', hxx, _, h0, h1⟩ := trod_struct2 Try.underlying25 hf
  have hl : cs.toList.length = 2 := by rw [cells25] at hsz; simpa using hsz
  obtain ⟨c0, c1, hcs⟩ : ∃ c0 c1, cs = #[c0, c1] := by
    match cs, hl with
    | ⟨[c0, c1]⟩, _ => exact ⟨c0, c1, rfl⟩
  subst hcs
  simp [cells22, cells23, Value.cells] at h0 h1
  injection hxx with _ e2
  obtain ⟨A, n, c, qs, e3, hP⟩ := pags_of h0 (fun p hp => hlt p (by rw [e2]; exact List.mem_append_left _ hp))
  obtain ⟨B, m, e, ws, e4, hO⟩ := olds_of h1 (fun p hp => hlt p (by rw [e2]; exact List.mem_append_right _ hp))
  injection e3 with e3
  injection e4 with e4
  subst e3 e4
  exact ⟨A, B, n, c, m, e, qs, ws, rfl, hP, hO⟩
theorem open_one {t e : TypeId} {v : Value} {d : DataW H} {ps : List MemPlace} (ht : Try.prog.underlying t = some (.slice e)) (hv : Value.okWide Try.prog w r b0 t v) (h : DataW.Trod enc Try.prog w base spare held t v d ps) : ∃ fuel, DataW.trod enc Try.prog w base spare held fuel t [v] = some (d, ps) := by
  obtain ⟨a0, len, cap, rfl⟩ := okWide_slice ht hv
  obtain ⟨fuel, hf⟩ := h
  exact ⟨fuel, by simpa [Value.cells] using hf⟩
theorem open_bytes {v : Value} {d : DataW H} {ps : List MemPlace} (hv : Value.okWide Try.prog w r b0 26 v) (h : DataW.Trod enc Try.prog w base spare held 26 v d ps) (hlt : ∀ x ∈ ps, x.block < w.heap.size) : ∃ A n c zs, v = .slice A n c ∧ Byt w A n c zs := by
  obtain ⟨fuel, hf⟩ := open_one Try.underlying26 hv h
  obtain ⟨A, n, c, zs, e, hb⟩ := byt_of hf hlt
  injection e with e
  exact ⟨A, n, c, zs, e, hb⟩
theorem open_ints40 {v : Value} {d : DataW H} {ps : List MemPlace} (hv : Value.okWide Try.prog w r b0 40 v) (h : DataW.Trod enc Try.prog w base spare held 40 v d ps) (hlt : ∀ x ∈ ps, x.block < w.heap.size) : ∃ A n c zs, v = .slice A n c ∧ Nts w A n c zs := by
  obtain ⟨fuel, hf⟩ := open_one Try.underlying40 hv h
  obtain ⟨A, n, c, zs, e, hb⟩ := nts_of hf hlt
  injection e with e
  exact ⟨A, n, c, zs, e, hb⟩
theorem open_pages {v : Value} {d : DataW H} {ps : List MemPlace} (hv : Value.okWide Try.prog w r b0 22 v) (h : DataW.Trod enc Try.prog w base spare held 22 v d ps) (hlt : ∀ x ∈ ps, x.block < w.heap.size) : ∃ A n c zs, v = .slice A n c ∧ Pags w A n c zs := by
  obtain ⟨fuel, hf⟩ := open_one Try.underlying22 hv h
  obtain ⟨A, n, c, zs, e, hb⟩ := pags_of hf hlt
  injection e with e
  exact ⟨A, n, c, zs, e, hb⟩
theorem open_i64 {v : Value} {d : DataW H} {ps : List MemPlace} (hv : Value.okWide Try.prog w r b0 3 v) (h : DataW.Trod enc Try.prog w base spare held 3 v d ps) : ∃ n : Int, v = .int .i64 n ∧ -9223372036854775808 ≤ n ∧ n ≤ 9223372036854775807 := by
  obtain ⟨n, rfl, _, _, wn⟩ := open_int Try.underlying3 hv h
  exact ⟨n, rfl, by simpa [Lit.wf, IntKind.min, IntKind.max, IntKind.signed, IntKind.bits] using wn⟩
theorem open_u16 {v : Value} {d : DataW H} {ps : List MemPlace} (hv : Value.okWide Try.prog w r b0 27 v) (h : DataW.Trod enc Try.prog w base spare held 27 v d ps) : ∃ n : Int, v = .int .u16 n ∧ 0 ≤ n ∧ n ≤ 65535 := by
  obtain ⟨n, rfl, _, _, wn⟩ := open_int Try.underlying27 hv h
  exact ⟨n, rfl, by simpa [Lit.wf, IntKind.min, IntKind.max, IntKind.signed, IntKind.bits] using wn⟩
theorem trodAll_four {P : Program} {t0 t1 t2 t3 : TypeId} {args : Array Value} {ds : List (DataW H)} {ps : List MemPlace} (h : DataW.TrodAll enc P w base spare held [t0, t1, t2, t3] args.toList ds ps) :
    ∃ v0 v1 v2 v3 d0 d1 d2 d3 p0 p1 p2 p3, args = #[v0, v1, v2, v3] ∧ ds = [d0, d1, d2, d3] ∧ ps = p0 ++ (p1 ++ (p2 ++ p3)) ∧ DataW.Trod enc P w base spare held t0 v0 d0 p0 ∧ DataW.Trod enc P w base spare held t1 v1 d1 p1 ∧ DataW.Trod enc P w base spare held t2 v2 d2 p2 ∧ DataW.Trod enc P w base spare held t3 v3 d3 p3 := by
  obtain ⟨v0, vs, d0, ds0, p0, q, hargs, rfl, rfl, h0, hr⟩ := trodAll_cons h
  obtain ⟨v1, vs1, d1, ds1, p1, q1, rfl, rfl, rfl, h1, hr1⟩ := trodAll_cons hr
  obtain ⟨v2, vs2, d2, ds2, p2, q2, rfl, rfl, rfl, h2, hr2⟩ := trodAll_cons hr1
  obtain ⟨v3, vs3, d3, ds3, p3, q3, rfl, rfl, rfl, h3, hr3⟩ := trodAll_cons hr2
  obtain ⟨rfl, rfl, rfl⟩ := trodAll_nil hr3
  exact ⟨v0, v1, v2, v3, d0, d1, d2, d3, p0, p1, p2, p3, by cases args; simp_all, rfl, by simp, h0, h1, h2, h3⟩
end
end Go.Proofs.Ytfmgmpelgnickaa

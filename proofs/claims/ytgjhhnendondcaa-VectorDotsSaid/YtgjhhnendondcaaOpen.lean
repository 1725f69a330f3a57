/-
  Vectors, dots and pairs as arguments of the laws of chapter 5: what they look like.
-/
import Derived.Test.YtgjhhnendondcaaWalks9
namespace Go.Proofs.Ytgjhhnendondcaa
open Go.RowKit Go.ChangeShapes Go.WideShapes Go.ChangeAt

theorem own : ownKnob Try.prog.godebug = none := by kernel_rfl
theorem laidOut : laidOutB Try.prog = true := by kernel_rfl
theorem cells3 : Try.prog.cellsOf 3 = 1 := by kernel_rfl
theorem cells25 : Try.prog.cellsOf 25 = 2 := by kernel_rfl
section
variable {H : Type} {enc : TypeId × Value → H} {w : World} {base b0 : Nat} {spare : Nat → Bool} {held : Bool} {r : Reach}
theorem i64_of {z : Int} (h : (Lit.int .i64 z).wf = true) : I64 z := by
  unfold I64; simpa [Lit.wf, IntKind.min, IntKind.max, IntKind.signed, IntKind.bits] using h
theorem open_vec {v : Value} {d : DataW H} {ps : List MemPlace} (hv : Value.okWide Try.prog w r b0 23 v) (h : DataW.Trod enc Try.prog w base spare held 23 v d ps) (hlt : ∀ x ∈ ps, x.block < w.heap.size) :
    ∃ A n c zs, v = .slice A n c ∧ Vec w A n c zs := by
  have ht := Try.underlying23
  have he := Try.underlying3
  obtain ⟨a0, len, cap, rfl⟩ := okWide_slice ht hv
  obtain ⟨fuel, hf⟩ := h
  rcases open_ints ht he cells3 hf with ⟨hcs, hx⟩ | ⟨a, len', cap', zs, hcs, _, hl, hm, hz, hx, hcell, hwz⟩
  · have e : Value.slice a0 len cap = .slice none 0 0 := by simpa [Value.cells] using hcs
    injection e with e1 e2 e3
    subst e1 e2 e3
    exact ⟨none, 0, 0, [], rfl, vec_nil w⟩
  · have e : Value.slice a0 len cap = .slice (some a) len' cap' := by simpa [Value.cells] using hcs
    injection e with e1 e2 e3
    subst e1 e2 e3
    have hle : len ≤ zs.length := by rw [hz]; split <;> omega
    refine ⟨some a, len, cap, zs.take len, rfl, ⟨by simp [hle], fun hn => ?_⟩, hl, hm, (fun h => by cases h), fun z hz' => i64_of (hwz z (List.mem_of_mem_take hz'))⟩
    obtain ⟨b, off, rfl, hc'⟩ := ints_at hcell (by omega)
    refine ⟨b, off, rfl, ?_, fun j hj => ?_⟩
    · have hx2 : ps = MemPlace.row ⟨b, off, none⟩ zs.length := by injection hx
      have : MemPlace.cell b off ∈ ps := by
        rw [hx2]
        exact MemPlace.mem_row.2 ⟨0, by omega, rfl⟩
      exact hlt _ this
    · rw [hc' j (by omega)]
      simp only [List.getD_eq_getElem?_getD, List.getElem?_take, if_pos hj]
theorem open_num {v : Value} {d : DataW H} {ps : List MemPlace} (hv : Value.okWide Try.prog w r b0 3 v) (h : DataW.Trod enc Try.prog w base spare held 3 v d ps) :
    ∃ n : Int, v = .int .i64 n ∧ I64 n := by
  obtain ⟨n, rfl, _, _, wn⟩ := open_int Try.underlying3 hv h
  exact ⟨n, rfl, i64_of wn⟩
theorem cells32 : Try.prog.cellsOf 32 = 2 := by kernel_rfl
theorem trod_array2 {P : Program} {H : Type} {enc : TypeId × Value → H} {w : World} {base : Nat} {spare : Nat → Bool} {held : Bool} {t e : TypeId} {fuel : Nat} {c0 c1 : Value} {x : DataW H × List MemPlace} (ht : P.underlying t = some (.array 2 e)) (hce : P.cellsOf e = 1)
    (h : DataW.trod enc P w base spare held fuel t [c0, c1] = some x) :
    ∃ y0 y1 n, x = (.agg [y0.1, y1.1], y0.2 ++ y1.2) ∧ DataW.trod enc P w base spare held n e [c0] = some y0 ∧ DataW.trod enc P w base spare held n e [c1] = some y1 := by
  cases fuel with
  | zero => simp [DataW.trod] at h
  | succ n =>
    unfold DataW.trod at h
    rw [ht] at h
    have r2 : List.range 2 = [0, 1] := rfl
    simp [r2, hce] at h
    obtain ⟨_, h⟩ := h
    cases h0 : DataW.trod enc P w base spare held n e [c0] with
    | none => simp [h0] at h
    | some y0 =>
      cases h1 : DataW.trod enc P w base spare held n e [c1] with
      | none => simp [h0, h1] at h
      | some y1 =>
        simp [h0, h1] at h
        exact ⟨y0, y1, n, h.symm, h0, h1⟩
theorem okWide_array {P : Program} {w : World} {r : Reach} {base : Nat} {t e : TypeId} {k : Nat} {v : Value} (ht : P.underlying t = some (.array k e)) (h : Value.okWide P w r base t v) : ∃ cs, v = .agg cs ∧ cs.size = P.cellsOf t := by
  simp only [Value.okWide, ht] at h
  obtain ⟨cs, h1, h2, _⟩ := h
  exact ⟨cs, h1, h2⟩
theorem open_pair {v : Value} {d : DataW H} {ps : List MemPlace} (hv : Value.okWide Try.prog w r b0 32 v) (h : DataW.Trod enc Try.prog w base spare held 32 v d ps) :
    ∃ x y : Int, v = .agg #[.int .i64 x, .int .i64 y] ∧ I64 x ∧ I64 y := by
  have u32 := Try.underlying32
  obtain ⟨cs, rfl, hsz⟩ := okWide_array u32 hv
  obtain ⟨fuel, hf⟩ := h
  obtain ⟨cs⟩ := cs
  rw [cells32] at hsz
  match cs, hsz with
  | [c0, c1], _ =>
    obtain ⟨y0, y1, n, _, h0, h1⟩ := trod_array2 u32 cells3 (by simpa [Value.cells] using hf)
    obtain ⟨x, e0, _, w0⟩ := DataW.trod_int Try.underlying3 h0
    obtain ⟨y, e1, _, w1⟩ := DataW.trod_int Try.underlying3 h1
    simp at e0 e1
    subst e0 e1
    exact ⟨x, y, rfl, i64_of w0, i64_of w1⟩
theorem open_dot {v : Value} {d : DataW H} {ps : List MemPlace} (hv : Value.okWide Try.prog w r b0 25 v) (h : DataW.Trod enc Try.prog w base spare held 25 v d ps) :
    ∃ x y : Int, v = .agg #[.int .i64 x, .int .i64 y] ∧ I64 x ∧ I64 y := by
  have u25 := Try.underlying25
  obtain ⟨cs, rfl, hsz⟩ := okWide_struct u25 hv
  obtain ⟨fuel, hf⟩ := h
  obtain ⟨xs, n, _, _, hl, hlen, hg⟩ := DataW.trod_struct u25 hf
  obtain ⟨cs⟩ := cs
  rw [cells25] at hsz
  match cs, hsz with
  | [c0, c1], _ =>
    match xs, hlen with
    | [x0, x1], _ =>
      have h0 := hg 0 _ rfl
      have h1 := hg 1 _ rfl
      simp [cells3, Value.cells] at h0 h1
      obtain ⟨x, e0, _, w0⟩ := DataW.trod_int Try.underlying3 h0
      obtain ⟨y, e1, _, w1⟩ := DataW.trod_int Try.underlying3 h1
      simp at e0 e1
      subst e0 e1
      exact ⟨x, y, rfl, i64_of w0, i64_of w1⟩
end
end Go.Proofs.Ytgjhhnendondcaa

/-
  A cell (api.Cell), as an argument: what it looks like; a law's row out of its walk.
-/
import Derived.Test.YtmbkkmolhmjpeaaBase
namespace Go.Proofs.Ytmbkkmolhmjpeaa
open Go.RowKit Go.ChangeShapes Go.WideShapes Go.ChangeAt

theorem own : ownKnob Try.prog.godebug = none := by kernel_rfl
theorem laidOut : laidOutB Try.prog = true := by kernel_rfl
theorem cells26 : Try.prog.cellsOf 26 = 5 := by kernel_rfl
theorem cells23 : Try.prog.cellsOf 23 = 3 := by kernel_rfl
theorem cells24 : Try.prog.cellsOf 24 = 1 := by kernel_rfl
theorem cells3 : Try.prog.cellsOf 3 = 1 := by kernel_rfl
theorem cells9 : Try.prog.cellsOf 9 = 1 := by kernel_rfl
section
variable {H : Type} {enc : TypeId × Value → H} {w : World} {base b0 : Nat} {spare : Nat → Bool} {held : Bool} {r : Reach}
theorem open_cell {v : Value} {d : DataW H} {ps : List MemPlace} (hv : Value.okWide Try.prog w r b0 26 v) (h : DataW.Trod enc Try.prog w base spare held 26 v d ps) :
    ∃ (kd vk n : Int) (s : ByteArray) (A : Option Addr) (l c : Nat), v = .agg #[.int .i64 kd, .int .i64 vk, .int .i64 n, .string s, .slice A l c] ∧ (Lit.int .i64 n).wf = true := by
  have u26 := Try.underlying26
  have u23 := Try.underlying23
  obtain ⟨cs, rfl, hsz⟩ := okWide_struct u26 hv
  obtain ⟨fuel, hf⟩ := h
  obtain ⟨xs, n, _, _, hl, hlen, hg⟩ := DataW.trod_struct u26 hf
  obtain ⟨cs⟩ := cs
  rw [cells26] at hl hsz
  match cs, hsz with
  | [c0, c1, c2, c3, c4], _ =>
    match xs, hlen with
    | [x0, x1, x2], _ =>
      have h0 := hg 0 _ rfl
      have h1 := hg 1 _ rfl
      have h2 := hg 2 _ rfl
      simp [cells3, cells23, cells24, Value.cells] at h0 h1 h2
      obtain ⟨kd, e0, _, _⟩ := DataW.trod_int Try.underlying3 h0
      obtain ⟨ys, m, _, _, _, hlen2, hg2⟩ := DataW.trod_struct u23 h1
      obtain ⟨A, l, c, e4⟩ := Joins.slice_form Try.underlying24 h2
      match ys, hlen2 with
      | [y0, y1, y2], _ =>
        have g0 := hg2 0 _ rfl
        have g1 := hg2 1 _ rfl
        have g2 := hg2 2 _ rfl
        simp [cells3, cells9] at g0 g1 g2
        obtain ⟨vk, e1, _, _⟩ := DataW.trod_int Try.underlying3 g0
        obtain ⟨nn, e2, _, wn⟩ := DataW.trod_int Try.underlying3 g1
        obtain ⟨s, e3, _, _⟩ := DataW.trod_string Try.underlying9 g2
        simp at e0 e1 e2 e3 e4
        subst e0 e1 e2 e3 e4
        exact ⟨kd, vk, nn, s, A, l, c, rfl, wn⟩
end
end Go.Proofs.Ytmbkkmolhmjpeaa

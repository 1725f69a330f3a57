/-
  The statement CountSides of chapter 8, for every number and every two rows of numbers of 32 bits: no condition.
-/
import Derived.Test.YtmbkkmolhmjpeaaSides
import Derived.Test.YtmbkkmolhmjpeaaOpen
namespace Go.Proofs.Ytmbkkmolhmjpeaa
open Go.RowKit Go.ChangeShapes Go.WideShapes Go.ChangeAt

theorem i32_of {z : Int} (h : (Lit.int .i32 z).wf = true) : I32 z := by unfold I32; simpa [Lit.wf, IntKind.min, IntKind.max, IntKind.signed, IntKind.bits] using h
set_option maxRecDepth 100000 in
theorem sides_lifted (os : Os) (started : os.Started) (H : Type) (enc : TypeId × Value → H) :
    ReturnsInHanded {} Try.checked os 6 .any (Rows.countSidesSpec.pre6 enc Try.prog Try.f6 Rows.countSidesRow.domain false) (Rows.countSidesSpec.post enc Try.prog Try.f6 false true false false) := by
  refine returnsInHanded_of_change (C := Try.checked) own started (by kernel_rfl) Try.func6
    (ChangeSpec.witness6 (enc := enc) (C := Try.checked) false ⟨#[], #[.int .i32 0, .slice none 0 0, .slice none 0 0], []⟩ 8 (by kernel_rfl) (by kernel_rfl) (by kernel_rfl) (by kernel_rfl)) ?_
  intro W base args ds gs before hval0 hW hcnd _
  have hval : ∀ (j : Nat) t v, Try.f6.params[j]? = some t → args[j]? = some v → Value.okWide Try.prog W .any base t v := hval0
  have hW' := hW
  obtain ⟨p, q, hA0, hV, rfl, hfz, hnd⟩ := hW
  have hA : DataW.TrodAll enc Try.prog W 0 (fun _ => true) true Try.f6.params.toList args.toList ds p := hA0
  rw [Try.params6] at hA hval
  obtain ⟨rfl, rfl⟩ := trodVars_none hV
  obtain ⟨v0, v1, v2, d0, d1, d2, p0, p1, p2, rfl, rfl, rfl, h0, h1, h2⟩ := trodAll_three hA
  have hlt1 : ∀ x ∈ p1, x.block < W.heap.size := fun x hx => hW'.lt x (by simp [hx])
  have hlt2 : ∀ x ∈ p2, x.block < W.heap.size := fun x hx => hW'.lt x (by simp [hx])
  obtain ⟨c0, rfl, rfl, rfl, wc⟩ := open_int Try.underlying21 (hval 0 21 v0 rfl rfl) h0
  obtain ⟨A, n, cap, zs, rfl, hnc, hcm, hr, hz⟩ := open_rdi Try.underlying38 Try.underlying21 (by kernel_rfl) (hval 1 38 v1 rfl rfl) h1 hlt1
  obtain ⟨B, m, dap, ys, rfl, gnc, gcm, gr, gz⟩ := open_rdi Try.underlying38 Try.underlying21 (by kernel_rfl) (hval 2 38 v2 rfl rfl) h2 hlt2
  have hmax : n ≤ 9223372036854775807 := Nat.le_trans hnc hcm
  have gmax : m ≤ 9223372036854775807 := Nat.le_trans gnc gcm
  refine (sides_walk c0 (i32_of wc) A n cap zs B m dap ys W hr (fun z hz' => i32_of (hz z hz')) hmax gr (fun z hz' => i32_of (gz z hz')) gmax).mono fun e W' ⟨he, hb⟩ => ?_
  subst he
  exact ⟨_, rfl, law_post (tb := 4) laidOut (of_decide_eq_true (by kernel_rfl)) rfl Try.underlying4 rfl hW' rfl hb⟩
theorem sides_holds : Rows.CountSidesSaid :=
  OpenClaim.holds_of_wide 6 Try.f6 rfl rfl rfl rfl rfl rfl rfl ⟨rfl, rfl, rfl, rfl, rfl⟩ rfl rfl rfl rfl rfl (by kernel_rfl) Try.func6 (by kernel_rfl)
    (of_decide_eq_true (by kernel_rfl)) (by unfold Func.isWrapper; first | (rw [if_pos (by decide +kernel)]; kernel_rfl) | (rw [if_neg (by decide +kernel)]; exact ⟨rfl, rfl⟩))
    (fun os started H enc _ => sides_lifted os started H enc)

end Go.Proofs.Ytmbkkmolhmjpeaa

/-
  The statement CountOrder of chapter 8, for every row of numbers of 32 bits: no condition.
-/
import Derived.Test.YtmbkkmolhmjpeaaOrder
import Derived.Test.YtmbkkmolhmjpeaaOpen
namespace Go.Proofs.Ytmbkkmolhmjpeaa
open Go.RowKit Go.ChangeShapes Go.WideShapes Go.ChangeAt

theorem i32_of {z : Int} (h : (Lit.int .i32 z).wf = true) : I32 z := by unfold I32; simpa [Lit.wf, IntKind.min, IntKind.max, IntKind.signed, IntKind.bits] using h
set_option maxRecDepth 100000 in
theorem order_lifted (os : Os) (started : os.Started) (H : Type) (enc : TypeId × Value → H) :
    ReturnsInHanded {} Try.checked os 5 .any (Rows.countOrderSpec.pre6 enc Try.prog Try.f5 Rows.countOrderRow.domain false) (Rows.countOrderSpec.post enc Try.prog Try.f5 false true false false) := by
  refine returnsInHanded_of_change (C := Try.checked) own started (by kernel_rfl) Try.func5
    (ChangeSpec.witness6 (enc := enc) (C := Try.checked) false ⟨#[], #[.slice none 0 0], []⟩ 8 (by kernel_rfl) (by kernel_rfl) (by kernel_rfl) (by kernel_rfl)) ?_
  intro W base args ds gs before hval0 hW hcnd _
  have hval : ∀ (j : Nat) t v, Try.f5.params[j]? = some t → args[j]? = some v → Value.okWide Try.prog W .any base t v := hval0
  have hW' := hW
  obtain ⟨p, q, hA0, hV, rfl, hfz, hnd⟩ := hW
  have hA : DataW.TrodAll enc Try.prog W 0 (fun _ => true) true Try.f5.params.toList args.toList ds p := hA0
  rw [Try.params5] at hA hval
  obtain ⟨rfl, rfl⟩ := trodVars_none hV
  obtain ⟨v0, d0, rfl, rfl, h0⟩ := trodAll_one hA
  have hlt : ∀ x ∈ p, x.block < W.heap.size := fun x hx => hW'.lt x (by simp [hx])
  obtain ⟨A, n, cap, zs, rfl, hnc, hcm, hr, hz⟩ := open_rdi Try.underlying38 Try.underlying21 (by kernel_rfl) (hval 0 38 v0 rfl rfl) h0 hlt
  have hmax : n ≤ 9223372036854775807 := Nat.le_trans hnc hcm
  refine (order_walk A n cap zs W hr (fun z hz' => i32_of (hz z hz')) hmax).mono fun e W' ⟨he, hb⟩ => ?_
  subst he
  exact ⟨_, rfl, law_post (tb := 4) laidOut (of_decide_eq_true (by kernel_rfl)) rfl Try.underlying4 rfl hW' rfl hb⟩
theorem order_holds : Rows.CountOrderSaid :=
  OpenClaim.holds_of_wide 5 Try.f5 rfl rfl rfl rfl rfl rfl rfl ⟨rfl, rfl, rfl, rfl, rfl⟩ rfl rfl rfl rfl rfl (by kernel_rfl) Try.func5 (by kernel_rfl)
    (of_decide_eq_true (by kernel_rfl)) (by unfold Func.isWrapper; first | (rw [if_pos (by decide +kernel)]; kernel_rfl) | (rw [if_neg (by decide +kernel)]; exact ⟨rfl, rfl⟩))
    (fun os started H enc _ => order_lifted os started H enc)

end Go.Proofs.Ytmbkkmolhmjpeaa

/-
  The statement VectorSets of chapter 5, for every input: no condition.
-/
import Derived.Test.YtgjhhnendondcaaSets
import Derived.Test.YtgjhhnendondcaaOpen
namespace Go.Proofs.Ytgjhhnendondcaa
open Go.RowKit Go.ChangeShapes Go.WideShapes Go.ChangeAt

set_option maxRecDepth 100000 in
theorem sets_lifted (os : Os) (started : os.Started) (H : Type) (enc : TypeId × Value → H) :
    ReturnsInHanded {} Try.checked os 10 .any (Rows.vectorSetsSpec.pre6 enc Try.prog Try.f10 Rows.vectorSetsRow.domain false) (Rows.vectorSetsSpec.post enc Try.prog Try.f10 false true false false) := by
  refine returnsInHanded_of_change (C := Try.checked) own started (by kernel_rfl) Try.func10
    (ChangeSpec.witness6 (enc := enc) (C := Try.checked) false ⟨#[], #[.slice none 0 0, .agg #[.int .i64 0, .int .i64 0], .int .i64 0], []⟩ 8 (by kernel_rfl) (by kernel_rfl) (by kernel_rfl) (by kernel_rfl)) ?_
  intro W base args ds gs before hval0 hW hcnd _
  have hval : ∀ (j : Nat) t v, Try.f10.params[j]? = some t → args[j]? = some v → Value.okWide Try.prog W .any base t v := hval0
  have hW' := hW
  obtain ⟨p, q, hA0, hV, rfl, hfz, hnd⟩ := hW
  have hA : DataW.TrodAll enc Try.prog W 0 (fun _ => true) true Try.f10.params.toList args.toList ds p := hA0
  rw [Try.params10] at hA hval
  obtain ⟨rfl, rfl⟩ := trodVars_none hV
  obtain ⟨v0, v1, v2, d0, d1, d2, p0, p1, p2, rfl, rfl, rfl, h0, h1, h2⟩ := trodAll_three hA
  obtain ⟨A, n, c, zs, rfl, h⟩ := open_vec (hval 0 23 v0 rfl rfl) h0 (fun x hx => hW'.lt x (by simp [hx]))
  obtain ⟨z0, z1, rfl, hz0, hz1⟩ := open_pair (hval 1 32 v1 rfl rfl) h1
  obtain ⟨dev, rfl, hd⟩ := open_num (hval 2 3 v2 rfl rfl) h2
  refine (sets_walk A n c zs z0 z1 dev W h hz0 hz1 hd).mono fun e W' ⟨he, hb⟩ => ?_
  subst he
  exact ⟨_, rfl, law_post (tb := 4) laidOut (of_decide_eq_true (by kernel_rfl)) rfl Try.underlying4 rfl hW' rfl hb⟩
theorem sets_holds : Rows.VectorSetsSaid :=
  OpenClaim.holds_of_wide 10 Try.f10 rfl rfl rfl rfl rfl rfl rfl ⟨rfl, rfl, rfl, rfl, rfl⟩ rfl rfl rfl rfl rfl (by kernel_rfl) Try.func10 (by kernel_rfl)
    (of_decide_eq_true (by kernel_rfl)) (by unfold Func.isWrapper; first | (rw [if_pos (by decide +kernel)]; kernel_rfl) | (rw [if_neg (by decide +kernel)]; exact ⟨rfl, rfl⟩))
    (fun os started H enc _ => sets_lifted os started H enc)

end Go.Proofs.Ytgjhhnendondcaa

/-
  Plain words that all proofs of this seat use: a slice that reads as a list of integers (nil and empty ones too); a world that has only grown; how a proved contract of a law is lifted to its row. No function of the program in sight.
-/
import Derived.Test.YtfmgmpelgnickaaRows
import Derived.WalkKit
import Derived.ProofKit
import Derived.OpenShut
import Derived.Below
import Derived.Carry
import Derived.Laws.OwnMore
import Derived.Deep.Draws
import Derived.Lib.SmallJoins
namespace Go.Proofs.Ytfmgmpelgnickaa
open Go.RowKit Go.ChangeShapes Go.WideShapes Go.ChangeAt

theorem hide {p : Prop} (h : p) : Hid p := h
theorem ret_i {k : IntKind} {a b : Int} (h : a = b) : Ending.returned (.int k a) = .returned (.int k b) := by rw [h]
theorem ret_b {a b : Bool} (h : a = b) : Ending.returned (.bool a) = .returned (.bool b) := by rw [h]
theorem ret_v {a b : Value} (h : a = b) : Ending.returned a = .returned b := by rw [h]

theorem below_drewN {B : Nat} {a w : World} (h : Below B a w) (n : Nat) : Below B a (w.drewN n) := ⟨h.os, h.tape, h.output, h.size, h.block⟩
theorem quiet_left {P : Program} {f : FuncId} {args : Array Value} {w : World} {v : Value}
    (h : Calls P f args w fun e w' => e = .returned v ∧ w = w') : Calls P f args w fun e w'' => e = .returned v ∧ w'' = w := h.mono fun _ _ ⟨he, hw⟩ => ⟨he, hw.symm⟩
/-- One call more: what lay in a's memory is as it was. -/
theorem st {a w v w' : World} (h : Below a.heap.size a w) (hb : Below v.heap.size v w') (hv : Below w.heap.size w v) : Below a.heap.size a w' :=
  (h.trans (hv.mono h.size)).trans (hb.mono (Nat.le_trans h.size hv.size))
theorem bcell {W w1 : World} (hb : Below W.heap.size W w1) : (∀ b o, b < W.heap.size → w1.cell? ⟨b, o, none⟩ = W.cell? ⟨b, o, none⟩) ∧ (∀ b o, b < W.heap.size → w1.frozen? ⟨b, o, none⟩ = W.frozen? ⟨b, o, none⟩) :=
  ⟨fun b o h => hb.cell (p := ⟨b, o, none⟩) h, fun b o h => hb.frozen (p := ⟨b, o, none⟩) h⟩

/-- A slice's address A, its length n: it reads as the integers zs (of kind k), from blocks below B. -/
def RdI (w : World) (B : Nat) (k : IntKind) (A : Option Addr) (n : Nat) (zs : List Int) : Prop :=
  zs.length = n ∧ (0 < n → ∃ b off, A = some ⟨b, off, none⟩ ∧ b < B ∧ ∀ j, j < n → w.cell? ⟨b, off + j, none⟩ = some (.int k (zs.getD j 0)))
theorem RdI.keep {w w' : World} {B B' n : Nat} {k : IntKind} {A : Option Addr} {zs : List Int} (h : RdI w B k A n zs) (hB : B ≤ B') (hk : ∀ b o, b < B → w'.cell? ⟨b, o, none⟩ = w.cell? ⟨b, o, none⟩) : RdI w' B' k A n zs :=
  ⟨h.1, fun hn => by
    obtain ⟨b, off, e, hb, hc⟩ := h.2 hn
    exact ⟨b, off, e, by omega, fun j hj => (hk _ _ hb).trans (hc j hj)⟩⟩
theorem RdI.below {w w' : World} {B n : Nat} {k : IntKind} {A : Option Addr} {zs : List Int} (h : RdI w B k A n zs) (hb : Below B w w') : RdI w' B k A n zs :=
  h.keep (Nat.le_refl _) fun b o hlt => hb.cell (p := ⟨b, o, none⟩) hlt

section
variable {H : Type} {enc : TypeId × Value → H} {P : Program}
/-- An argument that is a slice of integers. -/
theorem open_rdi {w : World} {base b0 : Nat} {spare : Nat → Bool} {held : Bool} {r : Reach} {t e : TypeId} {k : IntKind} {v : Value} {d : DataW H} {ps : List MemPlace} (ht : P.underlying t = some (.slice e)) (he : P.underlying e = some (.int k)) (hc : P.cellsOf e = 1)
    (hv : Value.okWide P w r b0 t v) (h : DataW.Trod enc P w base spare held t v d ps) (hlt : ∀ x ∈ ps, x.block < w.heap.size) :
    ∃ A n c zs, v = .slice A n c ∧ n ≤ c ∧ c ≤ maxLen ∧ RdI w w.heap.size k A n zs ∧ ∀ z ∈ zs, (Lit.int k z).wf = true := by
  obtain ⟨a0, len, cap, rfl⟩ := okWide_slice ht hv
  obtain ⟨fuel, hf⟩ := h
  rcases open_ints ht he hc hf with ⟨hcs, hx⟩ | ⟨a, len', cap', zs, hcs, _, hl, hm, hz, hx, hcell, hwz⟩
  · have e : Value.slice a0 len cap = .slice none 0 0 := by simpa [Value.cells] using hcs
    injection e with e1 e2 e3
    subst e1 e2 e3
    exact ⟨none, 0, 0, [], rfl, Nat.le_refl _, by simp [maxLen], ⟨rfl, fun h => by omega⟩, by simp⟩
  · have e : Value.slice a0 len cap = .slice (some a) len' cap' := by simpa [Value.cells] using hcs
    injection e with e1 e2 e3
    subst e1 e2 e3
    have hle : len ≤ zs.length := by rw [hz]; split <;> omega
    refine ⟨some a, len, cap, zs.take len, rfl, hl, hm, ⟨by simp [hle], fun hn => ?_⟩, fun z hz' => hwz z (List.mem_of_mem_take hz')⟩
    obtain ⟨b, off, rfl, hc'⟩ := ints_at hcell (by omega)
    refine ⟨b, off, rfl, ?_, fun j hj => ?_⟩
    · have hx2 : ps = MemPlace.row ⟨b, off, none⟩ zs.length := by injection hx
      have : MemPlace.cell b off ∈ ps := by
        rw [hx2]
        exact MemPlace.mem_row.2 ⟨0, by omega, rfl⟩
      exact hlt _ this
    · rw [hc' j (by omega)]
      simp only [List.getD_eq_getElem?_getD, List.getElem?_take, if_pos hj]

/-- The arguments' readings outlast whatever leaves the old memory alone. -/
theorem trodAll_stays {W W' : World} (hl : laidOutB P = true) (sp : Nat → Bool) (hb : Below W.heap.size W W') :
    ∀ {ts : List TypeId} {vs : List Value} {ds : List (DataW H)} {p : List MemPlace}, (∀ t ∈ ts, P.readableRec t = true ∧ t < P.types.size) →
      DataW.TrodAll enc P W 0 (fun _ => true) true ts vs ds p → (∀ x ∈ p, x.block < W.heap.size) → (∀ x ∈ p, sp x.block = true) → DataW.TrodAll enc P W' 0 sp true ts vs ds p
  | [], [], [], _, _, h, _, _ => h
  | t :: ts, v :: vs, d :: ds, _, hr, h, hlt, hsp => by
    obtain ⟨p, q, h1, h2, rfl⟩ := h
    refine ⟨p, q, ?_, trodAll_stays hl sp hb (fun t ht => hr t (List.mem_cons_of_mem _ ht)) h2 (fun x hx => hlt x (List.mem_append_right _ hx)) (fun x hx => hsp x (List.mem_append_right _ hx)), rfl⟩
    have h3 := hr t (List.mem_cons_self ..)
    exact WideElems.Trod_stays hl h3.1 h3.2 h1 (fun x hx => hb.same (hlt x (List.mem_append_left _ hx))) (fun x hx => hsp x (List.mem_append_left _ hx))
  | [], _ :: _, _, _, _, h, _, _ => by cases h
  | [], [], _ :: _, _, _, h, _, _ => by cases h
  | _ :: _, [], _, _, _, h, _, _ => by cases h
  | _ :: _, _ :: _, [], _, _, h, _, _ => by cases h

/-- WHAT A LAW's ROW ASKS, out of what its walk gives: it returns true, and the old memory is as it was. -/
theorem law_post {f : Func} {s : ChangeSpec} {W W' : World} {args : Array Value} {ds gs : List (DataW H)} {before : List MemPlace} {tb : TypeId}
    (hl : laidOutB P = true) (hr : ∀ t ∈ f.params.toList, P.readableRec t = true ∧ t < P.types.size) (hv : s.vars = [])
    (hb4 : P.underlying tb = some .bool) (hrt : f.resultTypes = #[tb])
    (hW : DataW.Whole enc P f.params.toList s.vars false W args.toList ds gs before)
    (hs : s.fn H (ds ++ gs) = { results := [.lit (.bool true)], args := ds })
    (hb : Below W.heap.size W W') : s.post enc P f false true false false W args (.bool true) W' := by
  have hW' := hW
  have hlt : ∀ p ∈ before, p.block < W.heap.size := fun p hp => hW.lt p hp
  obtain ⟨p, q, hA, hV, hpq, hfz, hnd⟩ := hW
  rw [hv] at hV
  obtain ⟨hg, hq⟩ := trodVars_none hV
  subst hg
  subst hq
  rw [List.append_nil] at hpq
  subst hpq
  have hres : ∀ (b : Nat) (sp : Nat → Bool) (hd : Bool), DataW.TrodAll enc P W' b sp hd f.resultTypes.toList ((Value.bool true).resultList f.resultTypes.size) [.lit (.bool true)] [] := by
    intro b sp hd
    rw [hrt]
    exact trodAll_mk1 (shut_bool hb4 _)
  have hargs : ∀ sp : Nat → Bool, (∀ x ∈ before, sp x.block = true) → DataW.TrodAll enc P W' 0 sp true f.params.toList args.toList ds before := fun sp hsp =>
    trodAll_stays hl sp hb hr hA hlt hsp
  have hok : ∀ (j : Nat) (t : TypeId) (r : Value), f.resultTypes[j]? = some t → ((Value.bool true).resultList f.resultTypes.size)[j]? = some r → Value.okWide P W' .any 0 t r := by
    exact ok_one hrt rfl (okWide_bool_mk hb4 _)
  have hold : ∀ p ∈ before, (fun b => decide (b < W.heap.size)) p.block = true := fun p hp => by simpa using hlt p hp
  have hvs : ∀ sp : Nat → Bool, DataW.TrodVars enc P W' sp s.vars (s.fn H (ds ++ [])).vars [] := by
    intro sp; rw [hs, hv]; rfl
  have hres' : ∀ (b : Nat) (sp : Nat → Bool) (hd : Bool), DataW.TrodAll enc P W' b sp hd f.resultTypes.toList ((Value.bool true).resultList f.resultTypes.size) (s.fn H (ds ++ [])).results [] := by
    intro b sp hd; rw [hs]; exact hres b sp hd
  have hargs' : ∀ sp : Nat → Bool, (∀ x ∈ before, sp x.block = true) → DataW.TrodAll enc P W' 0 sp true f.params.toList args.toList (s.fn H (ds ++ [])).args before := by
    intro sp hsp; rw [hs]; exact hargs sp hsp
  refine ⟨ds, [], before, [], before, [], hW', hres' _ _ _, hargs' _ hold, hvs _, World.keptBut_mono (fun p hp => ⟨hp, Or.inr (by simpa using hp)⟩) (hb.frame (· ∈ before)), fun _ => ?_⟩
  refine ⟨hok, _, _, ([] ++ before) ++ [], ⟨[] ++ before, [], trodAll_append (hargs' _ (fun _ _ => rfl)) (hres' _ _ _), hvs _, rfl, ?_, ?_⟩, ?_⟩
  · intro b off hp
    have hin : MemPlace.cell b off ∈ before := by simpa using hp
    rw [hb.frozen (hlt _ hin)]
    exact hfz b off hin
  · intro ha; cases ha
  · intro p hp _
    simpa using hp
end
end Go.Proofs.Ytfmgmpelgnickaa

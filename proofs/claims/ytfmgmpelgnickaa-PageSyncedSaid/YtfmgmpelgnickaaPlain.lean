/-
  Chapter 31, plain: what disks are behind a write, a sync, a crash; the laws that hold of them. No program in sight.
-/
namespace Go.Proofs.Ytfmgmpelgnickaa
namespace Plain
abbrev Pg := List Int
abbrev Od := Int × List Int
def od0 : Od := (0, [])
def okP (b : Pg) : Bool := decide (b.length = 256)
def okW (n : Nat) (o : Od) : Bool := decide (0 ≤ o.1) && decide (o.1 < (n : Int)) && okP o.2
def rightB (ps : List Pg) (ws : List Od) : Bool := decide (1 ≤ ps.length) && decide (ps.length ≤ 4096) && ps.all okP && ws.all (okW ps.length)
/-- Bare: what Right asks. -/
structure Rt (ps : List Pg) (ws : List Od) : Prop where
  lo : 1 ≤ ps.length
  hi : ps.length ≤ 4096
  page : ∀ j, j < ps.length → (ps.getD j []).length = 256
  old : ∀ j, j < ws.length → 0 ≤ (ws.getD j od0).1 ∧ (ws.getD j od0).1 < (ps.length : Int) ∧ (ws.getD j od0).2.length = 256
theorem all_getD {α : Type} (l : List α) (p : α → Bool) (d : α) : l.all p = true ↔ ∀ j, j < l.length → p (l.getD j d) = true := by
  rw [List.all_eq_true]
  constructor
  · intro h j hj
    rw [List.getD_eq_getElem?_getD, List.getElem?_eq_getElem hj]
    exact h _ (List.getElem_mem _)
  · intro h x hx
    obtain ⟨j, hj, rfl⟩ := List.getElem_of_mem hx
    have := h j hj
    rwa [List.getD_eq_getElem?_getD, List.getElem?_eq_getElem hj] at this
theorem right_iff (ps : List Pg) (ws : List Od) : rightB ps ws = true ↔ Rt ps ws := by
  unfold rightB
  rw [Bool.and_eq_true, Bool.and_eq_true, Bool.and_eq_true, all_getD _ _ [], all_getD _ _ od0]
  simp only [okW, okP, Bool.and_eq_true, decide_eq_true_eq]
  constructor
  · rintro ⟨⟨⟨a, b⟩, c⟩, d⟩
    exact ⟨a, b, c, fun j hj => ⟨(d j hj).1.1, (d j hj).1.2, (d j hj).2⟩⟩
  · rintro ⟨a, b, c, d⟩
    exact ⟨⟨⟨a, b⟩, c⟩, fun j hj => ⟨⟨(d j hj).1, (d j hj).2.1⟩, (d j hj).2.2⟩⟩
theorem right_not {ps : List Pg} {ws : List Od} (h : rightB ps ws = false) : ¬ Rt ps ws := fun r => by rw [(right_iff ps ws).2 r] at h; cases h

theorem getD_set {α : Type} (l : List α) (a : Nat) (x d : α) (j : Nat) : (l.set a x).getD j d = if a = j ∧ j < l.length then x else l.getD j d := by
  simp only [List.getD_eq_getElem?_getD, List.getElem?_set]
  by_cases h : a = j
  · subst h
    by_cases h2 : a < l.length
    · simp [h2]
    · simp [h2, Nat.le_of_not_lt h2]
  · simp [h]
theorem getD_set_same {α : Type} {l : List α} {a : Nat} (h : a < l.length) (x d : α) : (l.set a x).getD a d = x := by rw [getD_set, if_pos ⟨rfl, h⟩]
theorem getD_set_other {α : Type} {l : List α} {a j : Nat} (h : a ≠ j) (x d : α) : (l.set a x).getD j d = l.getD j d := by rw [getD_set, if_neg (fun e => h e.1)]
theorem ext_getD {α : Type} (d : α) {a b : List α} (hl : a.length = b.length) (h : ∀ j, j < a.length → a.getD j d = b.getD j d) : a = b := by
  apply List.ext_getElem hl
  intro j h1 h2
  have := h j h1
  rwa [List.getD_eq_getElem?_getD, List.getD_eq_getElem?_getD, List.getElem?_eq_getElem h1, List.getElem?_eq_getElem h2] at this
theorem set_self {α : Type} (d : α) (l : List α) (a : Nat) : l.set a (l.getD a d) = l := by
  apply ext_getD d (by simp)
  intro j hj
  rw [getD_set]
  split
  · rename_i h; rw [h.1]
  · rfl
theorem drop_cons {α : Type} (d : α) {l : List α} {k : Nat} (h : k < l.length) : l.drop k = l.getD k d :: l.drop (k + 1) := by
  rw [List.getD_eq_getElem?_getD, List.getElem?_eq_getElem h]; exact List.drop_eq_getElem_cons h
theorem take_snoc {α : Type} (d : α) {l : List α} {k : Nat} (h : k < l.length) : l.take (k + 1) = l.take k ++ [l.getD k d] := by
  rw [List.getD_eq_getElem?_getD, List.getElem?_eq_getElem h, List.take_succ_eq_append_getElem h]; rfl

/-! ### Read and Write -/
def readE (ps : List Pg) (ws : List Od) (at_ : Int) : Int := if rightB ps ws then (if 0 ≤ at_ ∧ at_ < (ps.length : Int) then 0 else 4) else 1
def readB (ps : List Pg) (ws : List Od) (at_ : Int) : Pg := if readE ps ws at_ = 0 then ps.getD at_.toNat [] else []
def writeE (ps : List Pg) (ws : List Od) (at_ : Int) (b : Pg) : Int := if rightB ps ws = true ∧ b.length = 256 then (if 0 ≤ at_ ∧ at_ < (ps.length : Int) then 0 else 4) else 1
def writeP (ps : List Pg) (ws : List Od) (at_ : Int) (b : Pg) : List Pg := if writeE ps ws at_ b = 0 then ps.set at_.toNat b else []
def writeW (ps : List Pg) (ws : List Od) (at_ : Int) (b : Pg) : List Od := if writeE ps ws at_ b = 0 then ws ++ [(at_, ps.getD at_.toNat [])] else []
theorem readE_zero {ps : List Pg} {ws : List Od} {at_ : Int} : readE ps ws at_ = 0 ↔ Rt ps ws ∧ 0 ≤ at_ ∧ at_ < (ps.length : Int) := by
  unfold readE
  rw [← right_iff]
  by_cases h : rightB ps ws = true
  · rw [if_pos h]
    by_cases h2 : 0 ≤ at_ ∧ at_ < (ps.length : Int)
    · rw [if_pos h2]; simp [h, h2]
    · rw [if_neg h2]; simp [h2]
  · rw [if_neg h]; simp [h]
theorem writeE_zero {ps : List Pg} {ws : List Od} {at_ : Int} {b : Pg} : writeE ps ws at_ b = 0 ↔ Rt ps ws ∧ b.length = 256 ∧ 0 ≤ at_ ∧ at_ < (ps.length : Int) := by
  unfold writeE
  rw [← right_iff]
  by_cases h : rightB ps ws = true ∧ b.length = 256
  · rw [if_pos h]
    by_cases h2 : 0 ≤ at_ ∧ at_ < (ps.length : Int)
    · rw [if_pos h2]; simp [h, h2]
    · rw [if_neg h2]; simp [h2]
  · rw [if_neg h]
    constructor
    · intro e; cases e
    · intro e; exact absurd ⟨e.1, e.2.1⟩ h
theorem write_right {ps : List Pg} {ws : List Od} {a : Nat} {b : Pg} (h : Rt ps ws) (hb : b.length = 256) (ha : a < ps.length) : Rt (ps.set a b) (ws ++ [((a : Int), ps.getD a [])]) := by
  refine ⟨by simpa using h.lo, by simpa using h.hi, fun j hj => ?_, fun j hj => ?_⟩
  · rw [List.length_set] at hj
    rw [getD_set]
    split
    · exact hb
    · exact h.page j hj
  · rw [List.length_set]
    rw [List.length_append, List.length_singleton] at hj
    rcases Nat.lt_or_ge j ws.length with hlt | hge
    · rw [List.getD_eq_getElem?_getD, List.getElem?_append_left hlt, ← List.getD_eq_getElem?_getD]
      exact h.old j hlt
    · obtain rfl : j = ws.length := by omega
      rw [List.getD_eq_getElem?_getD, List.getElem?_append_right (Nat.le_refl _), Nat.sub_self]
      exact ⟨by simp, by simpa using ha, h.page a ha⟩

/-! ### Synced, Wrote, Crash -/
def synced (ps : List Pg) (ws : List Od) : List Pg := ws.foldr (fun o l => l.set o.1.toNat o.2) ps
theorem synced_nil (ps : List Pg) : synced ps [] = ps := rfl
theorem synced_len (ps : List Pg) (ws : List Od) : (synced ps ws).length = ps.length := by
  induction ws with
  | nil => rfl
  | cons o r ih => show ((synced ps r).set _ _).length = _; rw [List.length_set, ih]
theorem synced_cons (ps : List Pg) (o : Od) (r : List Od) : synced ps (o :: r) = (synced ps r).set o.1.toNat o.2 := rfl
theorem synced_drop (ps : List Pg) {ws : List Od} {k : Nat} (h : k < ws.length) : synced ps (ws.drop k) = (synced ps (ws.drop (k + 1))).set (ws.getD k od0).1.toNat (ws.getD k od0).2 := by
  rw [drop_cons od0 h, synced_cons]
theorem synced_write (ps : List Pg) (ws : List Od) (a : Nat) (b : Pg) : synced (ps.set a b) (ws ++ [((a : Int), ps.getD a [])]) = synced ps ws := by
  unfold synced
  rw [List.foldr_append]
  congr 1
  show ((ps.set a b).set (Int.toNat (a : Int)) (ps.getD a [])) = ps
  rw [Int.toNat_natCast, List.set_set, set_self]
def wroteAt (ps : List Pg) : List Od → Int → Pg
  | [], p => ps.getD p.toNat []
  | o :: r, p => if o.1 = p then o.2 else wroteAt ps r p
/-- What the k-th write wrote. -/
def wrote (ps : List Pg) (ws : List Od) (k : Nat) : Pg := wroteAt ps (ws.drop (k + 1)) (ws.getD k od0).1
def torn (b was : Pg) (cut : Nat) : Pg := b.take cut ++ was.drop cut
def cutAt (cuts : List Int) (k : Nat) : Nat := if k < cuts.length ∧ 0 ≤ cuts.getD k 0 ∧ cuts.getD k 0 < 256 then (cuts.getD k 0).toNat else 256
theorem cutAt_le (cuts : List Int) (k : Nat) : cutAt cuts k ≤ 256 := by unfold cutAt; split <;> omega
def crashTo (ps : List Pg) (ws : List Od) (cuts : List Int) : Nat → List Pg
  | 0 => synced ps ws
  | k + 1 => (crashTo ps ws cuts k).set (ws.getD k od0).1.toNat (torn (wrote ps ws k) ((crashTo ps ws cuts k).getD (ws.getD k od0).1.toNat []) (cutAt cuts k))
def crashP (ps : List Pg) (ws : List Od) (cuts : List Int) : List Pg := if rightB ps ws then crashTo ps ws cuts ws.length else ps
def crashW (ps : List Pg) (ws : List Od) : List Od := if rightB ps ws then [] else ws
theorem crashTo_len (ps : List Pg) (ws : List Od) (cuts : List Int) (k : Nat) : (crashTo ps ws cuts k).length = ps.length := by
  induction k with
  | zero => exact synced_len ps ws
  | succ k ih => show (List.set _ _ _).length = _; rw [List.length_set, ih]
theorem torn_len {b was : Pg} {cut : Nat} (hb : b.length = 256) (hw : was.length = 256) (hc : cut ≤ 256) : (torn b was cut).length = 256 := by
  unfold torn; rw [List.length_append, List.length_take, List.length_drop, hb, hw]; omega
theorem torn_all {b was : Pg} (hb : b.length = 256) (hw : was.length = 256) : torn b was 256 = b := by
  unfold torn; rw [List.take_of_length_le (by omega), List.drop_of_length_le (by omega), List.append_nil]
theorem torn_none (b was : Pg) : torn b was 0 = was := by unfold torn; simp
theorem torn_get {b was : Pg} {cut : Nat} (hb : b.length = 256) (hc : cut ≤ 256) (j : Nat) : (torn b was cut).getD j 0 = if j < cut then b.getD j 0 else was.getD j 0 := by
  unfold torn
  simp only [List.getD_eq_getElem?_getD]
  by_cases h : j < cut
  · rw [if_pos h, List.getElem?_append_left (by rw [List.length_take]; omega), List.getElem?_take, if_pos h]
  · rw [if_neg h, List.getElem?_append_right (by rw [List.length_take]; omega), List.getElem?_drop, List.length_take, hb, Nat.min_eq_left hc, show cut + (j - cut) = j by omega]
theorem all_of_mem {ps : List Pg} {ws : List Od} (h : Rt ps ws) {o : Od} (ho : o ∈ ws) : 0 ≤ o.1 ∧ o.1 < (ps.length : Int) ∧ o.2.length = 256 := by
  obtain ⟨j, hj, rfl⟩ := List.getElem_of_mem ho
  have := h.old j hj
  rwa [List.getD_eq_getElem?_getD, List.getElem?_eq_getElem hj] at this
theorem Rt.sub {ps : List Pg} {ws r : List Od} (h : Rt ps ws) (hr : ∀ o ∈ r, o ∈ ws) : Rt ps r :=
  ⟨h.lo, h.hi, h.page, fun j hj => by
    have := all_of_mem h (hr (r[j]) (List.getElem_mem hj))
    rwa [List.getD_eq_getElem?_getD, List.getElem?_eq_getElem hj]⟩
theorem wroteAt_synced {ps : List Pg} {r : List Od} (h : Rt ps r) {p : Int} (hp : 0 ≤ p ∧ p < (ps.length : Int)) : wroteAt ps r p = (synced ps r).getD p.toNat [] := by
  induction r with
  | nil => rfl
  | cons o r ih =>
    have hr : Rt ps r := h.sub (fun x hx => List.mem_cons_of_mem _ hx)
    have ho := all_of_mem h (List.mem_cons_self (a := o) (l := r))
    rw [synced_cons, getD_set, synced_len]
    unfold wroteAt
    by_cases e : o.1 = p
    · rw [if_pos e, if_pos ⟨by rw [e], by omega⟩]
    · rw [if_neg e, if_neg (fun q => e (by omega)), ih hr]
theorem wrote_synced {ps : List Pg} {ws : List Od} (h : Rt ps ws) {k : Nat} (hk : k < ws.length) : wrote ps ws k = (synced ps (ws.drop (k + 1))).getD (ws.getD k od0).1.toNat [] :=
  wroteAt_synced (h.sub fun _ hx => List.mem_of_mem_drop hx) ⟨(h.old k hk).1, (h.old k hk).2.1⟩
theorem synced_page {ps : List Pg} {r : List Od} (h : Rt ps r) {j : Nat} (hj : j < ps.length) : ((synced ps r).getD j []).length = 256 := by
  induction r with
  | nil => exact h.page j hj
  | cons o r ih =>
    rw [synced_cons, getD_set]
    split
    · exact (all_of_mem h (List.mem_cons_self (a := o) (l := r))).2.2
    · exact ih (h.sub (fun x hx => List.mem_cons_of_mem _ hx))
theorem wrote_len {ps : List Pg} {ws : List Od} (h : Rt ps ws) {k : Nat} (hk : k < ws.length) : (wrote ps ws k).length = 256 := by
  rw [wrote_synced h hk]
  have := h.old k hk
  exact synced_page (h.sub fun _ hx => List.mem_of_mem_drop hx) (by omega)
theorem crashTo_page {ps : List Pg} {ws : List Od} (h : Rt ps ws) (cuts : List Int) {k : Nat} (hk : k ≤ ws.length) {j : Nat} (hj : j < ps.length) : ((crashTo ps ws cuts k).getD j []).length = 256 := by
  induction k generalizing j with
  | zero => exact synced_page h hj
  | succ k ih =>
    have := h.old k (by omega)
    show ((List.set _ _ _).getD j []).length = 256
    rw [getD_set]
    split
    · exact torn_len (wrote_len h (by omega)) (ih (by omega) (by omega)) (cutAt_le _ _)
    · exact ih (by omega) hj
theorem crash_right {ps : List Pg} {ws : List Od} (h : Rt ps ws) (cuts : List Int) : Rt (crashTo ps ws cuts ws.length) [] :=
  ⟨by rw [crashTo_len]; exact h.lo, by rw [crashTo_len]; exact h.hi, fun j hj => crashTo_page h cuts (Nat.le_refl _) (by rwa [crashTo_len] at hj), fun j hj => by simp at hj⟩
/-- Where all stay a crash is a sync. -/
theorem crash_stays {ps : List Pg} {ws : List Od} (h : Rt ps ws) {cuts : List Int} (hc : ∀ k, k < ws.length → cutAt cuts k = 256) {k : Nat} (hk : k ≤ ws.length) : crashTo ps ws cuts k = synced ps (ws.drop k) := by
  induction k with
  | zero => rfl
  | succ k ih =>
    have hlt : k < ws.length := by omega
    have ho := h.old k hlt
    have hpg : (crashTo ps ws cuts k).getD (ws.getD k od0).1.toNat [] = (ws.getD k od0).2 := by
      rw [ih (by omega), synced_drop ps hlt, getD_set_same (by rw [synced_len]; omega)]
    show (crashTo ps ws cuts k).set _ _ = _
    rw [hpg, hc k hlt, torn_all (wrote_len h hlt) ho.2.2, ih (by omega), synced_drop ps hlt, List.set_set, wrote_synced h hlt, set_self]
/-- Where all are lost the disk is what it was. -/
theorem crash_none {ps : List Pg} {ws : List Od} {cuts : List Int} (hc : ∀ k, k < ws.length → cutAt cuts k = 0) {k : Nat} (hk : k ≤ ws.length) : crashTo ps ws cuts k = synced ps ws := by
  induction k with
  | zero => rfl
  | succ k ih =>
    show (crashTo ps ws cuts k).set _ _ = _
    rw [hc k (by omega), torn_none, set_self, ih (by omega)]
/-- Each byte behind a crash is one that was synced, or written. -/
theorem crash_byte {ps : List Pg} {ws : List Od} (h : Rt ps ws) (cuts : List Int) {k : Nat} (hk : k ≤ ws.length) (a i : Nat) :
    ((crashTo ps ws cuts k).getD a []).getD i 0 = ((synced ps ws).getD a []).getD i 0 ∨ ∃ j, j < k ∧ (ws.getD j od0).1 = (a : Int) ∧ ((crashTo ps ws cuts k).getD a []).getD i 0 = (wrote ps ws j).getD i 0 := by
  induction k with
  | zero => exact .inl rfl
  | succ k ih =>
    have ho := h.old k (by omega)
    show ((List.set _ _ _).getD a []).getD i 0 = _ ∨ ∃ j, j < k + 1 ∧ _ ∧ ((List.set _ _ _).getD a []).getD i 0 = _
    rw [getD_set]
    by_cases e : (ws.getD k od0).1.toNat = a ∧ a < (crashTo ps ws cuts k).length
    · rw [if_pos e, torn_get (wrote_len h (by omega)) (cutAt_le _ _)]
      split
      · exact .inr ⟨k, by omega, by omega, rfl⟩
      · rw [e.1]
        rcases ih (by omega) with q | ⟨j, hj, q⟩
        · exact .inl q
        · exact .inr ⟨j, by omega, q⟩
    · rw [if_neg e]
      rcases ih (by omega) with q | ⟨j, hj, q⟩
      · exact .inl q
      · exact .inr ⟨j, by omega, q⟩
theorem crash_empty (ps : List Pg) (cuts : List Int) : crashP ps [] cuts = ps ∧ crashW ps [] = [] := by
  unfold crashP crashW
  split <;> exact ⟨rfl, rfl⟩
end Plain
end Go.Proofs.Ytfmgmpelgnickaa

/-
  The walks over chapter 5 (vector): the functions that only read, of package vector and of its reference.
-/
import Derived.Test.YtgjhhnendondcaaBase
import Derived.WalkLawsBesides
import Derived.WalkSpells
import Derived.Outline
import Derived.Handy
import Derived.BigQuiet
import Derived.Deep.QuietTactic
namespace Go.Proofs.Ytgjhhnendondcaa
open Go.RowKit
set_option linter.unusedSimpArgs false
set_option linter.unusedVariables false

/-- A number of 64 bits. -/
def I64 (z : Int) : Prop := -9223372036854775808 ≤ z ∧ z ≤ 9223372036854775807
/-- A vector in memory: a slice that reads as the integers zs. -/
def Vec (w : World) (A : Option Addr) (n c : Nat) (zs : List Int) : Prop := RdI w w.heap.size .i64 A n zs ∧ n ≤ c ∧ c ≤ maxLen ∧ (A = none → c = 0) ∧ ∀ z ∈ zs, I64 z
theorem Vec.len {w : World} {A : Option Addr} {n c : Nat} {zs : List Int} (h : Vec w A n c zs) : zs.length = n := h.1.1
theorem Vec.max {w : World} {A : Option Addr} {n c : Nat} {zs : List Int} (h : Vec w A n c zs) : n ≤ 9223372036854775807 := Nat.le_trans h.2.1 (by have := h.2.2.1; unfold maxLen at this; exact this)
theorem Vec.below {w w' : World} {A : Option Addr} {n c : Nat} {zs : List Int} (h : Vec w A n c zs) (hb : Below w.heap.size w w') : Vec w' A n c zs :=
  ⟨h.1.keep hb.size fun b o hlt => hb.cell (p := ⟨b, o, none⟩) hlt, h.2⟩
theorem Vec.at_ {w : World} {A : Option Addr} {n c : Nat} {zs : List Int} (h : Vec w A n c zs) {k : Nat} (hk : k < n) : ∃ b off, A = some ⟨b, off, none⟩ ∧ w.cell? ⟨b, off + k, none⟩ = some (.int .i64 (zs.getD k 0)) := by
  obtain ⟨b, off, e, _, hc⟩ := h.1.2 (by omega)
  exact ⟨b, off, e, hc k hk⟩
theorem getD_in {zs : List Int} (h : ∀ z ∈ zs, I64 z) (k : Nat) : I64 (zs.getD k 0) := by
  by_cases hk : k < zs.length
  · rw [List.getD_eq_getElem?_getD, List.getElem?_eq_getElem hk]; exact h _ (List.getElem_mem hk)
  · rw [List.getD_eq_getElem?_getD, List.getElem?_eq_none (by omega)]; exact ⟨by decide, by decide⟩

/-- What a vector has of a device. -/
def ofL (zs : List Int) (dev : Int) : Int := if 1 ≤ dev ∧ dev ≤ zs.length then zs.getD (dev - 1).toNat 0 else 0
theorem ofL_at (zs : List Int) (k : Nat) : ofL zs ((k : Int) + 1) = zs.getD k 0 := by
  unfold ofL
  split
  · congr 1; omega
  · rw [List.getD_eq_getElem?_getD, List.getElem?_eq_none (by omega)]; rfl
theorem ofL_in {zs : List Int} (h : ∀ z ∈ zs, I64 z) (dev : Int) : I64 (ofL zs dev) := by
  unfold ofL; split
  · exact getD_in h _
  · exact ⟨by decide, by decide⟩
section
variable {w : World} {A : Option Addr} {n c : Nat} {zs : List Int}
theorem of_dev (dev : Int) (hd : I64 dev) (h : Vec w A n c zs) : Calls Try.prog 15 #[.slice A n c, .int .i64 dev] w fun e w' => e = .returned (.int .i64 (ofL zs dev)) ∧ w = w' := by
  have hn := h.max
  have hl := hide h.len
  obtain ⟨hd1, hd2⟩ := hd
  by_cases h1 : 1 ≤ dev
  · by_cases h2 : dev ≤ n
    · obtain ⟨k, rfl⟩ : ∃ k : Nat, dev = (k : Int) + 1 := ⟨(dev - 1).toNat, by omega⟩
      obtain ⟨b, off, rfl, hc⟩ := h.at_ (k := k) (by omega)
      have e := hide (ofL_at zs k)
      rw [e.out]
      have hk : k < n := by omega
      have g1 : ¬ ((k : Int) + 1 < 1) := by omega
      have g2 : ¬ ((n : Int) < (k : Int) + 1) := by omega
      clear h h1 h2 hd1 hd2
      go_enter Try.func15, Try.ntmps15
      go_wp2
      go_ret
      exact ⟨ret_i (by simp), rfl⟩
    · have e : ofL zs dev = 0 := by unfold ofL; rw [if_neg (by rw [hl.out]; omega)]
      rw [e]
      clear h e
      go_enter Try.func15, Try.ntmps15
      go_wp2
      go_ret
      exact ⟨rfl, rfl⟩
  · have e : ofL zs dev = 0 := by unfold ofL; rw [if_neg (by omega)]
    rw [e]
    clear h e
    go_enter Try.func15, Try.ntmps15
    go_wp2
    go_ret
    exact ⟨rfl, rfl⟩
theorem ref_of_dev (dev : Int) (hd : I64 dev) (h : Vec w A n c zs) : Calls Try.prog 16 #[.slice A n c, .int .i64 dev] w fun e w' => e = .returned (.int .i64 (ofL zs dev)) ∧ w = w' := by
  have hn := h.max
  have hl := hide h.len
  obtain ⟨hd1, hd2⟩ := hd
  by_cases h1 : 1 ≤ dev
  · by_cases h2 : dev ≤ n
    · obtain ⟨k, rfl⟩ : ∃ k : Nat, dev = (k : Int) + 1 := ⟨(dev - 1).toNat, by omega⟩
      obtain ⟨b, off, rfl, hc⟩ := h.at_ (k := k) (by omega)
      have e := hide (ofL_at zs k)
      rw [e.out]
      clear h
      go_enter Try.func16, Try.ntmps16
      go_wp2
      go_ret
      exact ⟨ret_i (by simp), rfl⟩
    · have e : ofL zs dev = 0 := by unfold ofL; rw [if_neg (by rw [hl.out]; omega)]
      rw [e]
      clear h e
      go_enter Try.func16, Try.ntmps16
      go_wp2
      go_ret
      exact ⟨rfl, rfl⟩
  · have e : ofL zs dev = 0 := by unfold ofL; rw [if_neg (by omega)]
    rw [e]
    clear h e
    go_enter Try.func16, Try.ntmps16
    go_wp2
    go_ret
    exact ⟨rfl, rfl⟩
/-- Is a dot known? -/
def hasB (zs : List Int) (dev seq : Int) : Bool := decide (1 ≤ seq) && decide (seq ≤ ofL zs dev)
theorem has_any (dev seq : Int) (hd : I64 dev) (h : Vec w A n c zs) : Calls Try.prog 17 #[.slice A n c, .agg #[.int .i64 dev, .int .i64 seq]] w fun e w' => e = .returned (.bool (hasB zs dev seq)) ∧ Below w.heap.size w w' := by
  have H := fun W (hb : Below w.heap.size w W) => hide (of_dev dev hd (h.below hb))
  clear h hd
  by_cases h1 : 1 ≤ seq
  · go_enter Try.func17, Try.ntmps17
    go_wp2_with fail
    go_quiet ((go_at_call 15; exact Calls.quiet_of_same (quiet_left (H _ (by (try refine below_drewN ?_ _); go_grown)).out)))
    go_wp2
    go_ret
    exact ⟨ret_b (by simp [hasB, h1]), below_drewN (by go_grown) _⟩
  · have hd1 : decide (1 ≤ seq) = false := by simpa using h1
    go_enter Try.func17, Try.ntmps17
    go_wp2_with fail
    go_quiet (fail)
    go_wp2
    go_ret
    exact ⟨ret_b (by unfold hasB; rw [hd1]; rfl), below_drewN (by go_grown) _⟩
theorem ref_has_any (dev seq : Int) (hd : I64 dev) (h : Vec w A n c zs) : Calls Try.prog 18 #[.slice A n c, .agg #[.int .i64 dev, .int .i64 seq]] w fun e w' => e = .returned (.bool (hasB zs dev seq)) ∧ Below w.heap.size w w' := by
  have H := fun W (hb : Below w.heap.size w W) => hide (ref_of_dev dev hd (h.below hb))
  clear h hd
  by_cases h1 : 1 ≤ seq
  · go_enter Try.func18, Try.ntmps18
    go_wp2_with fail
    go_quiet ((go_at_call 16; exact Calls.quiet_of_same (quiet_left (H _ (by (try refine below_drewN ?_ _); go_grown)).out)))
    go_wp2
    go_ret
    exact ⟨ret_b (by simp [hasB, h1]), below_drewN (by go_grown) _⟩
  · have hd1 : decide (1 ≤ seq) = false := by simpa using h1
    go_enter Try.func18, Try.ntmps18
    go_wp2_with fail
    go_quiet (fail)
    go_wp2
    go_ret
    exact ⟨ret_b (by unfold hasB; rw [hd1]; rfl), below_drewN (by go_grown) _⟩
end
theorem few_any (A B : Option Addr) (n m c d : Nat) (hn : n ≤ 9223372036854775807) (hm : m ≤ 9223372036854775807) (w : World) : Calls Try.prog 11 #[.slice A n c, .slice B m d] w fun e w' => e = .returned (.bool (decide (n ≤ 100) && decide (m ≤ 100))) ∧ w = w' := by
  by_cases h1 : n ≤ 100 <;> by_cases h2 : m ≤ 100
  all_goals
    have g1 : decide ((n : Int) ≤ 100) = decide (n ≤ 100) := by simp; omega
    have g2 : decide ((m : Int) ≤ 100) = decide (m ≤ 100) := by simp; omega
    simp only [h1, h2, decide_true, decide_false] at g1 g2
    go_enter Try.func11, Try.ntmps11
    go_wp2
    go_ret
    exact ⟨ret_b (by simp [h1, h2]), rfl⟩

/-! ### May a vector be? -/
def badB (z : Int) : Bool := decide (z < 0) || decide (1048576 < z)
theorem bad_any (z : Int) (w : World) : Calls Try.prog 36 #[.int .i64 z] w fun e w' => e = .returned (.bool (badB z)) ∧ w = w' := by
  by_cases h1 : z < 0
  all_goals
    go_enter Try.func36, Try.ntmps36
    go_wp2
    go_ret
    exact ⟨ret_b (by simp [badB, h1]; try omega), rfl⟩
/-- The first place of a number that may not be; -1 where there is none. -/
def firstBad (zs : List Int) : Int := match zs.findIdx? badB with | some k => k | none => -1
theorem find_none (zs : List Int) (h : ∀ j, j < zs.length → badB (zs.getD j 0) = false) : firstBad zs = -1 := by
  have : zs.findIdx? badB = none := by
    rw [List.findIdx?_eq_none_iff]
    intro x hx
    obtain ⟨j, hj, rfl⟩ := List.getElem_of_mem hx
    have := h j hj
    rw [List.getD_eq_getElem?_getD, List.getElem?_eq_getElem hj] at this
    exact this
  unfold firstBad; rw [this]
theorem find_some (zs : List Int) (k : Nat) (hk : k < zs.length) (h : ∀ j, j < k → badB (zs.getD j 0) = false) (hb : badB (zs.getD k 0) = true) : firstBad zs = k := by
  have : zs.findIdx? badB = some k := by
    rw [List.findIdx?_eq_some_iff_getElem]
    refine ⟨hk, ?_, ?_⟩
    · rw [List.getD_eq_getElem?_getD, List.getElem?_eq_getElem hk] at hb; exact hb
    · intro j hj
      have := h j hj
      rw [List.getD_eq_getElem?_getD, List.getElem?_eq_getElem (by omega)] at this
      simpa using this
  unfold firstBad; rw [this]
theorem firstBad_in (zs : List Int) : (firstBad zs = -1 ∧ zs.any badB = false) ∨ (0 ≤ firstBad zs ∧ zs.any badB = true) := by
  unfold firstBad
  cases e : zs.findIdx? badB with
  | none =>
    left
    rw [List.findIdx?_eq_none_iff] at e
    exact ⟨rfl, by simpa using e⟩
  | some k =>
    right
    rw [List.findIdx?_eq_some_iff_getElem] at e
    obtain ⟨hk, hb, _⟩ := e
    exact ⟨by simp, by rw [List.any_eq_true]; exact ⟨_, List.getElem_mem hk, hb⟩⟩
section
variable {w : World} {A : Option Addr} {n c : Nat} {zs : List Int}
theorem index_any (h : Vec w A n c zs) : Calls Try.prog 46 #[.slice A n c, .func (.func 36) #[] #[]] w fun e w' => e = .returned (.int .i64 (firstBad zs)) ∧ w = w' := by
  have hn := h.max
  have hl := hide h.len
  replace h := hide h
  go_enter Try.func46, Try.ntmps46
  go_wp2
  go_loop [5, 8] (fun _ i => ∃ k : Nat, k ≤ n ∧ i = .int .i64 k ∧ Hid (∀ j, j < k → badB (zs.getD j 0) = false)) (fun _ i => n - (intOf i).toNat)
  case atStart => exact ⟨0, by omega, rfl, fun j hj => by omega⟩
  case round =>
    obtain ⟨k, hk, rfl, hd⟩ := hrel
    by_cases hlt : k < n
    · obtain ⟨b, off, rfl, hcell⟩ := h.out.at_ hlt
      cases hb : badB (zs.getD k 0) with
      | true =>
        have HF := hide (find_some zs k (by rw [hl.out]; exact hlt) hd.out hb)
        have hb' : badB (zs[k]?.getD 0) = true := by simpa using hb
        clear hb
        go_wp2_with (go_at_call 36; refine (bad_any _ _).mono ?_; rintro e w' ⟨rfl, rfl⟩)
        go_ret
        exact ⟨ret_i HF.out.symm, rfl⟩
      | false =>
        have hb' : badB (zs[k]?.getD 0) = false := by simpa using hb
        have HB := hide hb
        clear hb
        go_wp2_with (go_at_call 36; refine (bad_any _ _).mono ?_; rintro e w' ⟨rfl, rfl⟩)
        go_round
        case rel => exact ⟨k + 1, by omega, by go_num, fun j hj => by
          by_cases e : j = k
          · rw [e]; exact HB.out
          · exact hd.out j (by omega)⟩
        case measure => simp [intOf]; omega
    · obtain rfl : k = n := by omega
      have HF := hide (find_none zs (by rw [hl.out]; exact hd.out))
      go_wp2
      go_ret
      exact ⟨ret_i HF.out.symm, rfl⟩
theorem contains_any (h : Vec w A n c zs) : Calls Try.prog 37 #[.slice A n c, .func (.func 36) #[] #[]] w fun e w' => e = .returned (.bool (zs.any badB)) ∧ w = w' := by
  have H := hide (index_any h)
  clear h
  rcases firstBad_in zs with ⟨e1, e2⟩ | ⟨e1, e2⟩
  · rw [e1] at H
    rw [e2]
    clear e1 e2
    go_enter Try.func37, Try.ntmps37
    go_wp2_with fail
    refine H.out.mono ?_
    rintro e w' ⟨rfl, rfl⟩
    go_wp2_with fail
    go_ret
    exact ⟨rfl, rfl⟩
  · rw [e2]
    clear e2
    go_enter Try.func37, Try.ntmps37
    go_wp2_with fail
    refine H.out.mono ?_
    rintro e w' ⟨rfl, rfl⟩
    go_wp2_with fail
    go_ret
    exact ⟨ret_b (by simp [e1]), rfl⟩
def rightB (zs : List Int) : Bool := decide (zs.length ≤ 64) && !zs.any badB
theorem right_any (h : Vec w A n c zs) : Calls Try.prog 13 #[.slice A n c] w fun e w' => e = .returned (.bool (rightB zs)) ∧ w = w' := by
  have H := hide (contains_any h)
  have hn := h.max
  have hl := hide h.len
  clear h
  by_cases h1 : n ≤ 64
  · have g1 : (n : Int) ≤ 64 := by omega
    go_enter Try.func13, Try.ntmps13
    go_wp2_with (go_at_call 37; refine H.out.mono ?_; rintro e w' ⟨rfl, rfl⟩)
    go_ret
    exact ⟨ret_b (by simp [rightB, hl.out, h1]), rfl⟩
  · have g1 : ¬ (n : Int) ≤ 64 := by omega
    go_enter Try.func13, Try.ntmps13
    go_wp2
    go_ret
    exact ⟨ret_b (by simp [rightB, hl.out, h1]), rfl⟩
theorem bad_split (zs : List Int) (k : Nat) (hk : k < zs.length) (hd : (zs.take k).any badB = false) (hb : badB (zs.getD k 0) = false) : (zs.take (k + 1)).any badB = false := by
  rw [List.take_succ_eq_append_getElem hk, List.any_append, hd]
  rw [List.getD_eq_getElem?_getD, List.getElem?_eq_getElem hk] at hb
  simpa using hb
theorem any_of_bad (zs : List Int) (k : Nat) (hk : k < zs.length) (hb : badB (zs.getD k 0) = true) : zs.any badB = true := by
  rw [List.any_eq_true]
  rw [List.getD_eq_getElem?_getD, List.getElem?_eq_getElem hk] at hb
  exact ⟨_, List.getElem_mem hk, hb⟩
theorem ref_right_any (h : Vec w A n c zs) : Calls Try.prog 14 #[.slice A n c] w fun e w' => e = .returned (.bool (rightB zs)) ∧ w = w' := by
  have hn := h.max
  have hl := hide h.len
  replace h := hide h
  go_enter Try.func14, Try.ntmps14
  go_wp2
  go_loop [3] (fun i => ∃ k : Nat, k ≤ n ∧ i = .int .i64 k ∧ Hid ((zs.take k).any badB = false)) (fun i => n - (intOf i).toNat)
  case atStart => exact ⟨0, by omega, rfl, hide (by simp)⟩
  case round =>
    obtain ⟨k, hk, rfl, hd⟩ := hrel
    by_cases hlt : k < n
    · obtain ⟨b, off, rfl, hcell⟩ := h.out.at_ hlt
      by_cases h1 : zs[k]?.getD 0 < 0
      · have HF := hide (any_of_bad zs k (by rw [hl.out]; exact hlt) (by simp [badB, h1]))
        go_wp2
        go_ret
        exact ⟨ret_b (by unfold rightB; rw [HF.out]; simp), rfl⟩
      · by_cases h2 : 1048576 < zs[k]?.getD 0
        · have HF := hide (any_of_bad zs k (by rw [hl.out]; exact hlt) (by simp [badB, h2]))
          go_wp2
          go_ret
          exact ⟨ret_b (by unfold rightB; rw [HF.out]; simp), rfl⟩
        · have HB := hide (bad_split zs k (by rw [hl.out]; exact hlt) hd.out (by simp [badB]; omega))
          go_wp2
          go_round
          case rel => exact ⟨k + 1, by omega, by go_num, HB⟩
          case measure => simp [intOf]; omega
    · obtain rfl : k = n := by omega
      have e : zs.any badB = false := by rw [← hd.out, List.take_of_length_le (by rw [hl.out]; omega)]
      replace e := hide e
      go_wp2
      all_goals go_ret
      all_goals exact ⟨ret_b (by unfold rightB; rw [e.out, hl.out]; simp; try omega), rfl⟩
end
end Go.Proofs.Ytgjhhnendondcaa

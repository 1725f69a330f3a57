/-
  Chapter 31: Few and Right, by the reference.
-/
import Derived.Test.YtfmgmpelgnickaaWrite2
import Derived.Test.YtfmgmpelgnickaaCalm
namespace Go.Proofs.Ytfmgmpelgnickaa
open Go.RowKit Plain
set_option linter.unusedSimpArgs false
set_option linter.unusedVariables false
attribute [local go_sem ↓] Go.wp_at_zero Go.wp_at_succ

def fewB (ps : List Pg) (ws : List Od) : Bool := decide ((∀ j, j < ps.length → j < 50 → (ps.getD j []).length ≤ 600) ∧ (∀ j, j < ws.length → j < 50 → (ws.getD j od0).2.length ≤ 600) ∧ ps.length < 50 ∧ ws.length < 50)
theorem few_small {ps : List Pg} {ws : List Od} (h : fewB ps ws = true) : ps.length < 50 ∧ ws.length < 50 := (of_decide_eq_true h).2.2

set_option maxRecDepth 10000 in
set_option maxHeartbeats 1000000 in
theorem few_any {A B : Option Addr} {n c m d : Nat} {ps : List Pg} {ws : List Od} {w : World} (h : Pags w A n c ps) (g : Olds w B m d ws) (b : Bool) (hb : fewB ps ws = b) :
    Calls Try.prog 9 #[.agg #[.slice A n c, .slice B m d]] w fun e w' => e = .returned (.bool b) ∧ Below w.heap.size w w' := by
  subst hb
  have g0 : Below w.heap.size w (w.alloc (.cells #[.slice A n c, .slice B m d] 25)) := by go_grown
  have hn := h.max
  have hm := g.max
  have hl := hide h.1
  have gl := hide g.1
  have hf : Hid (fewB ps ws = decide ((∀ j, j < n → j < 50 → (ps.getD j []).length ≤ 600) ∧ (∀ j, j < m → j < 50 → (ws.getD j od0).2.length ≤ 600) ∧ n < 50 ∧ m < 50)) := hide (by unfold fewB; rw [hl.out, gl.out])
  obtain ⟨fb, hfb⟩ : ∃ x, x = fewB ps ws := ⟨_, rfl⟩
  rw [← hfb] at hf ⊢
  clear hfb
  replace h := hide (h.below g0)
  replace g := hide (g.below g0)
  replace g0 := hide g0
  go_enter Try.func9, Try.ntmps9
  go_wp2_with fail
  go_loop [3] (fun i => ∃ k : Nat, k ≤ n ∧ k ≤ 50 ∧ i = .int .i64 k ∧ Hid (∀ j, j < k → (ps.getD j []).length ≤ 600)) (fun i => n - (intOf i).toNat)
  case atStart => exact ⟨0, by omega, by omega, rfl, hide (fun j hj => by omega)⟩
  case round =>
    obtain ⟨k, hk, hk5, rfl, hd⟩ := hrel
    by_cases hlt : k < n ∧ k < 50
    · obtain ⟨lt1, lt2⟩ := hlt
      obtain ⟨b, off, Aj, nj, cj, rfl, hbk, p1, p2⟩ := h.out.at_ (Below.refl _ _) lt1
      have hk0 : (0 : Int) ≤ (k : Int) := by omega
      have hkn : (k : Int) < (n : Int) := by omega
      have hk50 : (k : Int) < 50 := by omega
      have hlj := hide p2.len
      clear p2
      by_cases big : 600 < nj
      · have hno : Hid (fb = false) := hide (by rw [hf.out]; exact decide_eq_false (fun q => by have := q.1 k lt1 lt2; have := hlj.out; omega))
        have bigI : (600 : Int) < (nj : Int) := by omega
        clear hd hf
        go_wp2_with fail
        go_ret
        exact ⟨ret_b hno.out.symm, g0.out⟩
      · have bigI : ¬ (600 : Int) < (nj : Int) := by omega
        have hnext : Hid (∀ j, j < k + 1 → (ps.getD j []).length ≤ 600) := hide (fun j hj => by
          by_cases e : j = k
          · rw [e]; have := hlj.out; omega
          · exact hd.out j (by omega))
        clear hd
        go_wp2_with fail
        go_round
        case rel => exact ⟨k + 1, by omega, by omega, by go_num, hnext⟩
        case measure => simp [intOf]; omega
    · have hall : Hid (∀ j, j < n → j < 50 → (ps.getD j []).length ≤ 600) := hide (fun j hj h5 => hd.out j (by omega))
      clear hd
      rcases (by omega : k = n ∨ (k = 50 ∧ 50 < n)) with e | ⟨e, e3⟩
      · subst e
        clear hlt
        by_cases e1 : k < 50
        · have e1I : (k : Int) < 50 := by omega
          go_wp2_with fail
          go_loop [4] (fun i => ∃ t : Nat, t ≤ m ∧ t ≤ 50 ∧ i = .int .i64 t ∧ Hid (∀ j, j < t → (ws.getD j od0).2.length ≤ 600)) (fun i => m - (intOf i).toNat)
          case atStart => exact ⟨0, by omega, by omega, rfl, hide (fun j hj => by omega)⟩
          case round =>
            obtain ⟨t, ht, ht5, rfl, hd⟩ := hrel
            by_cases hlt : t < m ∧ t < 50
            · obtain ⟨lt1, lt2⟩ := hlt
              obtain ⟨b, off, Aj, nj, cj, rfl, hbk, p0, p1, p2⟩ := g.out.at_ (Below.refl _ _) lt1
              have hk0 : (0 : Int) ≤ (t : Int) := by omega
              have hkn : (t : Int) < (m : Int) := by omega
              have hk50 : (t : Int) < 50 := by omega
              have hlj := hide p2.len
              clear p2
              by_cases big : 600 < nj
              · have hno : Hid (fb = false) := hide (by rw [hf.out]; exact decide_eq_false (fun q => by have := q.2.1 t lt1 lt2; have := hlj.out; omega))
                have bigI : (600 : Int) < (nj : Int) := by omega
                clear hd hf
                go_wp2_with fail
                go_ret
                exact ⟨ret_b hno.out.symm, g0.out⟩
              · have bigI : ¬ (600 : Int) < (nj : Int) := by omega
                have hnext : Hid (∀ j, j < t + 1 → (ws.getD j od0).2.length ≤ 600) := hide (fun j hj => by
                  by_cases e : j = t
                  · rw [e]; have := hlj.out; omega
                  · exact hd.out j (by omega))
                clear hd
                go_wp2_with fail
                go_round
                case rel => exact ⟨t + 1, by omega, by omega, by go_num, hnext⟩
                case measure => simp [intOf]; omega
            · have hall2 : Hid (∀ j, j < m → j < 50 → (ws.getD j od0).2.length ≤ 600) := hide (fun j hj h5 => hd.out j (by omega))
              clear hd
              have hf2 : Hid (fb = (decide (k < 50) && decide (m < 50))) := hide (by
                rw [hf.out]
                by_cases e1 : k < 50
                · by_cases e2 : m < 50
                  · rw [decide_eq_true e1, decide_eq_true e2]; exact decide_eq_true ⟨hall.out, hall2.out, e1, e2⟩
                  · rw [decide_eq_true e1, decide_eq_false e2]; exact decide_eq_false (fun q => e2 q.2.2.2)
                · rw [decide_eq_false e1]; exact decide_eq_false (fun q => e1 q.2.2.1))
              clear hf hall hall2
              rcases (by omega : t = m ∨ (t = 50 ∧ 50 < m)) with e | ⟨e, e3⟩
              · subst e
                clear hlt
                by_cases e2 : t < 50
                · have e2I : (t : Int) < 50 := by omega
                  rw [decide_eq_true e1, decide_eq_true e2] at hf2
                  go_wp2_with fail
                  go_ret
                  exact ⟨ret_b hf2.out.symm, g0.out⟩
                · have e2I : ¬ (t : Int) < 50 := by omega
                  rw [decide_eq_true e1, decide_eq_false e2] at hf2
                  go_wp2_with fail
                  go_ret
                  exact ⟨ret_b hf2.out.symm, g0.out⟩
              · subst e
                have e3I : (50 : Int) < (m : Int) := by omega
                have e4I : ¬ (m : Int) < 50 := by omega
                have e5 : ¬ m < 50 := by omega
                clear hlt
                rw [decide_eq_true e1, decide_eq_false e5] at hf2
                go_wp2_with fail
                go_ret
                exact ⟨ret_b hf2.out.symm, g0.out⟩
        · have e1I : ¬ (k : Int) < 50 := by omega
          go_wp2_with fail
          go_loop [4] (fun i => ∃ t : Nat, t ≤ m ∧ t ≤ 50 ∧ i = .int .i64 t ∧ Hid (∀ j, j < t → (ws.getD j od0).2.length ≤ 600)) (fun i => m - (intOf i).toNat)
          case atStart => exact ⟨0, by omega, by omega, rfl, hide (fun j hj => by omega)⟩
          case round =>
            obtain ⟨t, ht, ht5, rfl, hd⟩ := hrel
            by_cases hlt : t < m ∧ t < 50
            · obtain ⟨lt1, lt2⟩ := hlt
              obtain ⟨b, off, Aj, nj, cj, rfl, hbk, p0, p1, p2⟩ := g.out.at_ (Below.refl _ _) lt1
              have hk0 : (0 : Int) ≤ (t : Int) := by omega
              have hkn : (t : Int) < (m : Int) := by omega
              have hk50 : (t : Int) < 50 := by omega
              have hlj := hide p2.len
              clear p2
              by_cases big : 600 < nj
              · have hno : Hid (fb = false) := hide (by rw [hf.out]; exact decide_eq_false (fun q => by have := q.2.1 t lt1 lt2; have := hlj.out; omega))
                have bigI : (600 : Int) < (nj : Int) := by omega
                clear hd hf
                go_wp2_with fail
                go_ret
                exact ⟨ret_b hno.out.symm, g0.out⟩
              · have bigI : ¬ (600 : Int) < (nj : Int) := by omega
                have hnext : Hid (∀ j, j < t + 1 → (ws.getD j od0).2.length ≤ 600) := hide (fun j hj => by
                  by_cases e : j = t
                  · rw [e]; have := hlj.out; omega
                  · exact hd.out j (by omega))
                clear hd
                go_wp2_with fail
                go_round
                case rel => exact ⟨t + 1, by omega, by omega, by go_num, hnext⟩
                case measure => simp [intOf]; omega
            · have hall2 : Hid (∀ j, j < m → j < 50 → (ws.getD j od0).2.length ≤ 600) := hide (fun j hj h5 => hd.out j (by omega))
              clear hd
              have hf2 : Hid (fb = (decide (k < 50) && decide (m < 50))) := hide (by
                rw [hf.out]
                by_cases e1 : k < 50
                · by_cases e2 : m < 50
                  · rw [decide_eq_true e1, decide_eq_true e2]; exact decide_eq_true ⟨hall.out, hall2.out, e1, e2⟩
                  · rw [decide_eq_true e1, decide_eq_false e2]; exact decide_eq_false (fun q => e2 q.2.2.2)
                · rw [decide_eq_false e1]; exact decide_eq_false (fun q => e1 q.2.2.1))
              clear hf hall hall2
              rcases (by omega : t = m ∨ (t = 50 ∧ 50 < m)) with e | ⟨e, e3⟩
              · subst e
                clear hlt
                by_cases e2 : t < 50
                · have e2I : (t : Int) < 50 := by omega
                  rw [decide_eq_false e1, decide_eq_true e2] at hf2
                  go_wp2_with fail
                  go_ret
                  exact ⟨ret_b hf2.out.symm, g0.out⟩
                · have e2I : ¬ (t : Int) < 50 := by omega
                  rw [decide_eq_false e1, decide_eq_false e2] at hf2
                  go_wp2_with fail
                  go_ret
                  exact ⟨ret_b hf2.out.symm, g0.out⟩
              · subst e
                have e3I : (50 : Int) < (m : Int) := by omega
                have e4I : ¬ (m : Int) < 50 := by omega
                have e5 : ¬ m < 50 := by omega
                clear hlt
                rw [decide_eq_false e1, decide_eq_false e5] at hf2
                go_wp2_with fail
                go_ret
                exact ⟨ret_b hf2.out.symm, g0.out⟩
      · subst e
        have e3I : (50 : Int) < (n : Int) := by omega
        have e4I : ¬ (n : Int) < 50 := by omega
        have e1 : ¬ n < 50 := by omega
        clear hlt
        go_wp2_with fail
        go_loop [4] (fun i => ∃ t : Nat, t ≤ m ∧ t ≤ 50 ∧ i = .int .i64 t ∧ Hid (∀ j, j < t → (ws.getD j od0).2.length ≤ 600)) (fun i => m - (intOf i).toNat)
        case atStart => exact ⟨0, by omega, by omega, rfl, hide (fun j hj => by omega)⟩
        case round =>
          obtain ⟨t, ht, ht5, rfl, hd⟩ := hrel
          by_cases hlt : t < m ∧ t < 50
          · obtain ⟨lt1, lt2⟩ := hlt
            obtain ⟨b, off, Aj, nj, cj, rfl, hbk, p0, p1, p2⟩ := g.out.at_ (Below.refl _ _) lt1
            have hk0 : (0 : Int) ≤ (t : Int) := by omega
            have hkn : (t : Int) < (m : Int) := by omega
            have hk50 : (t : Int) < 50 := by omega
            have hlj := hide p2.len
            clear p2
            by_cases big : 600 < nj
            · have hno : Hid (fb = false) := hide (by rw [hf.out]; exact decide_eq_false (fun q => by have := q.2.1 t lt1 lt2; have := hlj.out; omega))
              have bigI : (600 : Int) < (nj : Int) := by omega
              clear hd hf
              go_wp2_with fail
              go_ret
              exact ⟨ret_b hno.out.symm, g0.out⟩
            · have bigI : ¬ (600 : Int) < (nj : Int) := by omega
              have hnext : Hid (∀ j, j < t + 1 → (ws.getD j od0).2.length ≤ 600) := hide (fun j hj => by
                by_cases e : j = t
                · rw [e]; have := hlj.out; omega
                · exact hd.out j (by omega))
              clear hd
              go_wp2_with fail
              go_round
              case rel => exact ⟨t + 1, by omega, by omega, by go_num, hnext⟩
              case measure => simp [intOf]; omega
          · have hall2 : Hid (∀ j, j < m → j < 50 → (ws.getD j od0).2.length ≤ 600) := hide (fun j hj h5 => hd.out j (by omega))
            clear hd
            have hf2 : Hid (fb = (decide (n < 50) && decide (m < 50))) := hide (by
              rw [hf.out]
              by_cases e1 : n < 50
              · by_cases e2 : m < 50
                · rw [decide_eq_true e1, decide_eq_true e2]; exact decide_eq_true ⟨hall.out, hall2.out, e1, e2⟩
                · rw [decide_eq_true e1, decide_eq_false e2]; exact decide_eq_false (fun q => e2 q.2.2.2)
              · rw [decide_eq_false e1]; exact decide_eq_false (fun q => e1 q.2.2.1))
            clear hf hall hall2
            rcases (by omega : t = m ∨ (t = 50 ∧ 50 < m)) with e | ⟨e, e3⟩
            · subst e
              clear hlt
              by_cases e2 : t < 50
              · have e2I : (t : Int) < 50 := by omega
                rw [decide_eq_false e1, decide_eq_true e2] at hf2
                go_wp2_with fail
                go_ret
                exact ⟨ret_b hf2.out.symm, g0.out⟩
              · have e2I : ¬ (t : Int) < 50 := by omega
                rw [decide_eq_false e1, decide_eq_false e2] at hf2
                go_wp2_with fail
                go_ret
                exact ⟨ret_b hf2.out.symm, g0.out⟩
            · subst e
              have e3I : (50 : Int) < (m : Int) := by omega
              have e4I : ¬ (m : Int) < 50 := by omega
              have e5 : ¬ m < 50 := by omega
              clear hlt
              rw [decide_eq_false e1, decide_eq_false e5] at hf2
              go_wp2_with fail
              go_ret
              exact ⟨ret_b hf2.out.symm, g0.out⟩
end Go.Proofs.Ytfmgmpelgnickaa

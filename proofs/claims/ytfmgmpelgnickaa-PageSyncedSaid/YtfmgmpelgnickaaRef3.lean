/-
  Chapter 31: pages one of which is another one, torn pages, by the reference; a page of one byte.
-/
import Derived.Test.YtfmgmpelgnickaaRef2
namespace Go.Proofs.Ytfmgmpelgnickaa
open Go.RowKit Plain
set_option linter.unusedSimpArgs false
set_option linter.unusedVariables false
attribute [local go_sem ↓] Go.wp_at_zero Go.wp_at_succ

theorem row_lit1 (w : World) (x : Value) (T : TypeId) : Row (w.alloc (.cells #[x] T)) 1 (some ⟨w.heap.size, 0, none⟩) 1 1 [x] :=
  ⟨rfl, Nat.le_refl _, by unfold maxLen; omega, (fun e => by cases e), fun _ => ⟨w.heap.size, 0, rfl, by simp, fun j hj => by
    obtain rfl : j = 0 := by omega
    go_side⟩⟩
theorem pgs_snoc {w : World} {xs : List Value} {qs : List Pg} {k : Nat} (hl : xs.length = k) (h : ∀ j, j < k → PgV w (xs.getD j nul) (qs.getD j [])) {x : Value} (hx : PgV w x (qs.getD k [])) : ∀ j, j < k + 1 → PgV w ((xs ++ [x]).getD j nul) (qs.getD j []) := by
  intro j hj
  rcases Nat.lt_or_ge j k with hlt | hge
  · rw [List.getD_eq_getElem?_getD, List.getElem?_append_left (by omega), ← List.getD_eq_getElem?_getD]; exact h j hlt
  · obtain rfl : j = k := by omega
    rw [List.getD_eq_getElem?_getD, List.getElem?_append_right (by omega), hl, Nat.sub_self]; exact hx
theorem with_any {A C : Option Addr} {n c k0 e : Nat} {ps : List Pg} {z : Pg} {w : World} (h : Pags w A n c ps) (u : Byt w C k0 e z) (a : Nat) (hs : n ≤ 100000) (P : List Pg) (hP : ps.set a z = P) :
    Calls Try.prog 30 #[.slice A n c, .int .i64 (a : Int), .slice C k0 e] w (RetPags w P) := by
  subst hP
  have hl := hide h.1
  have hgs : Hid (∀ k, k < n → (ps.set a z).getD k [] = if a = k then z else ps.getD k []) := hide (fun k hk => by
    rw [getD_set, hl.out]
    by_cases e : a = k
    · rw [if_pos ⟨e, hk⟩, if_pos e]
    · rw [if_neg (fun q => e q.1), if_neg e])
  have hPl : Hid ((ps.set a z).length = n) := hide (by rw [List.length_set]; exact hl.out)
  obtain ⟨Q, hQ⟩ : ∃ Q, Q = ps.set a z := ⟨_, rfl⟩
  rw [← hQ] at hgs hPl ⊢
  clear hQ
  replace h := hide h
  replace u := hide u
  go_enter Try.func30, Try.ntmps30
  go_wp2
  go_loopw [7, 8] (fun v i wr => ∃ (k : Nat) (xs : List Value), k ≤ n ∧ i = .int .i64 k ∧ Hid (wr.ownsRow w.heap.size 26 1 v k xs) ∧ Hid (∀ j, j < k → PgV w (xs.getD j nul) (Q.getD j [])) ∧ Hid (Below w.heap.size w wr)) (fun _ i _ => n - (intOf i).toNat)
  case atStart => exact ⟨0, [], by omega, rfl, hide (World.ownsRow_nil _ _ _ _), hide (fun j hj => by omega), hide (Below.refl _ _)⟩
  case round =>
    obtain ⟨k, xs, hk, rfl, hown, hx, BW⟩ := hrel
    rename_i v _
    have szb := BW.out.size
    by_cases hlt : k < n
    · have hkn : (k : Int) < (n : Int) := by omega
      have hk0 : (0 : Int) ≤ (k : Int) := by omega
      by_cases ea : k = a
      · have hnew : Hid (PgV w (.slice C k0 e) (Q.getD k [])) := hide (by rw [hgs.out k hlt, if_pos ea.symm]; exact u.out.pg)
        subst ea
        go_wp2_with (at_builtin; refine wpList_append_row (T := 22) (E := 26) (s := 1) (z := .slice none 0 0) (bytes := 24) Try.underlying22 info26 rfl (by decide) (by decide) rfl _ _ rfl w.heap.size _ k xs rfl (hown.out.alloc _) (some ⟨wr.heap.size, 0, none⟩) 1 1 [.slice C k0 e] rfl (row_lit1 wr _ 26) (by simp [Value.oneCell']) (by omega) (by simp; omega) ?_; intro v' w2 hown2 hB2; have B2 := hide (BW.out.trans (Below.trans (by go_grown) hB2)); have X2 := hide (pgs_snoc (by have := hown.out.1; omega) hx.out hnew.out); replace hown2 := hide hown2; clear hB2)
        go_roundw
        case rel => exact ⟨k + 1, _, by omega, by go_num, hown2, X2, B2⟩
        case measure => simp [intOf]; omega
      · obtain ⟨b, off, Aj, nj, cj, hA, hbk, p1, P1⟩ := h.out.at_ (Below.refl _ _) hlt
        have hnew : Hid (PgV w (.slice Aj nj cj) (Q.getD k [])) := hide (by rw [hgs.out k hlt, if_neg (fun q => ea q.symm)]; exact P1.pg)
        have p1' := (BW.out.cell (p := ⟨b, off + k, none⟩) hbk).trans p1
        have hb' : b < wr.heap.size := by omega
        subst hA
        have hq : ((k : Int) == (a : Int)) = false := by simp; omega
        have hq2 : ¬ (k : Int) = (a : Int) := by omega
        clear p1 P1 ea
        go_wp2_with (at_builtin; refine wpList_append_row (T := 22) (E := 26) (s := 1) (z := .slice none 0 0) (bytes := 24) Try.underlying22 info26 rfl (by decide) (by decide) rfl _ _ rfl w.heap.size _ k xs rfl (hown.out.alloc _) (some ⟨wr.heap.size, 0, none⟩) 1 1 [.slice Aj nj cj] rfl (row_lit1 wr _ 26) (by simp [Value.oneCell']) (by omega) (by simp; omega) ?_; intro v' w2 hown2 hB2; have B2 := hide (BW.out.trans (Below.trans (by go_grown) hB2)); have X2 := hide (pgs_snoc (by have := hown.out.1; omega) hx.out hnew.out); replace hown2 := hide hown2; clear hB2)
        go_roundw
        case rel => exact ⟨k + 1, _, by omega, by go_num, hown2, X2, B2⟩
        case measure => simp [intOf]; omega
    · obtain rfl : k = n := by omega
      obtain ⟨A', c', rfl, hr, ho⟩ := row_own hown.out
      replace hr := hide hr
      replace ho := hide ho
      clear hown
      go_wp2
      go_ret
      exact ⟨A', _, c', rfl, ⟨hPl.out, xs, hr.out, fun j hj => (hx.out j hj).below BW.out⟩, ho.out, BW.out⟩
end Go.Proofs.Ytfmgmpelgnickaa

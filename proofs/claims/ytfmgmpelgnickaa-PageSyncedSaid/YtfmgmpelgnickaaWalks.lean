/-
  Chapter 31: the small functions that Right and writes hand on: is a page odd, is an old page amiss, is it of this page.
-/
import Derived.Test.YtfmgmpelgnickaaMem
import Derived.WalkLawsBesides
import Derived.WalkSpells
import Derived.BigQuiet
import Derived.Deep.QuietTactic
import Derived.Outline
import Derived.Handy
import Derived.Deep.DrawnRows
namespace Go.Proofs.Ytfmgmpelgnickaa
open Go.RowKit Plain
set_option linter.unusedSimpArgs false
set_option linter.unusedVariables false
attribute [local go_sem ↓] Go.wp_at_zero Go.wp_at_succ

theorem odd_any {A : Option Addr} {n c : Nat} (b : Bool) (hb : decide (n = 256) = !b) (w : World) : Calls Try.prog 31 #[.slice A n c] w fun e w' => e = .returned (.bool b) ∧ w = w' := by
  cases b with
  | true =>
    have h : n ≠ 256 := by simpa using hb
    have hq : ((n : Int) != 256) = true := by simp; omega
    have hq2 : ¬ (n : Int) = 256 := by omega
    clear hb h
    go_enter Try.func31, Try.ntmps31
    go_wp2
    go_ret
    exact ⟨rfl, rfl⟩
  | false =>
    obtain rfl : n = 256 := by simpa using hb
    clear hb
    go_enter Try.func31, Try.ntmps31
    go_wp2
    go_ret
    exact ⟨rfl, rfl⟩
def amissB (N : Nat) (p : Int) (n : Nat) : Bool := decide (p < 0) || decide ((N : Int) ≤ p) || !decide (n = 256)
theorem amiss_any {A : Option Addr} {n c N B1 B2 : Nat} {p : Int} {w : World} (h1 : w.cell? ⟨B1, 0, none⟩ = some (.int .i64 (N : Int))) (h2 : w.cell? ⟨B2, 0, none⟩ = some (.func (.func 31) #[] #[])) (l1 : B1 < w.heap.size) (l2 : B2 < w.heap.size) (b : Bool) (hb : amissB N p n = b) :
    Calls Try.prog 32 #[.agg #[.int .i64 p, .slice A n c], .pointer (some ⟨B1, 0, none⟩), .pointer (some ⟨B2, 0, none⟩)] w fun e w' => e = .returned (.bool b) ∧ Below w.heap.size w w' := by
  subst hb
  unfold amissB
  by_cases p1 : p < 0
  · rw [decide_eq_true p1]
    simp only [Bool.true_or]
    go_enter Try.func32, Try.ntmps32
    go_wp2
    go_ret
    exact ⟨rfl, by go_grown⟩
  · rw [decide_eq_false p1]
    by_cases p2 : (N : Int) ≤ p
    · rw [decide_eq_true p2]
      simp only [Bool.true_or, Bool.or_true]
      go_enter Try.func32, Try.ntmps32
      go_wp2
      go_ret
      exact ⟨rfl, by go_grown⟩
    · rw [decide_eq_false p2]
      simp only [Bool.false_or]
      have H := hide (odd_any (A := A) (n := n) (c := c) (!decide (n = 256)) (by simp))
      generalize (!decide (n = 256)) = q at H
      go_enter Try.func32, Try.ntmps32
      go_wp2_with (go_at_call 31; refine (H.out _).mono ?_; rintro e w' ⟨rfl, rfl⟩)
      go_ret
      exact ⟨rfl, by go_grown⟩
theorem mine_any {A : Option Addr} {n c B : Nat} {p q : Int} {w : World} (h1 : w.cell? ⟨B, 0, none⟩ = some (.int .i64 q)) (l1 : B < w.heap.size) (b : Bool) (hb : decide (p = q) = b) :
    Calls Try.prog 43 #[.agg #[.int .i64 p, .slice A n c], .pointer (some ⟨B, 0, none⟩)] w fun e w' => e = .returned (.bool b) ∧ Below w.heap.size w w' := by
  subst hb
  by_cases e : p = q
  · subst e
    rw [decide_eq_true rfl]
    go_enter Try.func43, Try.ntmps43
    go_wp2
    go_ret
    exact ⟨rfl, by go_grown⟩
  · have hq : (p == q) = false := by simpa using e
    rw [decide_eq_false e]
    clear e
    go_enter Try.func43, Try.ntmps43
    go_wp2
    go_ret
    exact ⟨rfl, by go_grown⟩
end Go.Proofs.Ytfmgmpelgnickaa

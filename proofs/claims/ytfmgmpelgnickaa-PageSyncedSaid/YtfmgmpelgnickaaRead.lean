/-
  Chapter 31: Read and Sync, by the program.
-/
import Derived.Test.YtfmgmpelgnickaaClone
namespace Go.Proofs.Ytfmgmpelgnickaa
open Go.RowKit Plain
set_option linter.unusedSimpArgs false
set_option linter.unusedVariables false
attribute [local go_sem ↓] Go.wp_at_zero Go.wp_at_succ

theorem Own.put {w : World} {B : Nat} {A : Option Addr} {n : Nat} (h : Own w B A n) (p : Addr) (x : Value) : Own (w.setCell p x) B A n := fun hn => by
  obtain ⟨g, e, h1, h2, h3⟩ := h hn
  exact ⟨g, e, h1, by simpa using h2, fun o => by rw [World.frozen?_setCell]; exact h3 o⟩
/-- A store into an older block, where a slice lay, leaves pages of the call's own alone. -/
theorem Pags.put {w : World} {A : Option Addr} {n c B : Nat} {ps : List Pg} (h : Pags w A n c ps) (ho : Own w B A n) {p : Addr} {A' : Option Addr} {n' c' : Nat} (hp : w.cell? p = some (.slice A' n' c')) (hlt : p.block < B) (x : Value) : Pags (w.setCell p x) A n c ps := by
  obtain ⟨hl, vs, hr, hpg⟩ := h
  refine ⟨hl, vs, ⟨hr.1, hr.2.1, hr.2.2.1, hr.2.2.2.1, fun hn => ?_⟩, fun j hj => (hpg j hj).set hp x⟩
  obtain ⟨b, off, e, hb, hc⟩ := hr.2.2.2.2 hn
  obtain ⟨g, e2, h1, _⟩ := ho hn
  rw [e] at e2
  injection e2 with e2
  injection e2 with e3
  refine ⟨b, off, e, by simpa using hb, fun j hj => ?_⟩
  rw [World.cell?_setCell_other _ _ _ _ (fun q => by rw [q] at hlt; simp at hlt; omega)]
  exact hc j hj
/-- A call returns bytes and a number; the old memory is as it was. -/
def RetBE (w : World) (zs : Pg) (E : Int) (e : Ending) (w' : World) : Prop := ∃ A n c, e = .returned (.tuple #[.slice A n c, .int .i64 E]) ∧ Byt w' A n c zs ∧ Below w.heap.size w w'
/-- A call returns a disk. -/
def RetD (w : World) (ps : List Pg) (ws : List Od) (e : Ending) (w' : World) : Prop := ∃ A n c B m d, e = .returned (.agg #[.slice A n c, .slice B m d]) ∧ Pags w' A n c ps ∧ Olds w' B m d ws ∧ Below w.heap.size w w'
/-- A call returns a disk and a number. -/
def RetDE (w : World) (ps : List Pg) (ws : List Od) (E : Int) (e : Ending) (w' : World) : Prop := ∃ A n c B m d, e = .returned (.tuple #[.agg #[.slice A n c, .slice B m d], .int .i64 E]) ∧ Pags w' A n c ps ∧ Olds w' B m d ws ∧ Below w.heap.size w w'

theorem read_any {A B : Option Addr} {n c m d : Nat} {ps : List Pg} {ws : List Od} {w : World} (h : Pags w A n c ps) (g : Olds w B m d ws) (p : Int) (Z : Pg) (E : Int) (hZ : readB ps ws p = Z) (hE : readE ps ws p = E) :
    Calls Try.prog 11 #[.agg #[.slice A n c, .slice B m d], .int .i64 p] w (RetBE w Z E) := by
  subst hZ hE
  have g0 : Below w.heap.size w (w.alloc (.cells #[.slice A n c, .slice B m d] 25)) := by go_grown
  have hn := h.max
  have hl := h.1
  replace h := hide (h.below g0)
  replace g := hide (g.below g0)
  cases hr : rightB ps ws with
  | false =>
    have e1 : readE ps ws p = 1 := by unfold readE; rw [hr]; rfl
    have e2 : readB ps ws p = [] := by unfold readB; rw [e1]; rfl
    rw [e1, e2]
    clear e1 e2 hl
    replace hr := hide hr
    replace g0 := hide g0
    go_enter Try.func11, Try.ntmps11
    go_wp2_with fail
    refine (right_any h.out g.out false hr.out).mono ?_
    rintro e w1 ⟨rfl, hb⟩
    have DB := hide (g0.out.trans (hb.mono g0.out.size))
    clear hb
    go_wp2_with fail
    go_ret2
    exact ⟨none, 0, 0, rfl, byt_nil _, DB.out⟩
  | true =>
    have R := (right_iff ps ws).1 hr
    replace hr := hide hr
    by_cases p1 : 0 ≤ p ∧ p < (n : Int)
    · obtain ⟨a, rfl⟩ : ∃ a : Nat, p = (a : Int) := ⟨p.toNat, by omega⟩
      have e1 : readE ps ws (a : Int) = 0 := readE_zero.2 ⟨R, by omega, by omega⟩
      have e2 : readB ps ws (a : Int) = ps.getD a [] := by unfold readB; rw [e1]; rfl
      rw [e1, e2]
      have hpl := R.page a (by omega)
      have ha : (a : Int) < (n : Int) := by omega
      have ha0 : (0 : Int) ≤ (a : Int) := by omega
      have hna : ¬ (n : Int) ≤ (a : Int) := by omega
      have hna0 : ¬ (a : Int) < 0 := by omega
      clear e1 e2 p1 hl R
      replace hpl := hide hpl
      replace g0 := hide g0
      go_enter Try.func11, Try.ntmps11
      go_wp2_with fail
      refine (right_any h.out g.out true hr.out).mono ?_
      rintro e w1 ⟨rfl, hb⟩
      have DB := hide (g0.out.trans (hb.mono g0.out.size))
      have c0 : w1.cell? ⟨w.heap.size, 0, none⟩ = some (.slice A n c) := (hb.cell (p := ⟨w.heap.size, 0, none⟩) (by simp)).trans (by go_side)
      have h2 := h.out.below hb
      obtain ⟨b, off, Aj, nj, cj, rfl, hlt, c1, P1⟩ := h2.at_ (Below.refl _ _) (k := a) (by omega)
      clear hb h2
      have hnj : nj = 256 := by have := P1.len; rw [hpl.out] at this; exact this.symm
      subst hnj
      replace P1 := hide P1
      clear hpl
      go_wp2_with fail
      refine (clone_bytes P1.out (by omega)).mono ?_
      rintro e w2 ⟨A2, n2, c2, rfl, P2, _, hb⟩
      have DB := hide (st DB.out hb (Below.refl _ _))
      replace P2 := hide P2
      clear hb
      go_wp2_with fail
      go_ret2
      exact ⟨A2, n2, c2, rfl, P2.out, DB.out⟩
    · have e1 : readE ps ws p = 4 := by unfold readE; rw [hr.out, if_pos rfl, if_neg (by rw [hl]; exact p1)]
      have e2 : readB ps ws p = [] := by unfold readB; rw [e1]; rfl
      rw [e1, e2]
      clear e1 e2 hl R
      replace g0 := hide g0
      by_cases p2 : p < 0
      · clear p1
        go_enter Try.func11, Try.ntmps11
        go_wp2_with fail
        refine (right_any h.out g.out true hr.out).mono ?_
        rintro e w1 ⟨rfl, hb⟩
        have DB := hide (g0.out.trans (hb.mono g0.out.size))
        clear hb
        go_wp2_with fail
        go_ret2
        exact ⟨none, 0, 0, rfl, byt_nil _, DB.out⟩
      · have p3 : (n : Int) ≤ p := by omega
        have p4 : ¬ p < (n : Int) := by omega
        clear p1
        go_enter Try.func11, Try.ntmps11
        go_wp2_with fail
        refine (right_any h.out g.out true hr.out).mono ?_
        rintro e w1 ⟨rfl, hb⟩
        have DB := hide (g0.out.trans (hb.mono g0.out.size))
        have c0 : w1.cell? ⟨w.heap.size, 0, none⟩ = some (.slice A n c) := (hb.cell (p := ⟨w.heap.size, 0, none⟩) (by simp)).trans (by go_side)
        clear hb
        go_wp2_with fail
        go_ret2
        exact ⟨none, 0, 0, rfl, byt_nil _, DB.out⟩
theorem sync_any {A B : Option Addr} {n c m d : Nat} {ps : List Pg} {ws : List Od} {w : World} (h : Pags w A n c ps) (hs : n ≤ 100000) :
    Calls Try.prog 21 #[.agg #[.slice A n c, .slice B m d]] w (RetD w ps []) := by
  have g0 : Below w.heap.size w ((w.alloc (.cells #[.slice A n c, .slice B m d] 25)).alloc (.cells #[.slice none 0 0, .slice none 0 0] 25)) := by go_grown
  replace h := hide (h.below g0)
  replace g0 := hide g0
  go_enter Try.func21, Try.ntmps21
  go_wp2_with fail
  refine (clone_pages h.out hs).mono ?_
  rintro e w1 ⟨A2, n2, c2, rfl, P2, O2, hb⟩
  have DB := hide (g0.out.trans (hb.mono g0.out.size))
  have c0 : w1.cell? ⟨w.heap.size + 1, 0, none⟩ = some (.slice none 0 0) := (hb.cell (p := ⟨w.heap.size + 1, 0, none⟩) (by simp)).trans (by go_side)
  have c1 : w1.cell? ⟨w.heap.size + 1, 1, none⟩ = some (.slice none 0 0) := (hb.cell (p := ⟨w.heap.size + 1, 1, none⟩) (by simp)).trans (by go_side)
  have f0 : w1.frozen? ⟨w.heap.size + 1, 0, none⟩ = false := (hb.frozen (p := ⟨w.heap.size + 1, 0, none⟩) (by simp)).trans (by go_side)
  have f1 : w1.frozen? ⟨w.heap.size + 1, 1, none⟩ = false := (hb.frozen (p := ⟨w.heap.size + 1, 1, none⟩) (by simp)).trans (by go_side)
  have sz : w.heap.size + 2 ≤ w1.heap.size := by have := hb.size; simp at this; omega
  have P3 := P2.put O2 (p := ⟨w.heap.size + 1, 0, none⟩) c0 (by simp) (.slice A2 n2 c2)
  have P4 := P3.put (O2.put _ _) (p := ⟨w.heap.size + 1, 1, none⟩) ((World.cell?_setCell_other _ _ _ _ (by intro q; cases q)).trans c1) (by simp) (.slice none 0 0)
  replace P4 := hide P4
  clear hb P2 P3 O2
  go_wp2_with fail
  refine bodyPost_ret (v := .agg #[.slice A2 n2 c2, .slice none 0 0]) (by simp [results, Try.results21, go_sem, c0, c1, f0, f1]) rfl ?_
  exact ⟨A2, n2, c2, none, 0, 0, rfl, P4.out, olds_nil _, (DB.out.setCell (by simp) _).setCell (by simp) _⟩
end Go.Proofs.Ytfmgmpelgnickaa

/-
  What the laws of chapter 5 use over and over: two vectors that read alike are equal; set for every device; how long results are.
-/
import Derived.Test.YtgjhhnendondcaaAlive
import Derived.Test.YtgjhhnendondcaaLawsPlain
namespace Go.Proofs.Ytgjhhnendondcaa
open Go.RowKit
theorem Vec.stp {w v w' : World} {A : Option Addr} {n c : Nat} {zs : List Int} (h : Vec w A n c zs) (hb : Below v.heap.size v w') (hv : Below w.heap.size w v) : Vec w' A n c zs := (h.below hv).below hb
theorem trimL_len (zs : List Int) : (trimL zs).length ≤ zs.length := by
  unfold trimL; rw [List.length_take]; omega
theorem bothL_len (op : Int → Int → Int) (a b : List Int) : (bothL op a b).length ≤ max a.length b.length := by
  unfold bothL
  refine Nat.le_trans (trimL_len _) ?_
  rw [outL_len]; exact Nat.le_refl _
theorem setL_len (zs : List Int) (dev x : Int) : (setL zs dev x).length ≤ max zs.length 64 := by
  unfold setL
  split
  · refine Nat.le_trans (trimL_len _) ?_
    rw [outL_len]; omega
  · exact Nat.le_trans (trimL_len _) (by omega)
theorem bothL_le {N : Nat} {op : Int → Int → Int} {a b : List Int} (ha : a.length ≤ N) (hb : b.length ≤ N) : (bothL op a b).length ≤ N := Nat.le_trans (bothL_len _ _ _) (by omega)
section
variable {w : World} {A B : Option Addr} {n m c d : Nat} {zs ys : List Int}
theorem join_v (h : Vec w A n c zs) (g : Vec w B m d ys) (h1 : zs.length ≤ 100) (h2 : ys.length ≤ 100) : Calls Try.prog 24 #[.slice A n c, .slice B m d] w (RetVec w (bothL maxI zs ys)) := join_any h g ⟨by have := h.len; omega, by have := g.len; omega⟩
theorem meet_v (h : Vec w A n c zs) (g : Vec w B m d ys) (h1 : zs.length ≤ 100) (h2 : ys.length ≤ 100) : Calls Try.prog 26 #[.slice A n c, .slice B m d] w (RetVec w (bothL minI zs ys)) := meet_any h g ⟨by have := h.len; omega, by have := g.len; omega⟩
theorem equal_eq (h : Vec w A n c zs) (g : Vec w B m d zs) (hs : zs.length ≤ 1000000) : Calls Try.prog 23 #[.slice A n c, .slice B m d] w fun e w' => e = .returned (.bool true) ∧ w = w' := by
  have e1 := h.len
  have e2 := g.len
  have e : n = m := by omega
  subst e
  exact equal_yes _ _ _ _ _ _ _ h g (by omega)
theorem set_any (dev x : Int) (hx : I64 x) (h : Vec w A n c zs) (hs : n ≤ 100000) : Calls Try.prog 30 #[.slice A n c, .int .i64 dev, .int .i64 x] w (RetVec w (setL zs dev x)) := by
  by_cases hd : 1 ≤ dev ∧ dev ≤ 64
  · obtain ⟨i, rfl, hi⟩ : ∃ i : Nat, dev = (i : Int) + 1 ∧ i < 64 := ⟨(dev - 1).toNat, by omega, by omega⟩
    exact set_in i hi x hx h hs
  · exact set_out dev x hd h hs
theorem ref_set_any (dev x : Int) (hx : I64 x) (h : Vec w A n c zs) (hs : n ≤ 100000) : Calls Try.prog 31 #[.slice A n c, .int .i64 dev, .int .i64 x] w (RetVec w (setL zs dev x)) := by
  by_cases hd : 1 ≤ dev ∧ dev ≤ 64
  · obtain ⟨i, rfl, hi⟩ : ∃ i : Nat, dev = (i : Int) + 1 ∧ i < 64 := ⟨(dev - 1).toNat, by omega, by omega⟩
    exact ref_set_in i hi x hx h hs
  · exact ref_set_out dev x hd h hs
end
end Go.Proofs.Ytgjhhnendondcaa

/-
  Chapter 34, plain: what symbols are told as (Peel), as a function on lists. No program in sight.
-/
import Derived.Test.YtabgenhednhagaaWalks7
namespace Go.Proofs.Ytabgenhednhagaa
open Plain
/-- Is the i-th symbol of one number alone, that was not told yet? -/
def okAt (l : List Sym) (T : List W) (i : Nat) : Bool := pureB (l.getD i Sym.zero) (i : Int) && !decide ((l.getD i Sym.zero).sum ∈ T)
def nextI (l : List Sym) (T : List W) : Option Nat := (List.range l.length).find? (okAt l T)
def outL (l : List Sym) (z y : W) : List Sym := (List.range l.length).map (outF (fun j => l.getD j Sym.zero) z y)
theorem outL_len (l : List Sym) (z y : W) : (outL l z y).length = l.length := by simp [outL]
theorem outL_get (l : List Sym) (z y : W) (j : Nat) (h : j < l.length) : (outL l z y).getD j Sym.zero = outF (fun j => l.getD j Sym.zero) z y j := range_get _ _ _ h
/-- The symbols that are left, and what was told of one side and of the other, behind up to f more numbers. -/
def peelGo : Nat → List Sym → List W → List W → List Sym × List W × List W
  | 0, l, ms, ts => (l, ms, ts)
  | f + 1, l, ms, ts =>
    match nextI l (ms ++ ts) with
    | none => (l, ms, ts)
    | some i =>
      if (l.getD i Sym.zero).many = 1#64 then peelGo f (outL l (l.getD i Sym.zero).sum (l.getD i Sym.zero).many) (ms ++ [(l.getD i Sym.zero).sum]) ts
      else peelGo f (outL l (l.getD i Sym.zero).sum (l.getD i Sym.zero).many) ms (ts ++ [(l.getD i Sym.zero).sum])
def peelL (l : List Sym) : List Sym × List W × List W := peelGo l.length l [] []
def doneB (l : List Sym) : Bool := decide (0 < l.length) && !l.any nz
theorem next_none {l : List Sym} {T : List W} (h : ∀ j, j < l.length → okAt l T j = false) : nextI l T = none := by
  unfold nextI
  rw [List.find?_eq_none]
  intro x hx
  rw [h x (List.mem_range.1 hx)]; simp
theorem next_some {l : List Sym} {T : List W} {k : Nat} (hk : k < l.length) (h : ∀ j, j < k → okAt l T j = false) (hok : okAt l T k = true) : nextI l T = some k := by
  unfold nextI
  rw [List.find?_range_eq_some]
  exact ⟨hok, by simpa using hk, fun j hj => by simp [h j hj]⟩
theorem next_spec {l : List Sym} {T : List W} {k : Nat} (h : nextI l T = some k) : k < l.length ∧ okAt l T k = true ∧ ∀ j, j < k → okAt l T j = false := by
  unfold nextI at h
  rw [List.find?_range_eq_some] at h
  exact ⟨by simpa using h.2.1, h.1, fun j hj => by simpa using h.2.2 j hj⟩
theorem next_spec_none {l : List Sym} {T : List W} (h : nextI l T = none) : ∀ j, j < l.length → okAt l T j = false := by
  unfold nextI at h
  rw [List.find?_eq_none] at h
  intro j hj
  simpa using h j (List.mem_range.2 hj)
theorem peelGo_zero (l : List Sym) (ms ts : List W) : peelGo 0 l ms ts = (l, ms, ts) := rfl
theorem peelGo_none {f : Nat} {l : List Sym} {ms ts : List W} (h : nextI l (ms ++ ts) = none) : peelGo f l ms ts = (l, ms, ts) := by
  cases f with
  | zero => rfl
  | succ f => unfold peelGo; rw [h]
theorem peelGo_mine {f : Nat} {l : List Sym} {ms ts : List W} {i : Nat} (h : nextI l (ms ++ ts) = some i) (h1 : (l.getD i Sym.zero).many = 1#64) :
    peelGo (f + 1) l ms ts = peelGo f (outL l (l.getD i Sym.zero).sum (l.getD i Sym.zero).many) (ms ++ [(l.getD i Sym.zero).sum]) ts := by
  rw [peelGo, h]; simp only [if_pos h1]
theorem peelGo_theirs {f : Nat} {l : List Sym} {ms ts : List W} {i : Nat} (h : nextI l (ms ++ ts) = some i) (h1 : ¬ (l.getD i Sym.zero).many = 1#64) :
    peelGo (f + 1) l ms ts = peelGo f (outL l (l.getD i Sym.zero).sum (l.getD i Sym.zero).many) ms (ts ++ [(l.getD i Sym.zero).sum]) := by
  rw [peelGo, h]; simp only [if_neg h1]
theorem pure_many_is {s : Sym} {i : Int} (h : pureB s i = true) : s.many = 1#64 ∨ s.many = -1#64 := by
  unfold pureB at h
  simp only [Bool.and_eq_true, Bool.or_eq_true, decide_eq_true_eq] at h
  exact h.1.1
end Go.Proofs.Ytabgenhednhagaa

/-
  Chapter 31: slices.Backward over old pages: what it hands on, and that it reads what lay when the loop began.
-/
import Derived.Test.YtfmgmpelgnickaaFun1
namespace Go.Proofs.Ytfmgmpelgnickaa
open Go.RowKit Go.Shelf Plain
set_option linter.unusedSimpArgs false
set_option linter.unusedVariables false
attribute [local go_sem] Oper.semAt_some

theorem abides_below {β : Type} {B : Nat} {J : β → World → Prop} (hJ : AbidesFrom B J) {s : β} {W W' : World} (h : J s W) (hb : Below W.heap.size W W') : J s W' := hJ s W W' none h (grown_below hb) (fun r e => by cases e)
theorem back_any (A : Option Addr) (n c : Nat) (w : World) : Calls Try.prog 36 #[.slice A n c] w fun e w' => e = .returned (.func (.func 41) #[] #[.pointer (some ⟨w.heap.size, 0, none⟩)]) ∧ w' = w.alloc (.cells #[.slice A n c] 23) := by
  go_enter Try.func36, Try.ntmps36
  go_wp2
  go_ret
  exact ⟨rfl, rfl⟩
theorem writes_any (A B : Option Addr) (n c m d : Nat) (w : World) : Calls Try.prog 37 #[.agg #[.slice A n c, .slice B m d]] w fun e w' => e = .returned (.func (.func 42) #[] #[.pointer (some ⟨w.heap.size, 0, none⟩)]) ∧ w' = w.alloc (.cells #[.slice A n c, .slice B m d] 25) := by
  go_enter Try.func37, Try.ntmps37
  go_wp2
  go_ret
  exact ⟨rfl, rfl⟩
/-- The cells of old pages, that lie below n and in none of two blocks. -/
structure OldsAt (W : World) (n g h : Nat) (B : Option Addr) (m : Nat) (ws : List Od) (vs : List Value) : Prop where
  at_ : ∀ j, j < m → ∃ b off Aj nj cj, B = some ⟨b, off, none⟩ ∧ b < n ∧ b ≠ g ∧ b ≠ h ∧ W.cell? ⟨b, off + j * 2, none⟩ = some (.int .i64 (ws.getD j od0).1) ∧ W.cell? ⟨b, off + j * 2 + 1, none⟩ = some (.slice Aj nj cj) ∧ vs.getD (j * 2 + 1) nul = .slice Aj nj cj
theorem OldsAt.but {W W' : World} {n g h : Nat} {B : Option Addr} {m : Nat} {ws : List Od} {vs : List Value} (x : OldsAt W n g h B m ws vs) (hb : But n g h W W') : OldsAt W' n g h B m ws vs := ⟨fun j hj => by
  obtain ⟨b, off, Aj, nj, cj, e, h1, h2, h3, c0, c1, hv⟩ := x.at_ j hj
  exact ⟨b, off, Aj, nj, cj, e, h1, h2, h3, (hb.cell (p := ⟨b, _, .none⟩) h1 h2 h3).trans c0, (hb.cell (p := ⟨b, _, .none⟩) h1 h2 h3).trans c1, hv⟩⟩
def ix (m x : Nat) : Nat := min x (m - 1)
theorem ix_lt {m x : Nat} (h : 0 < m) : ix m x < m := by unfold ix; omega
theorem ix_self {m x : Nat} (h : x < m) : ix m x = x := by unfold ix; omega
def encB (ws : List Od) (vs : List Value) (m x : Nat) : Array Value := #[.int .i64 (x : Int), .agg #[.int .i64 (ws.getD (ix m x) od0).1, vs.getD (ix m x * 2 + 1) nul]]
def down (m t : Nat) : List Nat := (List.range t).map fun j => m - 1 - j
theorem down_succ (m t : Nat) : down m (t + 1) = down m t ++ [m - 1 - t] := by simp [down, List.range_succ]
theorem down_length (m t : Nat) : (down m t).length = t := by simp [down]

set_option maxRecDepth 100000 in
set_option maxHeartbeats 2000000 in
theorem back1_in (k : Nat) (hk : 1 ≤ k) (l Bs n g h : Nat) (B : Option Addr) (m d : Nat) (ws : List Od) (vs : List Value) (hm : m ≤ 9223372036854775807) (hBs : Bs < n) (hBg : Bs ≠ g) (hBh : Bs ≠ h) (J Jx : List Nat → World → Prop)
    (hY : ∀ pre x W, J pre W → pre.length < m → YieldAt Fence.wide (k - 1) Try.prog l (encB ws vs m x) W fun e W' =>
      (e = .returned (.bool true) ∧ J (pre ++ [x]) W' ∧ But n g h W W') ∨ (e = .returned (.bool false) ∧ Jx (pre ++ [x]) W'))
    (W : World) (hc : W.cell? ⟨Bs, 0, none⟩ = some (.slice B m d)) (hO : OldsAt W n g h B m ws vs) (h0 : J [] W) :
    CallsIn Fence.wide k Try.prog 41 #[.func (.yield l) #[] #[], .pointer (some ⟨Bs, 0, none⟩)] W fun e W' => (∃ v, e = .returned v) ∧
      ((∃ ys, ys = down m m ∧ J ys W') ∨ (∃ pre, True ∧ Jx pre W')) := by
  refine callsIn_of_wp Try.func41 rfl trivial ?_ rfl
  simp only [Try.ntmps41, List.size_toArray, List.length_cons, List.length_nil, Nat.reduceAdd, Nat.reduceSub, Array.replicate_succ, Array.replicate_zero, List.push_toArray, List.append_toArray, List.nil_append, List.cons_append]
  gi_wp2
  gi_loopw [3] (fun i wr => ∃ t : Nat, t ≤ m ∧ i = .int .i64 ((m : Int) - 1 - (t : Int)) ∧ J (down m t) wr ∧ Hid (But n g h W wr)) (fun i _ => (intOf i + 1).toNat)
  case atStart => exact ⟨0, by omega, by simp, h0, hide (But.refl _ _ _ _)⟩
  case round =>
    obtain ⟨t, ht, hi, hJ, BW⟩ := hrel
    have hcx := (BW.out.cell (p := ⟨Bs, 0, none⟩) hBs hBg hBh).trans hc
    by_cases hlt : t < m
    · obtain ⟨s, hs⟩ : ∃ s, s = m - 1 - t := ⟨_, rfl⟩
      rw [show (m : Int) - 1 - (t : Int) = (s : Int) by omega] at hi
      subst hi
      obtain ⟨b, off, Aj, nj, cj, rfl, hb1, hb2, hb3, p0, p1, hv⟩ := (hO.but BW.out).at_ s (by omega)
      obtain ⟨fn, tmps, assign, body, hy, hR⟩ := hY _ s wr hJ (by rw [down_length]; exact hlt)
      have hen : encB ws vs m s = #[.int .i64 (s : Int), .agg #[.int .i64 (ws.getD s od0).1, .slice Aj nj cj]] := by unfold encB; rw [ix_self (by omega), hv]
      rw [hen] at hy
      clear hen
      have hd : down m (t + 1) = down m t ++ [s] := by rw [down_succ, hs]
      generalize (ws.getD s od0).1 = X at *
      replace hd := hide hd
      replace hs := hide hs
      have hs0 : (0 : Int) ≤ (s : Int) := by omega
      have hsm : (s : Int) < (m : Int) := by have := hs.out; omega
      clear hv
      gi_wp2
      refine hR.mono ?_
      rintro e W3 (⟨rfl, hJ3, hk3⟩ | ⟨rfl, hJx3⟩)
      · replace BW := hide (BW.out.trans hk3)
        clear hk3 hcx p0 p1 hy hR
        gi_wp2
        go_roundw
        case rel => exact ⟨t + 1, by omega, by rw [show (m : Int) - 1 - ((t + 1 : Nat) : Int) = (s : Int) - 1 by have := hs.out; omega], by rw [hd.out]; exact hJ3, BW⟩
        case measure => simp [intOf] <;> omega
      · gi_wp2
        refine bodyPost_ret (results_none rfl _ _ _) rfl ?_
        exact ⟨⟨_, rfl⟩, .inr ⟨_, trivial, hJx3⟩⟩
    · obtain rfl : t = m := by omega
      rw [show (t : Int) - 1 - (t : Int) = -1 by omega] at hi
      subst hi
      gi_wp2
      go_end0
      exact ⟨⟨_, rfl⟩, .inl ⟨_, rfl, hJ⟩⟩
theorem back_stops (k : Nat) (hk : 1 ≤ k) (Bs n g h : Nat) (B : Option Addr) (m d : Nat) (ws : List Od) (vs : List Value) (hm : m ≤ 9223372036854775807) (hBs : Bs < n) (hBg : Bs ≠ g) (hBh : Bs ≠ h) (w : World) (hn : n ≤ w.heap.size)
    (hc : w.cell? ⟨Bs, 0, none⟩ = some (.slice B m d)) (hO : OldsAt w n g h B m ws vs) :
    SeqStopsK Fence.wide k Try.prog 41 #[.pointer (some ⟨Bs, 0, none⟩)] (encB ws vs m) (But n g h) (fun ys => ys = down m m) (fun _ => True) m w := fun l J Jx W hW hJ hJx hY h0 =>
  back1_in k hk l Bs n g h B m d ws vs hm hBs hBg hBh J Jx hY W ((hW.cell (p := ⟨Bs, 0, .none⟩) (by show Bs < _; omega)).trans hc) (hO.but ((But.refl n g h w).below hn hW)) h0
end Go.Proofs.Ytfmgmpelgnickaa

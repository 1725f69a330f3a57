/-
  Chapter 31: torn pages, pages of one byte, new disks, by the reference and the laws.
-/
import Derived.Test.YtfmgmpelgnickaaRef3
namespace Go.Proofs.Ytfmgmpelgnickaa
open Go.RowKit Plain
set_option linter.unusedSimpArgs false
set_option linter.unusedVariables false
attribute [local go_sem ↓] Go.wp_at_zero Go.wp_at_succ

theorem take_u8 {Q : Pg} {k : Nat} (h : k < Q.length) {x : Int} (hx : Q.getD k 0 = x) : (Q.take k).map u8 ++ [.int .u8 x] = (Q.take (k + 1)).map u8 := by
  rw [take_snoc 0 h, List.map_append, hx]; rfl
theorem ret_bytes {w w' : World} {Q : Pg} {base : Nat} {v : Value} {n : Nat} (h : w'.ownsRow base 5 1 v n ((Q.take n).map u8)) (hn : Q.length = n) : ∃ A c, v = .slice A n c ∧ Byt w' A n c Q ∧ Own w' base A n := by
  rw [List.take_of_length_le (by omega)] at h
  obtain ⟨A, c, rfl, hr, ho⟩ := row_own h
  exact ⟨A, c, rfl, hr, ho⟩

set_option maxHeartbeats 1000000 in
theorem torn_any {A B : Option Addr} {n c m d : Nat} {b was : Pg} {w : World} (h : Byt w A n c b) (g : Byt w B m d was) (cut : Nat) (hn : n = 256) (hm : m = 256) (hc : cut ≤ 256) (P : Pg) (hP : torn b was cut = P) :
    Calls Try.prog 38 #[.slice A n c, .slice B m d, .int .i64 (cut : Int)] w (RetByt w P) := by
  subst hP hn hm
  have hb := h.len
  have hw := g.len
  have hgs : Hid (∀ k, (torn b was cut).getD k 0 = if k < cut then b.getD k 0 else was.getD k 0) := hide (fun k => torn_get hb hc k)
  have hl : Hid ((torn b was cut).length = 256) := hide (torn_len hb hw hc)
  obtain ⟨Q, hQ⟩ : ∃ Q, Q = torn b was cut := ⟨_, rfl⟩
  rw [← hQ] at hgs hl ⊢
  clear hQ hb hw
  replace h := hide h
  replace g := hide g
  go_enter Try.func38, Try.ntmps38
  go_wp2
  go_loopw [7, 8] (fun v i wr => ∃ (k : Nat), k ≤ 256 ∧ i = .int .i64 k ∧ Hid (wr.ownsRow w.heap.size 5 1 v k ((Q.take k).map u8)) ∧ Hid (Below w.heap.size w wr)) (fun _ i _ => 256 - (intOf i).toNat)
  case atStart => exact ⟨0, by omega, rfl, hide (World.ownsRow_nil _ _ _ _), hide (Below.refl _ _)⟩
  case round =>
    obtain ⟨k, hk, rfl, hown, BW⟩ := hrel
    have szb := BW.out.size
    have hQ := hl.out
    by_cases hlt : k < 256
    · have hkn : (k : Int) < 256 := by omega
      have hk0 : (0 : Int) ≤ (k : Int) := by omega
      by_cases ea : k < cut
      · have eI : (k : Int) < (cut : Int) := by omega
        obtain ⟨b1, off, rfl, hbk, p1⟩ := h.out.at_ (Below.refl _ _) hlt
        have p1' := (BW.out.cell (p := ⟨b1, off + k, none⟩) hbk).trans p1
        have hX : Hid (Q.getD k 0 = b.getD k 0) := hide (by rw [hgs.out k, if_pos ea])
        generalize b.getD k 0 = X at *
        clear p1
        have hQ2 := hide hQ
        clear hQ
        go_wp2_with (at_builtin; refine wpList_append_row (T := 26) (E := 5) (s := 1) (z := .int .u8 0) (bytes := 1) Try.underlying26 info5 rfl (by decide) (by decide) rfl _ _ rfl w.heap.size _ k _ rfl (hown.out.alloc _) (some ⟨wr.heap.size, 0, none⟩) 1 1 [.int .u8 X] rfl (row_lit1 wr _ 5) (by simp [Value.oneCell']) (by omega) (by simp; omega) ?_; intro v' w2 hown2 hB2; have B2 := hide (BW.out.trans (Below.trans (by go_grown) hB2)); rw [take_u8 (by have := hQ2.out; omega) hX.out] at hown2; replace hown2 := hide hown2; clear hB2)
        go_roundw
        case rel => exact ⟨k + 1, by omega, by go_num, hown2, B2⟩
        case measure => simp [intOf]; omega
      · have eI : ¬ (k : Int) < (cut : Int) := by omega
        obtain ⟨b1, off, rfl, hbk, p1⟩ := g.out.at_ (Below.refl _ _) hlt
        have p1' := (BW.out.cell (p := ⟨b1, off + k, none⟩) hbk).trans p1
        have hX : Hid (Q.getD k 0 = was.getD k 0) := hide (by rw [hgs.out k, if_neg ea])
        generalize was.getD k 0 = X at *
        clear p1
        have hQ2 := hide hQ
        clear hQ
        go_wp2_with (at_builtin; refine wpList_append_row (T := 26) (E := 5) (s := 1) (z := .int .u8 0) (bytes := 1) Try.underlying26 info5 rfl (by decide) (by decide) rfl _ _ rfl w.heap.size _ k _ rfl (hown.out.alloc _) (some ⟨wr.heap.size, 0, none⟩) 1 1 [.int .u8 X] rfl (row_lit1 wr _ 5) (by simp [Value.oneCell']) (by omega) (by simp; omega) ?_; intro v' w2 hown2 hB2; have B2 := hide (BW.out.trans (Below.trans (by go_grown) hB2)); rw [take_u8 (by have := hQ2.out; omega) hX.out] at hown2; replace hown2 := hide hown2; clear hB2)
        go_roundw
        case rel => exact ⟨k + 1, by omega, by go_num, hown2, B2⟩
        case measure => simp [intOf]; omega
    · obtain rfl : k = 256 := by omega
      obtain ⟨A', c', rfl, hr, ho⟩ := ret_bytes (w := w) hown.out hQ
      replace hr := hide hr
      replace ho := hide ho
      clear hown hQ
      go_wp2
      go_ret
      exact ⟨A', _, c', rfl, hr.out, ho.out, BW.out⟩
def fullP (x : Int) : Pg := List.replicate 256 x
theorem full_any (X : Int) (w : World) : Calls Try.prog 27 #[.int .u8 X] w (RetByt w (fullP X)) := by
  have hl : Hid ((fullP X).length = 256) := hide (by unfold fullP; exact List.length_replicate)
  have hgs : Hid (∀ k, k < 256 → (fullP X).getD k 0 = X) := hide (fun k hk => by
    unfold fullP
    rw [List.getD_eq_getElem?_getD, List.getElem?_replicate, if_pos hk]; rfl)
  obtain ⟨Q, hQ⟩ : ∃ Q, Q = fullP X := ⟨_, rfl⟩
  rw [← hQ] at hgs hl ⊢
  clear hQ
  go_enter Try.func27, Try.ntmps27
  go_wp2
  go_loopw [3, 4] (fun v i wr => ∃ (k : Nat), k ≤ 256 ∧ i = .int .i64 k ∧ Hid (wr.ownsRow w.heap.size 5 1 v k ((Q.take k).map u8)) ∧ Hid (Below w.heap.size w wr)) (fun _ i _ => 256 - (intOf i).toNat)
  case atStart => exact ⟨0, by omega, rfl, hide (World.ownsRow_nil _ _ _ _), hide (Below.refl _ _)⟩
  case round =>
    obtain ⟨k, hk, rfl, hown, BW⟩ := hrel
    have szb := BW.out.size
    by_cases hlt : k < 256
    · have hkn : (k : Int) < 256 := by omega
      have hk0 : (0 : Int) ≤ (k : Int) := by omega
      have hX := hide (hgs.out k hlt)
      go_wp2_with (at_builtin; refine wpList_append_row (T := 26) (E := 5) (s := 1) (z := .int .u8 0) (bytes := 1) Try.underlying26 info5 rfl (by decide) (by decide) rfl _ _ rfl w.heap.size _ k _ rfl (hown.out.alloc _) (some ⟨wr.heap.size, 0, none⟩) 1 1 [.int .u8 X] rfl (row_lit1 wr _ 5) (by simp [Value.oneCell']) (by omega) (by simp; omega) ?_; intro v' w2 hown2 hB2; have B2 := hide (BW.out.trans (Below.trans (by go_grown) hB2)); rw [take_u8 (by have := hl.out; omega) hX.out] at hown2; replace hown2 := hide hown2; clear hB2)
      go_roundw
      case rel => exact ⟨k + 1, by omega, by go_num, hown2, B2⟩
      case measure => simp [intOf]; omega
    · obtain rfl : k = 256 := by omega
      obtain ⟨A', c', rfl, hr, ho⟩ := ret_bytes (w := w) hown.out hl.out
      replace hr := hide hr
      replace ho := hide ho
      clear hown
      go_wp2
      go_ret
      exact ⟨A', _, c', rfl, hr.out, ho.out, BW.out⟩
theorem ref_new_any (k : Int) (w : World) (P : List Pg) (E : Int) (hP : newP k = P) (hE : newE k = E) : Calls Try.prog 16 #[.int .i64 k] w (RetDE w P [] E) := by
  subst hP hE
  by_cases p1 : 1 ≤ k ∧ k ≤ 4096
  · obtain ⟨N, rfl⟩ : ∃ N : Nat, k = (N : Int) := ⟨k.toNat, by omega⟩
    have e1 : newE (N : Int) = 0 := if_pos p1
    have e2 : newP (N : Int) = List.replicate N zeroP := by unfold newP; rw [if_pos p1, Int.toNat_natCast]
    rw [e1, e2]
    clear e1 e2
    have q1 : ¬ (N : Int) < 1 := by omega
    have q2 : ¬ (4096 : Int) < (N : Int) := by omega
    have q3 : N ≤ 4096 := by omega
    clear p1
    obtain ⟨i0, hi0, hz0, hz1, hz2⟩ := info_parts info26
    have hmk := mk_blank
    go_enter Try.func16, Try.ntmps16
    go_wp2_with fail
    go_loopw [5] (fun i wr => ∃ (k : Nat) (v : Value) (xs : List Value), k ≤ N ∧ i = .int .i64 k ∧ Hid (wr.ownsRow (w.heap.size + 2) 26 1 v k xs) ∧ Hid (Zeros wr v xs k) ∧ Hid (Below w.heap.size w wr) ∧ w.heap.size + 2 ≤ wr.heap.size ∧
      (∃ A n c, v = .slice A n c) ∧ wr.cell? ⟨w.heap.size + 1, 0, none⟩ = some v ∧ wr.frozen? ⟨w.heap.size + 1, 0, none⟩ = false ∧ wr.cell? ⟨w.heap.size + 1, 1, none⟩ = some (.slice none 0 0) ∧
      wr.cell? ⟨w.heap.size, 0, none⟩ = some (.slice none 0 0) ∧ wr.cell? ⟨w.heap.size, 1, none⟩ = some (.slice none 0 0) ∧ wr.frozen? ⟨w.heap.size, 0, none⟩ = false ∧ wr.frozen? ⟨w.heap.size, 1, none⟩ = false) (fun i _ => N - (intOf i).toNat)
    case atStart => exact ⟨0, .slice none 0 0, [], by omega, rfl, hide (World.ownsRow_nil _ _ _ _), hide (zeros_start _ _), hide (by go_grown), by simp, ⟨none, 0, 0, rfl⟩, by go_side, by go_side, by go_side, by go_side, by go_side, by go_side, by go_side⟩
    case round =>
      obtain ⟨k, v, xs, hk, rfl, hown, hz, BW, sz, ⟨A, n, c, rfl⟩, c0, f0, c1, c2, c3, f2, f3⟩ := hrel
      by_cases hlt : k < N
      · have l1 : w.heap.size + 1 < wr.heap.size := by omega
        have l0 : w.heap.size < wr.heap.size := by omega
        have ag : (Value.slice A n c).ownBlock ≠ some (w.heap.size + 1) := fun e => by have := (hown.out.lt _ e).1; omega
        have nn := World.new_ne wr ⟨w.heap.size + 1, 0, none⟩ c0
        go_wp2_with fail
        go_region_law ((refine step_append_lies _ (by rfl) _ _ _ (by rfl) (w.heap.size + 2) 26 i0 _ 1 24 Try.underlying22 hi0 hz0 hz1 hz2 rfl (by omega) _ k xs (by rfl) (((hown.out.alloc _).alloc _).drew) ⟨wr.heap.size + 1, 0, none⟩ 1 1 [.slice (some ⟨wr.heap.size, 0, none⟩) 256 256] (by rfl) (by rfl) (World.news_of_block (cs := #[.slice (some ⟨wr.heap.size, 0, none⟩) 256 256]) (t := 26) (fr := (0, 0)) (by have := heap_alloc_new (wr.alloc (.cells blank 5)) (.cells #[.slice (some ⟨wr.heap.size, 0, none⟩) 256 256] 26); rw [World.size_alloc] at this; exact this)) (by simp [Value.oneCell']) (by omega) (by unfold maxLen; omega) (by omega) (by simp; omega) (wr.heap.size + 2) (by simp) ?_; intro gg cap w1 hown1 hgrow hat hlt1; have fA : w1.frozen? ⟨w.heap.size + 1, 0, none⟩ = false := (hgrow.frozen_far ⟨w.heap.size + 1, 0, none⟩ (by simp; omega) (Ne.symm ag)).trans (by go_side); have cA : w1.cell? ⟨w.heap.size + 1, 0, none⟩ = some (.slice A n c) := (hgrow.cell_far ⟨w.heap.size + 1, 0, none⟩ (by simp; omega) (Ne.symm ag)).trans (by go_side)))
        all_goals
          have Z1 := hz.out.step hown.out (cap := cap) (by simp) (fun b i hb => old_two wr _ hb) (fun i hi => new_two wr _ hi) hgrow hat
          have Z2 := hide (Z1.set cA (.slice (some ⟨gg, 0, none⟩) (k + 1) cap))
          have ag2 : gg ≠ w.heap.size + 1 := fun e => by
            rcases hat with e2 | e2
            · exact ag (by rw [e2, e])
            · omega
          have O2 := hide (hown1.kept (grow_set w1 (w.heap.size + 1) 0 (.slice (some ⟨gg, 0, none⟩) (k + 1) cap)) (.inr (fun e => ag2 (by simpa [Value.ownBlock] using e))))
          have G : Below w.heap.size wr w1 := Below.grown (below_two wr _ (by omega)) hgrow (by simp; omega) (fun b e => by have := (hown.out.lt b e).1; omega)
          have BW2 := hide (((BW.out.trans G).setCell (p := ⟨w.heap.size + 1, 0, none⟩) (by simp) (.slice (some ⟨gg, 0, none⟩) (k + 1) cap)))
          have sz2 : w.heap.size + 2 ≤ w1.heap.size := by have := hgrow.size; simp at this; omega
          have far : ∀ b i, b < wr.heap.size → b < w.heap.size + 2 → w1.cell? ⟨b, i, none⟩ = wr.cell? ⟨b, i, none⟩ ∧ w1.frozen? ⟨b, i, none⟩ = wr.frozen? ⟨b, i, none⟩ := fun b i h1 h2 =>
            ⟨(hgrow.cell_far ⟨b, i, none⟩ (by simp; omega) (fun e => by have := (hown.out.lt b e.symm).1; omega)).trans (old_two wr _ h1), (hgrow.frozen_far ⟨b, i, none⟩ (by simp; omega) (fun e => by have := (hown.out.lt b e.symm).1; omega)).trans (old_two_f wr _ h1)⟩
          have k1 := (far (w.heap.size + 1) 1 (by omega) (by omega)).1.trans c1
          have k2 := (far w.heap.size 0 (by omega) (by omega)).1.trans c2
          have k3 := (far w.heap.size 1 (by omega) (by omega)).1.trans c3
          have k4 := (far w.heap.size 0 (by omega) (by omega)).2.trans f2
          have k5 := (far w.heap.size 1 (by omega) (by omega)).2.trans f3
          clear far Z1 hz hown hown1 hgrow hat BW G c0 f0 c1 c2 c3 f2 f3 nn hmk
          go_wp2_with fail
          go_roundw
          case rel =>
            exact ⟨k + 1, .slice (some ⟨gg, 0, none⟩) (k + 1) cap, _, by omega, by go_num, O2, Z2, BW2, by simpa using sz2, ⟨_, _, _, rfl⟩, by go_side, by go_side, by go_side, by go_side, by go_side, by go_side, by go_side⟩
          case measure => simp [intOf]; omega
      · obtain rfl : k = N := by omega
        obtain ⟨rfl, P2, O2⟩ := zeros_pags hz.out hown.out
        have P3 := P2.put O2 (p := ⟨w.heap.size, 0, none⟩) c2 (by simp) (.slice A n c)
        have P4 := hide (P3.put (O2.put _ _) (p := ⟨w.heap.size, 1, none⟩) ((World.cell?_setCell_other _ _ _ _ (by intro q; cases q)).trans c3) (by simp) (.slice none 0 0))
        have l1 : w.heap.size + 1 < wr.heap.size := by omega
        have l0 : w.heap.size < wr.heap.size := by omega
        clear P2 P3 O2 hz hown hmk
        go_wp2_with fail
        refine bodyPost_ret (v := .tuple #[.agg #[.slice A n c, .slice none 0 0], .int .i64 0]) (by simp [results, Try.results16, go_sem, c2, c3, f2, f3]) rfl ?_
        exact ⟨A, n, c, none, 0, 0, rfl, P4.out, olds_nil _, (BW.out.setCell (by simp) _).setCell (by simp) _⟩
  · have e1 : newE k = 1 := if_neg p1
    have e2 : newP k = [] := if_neg p1
    rw [e1, e2]
    clear e1 e2
    by_cases q1 : k < 1
    · clear p1
      go_enter Try.func16, Try.ntmps16
      go_wp2_with fail
      refine bodyPost_ret (v := .tuple #[.agg #[.slice none 0 0, .slice none 0 0], .int .i64 1]) (by simp [results, Try.results16, go_sem]) rfl ?_
      exact ⟨none, 0, 0, none, 0, 0, rfl, pags_nil _, olds_nil _, by go_grown⟩
    · have q2 : 4096 < k := by omega
      clear p1
      go_enter Try.func16, Try.ntmps16
      go_wp2_with fail
      refine bodyPost_ret (v := .tuple #[.agg #[.slice none 0 0, .slice none 0 0], .int .i64 1]) (by simp [results, Try.results16, go_sem]) rfl ?_
      exact ⟨none, 0, 0, none, 0, 0, rfl, pags_nil _, olds_nil _, by go_grown⟩
end Go.Proofs.Ytfmgmpelgnickaa

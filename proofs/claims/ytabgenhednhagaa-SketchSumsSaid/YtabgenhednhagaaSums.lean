/-
  Chapter 34: the walk over the law SketchSums: it returns true.
-/
import Derived.Test.YtabgenhednhagaaAppend
namespace Go.Proofs.Ytabgenhednhagaa
open Go.RowKit Plain
set_option linter.unusedSimpArgs false
set_option linter.unusedVariables false
attribute [local go_sem ↓] Go.wp_at_zero Go.wp_at_succ

theorem nodup_ne {zs : List W} (h : zs.Nodup) {i k : Nat} (hi : i < zs.length) (hk : k < i) : ¬ ((zs.getD i 0#64).toNat : Int) = ((zs.getD k 0#64).toNat : Int) := by
  intro e
  have e2 : zs.getD i 0#64 = zs.getD k 0#64 := BitVec.eq_of_toNat_eq (Int.ofNat.inj e)
  rw [List.getD_eq_getElem?_getD, List.getD_eq_getElem?_getD, List.getElem?_eq_getElem hi, List.getElem?_eq_getElem (by omega)] at e2
  simp only [Option.getD_some] at e2
  have := (List.getElem_inj h).1 e2
  omega

set_option maxHeartbeats 4000000 in
theorem sums_walk {w : World} {A : Option Addr} {n c : Nat} {ss : List Sym} (h : Syms w A n c ss) :
    Calls Try.prog 5 #[.slice A n c] w fun e w' => e = .returned (.bool true) ∧ Below w.heap.size w w' := by
  have hn := h.max
  have hl := hide h.1
  replace h := hide h
  have BW := hide (Below.refl w.heap.size w)
  by_cases h1 : n ≤ 30
  · have h1I : ¬ (30 : Int) < (n : Int) := by omega
    have hinv := hide (peel_inv ss)
    have hsum := hide (sums_of ss (by rw [hl.out]; omega))
    have hemp : Hid (n = 0 → doneB (peelL ss).1 = false) := hide (fun e => by
      have : ss = [] := List.eq_nil_of_length_eq_zero (by rw [hl.out, e])
      rw [this]; rfl)
    rw [hl.out] at hsum hinv
    obtain ⟨b, hd⟩ : ∃ b, doneB (peelL ss).1 = b := ⟨_, rfl⟩
    obtain ⟨xs, hx⟩ : ∃ x, (peelL ss).2.1 = x := ⟨_, rfl⟩
    obtain ⟨ys, hy⟩ : ∃ x, (peelL ss).2.2 = x := ⟨_, rfl⟩
    have hnd : Hid ((xs ++ ys).Nodup) := hide (by rw [← hx, ← hy]; exact hinv.out.1)
    have hle : xs.length + ys.length ≤ n := by rw [← hx, ← hy]; exact hinv.out.2.1
    rw [hx, hy, hd] at hsum
    rw [hd] at hemp
    replace hx := hide hx
    replace hy := hide hy
    replace hd := hide hd
    clear hinv
    go_enter Try.func5, Try.ntmps5
    go_wp2_with fail
    refine (awake_any _).mono ?_
    rintro e u1 ⟨rfl, hb⟩
    have D1 : Below w.heap.size w u1 := hb
    replace BW := hide (st BW.out D1 (Below.refl _ _))
    replace h := hide (h.out.below D1)
    clear hb D1
    go_wp2_with fail
    refine (peel_b h.out (by omega) _ _ _ hx.out hy.out hd.out).mono ?_
    rintro e u2 ⟨A1, n1, c1, A2, n2, c2, rfl, N1, N2, hb⟩
    have D2 : Below u1.heap.size u1 u2 := hb
    replace BW := hide (st BW.out D2 (Below.refl _ _))
    replace h := hide (h.out.below D2)
    replace N1 := hide N1
    replace N2 := hide N2
    clear hb D2
    have l1 := hide N1.out.1
    have l2 := hide N2.out.1
    have hnn : n1 + n2 ≤ n := by rw [← l1.out, ← l2.out]; exact hle
    have g0 : Below u2.heap.size u2 (u2.alloc (.cells #[] 22)) := by go_grown
    go_wp2_with (first
      | (at_builtin; refine wpList_append_nums rfl (.tmp 21) (.tmp 22) rfl u2.heap.size _ 0 [] rfl (World.ownsRow_made u2 #[] 0 (Nat.le_refl _) (by unfold maxLen; omega) rfl) A1 n1 c1 xs rfl (N1.out.below g0) (by omega) (by simp) ?_; intro v1 m1 hown1 hm1; simp only [Nat.zero_add, List.nil_append] at hown1; have D1 : Below u2.heap.size u2 m1 := g0.trans hm1)
      | (at_builtin; refine wpList_append_nums rfl (.tmp 23) (.tmp 24) rfl u2.heap.size v1 n1 xs rfl hown1 A2 n2 c2 ys rfl (N2.out.below D1) (by omega) D1.size ?_; intro v2 m2 hown2 hm2; have D2 : Below u2.heap.size u2 m2 := D1.trans hm2))
    obtain ⟨A9, c9, rfl, N9⟩ := own_nums hown2
    obtain ⟨N, hN⟩ : ∃ N, N = n1 + n2 := ⟨_, rfl⟩
    rw [← hN] at N9 ⊢
    have hNn : N ≤ n := by omega
    have hlN : Hid ((xs ++ ys).length = N) := hide N9.1
    replace BW := hide (st BW.out D2 (Below.refl _ _))
    replace h := hide (h.out.below D2)
    replace N1 := hide (N1.out.below D2)
    replace N2 := hide (N2.out.below D2)
    replace N9 := hide N9
    replace hN := hide hN
    clear hown1 hown2 hm1 hm2 D1 D2 g0
    go_loopw [8, 9] (fun i _ wr => ∃ k : Nat, k ≤ N ∧ i = .int .i64 (k : Int) ∧ Hid (Below m2.heap.size m2 wr)) (fun i _ _ => N - (intOf i).toNat)
    case atStart => exact ⟨0, Nat.zero_le _, rfl, hide (Below.refl _ _)⟩
    case round =>
      obtain ⟨k, hk, rfl, B1⟩ := hrel
      by_cases hlt : k < N
      · have hk0 : (0 : Int) ≤ (k : Int) := by omega
        have hkN : (k : Int) < (N : Int) := by omega
        obtain ⟨wo, hwo⟩ : ∃ wo : World, wo = wr := ⟨_, rfl⟩
        subst hwo
        go_wp2_with fail
        go_loopw [9] (fun j wr => ∃ q : Nat, q ≤ k ∧ j = .int .i64 (q : Int) ∧ Hid (Below m2.heap.size m2 wr)) (fun j _ => k - (intOf j).toNat)
        case atStart => exact ⟨0, Nat.zero_le _, rfl, B1⟩
        case round =>
          clear B1
          obtain ⟨q, hq, rfl, B1⟩ := hrel
          by_cases hqk : q < k
          · have hq0 : (0 : Int) ≤ (q : Int) := by omega
            have hqkI : (q : Int) < (k : Int) := by omega
            have hqN : (q : Int) < (N : Int) := by omega
            have hne := nodup_ne hnd.out (i := k) (k := q) (by rw [hlN.out]; exact hlt) hqk
            obtain ⟨b9, off9, e9, lb9, p1⟩ := N9.out.at_ B1.out hlt
            obtain ⟨b8, off8, e8, lb8, p2⟩ := N9.out.at_ B1.out (k := q) (by omega)
            rw [e9] at e8
            injection e8 with e8
            injection e8 with e81 e82
            subst e81 e82 e9
            generalize (((xs ++ ys).getD k 0#64).toNat : Int) = Z1 at *
            generalize (((xs ++ ys).getD q 0#64).toNat : Int) = Z2 at *
            have hne2 : (Z1 == Z2) = false := by simpa using hne
            go_wp2_with fail
            refine wp_region_calm (fun w' => Below wr.heap.size wr w') (by kernel_rfl) (by kernel_rfl) (below_drewN (Below.refl _ _) 1) ?_
            repeat (first
              | go_big_quiet_skip
              | (go_big_quiet_want
                 first
                   | (go_big_quiet_op; go_big_quiet_on)
                   | (apply Exists.intro
                      refine ⟨fun w' hw' => ?_, ?_⟩
                      focus
                        obtain ⟨hc', hf'⟩ := bcell hw'
                        go_simp
                        try first
                          | rfl
                          | (with_reducible rfl)
                      go_big_quiet_on)
                 try simp only [Act.put, List.setIfInBounds_toArray, List.set_cons_zero, List.set_cons_succ]))
            refine wpQuiet_nil ?_
            intro V HV
            have B2 := hide (B1.out.trans (HV.mono B1.out.size))
            clear HV p1 p2
            go_wp2_with fail
            go_roundw
            case rel => exact ⟨q + 1, by omega, by go_num, B2⟩
            case measure => simp [intOf]; omega
          · obtain rfl : q = k := by omega
            go_wp2_with fail
            go_roundw
            case rel => exact ⟨q + 1, by omega, by go_num, B1⟩
            case measure => simp [intOf]; omega
      · obtain rfl : k = N := by omega
        replace BW := hide (st BW.out B1.out (Below.refl _ _))
        replace h := hide (h.out.below B1.out)
        replace N1 := hide (N1.out.below B1.out)
        replace N2 := hide (N2.out.below B1.out)
        clear B1 N9
        have hgt : ¬ (n : Int) < (k : Int) := by omega
        cases b with
        | false =>
          rcases Nat.eq_zero_or_pos n with h0 | h0
          · subst h0
            go_wp2_with fail
            go_ret
            exact ⟨rfl, BW.out⟩
          · have h0I : ((n : Int) == 0) = false := by simp; omega
            have h0J : ¬ (n : Int) = 0 := by omega
            go_wp2_with fail
            go_ret
            exact ⟨rfl, BW.out⟩
        | true =>
          have h0 : n ≠ 0 := fun e => by have := hemp.out e; cases this
          have h0I : ((n : Int) == 0) = false := by simp; omega
          have h0J : ¬ (n : Int) = 0 := by omega
          have hs9 := hide (hsum.out rfl)
          go_wp2_with fail
          refine (symbols_any N1.out 0 (n : Int)).mono ?_
          rintro e u11 ⟨B1, m1, d1, rfl, S1, hb⟩
          have D11 : Below wr.heap.size wr u11 := hb
          replace BW := hide (st BW.out D11 (Below.refl _ _))
          replace h := hide (h.out.below D11)
          clear N1
          replace N2 := hide (N2.out.below D11)
          have hm1 : m1 ≤ 100000 := by have e := S1.1; rw [show (0 : Int) = ((0 : Nat) : Int) from rfl, symsL_len _ (by omega)] at e; omega
          replace S1 := hide S1
          clear hb D11
          go_wp2_with fail
          refine (symbols_any N2.out 0 (n : Int)).mono ?_
          rintro e u12 ⟨B2, m2, d2, rfl, S2, hb⟩
          have D12 : Below u11.heap.size u11 u12 := hb
          replace BW := hide (st BW.out D12 (Below.refl _ _))
          replace h := hide (h.out.below D12)
          clear N2
          replace S1 := hide (S1.out.below D12)
          replace S2 := hide S2
          clear hb D12
          go_wp2_with fail
          refine (sub_any S1.out S2.out hm1).mono ?_
          rintro e u13 ⟨B3, m3, d3, rfl, S3, hb⟩
          have D13 : Below u12.heap.size u12 u13 := hb
          replace BW := hide (st BW.out D13 (Below.refl _ _))
          replace h := hide (h.out.below D13)
          clear S1
          clear S2
          rw [hs9.out] at S3
          replace S3 := hide S3
          clear hb D13
          go_wp2_with fail
          refine (same_to S3.out h.out true (by simp)).mono ?_
          rintro e u14 ⟨rfl, hb⟩
          have D14 : Below u13.heap.size u13 u14 := hb
          replace BW := hide (st BW.out D14 (Below.refl _ _))
          clear h
          clear S3
          clear hb D14
          go_wp2_with fail
          go_ret
          exact ⟨rfl, BW.out⟩
  · have h1I : (30 : Int) < (n : Int) := by omega
    clear h1
    go_enter Try.func5, Try.ntmps5
    go_wp2_with fail
    refine (awake_any _).mono ?_
    rintro e u1 ⟨rfl, hb⟩
    have D1 : Below w.heap.size w u1 := hb
    replace BW := hide (st BW.out D1 (Below.refl _ _))
    clear hb D1
    go_wp2_with fail
    go_ret
    exact ⟨rfl, BW.out⟩
end Go.Proofs.Ytabgenhednhagaa

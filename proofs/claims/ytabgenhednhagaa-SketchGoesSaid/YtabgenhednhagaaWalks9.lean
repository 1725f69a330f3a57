/-
  Chapter 34: the first symbol that is told, of what is left, by the reference (next).
-/
import Derived.Test.YtabgenhednhagaaWalks8
import Derived.Deep.DeepCutAuto
namespace Go.Proofs.Ytabgenhednhagaa
open Go.RowKit Plain
set_option linter.unusedSimpArgs false
set_option linter.unusedVariables false
attribute [local go_sem ↓] Go.wp_at_zero Go.wp_at_succ

/-- What is left of the i-th symbol when the two lists are taken out. -/
def remS (s a b : Sym) : Sym := ⟨s.many - a.many + b.many, s.sum ^^^ (a.sum ^^^ b.sum), s.check ^^^ (a.check ^^^ b.check)⟩
def remF (l : List Sym) (ms ts : List W) (i : Nat) : Sym := remS (l.getD i Sym.zero) (oneS ms (i : Int)) (oneS ts (i : Int))
def remL (l : List Sym) (ms ts : List W) : List Sym := (List.range l.length).map (remF l ms ts)
theorem remL_len (l : List Sym) (ms ts : List W) : (remL l ms ts).length = l.length := by simp [remL]
theorem remL_get (l : List Sym) (ms ts : List W) (i : Nat) (h : i < l.length) : (remL l ms ts).getD i Sym.zero = remF l ms ts i := range_get _ _ _ h
/-- What next returns. -/
def nextR (l : List Sym) (ms ts : List W) : Int × Sym := match nextI (remL l ms ts) (ms ++ ts) with
  | none => (-1, Sym.zero)
  | some i => ((i : Int), remF l ms ts i)
theorem nextR_none {l : List Sym} {ms ts : List W} (h : nextI (remL l ms ts) (ms ++ ts) = none) : nextR l ms ts = (-1, Sym.zero) := by unfold nextR; rw [h]
theorem nextR_some {l : List Sym} {ms ts : List W} {i : Nat} (h : nextI (remL l ms ts) (ms ++ ts) = some i) : nextR l ms ts = ((i : Int), remF l ms ts i) := by unfold nextR; rw [h]
theorem ok_many {s : Sym} {T : List W} {i : Int} (h1 : s.many.toInt ≠ 1) (h2 : s.many.toInt ≠ -1) : (pureB s i && !decide (s.sum ∈ T)) = false := by rw [pure_many h1 h2]; rfl
theorem ok_of {s : Sym} {ms ts : List W} {i : Int} (h : s.many.toInt = 1 ∨ s.many.toInt = -1) : (pureB s i && !decide (s.sum ∈ ms ++ ts)) = (inI s.sum i && !decide (s.sum ∈ ms) && !decide (s.sum ∈ ts) && decide (s.check = checkW s.sum)) := by
  rw [pure_one h]
  have : decide (s.sum ∈ ms ++ ts) = (decide (s.sum ∈ ms) || decide (s.sum ∈ ts)) := by simp
  rw [this]
  cases inI s.sum i <;> cases decide (s.sum ∈ ms) <;> cases decide (s.sum ∈ ts) <;> cases decide (s.check = checkW s.sum) <;> rfl
theorem has_to {A : Option Addr} {n c : Nat} {zs : List W} {w w' : World} (h : Nums w A n c zs) (hB : Below w.heap.size w w') (Z : Int) (z : W) (b : Bool) (hZ : Z = (z.toNat : Int)) (hb : decide (z ∈ zs) = b) : Calls Try.prog 41 #[.slice A n c, .int .u64 Z] w' fun e w'' => e = .returned (.bool b) ∧ w' = w'' := by
  subst hZ hb; exact has_any (h.below hB) z
theorem At3.below {w w' : World} {b : Nat} {s : Sym} (h : At3 w b s) (hb : b < w.heap.size) (hB : Below w.heap.size w w') : At3 w' b s :=
  ⟨(hB.cell (p := ⟨b, 0, none⟩) hb).trans h.c0, (hB.cell (p := ⟨b, 1, none⟩) hb).trans h.c1, (hB.cell (p := ⟨b, 2, none⟩) hb).trans h.c2, (hB.frozen (p := ⟨b, 0, none⟩) hb).trans h.f0, (hB.frozen (p := ⟨b, 1, none⟩) hb).trans h.f1, (hB.frozen (p := ⟨b, 2, none⟩) hb).trans h.f2⟩

set_option maxRecDepth 4000 in
set_option maxHeartbeats 8000000 in
theorem next_any {w : World} {A B D : Option Addr} {n m p c d q : Nat} {ss : List Sym} {ms ts : List W} (h : Syms w A n c ss) (gm : Nums w B m d ms) (gt : Nums w D p q ts) :
    Calls Try.prog 36 #[.slice A n c, .slice B m d, .slice D p q] w fun e w' => e = .returned (.tuple #[.int .i64 (nextR ss ms ts).1, symV (nextR ss ms ts).2]) ∧ Below w.heap.size w w' := by
  have hn := h.max
  have hl := hide h.1
  replace h := hide h
  replace gm := hide gm
  replace gt := hide gt
  obtain ⟨W0, hW0⟩ : ∃ V, V = w.alloc (.cells #[.int .i64 0, .int .u64 0, .int .u64 0] 41) := ⟨_, rfl⟩
  have B0 : Below w.heap.size w W0 := by rw [hW0]; go_grown
  have R0 : At3 W0 w.heap.size Sym.zero := by rw [hW0]; exact At3.of (M := 0) (S := 0) (K := 0) rfl rfl rfl (by go_side) (by go_side) (by go_side) (by go_side) (by go_side) (by go_side)
  have hsz0 : w.heap.size < W0.heap.size := by rw [hW0]; simp
  replace R0 := hide R0
  replace hW0 := hide hW0
  go_enter Try.func36, Try.ntmps36
  go_wp2_with fail
  rw [← hW0.out]
  clear hW0
  go_loopw [8] (fun i wr => ∃ k : Nat, k ≤ n ∧ i = .int .i64 (k : Int) ∧ Hid (∀ j, j < k → okAt (remL ss ms ts) (ms ++ ts) j = false) ∧ Hid (At3 wr w.heap.size Sym.zero) ∧ w.heap.size < wr.heap.size ∧ Below w.heap.size w wr) (fun i _ => n - (intOf i).toNat)
  case atStart => exact ⟨0, Nat.zero_le _, rfl, hide (fun j hj => by omega), R0, hsz0, B0⟩
  case round =>
    clear R0 hsz0 B0
    obtain ⟨k, hk, rfl, hd, R0, hsz0, B0⟩ := hrel
    by_cases hlt : k < n
    · have hk0 : (0 : Int) ≤ (k : Int) := by omega
      have hkn : (k : Int) < (n : Int) := by omega
      obtain ⟨b, off, rfl, lb, q0, q1, q2⟩ := h.out.at_ B0 hlt
      have hrem := hide (remL_get ss ms ts k (by rw [hl.out]; exact hlt))
      have CA := hide (fun (V : World) (hV : Below w.heap.size w V) => ref_one_to gm.out hV (k : Int) _ rfl)
      have CB := hide (fun (V : World) (hV : Below w.heap.size w V) => ref_one_to gt.out hV (k : Int) _ rfl)
      have hF : Hid (remF ss ms ts k = remS (ss.getD k Sym.zero) (oneS ms (k : Int)) (oneS ts (k : Int))) := hide rfl
      generalize ss.getD k Sym.zero = s at *
      generalize oneS ms (k : Int) = sa at *
      generalize oneS ts (k : Int) = sb at *
      obtain ⟨t, ht⟩ : ∃ t, t = remS s sa sb := ⟨_, rfl⟩
      rw [← ht] at hF
      have e1 : IntKind.i64.wrap (s.many.toInt - sa.many.toInt) = (s.many - sa.many).toInt := sub_i64 _ _
      have e2 : IntKind.i64.wrap ((s.many - sa.many).toInt + sb.many.toInt) = t.many.toInt := by rw [ht]; exact add_i64 _ _
      obtain ⟨X1, hX1⟩ : ∃ Z, Z = ((sa.sum ^^^ sb.sum).toNat : Int) := ⟨_, rfl⟩
      obtain ⟨X2, hX2⟩ : ∃ Z, Z = ((sa.check ^^^ sb.check).toNat : Int) := ⟨_, rfl⟩
      obtain ⟨S', hS'⟩ : ∃ Z, Z = (t.sum.toNat : Int) := ⟨_, rfl⟩
      obtain ⟨K', hK'⟩ : ∃ Z, Z = (t.check.toNat : Int) := ⟨_, rfl⟩
      have hS2 : Hid (S' = ((s.sum ^^^ (sa.sum ^^^ sb.sum)).toNat : Int)) := hide (by rw [hS', ht]; rfl)
      have hK2 : Hid (K' = ((s.check ^^^ (sa.check ^^^ sb.check)).toNat : Int)) := hide (by rw [hK', ht]; rfl)
      obtain ⟨M', hM'⟩ : ∃ Z, Z = t.many.toInt := ⟨_, rfl⟩
      rw [← hM'] at e2
      obtain ⟨S1, hS1⟩ : ∃ Z, Z = (s.sum.toNat : Int) := ⟨_, rfl⟩
      obtain ⟨K1, hK1⟩ : ∃ Z, Z = (s.check.toNat : Int) := ⟨_, rfl⟩
      obtain ⟨Sa, hSa⟩ : ∃ Z, Z = (sa.sum.toNat : Int) := ⟨_, rfl⟩
      obtain ⟨Ka, hKa⟩ : ∃ Z, Z = (sa.check.toNat : Int) := ⟨_, rfl⟩
      obtain ⟨Sb, hSb⟩ : ∃ Z, Z = (sb.sum.toNat : Int) := ⟨_, rfl⟩
      obtain ⟨Kb, hKb⟩ : ∃ Z, Z = (sb.check.toNat : Int) := ⟨_, rfl⟩
      rw [← hS1] at q1
      rw [← hK1] at q2
      rw [← hSa, ← hKa] at CA
      rw [← hSb, ← hKb] at CB
      generalize (s.many - sa.many).toInt = P at *
      generalize s.many.toInt = M1 at *
      generalize sa.many.toInt = Ma at *
      generalize sb.many.toInt = Mb at *
      replace hX1 := hide hX1
      replace hX2 := hide hX2
      replace hS' := hide hS'
      replace hK' := hide hK'
      replace hM' := hide hM'
      replace hS1 := hide hS1
      replace hK1 := hide hK1
      replace hSa := hide hSa
      replace hKa := hide hKa
      replace hSb := hide hSb
      replace hKb := hide hKb
      replace ht := hide ht
      go_wp2_with fail
      refine (CA.out _ B0).mono ?_
      rintro e u1 ⟨rfl, hb1⟩
      have lu1 := hb1.size
      have C1 := st B0 hb1 (Below.refl _ _)
      obtain ⟨v1, hv1⟩ : ∃ V, V = u1.alloc (.cells #[.int .i64 Ma, .int .u64 Sa, .int .u64 Ka] 41) := ⟨_, rfl⟩
      have D1 : Below u1.heap.size u1 v1 := by rw [hv1]; go_grown
      have a0 : v1.cell? ⟨u1.heap.size, 0, none⟩ = some (.int .i64 Ma) := by rw [hv1]; go_side
      have a1 : v1.cell? ⟨u1.heap.size, 1, none⟩ = some (.int .u64 Sa) := by rw [hv1]; go_side
      have a2 : v1.cell? ⟨u1.heap.size, 2, none⟩ = some (.int .u64 Ka) := by rw [hv1]; go_side
      have lv1 : u1.heap.size < v1.heap.size := by rw [hv1]; simp
      replace hv1 := hide hv1
      go_wp2_with fail
      rw [← hv1.out]
      have C2 := C1.trans (D1.mono C1.size)
      refine (CB.out _ C2).mono ?_
      rintro e u2 ⟨rfl, hb2⟩
      have lu2 := hb2.size
      have C3 := st C2 hb2 (Below.refl _ _)
      obtain ⟨W1, hW1⟩ : ∃ V, V = u2.alloc (.cells #[.int .i64 Mb, .int .u64 Sb, .int .u64 Kb] 41) := ⟨_, rfl⟩
      have D2 : Below u2.heap.size u2 W1 := by rw [hW1]; go_grown
      have b0 : W1.cell? ⟨u2.heap.size, 0, none⟩ = some (.int .i64 Mb) := by rw [hW1]; go_side
      have b1 : W1.cell? ⟨u2.heap.size, 1, none⟩ = some (.int .u64 Sb) := by rw [hW1]; go_side
      have b2 : W1.cell? ⟨u2.heap.size, 2, none⟩ = some (.int .u64 Kb) := by rw [hW1]; go_side
      have lw1 : u2.heap.size < W1.heap.size := by rw [hW1]; simp
      replace hW1 := hide hW1
      have C4 := C3.trans (D2.mono C3.size)
      have E1 : Below v1.heap.size v1 W1 := hb2.trans (D2.mono hb2.size)
      have E0 : Below wr.heap.size wr W1 := hb1.trans ((D1.trans (E1.mono D1.size)).mono hb1.size)
      have a0' : W1.cell? ⟨u1.heap.size, 0, none⟩ = some (.int .i64 Ma) := (E1.cell (p := ⟨u1.heap.size, 0, none⟩) lv1).trans a0
      have a1' : W1.cell? ⟨u1.heap.size, 1, none⟩ = some (.int .u64 Sa) := (E1.cell (p := ⟨u1.heap.size, 1, none⟩) lv1).trans a1
      have a2' : W1.cell? ⟨u1.heap.size, 2, none⟩ = some (.int .u64 Ka) := (E1.cell (p := ⟨u1.heap.size, 2, none⟩) lv1).trans a2
      have q0' : W1.cell? ⟨b, off + k * 3, none⟩ = some (.int .i64 M1) := (E0.cell (p := ⟨b, off + k * 3, none⟩) lb).trans q0
      have q1' : W1.cell? ⟨b, off + k * 3 + 1, none⟩ = some (.int .u64 S1) := (E0.cell (p := ⟨b, off + k * 3 + 1, none⟩) lb).trans q1
      have q2' : W1.cell? ⟨b, off + k * 3 + 2, none⟩ = some (.int .u64 K1) := (E0.cell (p := ⟨b, off + k * 3 + 2, none⟩) lb).trans q2
      have R1 : Hid (At3 W1 w.heap.size Sym.zero) := hide (At3.below R0.out hsz0 E0)
      have hsz1 : w.heap.size < W1.heap.size := Nat.lt_of_lt_of_le hsz0 E0.size
      have lb1 : b < W1.heap.size := Nat.lt_of_lt_of_le lb E0.size
      have la1 : u1.heap.size < W1.heap.size := Nat.lt_of_lt_of_le lv1 E1.size
      replace C4 := hide C4
      clear hv1 D1 D2 a0 a1 a2 q0 q1 q2 hb1 hb2 E0 E1 C1 C2 C3 CA CB R0 B0 lu1 lu2 lv1
      go_upto_region 6 with fail
      rw [← hW1.out]
      clear hW1
      go_cut [11] (fun s11 wx => s11 = .pointer (some ⟨W1.heap.size, 0, none⟩) ∧ Hid (At3 wx W1.heap.size t) ∧ W1.heap.size < wx.heap.size ∧ Below W1.heap.size W1 wx)
      case first =>
        go_region_held3 (fun w' => w'.cell? ⟨b, off + k * 3, none⟩ = some (.int .i64 M1) ∧ w'.cell? ⟨b, off + k * 3 + 1, none⟩ = some (.int .u64 S1) ∧ w'.cell? ⟨b, off + k * 3 + 2, none⟩ = some (.int .u64 K1) ∧ w'.cell? ⟨u1.heap.size, 0, none⟩ = some (.int .i64 Ma) ∧ w'.cell? ⟨u1.heap.size, 1, none⟩ = some (.int .u64 Sa) ∧ w'.cell? ⟨u1.heap.size, 2, none⟩ = some (.int .u64 Ka) ∧ w'.cell? ⟨u2.heap.size, 0, none⟩ = some (.int .i64 Mb) ∧ w'.cell? ⟨u2.heap.size, 1, none⟩ = some (.int .u64 Sb) ∧ w'.cell? ⟨u2.heap.size, 2, none⟩ = some (.int .u64 Kb)) (go_keep)
          (first
            | (go_at_call 27; with_reducible refine (xor_to _ _ _ sa.sum sb.sum hSa.out hSb.out hX1.out _).mono ?_; rintro e w9 ⟨rfl, rfl⟩)
            | (go_at_call 27; with_reducible refine (xor_to _ _ _ s.sum _ hS1.out hX1.out hS2.out _).mono ?_; rintro e w9 ⟨rfl, rfl⟩)
            | (go_at_call 27; with_reducible refine (xor_to _ _ _ sa.check sb.check hKa.out hKb.out hX2.out _).mono ?_; rintro e w9 ⟨rfl, rfl⟩)
            | (go_at_call 27; with_reducible refine (xor_to _ _ _ s.check _ hK1.out hX2.out hK2.out _).mono ?_; rintro e w9 ⟨rfl, rfl⟩))
        all_goals
          go_wp2_with fail
          go_meet
          exact ⟨rfl, hide (At3.of hM'.out hS'.out hK'.out (by go_side) (by go_side) (by go_side) (by go_side) (by go_side) (by go_side)), by simp, by go_grown⟩
      case rest =>
        obtain ⟨rfl, RS, lsz, BX⟩ := hcut
        have BB : Below w.heap.size w wc := C4.out.trans (BX.mono C4.out.size)
        have R2 := hide (At3.below R1.out hsz1 BX)
        have hsz2 : w.heap.size < wc.heap.size := Nat.lt_of_lt_of_le hsz1 BX.size
        obtain ⟨s0, s1, s2, x0, x1, x2⟩ := RS.out
        unfold numV at s1 s2
        rw [← hM'.out] at s0
        rw [← hS'.out] at s1
        rw [← hK'.out] at s2
        have hk' : okAt (remL ss ms ts) (ms ++ ts) k = (pureB t (k : Int) && !decide (t.sum ∈ ms ++ ts)) := by unfold okAt; rw [hrem.out, hF.out]
        have hnext : Hid (okAt (remL ss ms ts) (ms ++ ts) k = false → ∀ j, j < k + 1 → okAt (remL ss ms ts) (ms ++ ts) j = false) := hide (fun e0 j hj => by
          by_cases e : j = k
          · rw [e]; exact e0
          · exact hd.out j (by omega))
        have hret : Hid (okAt (remL ss ms ts) (ms ++ ts) k = true → nextR ss ms ts = ((k : Int), t)) := hide (fun e0 => by
          rw [nextR_some (next_some (by rw [remL_len, hl.out]; exact hlt) hd.out e0), hF.out])
        have hck : Hid (t.check = checkW t.sum ↔ (t.check.toNat : Int) = ((checkW t.sum).toNat : Int)) := hide ⟨fun e => by rw [e], fun e => BitVec.eq_of_toNat_eq (Int.ofNat.inj e)⟩
        obtain ⟨Q, hQ⟩ : ∃ Z, Z = ((checkW t.sum).toNat : Int) := ⟨_, rfl⟩
        rw [← hQ, ← hK'.out] at hck
        replace hQ := hide hQ
        replace BB := hide BB
        clear hd RS BX R1 C4 a0' a1' a2' q0' q1' q2' b0 b1 b2 e1 e2 hrem hF hX1 hX2 hS2 hK2 hS1 hK1 hSa hKa hSb hKb ht hsz0 lb lb1 la1
        by_cases hone : M' = 1 ∨ M' = -1
        · have hof := hide (hk'.trans (ok_of (ms := ms) (ts := ts) (i := (k : Int)) (by rw [← hM'.out]; exact hone)))
          clear hk'
          cases hin : inI t.sum (k : Int) with
          | false =>
            have hno := hide (hnext.out (by rw [hof.out, hin]; rfl))
            obtain ⟨y1, hy1⟩ : ∃ y, decide (t.sum ∈ ms) = y := ⟨_, rfl⟩
            obtain ⟨y2, hy2⟩ : ∃ y, decide (t.sum ∈ ts) = y := ⟨_, rfl⟩
            replace hin := hide hin
            replace hy1 := hide hy1
            replace hy2 := hide hy2
            clear hof hnext hret hck
            rcases hone with rfl | rfl
            all_goals
              go_wp2_with fail
              refine (ref_in_to _ _ t.sum false hS'.out hin.out _).mono ?_
              rintro e w9 ⟨rfl, rfl⟩
              go_wp2_with fail
              refine (has_to gm.out BB.out _ t.sum y1 hS'.out hy1.out).mono ?_
              rintro e w9 ⟨rfl, rfl⟩
              go_wp2_with fail
              refine (has_to gt.out BB.out _ t.sum y2 hS'.out hy2.out).mono ?_
              rintro e w9 ⟨rfl, rfl⟩
              go_wp2_with fail
              refine wp_region_calm (fun w' => Below wc.heap.size wc w') (by kernel_rfl) (by kernel_rfl) (below_drewN (Below.refl _ _) 1) ?_
              repeat (first
                | go_big_quiet_skip
                | (go_big_quiet_want
                   first
                     | (go_big_quiet_op; go_big_quiet_on)
                     | (apply Exists.intro
                        refine ⟨fun w' hw' => ?_, ?_⟩
                        focus
                          obtain ⟨hc', hf'⟩ := bcell hw'
                          go_simp
                          try first
                            | rfl
                            | (with_reducible rfl)
                        go_big_quiet_on)
                   try simp only [Act.put, List.setIfInBounds_toArray, List.set_cons_zero, List.set_cons_succ]))
              refine wpQuiet_nil ?_
              intro V HV
              have BV := BB.out.trans (HV.mono BB.out.size)
              have RV := hide (At3.below R2.out hsz2 HV)
              have hsz3 : w.heap.size < V.heap.size := Nat.lt_of_lt_of_le hsz2 HV.size
              clear HV R2
              go_wp2_with fail
              go_roundw
              case rel => exact ⟨k + 1, by omega, by go_num, hno, RV, hsz3, BV⟩
              case measure => simp [intOf]; omega
          | true =>
            cases hy1 : decide (t.sum ∈ ms) with
            | true =>
              have hno := hide (hnext.out (by rw [hof.out, hin, hy1]; rfl))
              obtain ⟨y2, hy2⟩ : ∃ y, decide (t.sum ∈ ts) = y := ⟨_, rfl⟩
              replace hin := hide hin
              replace hy1 := hide hy1
              replace hy2 := hide hy2
              clear hof hnext hret hck
              rcases hone with rfl | rfl
              all_goals
                go_wp2_with fail
                refine (ref_in_to _ _ t.sum true hS'.out hin.out _).mono ?_
                rintro e w9 ⟨rfl, rfl⟩
                go_wp2_with fail
                refine (has_to gm.out BB.out _ t.sum true hS'.out hy1.out).mono ?_
                rintro e w9 ⟨rfl, rfl⟩
                go_wp2_with fail
                refine (has_to gt.out BB.out _ t.sum y2 hS'.out hy2.out).mono ?_
                rintro e w9 ⟨rfl, rfl⟩
                go_wp2_with fail
                refine wp_region_calm (fun w' => Below wc.heap.size wc w') (by kernel_rfl) (by kernel_rfl) (below_drewN (Below.refl _ _) 1) ?_
                repeat (first
                  | go_big_quiet_skip
                  | (go_big_quiet_want
                     first
                       | (go_big_quiet_op; go_big_quiet_on)
                       | (apply Exists.intro
                          refine ⟨fun w' hw' => ?_, ?_⟩
                          focus
                            obtain ⟨hc', hf'⟩ := bcell hw'
                            go_simp
                            try first
                              | rfl
                              | (with_reducible rfl)
                          go_big_quiet_on)
                     try simp only [Act.put, List.setIfInBounds_toArray, List.set_cons_zero, List.set_cons_succ]))
                refine wpQuiet_nil ?_
                intro V HV
                have BV := BB.out.trans (HV.mono BB.out.size)
                have RV := hide (At3.below R2.out hsz2 HV)
                have hsz3 : w.heap.size < V.heap.size := Nat.lt_of_lt_of_le hsz2 HV.size
                clear HV R2
                go_wp2_with fail
                go_roundw
                case rel => exact ⟨k + 1, by omega, by go_num, hno, RV, hsz3, BV⟩
                case measure => simp [intOf]; omega
            | false =>
              cases hy2 : decide (t.sum ∈ ts) with
              | true =>
                have hno := hide (hnext.out (by rw [hof.out, hin, hy1, hy2]; rfl))
                replace hin := hide hin
                replace hy1 := hide hy1
                replace hy2 := hide hy2
                clear hof hnext hret hck
                rcases hone with rfl | rfl
                all_goals
                  go_wp2_with fail
                  refine (ref_in_to _ _ t.sum true hS'.out hin.out _).mono ?_
                  rintro e w9 ⟨rfl, rfl⟩
                  go_wp2_with fail
                  refine (has_to gm.out BB.out _ t.sum false hS'.out hy1.out).mono ?_
                  rintro e w9 ⟨rfl, rfl⟩
                  go_wp2_with fail
                  refine (has_to gt.out BB.out _ t.sum true hS'.out hy2.out).mono ?_
                  rintro e w9 ⟨rfl, rfl⟩
                  go_wp2_with fail
                  refine wp_region_calm (fun w' => Below wc.heap.size wc w') (by kernel_rfl) (by kernel_rfl) (below_drewN (Below.refl _ _) 1) ?_
                  repeat (first
                    | go_big_quiet_skip
                    | (go_big_quiet_want
                       first
                         | (go_big_quiet_op; go_big_quiet_on)
                         | (apply Exists.intro
                            refine ⟨fun w' hw' => ?_, ?_⟩
                            focus
                              obtain ⟨hc', hf'⟩ := bcell hw'
                              go_simp
                              try first
                                | rfl
                                | (with_reducible rfl)
                            go_big_quiet_on)
                       try simp only [Act.put, List.setIfInBounds_toArray, List.set_cons_zero, List.set_cons_succ]))
                  refine wpQuiet_nil ?_
                  intro V HV
                  have BV := BB.out.trans (HV.mono BB.out.size)
                  have RV := hide (At3.below R2.out hsz2 HV)
                  have hsz3 : w.heap.size < V.heap.size := Nat.lt_of_lt_of_le hsz2 HV.size
                  clear HV R2
                  go_wp2_with fail
                  go_roundw
                  case rel => exact ⟨k + 1, by omega, by go_num, hno, RV, hsz3, BV⟩
                  case measure => simp [intOf]; omega
              | false =>
                by_cases hc : K' = Q
                · have hyes := hide (hret.out (by rw [hof.out, hin, hy1, hy2, decide_eq_true (hck.out.2 hc)]; rfl))
                  have hcb : (K' == Q) = true := by simpa using hc
                  subst hc
                  replace hin := hide hin
                  replace hy1 := hide hy1
                  replace hy2 := hide hy2
                  clear hof hnext hret hck
                  rcases hone with rfl | rfl
                  · go_wp2_with fail
                    refine (ref_in_to _ _ t.sum true hS'.out hin.out _).mono ?_
                    rintro e w9 ⟨rfl, rfl⟩
                    go_wp2_with fail
                    refine (has_to gm.out BB.out _ t.sum false hS'.out hy1.out).mono ?_
                    rintro e w9 ⟨rfl, rfl⟩
                    go_wp2_with fail
                    refine (has_to gt.out BB.out _ t.sum false hS'.out hy2.out).mono ?_
                    rintro e w9 ⟨rfl, rfl⟩
                    go_wp2_with fail
                    refine wp_region_calm (fun w' => Below wc.heap.size wc w') (by kernel_rfl) (by kernel_rfl) (below_drewN (Below.refl _ _) 1) ?_
                    repeat (first
                      | go_big_quiet_skip
                      | (go_big_quiet_want
                         first
                           | (go_big_quiet_op; go_big_quiet_on)
                           | (apply Exists.intro
                              refine ⟨fun w' hw' => ?_, ?_⟩
                              focus
                                obtain ⟨hc', hf'⟩ := bcell hw'
                                go_simp
                                try first
                                  | rfl
                                  | (with_reducible rfl)
                                  | (with_reducible refine (ref_check_to _ _ t.sum hS'.out hQ.out _).mono ?_; exact fun _ _ h => ⟨h.1, h.2 ▸ hw'⟩)
                              go_big_quiet_on)
                         try simp only [Act.put, List.setIfInBounds_toArray, List.set_cons_zero, List.set_cons_succ]))
                    refine wpQuiet_nil ?_
                    intro V HV
                    have BV := BB.out.trans (HV.mono BB.out.size)
                    have RV := hide (At3.below R2.out hsz2 HV)
                    have hsz3 : w.heap.size < V.heap.size := Nat.lt_of_lt_of_le hsz2 HV.size
                    obtain ⟨hcV, hfV⟩ := bcell HV
                    have sV := HV.size
                    have s0' : V.cell? ⟨W1.heap.size, 0, none⟩ = _ := (hcV _ _ lsz).trans s0
                    have s1' : V.cell? ⟨W1.heap.size, 1, none⟩ = _ := (hcV _ _ lsz).trans s1
                    have s2' : V.cell? ⟨W1.heap.size, 2, none⟩ = _ := (hcV _ _ lsz).trans s2
                    have lV : W1.heap.size < V.heap.size := by omega
                    clear HV R2 hcV hfV s0 s1 s2 x0 x1 x2 sV lsz
                    go_wp2_with fail
                    refine wp_region_calm_tail (fun w' => Below V.heap.size V w') 3 (by kernel_rfl) (by kernel_rfl) (below_drewN (Below.refl _ _) 1) ?_
                    simp only [List.take_succ_cons, List.take_zero, List.drop_succ_cons, List.drop_zero]
                    repeat (first
                      | go_big_quiet_skip
                      | (go_big_quiet_want
                         first
                           | (go_big_quiet_op; go_big_quiet_on)
                           | (apply Exists.intro
                              refine ⟨fun w' hw' => ?_, ?_⟩
                              focus
                                obtain ⟨hc', hf'⟩ := bcell hw'
                                go_simp
                                try first
                                  | rfl
                                  | (with_reducible rfl)
                              go_big_quiet_on)
                         try simp only [Act.put, List.setIfInBounds_toArray, List.set_cons_zero, List.set_cons_succ]))
                    refine wpQuiet_nil ?_
                    intro U HU
                    have R9 := At3.below RV.out hsz3 HU
                    have BU := BV.trans (HU.mono BV.size)
                    obtain ⟨c0, c1, c2, f0, f1, f2⟩ := R9
                    clear HU
                    refine wpList_plain rfl (fun K hK => ?_)
                    go_simp
                    refine hK _ _ ?_
                    clear hK K
                    obtain ⟨W9, hW9⟩ : ∃ V, V = ((U.setCell ⟨w.heap.size, 0, none⟩ (.int .i64 1)).setCell ⟨w.heap.size, 1, none⟩ (.int .u64 S')).setCell ⟨w.heap.size, 2, none⟩ (.int .u64 K') := ⟨_, rfl⟩
                    rw [← hW9]
                    have z0 : W9.cell? ⟨w.heap.size, 0, none⟩ = some (.int .i64 1) := by rw [hW9]; simp [*, go_sem]
                    have z1 : W9.cell? ⟨w.heap.size, 1, none⟩ = some (.int .u64 S') := by rw [hW9]; simp [*, go_sem]
                    have z2 : W9.cell? ⟨w.heap.size, 2, none⟩ = some (.int .u64 K') := by rw [hW9]; simp [*, go_sem]
                    have BW9 : Below w.heap.size w W9 := by rw [hW9]; exact ((BU.setCell (by simp) _).setCell (by simp) _).setCell (by simp) _
                    clear hW9 c0 c1 c2 f0 f1 f2
                    rename_i hKx
                    refine hKx _ _ (wp_ret ?_)
                    simp (config := { zetaDelta := true }) only [Exit.inBlock, Exit.then]
                    show bodyPost Try.prog Try.f36 _ .ret _ W9
                    refine bodyPost_ret (by simp [results, Try.results36, go_sem, *]; try rfl) rfl ?_
                    exact ⟨by rw [hyes.out]; unfold symV; rw [← hM'.out, ← hS'.out, ← hK'.out], BW9⟩
                  · go_wp2_with fail
                    refine (ref_in_to _ _ t.sum true hS'.out hin.out _).mono ?_
                    rintro e w9 ⟨rfl, rfl⟩
                    go_wp2_with fail
                    refine (has_to gm.out BB.out _ t.sum false hS'.out hy1.out).mono ?_
                    rintro e w9 ⟨rfl, rfl⟩
                    go_wp2_with fail
                    refine (has_to gt.out BB.out _ t.sum false hS'.out hy2.out).mono ?_
                    rintro e w9 ⟨rfl, rfl⟩
                    go_wp2_with fail
                    refine wp_region_calm (fun w' => Below wc.heap.size wc w') (by kernel_rfl) (by kernel_rfl) (below_drewN (Below.refl _ _) 1) ?_
                    repeat (first
                      | go_big_quiet_skip
                      | (go_big_quiet_want
                         first
                           | (go_big_quiet_op; go_big_quiet_on)
                           | (apply Exists.intro
                              refine ⟨fun w' hw' => ?_, ?_⟩
                              focus
                                obtain ⟨hc', hf'⟩ := bcell hw'
                                go_simp
                                try first
                                  | rfl
                                  | (with_reducible rfl)
                                  | (with_reducible refine (ref_check_to _ _ t.sum hS'.out hQ.out _).mono ?_; exact fun _ _ h => ⟨h.1, h.2 ▸ hw'⟩)
                              go_big_quiet_on)
                         try simp only [Act.put, List.setIfInBounds_toArray, List.set_cons_zero, List.set_cons_succ]))
                    refine wpQuiet_nil ?_
                    intro V HV
                    have BV := BB.out.trans (HV.mono BB.out.size)
                    have RV := hide (At3.below R2.out hsz2 HV)
                    have hsz3 : w.heap.size < V.heap.size := Nat.lt_of_lt_of_le hsz2 HV.size
                    obtain ⟨hcV, hfV⟩ := bcell HV
                    have sV := HV.size
                    have s0' : V.cell? ⟨W1.heap.size, 0, none⟩ = _ := (hcV _ _ lsz).trans s0
                    have s1' : V.cell? ⟨W1.heap.size, 1, none⟩ = _ := (hcV _ _ lsz).trans s1
                    have s2' : V.cell? ⟨W1.heap.size, 2, none⟩ = _ := (hcV _ _ lsz).trans s2
                    have lV : W1.heap.size < V.heap.size := by omega
                    clear HV R2 hcV hfV s0 s1 s2 x0 x1 x2 sV lsz
                    go_wp2_with fail
                    refine wp_region_calm_tail (fun w' => Below V.heap.size V w') 3 (by kernel_rfl) (by kernel_rfl) (below_drewN (Below.refl _ _) 1) ?_
                    simp only [List.take_succ_cons, List.take_zero, List.drop_succ_cons, List.drop_zero]
                    repeat (first
                      | go_big_quiet_skip
                      | (go_big_quiet_want
                         first
                           | (go_big_quiet_op; go_big_quiet_on)
                           | (apply Exists.intro
                              refine ⟨fun w' hw' => ?_, ?_⟩
                              focus
                                obtain ⟨hc', hf'⟩ := bcell hw'
                                go_simp
                                try first
                                  | rfl
                                  | (with_reducible rfl)
                              go_big_quiet_on)
                         try simp only [Act.put, List.setIfInBounds_toArray, List.set_cons_zero, List.set_cons_succ]))
                    refine wpQuiet_nil ?_
                    intro U HU
                    have R9 := At3.below RV.out hsz3 HU
                    have BU := BV.trans (HU.mono BV.size)
                    obtain ⟨c0, c1, c2, f0, f1, f2⟩ := R9
                    clear HU
                    refine wpList_plain rfl (fun K hK => ?_)
                    go_simp
                    refine hK _ _ ?_
                    clear hK K
                    obtain ⟨W9, hW9⟩ : ∃ V, V = ((U.setCell ⟨w.heap.size, 0, none⟩ (.int .i64 (-1))).setCell ⟨w.heap.size, 1, none⟩ (.int .u64 S')).setCell ⟨w.heap.size, 2, none⟩ (.int .u64 K') := ⟨_, rfl⟩
                    rw [← hW9]
                    have z0 : W9.cell? ⟨w.heap.size, 0, none⟩ = some (.int .i64 (-1)) := by rw [hW9]; simp [*, go_sem]
                    have z1 : W9.cell? ⟨w.heap.size, 1, none⟩ = some (.int .u64 S') := by rw [hW9]; simp [*, go_sem]
                    have z2 : W9.cell? ⟨w.heap.size, 2, none⟩ = some (.int .u64 K') := by rw [hW9]; simp [*, go_sem]
                    have BW9 : Below w.heap.size w W9 := by rw [hW9]; exact ((BU.setCell (by simp) _).setCell (by simp) _).setCell (by simp) _
                    clear hW9 c0 c1 c2 f0 f1 f2
                    rename_i hKx
                    refine hKx _ _ (wp_ret ?_)
                    simp (config := { zetaDelta := true }) only [Exit.inBlock, Exit.then]
                    show bodyPost Try.prog Try.f36 _ .ret _ W9
                    refine bodyPost_ret (by simp [results, Try.results36, go_sem, *]; try rfl) rfl ?_
                    exact ⟨by rw [hyes.out]; unfold symV; rw [← hM'.out, ← hS'.out, ← hK'.out], BW9⟩
                · have hno := hide (hnext.out (by rw [hof.out, hin, hy1, hy2, decide_eq_false (fun e => hc (hck.out.1 e))]; rfl))
                  have hcb : (K' == Q) = false := by simpa using hc
                  replace hin := hide hin
                  replace hy1 := hide hy1
                  replace hy2 := hide hy2
                  clear hof hnext hret hck
                  rcases hone with rfl | rfl
                  all_goals
                    go_wp2_with fail
                    refine (ref_in_to _ _ t.sum true hS'.out hin.out _).mono ?_
                    rintro e w9 ⟨rfl, rfl⟩
                    go_wp2_with fail
                    refine (has_to gm.out BB.out _ t.sum false hS'.out hy1.out).mono ?_
                    rintro e w9 ⟨rfl, rfl⟩
                    go_wp2_with fail
                    refine (has_to gt.out BB.out _ t.sum false hS'.out hy2.out).mono ?_
                    rintro e w9 ⟨rfl, rfl⟩
                    go_wp2_with fail
                    refine wp_region_calm (fun w' => Below wc.heap.size wc w') (by kernel_rfl) (by kernel_rfl) (below_drewN (Below.refl _ _) 1) ?_
                    repeat (first
                      | go_big_quiet_skip
                      | (go_big_quiet_want
                         first
                           | (go_big_quiet_op; go_big_quiet_on)
                           | (apply Exists.intro
                              refine ⟨fun w' hw' => ?_, ?_⟩
                              focus
                                obtain ⟨hc', hf'⟩ := bcell hw'
                                go_simp
                                try first
                                  | rfl
                                  | (with_reducible rfl)
                                  | (with_reducible refine (ref_check_to _ _ t.sum hS'.out hQ.out _).mono ?_; exact fun _ _ h => ⟨h.1, h.2 ▸ hw'⟩)
                              go_big_quiet_on)
                         try simp only [Act.put, List.setIfInBounds_toArray, List.set_cons_zero, List.set_cons_succ]))
                    refine wpQuiet_nil ?_
                    intro V HV
                    have BV := BB.out.trans (HV.mono BB.out.size)
                    have RV := hide (At3.below R2.out hsz2 HV)
                    have hsz3 : w.heap.size < V.heap.size := Nat.lt_of_lt_of_le hsz2 HV.size
                    clear HV R2
                    go_wp2_with fail
                    go_roundw
                    case rel => exact ⟨k + 1, by omega, by go_num, hno, RV, hsz3, BV⟩
                    case measure => simp [intOf]; omega
        · have hno := hide (hnext.out (hk'.trans (ok_many (by rw [← hM'.out]; exact fun e => hone (.inl e)) (by rw [← hM'.out]; exact fun e => hone (.inr e)))))
          have g1 : (M' == 1) = false := by simpa using (fun e => hone (.inl e))
          have g2 : (M' == -1) = false := by simpa using (fun e => hone (.inr e))
          have g3 : ¬ M' = 1 := fun e => hone (.inl e)
          have g4 : ¬ M' = -1 := fun e => hone (.inr e)
          have g5 : (M' != 1) = true := by simpa using g3
          have g6 : (M' != -1) = true := by simpa using g4
          clear hone hk' hnext hret hck
          go_wp2_with fail
          go_roundw
          case rel => exact ⟨k + 1, by omega, by go_num, hno, R2, hsz2, BB.out⟩
          case measure => simp [intOf]; omega
    · obtain rfl : k = n := by omega
      have hnone := hide (nextR_none (next_none (l := remL ss ms ts) (T := ms ++ ts) (fun j hj => hd.out j (by rw [remL_len, hl.out] at hj; exact hj))))
      obtain ⟨c0, c1, c2, f0, f1, f2⟩ := R0.out
      clear hd
      go_upto_region 13 with fail
      refine wp_region_lit ?_
      refine wpList_plain rfl (fun K' hK' => ?_)
      go_simp
      refine hK' _ _ ?_
      clear hK' K'
      refine wpList_plain rfl (fun K' hK' => ?_)
      go_simp
      refine hK' _ _ ?_
      clear hK' K'
      refine wpList_plain rfl (fun K' hK' => ?_)
      go_simp
      refine hK' _ _ ?_
      clear hK' K'
      obtain ⟨W9, hW9⟩ : ∃ V, V = ((wr.setCell ⟨w.heap.size, 0, none⟩ (.int .i64 0)).setCell ⟨w.heap.size, 1, none⟩ (.int .u64 0)).setCell ⟨w.heap.size, 2, none⟩ (.int .u64 0) := ⟨_, rfl⟩
      rw [← hW9]
      have z0 : W9.cell? ⟨w.heap.size, 0, none⟩ = some (.int .i64 0) := by rw [hW9]; simp [*, go_sem]
      have z1 : W9.cell? ⟨w.heap.size, 1, none⟩ = some (.int .u64 0) := by rw [hW9]; simp [*, go_sem]
      have z2 : W9.cell? ⟨w.heap.size, 2, none⟩ = some (.int .u64 0) := by rw [hW9]; simp [*, go_sem]
      have BW9 : Below w.heap.size w W9 := by rw [hW9]; exact ((B0.setCell (by simp) _).setCell (by simp) _).setCell (by simp) _
      clear hW9 c0 c1 c2 f0 f1 f2
      rename_i hKx
      refine hKx _ _ (wp_ret ?_)
      show bodyPost Try.prog Try.f36 _ .ret _ W9
      refine bodyPost_ret (by simp [results, Try.results36, go_sem, *]; try rfl) rfl ?_
      exact ⟨by rw [hnone.out]; rfl, BW9⟩
end Go.Proofs.Ytabgenhednhagaa

/-
  Chapter 31: Crash, by the reference.
-/
import Derived.Test.YtfmgmpelgnickaaRef6
namespace Go.Proofs.Ytfmgmpelgnickaa
open Go.RowKit Plain
set_option linter.unusedSimpArgs false
set_option linter.unusedVariables false
attribute [local go_sem ↓] Go.wp_at_zero Go.wp_at_succ

def i64 (z : Int) : Value := .int .i64 z
/-- A slice of whole numbers. -/
def Nts (w : World) (A : Option Addr) (n c : Nat) (zs : List Int) : Prop := Row w 1 A n c (zs.map i64)
theorem Nts.below {w w' : World} {A : Option Addr} {n c : Nat} {zs : List Int} (h : Nts w A n c zs) (hb : Below w.heap.size w w') : Nts w' A n c zs := Row.below h hb
theorem Nts.len {w : World} {A : Option Addr} {n c : Nat} {zs : List Int} (h : Nts w A n c zs) : zs.length = n := by have := h.1; rw [List.length_map] at this; omega
theorem Nts.max {w : World} {A : Option Addr} {n c : Nat} {zs : List Int} (h : Nts w A n c zs) : n ≤ 9223372036854775807 := Row.max h
theorem nts_nil (w : World) : Nts w none 0 0 [] := row_nil w 1
theorem Nts.at_ {w wr : World} {A : Option Addr} {n c : Nat} {zs : List Int} (h : Nts w A n c zs) (hB : Below w.heap.size w wr) {k : Nat} (hk : k < n) :
    ∃ b off, A = some ⟨b, off, .none⟩ ∧ b < wr.heap.size ∧ wr.cell? ⟨b, off + k, .none⟩ = some (.int .i64 (zs.getD k 0)) := by
  have hl := h.len
  obtain ⟨b, off, e, hlt, hc⟩ := (h.below hB).2.2.2.2 (by omega)
  refine ⟨b, off, e, hlt, ?_⟩
  rw [hc k (by omega)]
  have hk2 : k < zs.length := by omega
  simp [List.getD_eq_getElem?_getD, hk2, i64]
/-- A store where nil lay leaves pages alone, none of which is empty. -/
theorem Pags.putZ {w : World} {A : Option Addr} {n c : Nat} {ps : List Pg} (h : Pags w A n c ps) (hne : ∀ j, j < n → (ps.getD j []).length = 256) {p : Addr} (hp : w.cell? p = some (.slice none 0 0)) (x : Value) : Pags (w.setCell p x) A n c ps := by
  obtain ⟨hl, vs, hr, hpg⟩ := h
  refine ⟨hl, vs, ⟨hr.1, hr.2.1, hr.2.2.1, hr.2.2.2.1, fun hn => ?_⟩, fun j hj => (hpg j hj).set hp x⟩
  obtain ⟨b, off, e, hb, hc⟩ := hr.2.2.2.2 hn
  refine ⟨b, off, e, by simpa using hb, fun j hj => ?_⟩
  rw [World.cell?_setCell_other _ _ _ _ (fun q => ?_)]
  · exact hc j hj
  · have h1 := hc j hj
    rw [← q, hp] at h1
    have h2 := hpg j (by omega)
    injection h1 with h1
    rw [← h1] at h2
    obtain ⟨A', n', c', e', hB⟩ := h2
    injection e' with e1 e2 e3
    subst e1 e2 e3
    have := hB.len
    rw [hne j (by omega)] at this
    omega
theorem torn_to {A B : Option Addr} {n c m d : Nat} {b was : Pg} {w : World} (h : Byt w A n c b) (g : Byt w B m d was) (cut : Nat) (x : Int) (hx : x = (cut : Int)) (hn : n = 256) (hm : m = 256) (hc : cut ≤ 256) (P : Pg) (hP : torn b was cut = P) :
    Calls Try.prog 38 #[.slice A n c, .slice B m d, .int .i64 x] w (RetByt w P) := by subst hx; exact torn_any h g cut hn hm hc P hP

theorem ref_crash_wrong {A B C : Option Addr} {n c m d l e : Nat} {ps : List Pg} {ws : List Od} {w : World} (h : Pags w A n c ps) (g : Olds w B m d ws) (hr : rightB ps ws = false) : Calls Try.prog 24 #[.agg #[.slice A n c, .slice B m d], .slice C l e] w (RetD w ps ws) := by
  have g0 : Below w.heap.size w ((w.alloc (.cells #[.slice A n c, .slice B m d] 25)).alloc (.cells #[.slice none 0 0, .slice none 0 0] 25)) := by go_grown
  have h0 := hide h
  have gg := hide g
  replace h := hide (h.below g0)
  replace g := hide (g.below g0)
  replace g0 := hide g0
  replace hr := hide hr
  go_enter Try.func24, Try.ntmps24
  go_wp2_with fail
  refine (ref_right_any h.out g.out false hr.out).mono ?_
  rintro e w1 ⟨rfl, hb⟩
  have DB := hide (g0.out.trans (hb.mono g0.out.size))
  have c0 : w1.cell? ⟨w.heap.size, 0, none⟩ = some (.slice A n c) := (hb.cell (p := ⟨w.heap.size, 0, none⟩) (by simp; omega)).trans (by go_side)
  have c1 : w1.cell? ⟨w.heap.size, 1, none⟩ = some (.slice B m d) := (hb.cell (p := ⟨w.heap.size, 1, none⟩) (by simp; omega)).trans (by go_side)
  have r0 : w1.cell? ⟨w.heap.size + 1, 0, none⟩ = some (.slice none 0 0) := (hb.cell (p := ⟨w.heap.size + 1, 0, none⟩) (by simp)).trans (by go_side)
  have r1 : w1.cell? ⟨w.heap.size + 1, 1, none⟩ = some (.slice none 0 0) := (hb.cell (p := ⟨w.heap.size + 1, 1, none⟩) (by simp)).trans (by go_side)
  have f0 : w1.frozen? ⟨w.heap.size + 1, 0, none⟩ = false := (hb.frozen (p := ⟨w.heap.size + 1, 0, none⟩) (by simp)).trans (by go_side)
  have f1 : w1.frozen? ⟨w.heap.size + 1, 1, none⟩ = false := (hb.frozen (p := ⟨w.heap.size + 1, 1, none⟩) (by simp)).trans (by go_side)
  have sz : w.heap.size + 2 ≤ w1.heap.size := by have := hb.size; simp at this; omega
  clear hb hr
  go_wp2_with fail
  refine bodyPost_ret (v := .agg #[.slice A n c, .slice B m d]) (by simp [results, Try.results24, go_sem, r0, r1, f0, f1]) rfl ?_
  have BV := (DB.out.setCell (p := ⟨w.heap.size + 1, 0, none⟩) (by simp) (.slice A n c)).setCell (p := ⟨w.heap.size + 1, 1, none⟩) (by simp) (.slice B m d)
  exact ⟨A, n, c, B, m, d, rfl, h0.out.below BV, gg.out.below BV, BV⟩

/-- What a disk's own cells hold when the loop begins. -/
structure Held (w w1 : World) (v0 v1 : Value) : Prop where
  c0 : w1.cell? ⟨w.heap.size, 0, none⟩ = some v0
  c1 : w1.cell? ⟨w.heap.size, 1, none⟩ = some v1
  r0 : w1.cell? ⟨w.heap.size + 1, 0, none⟩ = some (.slice none 0 0)
  r1 : w1.cell? ⟨w.heap.size + 1, 1, none⟩ = some (.slice none 0 0)
  f0 : w1.frozen? ⟨w.heap.size + 1, 0, none⟩ = false
  f1 : w1.frozen? ⟨w.heap.size + 1, 1, none⟩ = false
  sz : w.heap.size + 2 ≤ w1.heap.size
theorem Held.below {w w1 w2 : World} {v0 v1 : Value} (h : Held w w1 v0 v1) (hb : Below w1.heap.size w1 w2) : Held w w2 v0 v1 := by
  have := h.sz
  exact ⟨(hb.cell (p := ⟨_, 0, .none⟩) (by simp; omega)).trans h.c0, (hb.cell (p := ⟨_, 1, .none⟩) (by simp; omega)).trans h.c1, (hb.cell (p := ⟨_, 0, .none⟩) (by simp; omega)).trans h.r0, (hb.cell (p := ⟨_, 1, .none⟩) (by simp; omega)).trans h.r1,
    (hb.frozen (p := ⟨_, 0, .none⟩) (by simp; omega)).trans h.f0, (hb.frozen (p := ⟨_, 1, .none⟩) (by simp; omega)).trans h.f1, Nat.le_trans h.sz hb.size⟩
set_option maxRecDepth 10000 in
set_option maxHeartbeats 4000000 in
theorem ref_crash_good {A B C : Option Addr} {n c m d l e : Nat} {ps : List Pg} {ws : List Od} {cuts : List Int} {w : World} (h : Pags w A n c ps) (g : Olds w B m d ws) (u : Nts w C l e cuts) (R : Rt ps ws) (hm : m ≤ 100000) (P : List Pg) (hP : crashTo ps ws cuts m = P) :
    Calls Try.prog 24 #[.agg #[.slice A n c, .slice B m d], .slice C l e] w (RetD w P []) := by
  subst hP
  have hr := hide ((right_iff ps ws).2 R)
  have g0 : Below w.heap.size w ((w.alloc (.cells #[.slice A n c, .slice B m d] 25)).alloc (.cells #[.slice none 0 0, .slice none 0 0] 25)) := by go_grown
  have hum := u.max
  have ul := hide u.len
  have hl := hide h.1
  have gl := hide g.1
  have hn : n ≤ 4096 := by rw [← hl.out]; exact R.hi
  have hR : Hid (∀ t, t < m → 0 ≤ (ws.getD t od0).1 ∧ (ws.getD t od0).1 < (n : Int)) := hide (fun t ht => by have := R.old t (by rw [gl.out]; exact ht); rw [hl.out] at this; exact ⟨this.1, this.2.1⟩)
  have hwl : Hid (∀ t, t < m → (wrote ps ws t).length = 256) := hide (fun t ht => wrote_len R (by rw [gl.out]; exact ht))
  have hcl : Hid (∀ t, (crashTo ps ws cuts t).length = n) := hide (fun t => by rw [crashTo_len]; exact hl.out)
  have hcp : Hid (∀ t a, t ≤ m → a < n → ((crashTo ps ws cuts t).getD a []).length = 256) := hide (fun t a ht ha => crashTo_page R cuts (by rw [gl.out]; exact ht) (by rw [hl.out]; exact ha))
  have hstep : Hid (∀ t, crashTo ps ws cuts (t + 1) = (crashTo ps ws cuts t).set (ws.getD t od0).1.toNat (torn (wrote ps ws t) ((crashTo ps ws cuts t).getD (ws.getD t od0).1.toNat []) (cutAt cuts t))) := hide (fun t => rfl)
  replace R := hide R
  replace h := hide (h.below g0)
  replace g := hide (g.below g0)
  replace u := hide (u.below g0)
  replace g0 := hide g0
  go_enter Try.func24, Try.ntmps24
  go_wp2_with fail
  refine (ref_right_any h.out g.out true hr.out).mono ?_
  rintro e w1 ⟨rfl, hb⟩
  have DB := hide (g0.out.trans (hb.mono g0.out.size))
  have H : Hid (Held w w1 (.slice A n c) (.slice B m d)) := hide ⟨(hb.cell (p := ⟨w.heap.size, 0, none⟩) (by simp; omega)).trans (by go_side), (hb.cell (p := ⟨w.heap.size, 1, none⟩) (by simp; omega)).trans (by go_side),
    (hb.cell (p := ⟨w.heap.size + 1, 0, none⟩) (by simp)).trans (by go_side), (hb.cell (p := ⟨w.heap.size + 1, 1, none⟩) (by simp)).trans (by go_side),
    (hb.frozen (p := ⟨w.heap.size + 1, 0, none⟩) (by simp)).trans (by go_side), (hb.frozen (p := ⟨w.heap.size + 1, 1, none⟩) (by simp)).trans (by go_side), by have := hb.size; simp at this; omega⟩
  replace h := hide (h.out.below hb)
  replace g := hide (g.out.below hb)
  replace u := hide (u.out.below hb)
  have c0 := H.out.c0
  have c1 := H.out.c1
  clear hb hr g0
  go_wp2_with fail
  refine (synced_any h.out g.out R.out hm _ rfl).mono ?_
  rintro e w2 ⟨A2, n2, c2, rfl, P2, hb⟩
  have hn2 : n2 = n := by have := P2.1; rw [synced_len, hl.out] at this; exact this.symm
  subst hn2
  replace P2 := hide P2
  replace DB := hide (st DB.out hb (Below.refl _ _))
  replace H := hide (H.out.below hb)
  replace h := hide (h.out.below hb)
  replace g := hide (g.out.below hb)
  replace u := hide (u.out.below hb)
  clear hb c0 c1
  have c1 := H.out.c1
  go_wp2_with fail
  go_loopw [5, 6] (fun L i wr => ∃ (k : Nat) (A3 : Option Addr) (c3 : Nat), k ≤ m ∧ i = .int .i64 k ∧ L = .slice A3 n2 c3 ∧ Hid (Pags wr A3 n2 c3 (crashTo ps ws cuts k)) ∧ Hid (Below w2.heap.size w2 wr)) (fun _ i _ => m - (intOf i).toNat)
  case atStart => exact ⟨0, A2, c2, by omega, rfl, rfl, hide P2.out, hide (Below.refl _ _)⟩
  case round =>
    clear c1
    obtain ⟨k, A3, c3, hk, rfl, rfl, hd, BW⟩ := hrel
    have HH := H.out.below BW.out
    have c0 := HH.c0
    have c1 := HH.c1
    have sz := HH.sz
    replace HH := hide HH
    by_cases hlt : k < m
    · have hk0 : (0 : Int) ≤ (k : Int) := by omega
      have hkm : (k : Int) < (m : Int) := by omega
      obtain ⟨b, off, Aj, nj, cj, hB, hbk, p0, p1, P1⟩ := g.out.at_ BW.out hlt
      subst hB
      clear p1 P1
      have hX := hR.out k hlt
      have hs := hide (hstep.out k)
      generalize (ws.getD k od0).1 = X at *
      obtain ⟨a, ha⟩ : ∃ a : Nat, X = (a : Int) := ⟨X.toNat, by omega⟩
      subst ha
      rw [Int.toNat_natCast] at hs
      have han : a < n2 := by omega
      have ha0 : (0 : Int) ≤ (a : Int) := by omega
      have han2 : (a : Int) < (n2 : Int) := by omega
      obtain ⟨b3, off3, Ap, np, cp, hA, hbp, t1, T1⟩ := hd.out.at_ (Below.refl _ _) han
      subst hA
      have hnp : np = 256 := by have := T1.len; rw [hcp.out k a (by omega) han] at this; exact this.symm
      subst hnp
      replace T1 := hide T1
      have hc256 := cutAt_le cuts k
      by_cases kl : k < l
      · have klI : (k : Int) < (l : Int) := by omega
        obtain ⟨bc, offc, hC, hbc, y1⟩ := u.out.at_ BW.out kl
        subst hC
        have hcut : Hid (cutAt cuts k = if 0 ≤ cuts.getD k 0 ∧ cuts.getD k 0 < 256 then (cuts.getD k 0).toNat else 256) := hide (by unfold cutAt; rw [ul.out]; simp [kl])
        generalize cuts.getD k 0 = Y at *
        by_cases y2 : 0 ≤ Y
        · by_cases y3 : Y < 256
          · have hy : Hid (Y = (cutAt cuts k : Int)) := hide (by rw [hcut.out, if_pos ⟨y2, y3⟩]; omega)
            have hQ : Hid ((crashTo ps ws cuts k).set a (torn (wrote ps ws k) ((crashTo ps ws cuts k).getD a []) (cutAt cuts k)) = crashTo ps ws cuts (k + 1)) := hide hs.out.symm
            clear hs hcut
            generalize cutAt cuts k = cut at *
            have n1 := World.new_ne wr ⟨w.heap.size, 0, none⟩ c0
            have hw := hide (h.out.below BW.out)
            have gw := hide (g.out.below BW.out)
            have hn1 : n2 ≤ 100000 := by omega
            go_wp2_with fail
            go_region_held3 (fun w' => w'.cell? ⟨w.heap.size, 0, none⟩ = some (.slice A n2 c) ∧ w'.cell? ⟨w.heap.size, 1, none⟩ = some (.slice (some ⟨b, off, none⟩) m d) ∧ w'.cell? ⟨b3, off3 + a, none⟩ = some (.slice Ap 256 cp))
              (first | (refine ⟨?_, ?_, ?_⟩ <;> assumption) | go_keep)
              (first
                | (go_at_call 26; (with_reducible refine (wrote_any (hw.out.below (by go_grown)) (gw.out.below (by go_grown)) R.out hlt hm _ rfl).mono ?_); rintro e w3 ⟨A5, n5, c5, rfl, P5, hb⟩; have D3 : Below wr.heap.size wr w3 := Below.trans (by go_grown) hb; have j0 := (D3.cell (p := ⟨w.heap.size, 0, none⟩) (by simp; omega)).trans c0; have j1 := (D3.cell (p := ⟨w.heap.size, 1, none⟩) (by simp; omega)).trans c1; have j2 := (D3.cell (p := ⟨b3, off3 + a, none⟩) hbp).trans t1; have hn5 : n5 = 256 := (by have := P5.len; rw [hwl.out k hlt] at this; exact this.symm); subst hn5)
                | (go_at_call 38; (with_reducible refine (torn_to P5 (T1.out.below D3) cut _ hy.out rfl rfl hc256 _ rfl).mono ?_); rintro e w4 ⟨A6, n6, c6, rfl, P6, _, hb4⟩; have D4 : Below wr.heap.size wr w4 := D3.trans (hb4.mono D3.size); have i0 := (D4.cell (p := ⟨w.heap.size, 0, none⟩) (by simp; omega)).trans c0; have i1 := (D4.cell (p := ⟨w.heap.size, 1, none⟩) (by simp; omega)).trans c1; have i2 := (D4.cell (p := ⟨b3, off3 + a, none⟩) hbp).trans t1)
                | (go_at_call 30; (with_reducible refine (with_any (hd.out.below D4) P6 a hn1 _ hQ.out).mono ?_); rintro e w5 ⟨A7, n7, c7, rfl, P7, _, hb5⟩; have D5 : Below wr.heap.size wr w5 := D4.trans (hb5.mono D4.size); have o0 := (D5.cell (p := ⟨w.heap.size, 0, none⟩) (by simp; omega)).trans c0; have o1 := (D5.cell (p := ⟨w.heap.size, 1, none⟩) (by simp; omega)).trans c1; have o2 := (D5.cell (p := ⟨b3, off3 + a, none⟩) hbp).trans t1))
            have hn7 : n7 = n2 := by have := P7.1; rw [hcl.out] at this; exact this.symm
            subst hn7
            have BV := hide (BW.out.trans (D5.mono BW.out.size))
            replace P7 := hide P7
            clear c0 c1 p0 t1 T1 D3 D4 D5 hb hb4 hb5 j0 j1 j2 i0 i1 i2 o0 o1 o2 n1 P5 P6 HH
            go_wp2_with fail
            go_roundw
            case rel => exact ⟨k + 1, A7, c7, by omega, by go_num, rfl, P7, BV⟩
            case measure => simp [intOf] <;> omega
          · have hy : Hid ((256 : Int) = (cutAt cuts k : Int)) := hide (by rw [hcut.out, if_neg (fun q => y3 q.2)]; rfl)
            have hQ : Hid ((crashTo ps ws cuts k).set a (torn (wrote ps ws k) ((crashTo ps ws cuts k).getD a []) (cutAt cuts k)) = crashTo ps ws cuts (k + 1)) := hide hs.out.symm
            clear hs hcut
            generalize cutAt cuts k = cut at *
            have n1 := World.new_ne wr ⟨w.heap.size, 0, none⟩ c0
            have hw := hide (h.out.below BW.out)
            have gw := hide (g.out.below BW.out)
            have hn1 : n2 ≤ 100000 := by omega
            go_wp2_with fail
            go_region_held3 (fun w' => w'.cell? ⟨w.heap.size, 0, none⟩ = some (.slice A n2 c) ∧ w'.cell? ⟨w.heap.size, 1, none⟩ = some (.slice (some ⟨b, off, none⟩) m d) ∧ w'.cell? ⟨b3, off3 + a, none⟩ = some (.slice Ap 256 cp))
              (first | (refine ⟨?_, ?_, ?_⟩ <;> assumption) | go_keep)
              (first
                | (go_at_call 26; (with_reducible refine (wrote_any (hw.out.below (by go_grown)) (gw.out.below (by go_grown)) R.out hlt hm _ rfl).mono ?_); rintro e w3 ⟨A5, n5, c5, rfl, P5, hb⟩; have D3 : Below wr.heap.size wr w3 := Below.trans (by go_grown) hb; have j0 := (D3.cell (p := ⟨w.heap.size, 0, none⟩) (by simp; omega)).trans c0; have j1 := (D3.cell (p := ⟨w.heap.size, 1, none⟩) (by simp; omega)).trans c1; have j2 := (D3.cell (p := ⟨b3, off3 + a, none⟩) hbp).trans t1; have hn5 : n5 = 256 := (by have := P5.len; rw [hwl.out k hlt] at this; exact this.symm); subst hn5)
                | (go_at_call 38; (with_reducible refine (torn_to P5 (T1.out.below D3) cut _ hy.out rfl rfl hc256 _ rfl).mono ?_); rintro e w4 ⟨A6, n6, c6, rfl, P6, _, hb4⟩; have D4 : Below wr.heap.size wr w4 := D3.trans (hb4.mono D3.size); have i0 := (D4.cell (p := ⟨w.heap.size, 0, none⟩) (by simp; omega)).trans c0; have i1 := (D4.cell (p := ⟨w.heap.size, 1, none⟩) (by simp; omega)).trans c1; have i2 := (D4.cell (p := ⟨b3, off3 + a, none⟩) hbp).trans t1)
                | (go_at_call 30; (with_reducible refine (with_any (hd.out.below D4) P6 a hn1 _ hQ.out).mono ?_); rintro e w5 ⟨A7, n7, c7, rfl, P7, _, hb5⟩; have D5 : Below wr.heap.size wr w5 := D4.trans (hb5.mono D4.size); have o0 := (D5.cell (p := ⟨w.heap.size, 0, none⟩) (by simp; omega)).trans c0; have o1 := (D5.cell (p := ⟨w.heap.size, 1, none⟩) (by simp; omega)).trans c1; have o2 := (D5.cell (p := ⟨b3, off3 + a, none⟩) hbp).trans t1))
            have hn7 : n7 = n2 := by have := P7.1; rw [hcl.out] at this; exact this.symm
            subst hn7
            have BV := hide (BW.out.trans (D5.mono BW.out.size))
            replace P7 := hide P7
            clear c0 c1 p0 t1 T1 D3 D4 D5 hb hb4 hb5 j0 j1 j2 i0 i1 i2 o0 o1 o2 n1 P5 P6 HH
            go_wp2_with fail
            go_roundw
            case rel => exact ⟨k + 1, A7, c7, by omega, by go_num, rfl, P7, BV⟩
            case measure => simp [intOf] <;> omega
        · have hy : Hid ((256 : Int) = (cutAt cuts k : Int)) := hide (by rw [hcut.out, if_neg (fun q => y2 q.1)]; rfl)
          have hQ : Hid ((crashTo ps ws cuts k).set a (torn (wrote ps ws k) ((crashTo ps ws cuts k).getD a []) (cutAt cuts k)) = crashTo ps ws cuts (k + 1)) := hide hs.out.symm
          clear hs hcut
          generalize cutAt cuts k = cut at *
          have n1 := World.new_ne wr ⟨w.heap.size, 0, none⟩ c0
          have hw := hide (h.out.below BW.out)
          have gw := hide (g.out.below BW.out)
          have hn1 : n2 ≤ 100000 := by omega
          go_wp2_with fail
          go_region_held3 (fun w' => w'.cell? ⟨w.heap.size, 0, none⟩ = some (.slice A n2 c) ∧ w'.cell? ⟨w.heap.size, 1, none⟩ = some (.slice (some ⟨b, off, none⟩) m d) ∧ w'.cell? ⟨b3, off3 + a, none⟩ = some (.slice Ap 256 cp))
            (first | (refine ⟨?_, ?_, ?_⟩ <;> assumption) | go_keep)
            (first
              | (go_at_call 26; (with_reducible refine (wrote_any (hw.out.below (by go_grown)) (gw.out.below (by go_grown)) R.out hlt hm _ rfl).mono ?_); rintro e w3 ⟨A5, n5, c5, rfl, P5, hb⟩; have D3 : Below wr.heap.size wr w3 := Below.trans (by go_grown) hb; have j0 := (D3.cell (p := ⟨w.heap.size, 0, none⟩) (by simp; omega)).trans c0; have j1 := (D3.cell (p := ⟨w.heap.size, 1, none⟩) (by simp; omega)).trans c1; have j2 := (D3.cell (p := ⟨b3, off3 + a, none⟩) hbp).trans t1; have hn5 : n5 = 256 := (by have := P5.len; rw [hwl.out k hlt] at this; exact this.symm); subst hn5)
              | (go_at_call 38; (with_reducible refine (torn_to P5 (T1.out.below D3) cut _ hy.out rfl rfl hc256 _ rfl).mono ?_); rintro e w4 ⟨A6, n6, c6, rfl, P6, _, hb4⟩; have D4 : Below wr.heap.size wr w4 := D3.trans (hb4.mono D3.size); have i0 := (D4.cell (p := ⟨w.heap.size, 0, none⟩) (by simp; omega)).trans c0; have i1 := (D4.cell (p := ⟨w.heap.size, 1, none⟩) (by simp; omega)).trans c1; have i2 := (D4.cell (p := ⟨b3, off3 + a, none⟩) hbp).trans t1)
              | (go_at_call 30; (with_reducible refine (with_any (hd.out.below D4) P6 a hn1 _ hQ.out).mono ?_); rintro e w5 ⟨A7, n7, c7, rfl, P7, _, hb5⟩; have D5 : Below wr.heap.size wr w5 := D4.trans (hb5.mono D4.size); have o0 := (D5.cell (p := ⟨w.heap.size, 0, none⟩) (by simp; omega)).trans c0; have o1 := (D5.cell (p := ⟨w.heap.size, 1, none⟩) (by simp; omega)).trans c1; have o2 := (D5.cell (p := ⟨b3, off3 + a, none⟩) hbp).trans t1))
          have hn7 : n7 = n2 := by have := P7.1; rw [hcl.out] at this; exact this.symm
          subst hn7
          have BV := hide (BW.out.trans (D5.mono BW.out.size))
          replace P7 := hide P7
          clear c0 c1 p0 t1 T1 D3 D4 D5 hb hb4 hb5 j0 j1 j2 i0 i1 i2 o0 o1 o2 n1 P5 P6 HH
          go_wp2_with fail
          go_roundw
          case rel => exact ⟨k + 1, A7, c7, by omega, by go_num, rfl, P7, BV⟩
          case measure => simp [intOf] <;> omega
      · have klI : ¬ (k : Int) < (l : Int) := by omega
        have hcut : Hid (cutAt cuts k = 256) := hide (by unfold cutAt; rw [ul.out, if_neg (fun q => kl q.1)])
        have hy : Hid ((256 : Int) = (cutAt cuts k : Int)) := hide (by rw [hcut.out]; rfl)
        have hQ : Hid ((crashTo ps ws cuts k).set a (torn (wrote ps ws k) ((crashTo ps ws cuts k).getD a []) (cutAt cuts k)) = crashTo ps ws cuts (k + 1)) := hide hs.out.symm
        clear hs hcut
        generalize cutAt cuts k = cut at *
        have n1 := World.new_ne wr ⟨w.heap.size, 0, none⟩ c0
        have hw := hide (h.out.below BW.out)
        have gw := hide (g.out.below BW.out)
        have hn1 : n2 ≤ 100000 := by omega
        go_wp2_with fail
        go_region_held3 (fun w' => w'.cell? ⟨w.heap.size, 0, none⟩ = some (.slice A n2 c) ∧ w'.cell? ⟨w.heap.size, 1, none⟩ = some (.slice (some ⟨b, off, none⟩) m d) ∧ w'.cell? ⟨b3, off3 + a, none⟩ = some (.slice Ap 256 cp))
          (first | (refine ⟨?_, ?_, ?_⟩ <;> assumption) | go_keep)
          (first
            | (go_at_call 26; (with_reducible refine (wrote_any (hw.out.below (by go_grown)) (gw.out.below (by go_grown)) R.out hlt hm _ rfl).mono ?_); rintro e w3 ⟨A5, n5, c5, rfl, P5, hb⟩; have D3 : Below wr.heap.size wr w3 := Below.trans (by go_grown) hb; have j0 := (D3.cell (p := ⟨w.heap.size, 0, none⟩) (by simp; omega)).trans c0; have j1 := (D3.cell (p := ⟨w.heap.size, 1, none⟩) (by simp; omega)).trans c1; have j2 := (D3.cell (p := ⟨b3, off3 + a, none⟩) hbp).trans t1; have hn5 : n5 = 256 := (by have := P5.len; rw [hwl.out k hlt] at this; exact this.symm); subst hn5)
            | (go_at_call 38; (with_reducible refine (torn_to P5 (T1.out.below D3) cut _ hy.out rfl rfl hc256 _ rfl).mono ?_); rintro e w4 ⟨A6, n6, c6, rfl, P6, _, hb4⟩; have D4 : Below wr.heap.size wr w4 := D3.trans (hb4.mono D3.size); have i0 := (D4.cell (p := ⟨w.heap.size, 0, none⟩) (by simp; omega)).trans c0; have i1 := (D4.cell (p := ⟨w.heap.size, 1, none⟩) (by simp; omega)).trans c1; have i2 := (D4.cell (p := ⟨b3, off3 + a, none⟩) hbp).trans t1)
            | (go_at_call 30; (with_reducible refine (with_any (hd.out.below D4) P6 a hn1 _ hQ.out).mono ?_); rintro e w5 ⟨A7, n7, c7, rfl, P7, _, hb5⟩; have D5 : Below wr.heap.size wr w5 := D4.trans (hb5.mono D4.size); have o0 := (D5.cell (p := ⟨w.heap.size, 0, none⟩) (by simp; omega)).trans c0; have o1 := (D5.cell (p := ⟨w.heap.size, 1, none⟩) (by simp; omega)).trans c1; have o2 := (D5.cell (p := ⟨b3, off3 + a, none⟩) hbp).trans t1))
        have hn7 : n7 = n2 := by have := P7.1; rw [hcl.out] at this; exact this.symm
        subst hn7
        have BV := hide (BW.out.trans (D5.mono BW.out.size))
        replace P7 := hide P7
        clear c0 c1 p0 t1 T1 D3 D4 D5 hb hb4 hb5 j0 j1 j2 i0 i1 i2 o0 o1 o2 n1 P5 P6 HH
        go_wp2_with fail
        go_roundw
        case rel => exact ⟨k + 1, A7, c7, by omega, by go_num, rfl, P7, BV⟩
        case measure => simp [intOf] <;> omega
    · obtain rfl : k = m := by omega
      have r0 := HH.out.r0
      have r1 := HH.out.r1
      have f0 := HH.out.f0
      have f1 := HH.out.f1
      have BV := hide (st DB.out BW.out (Below.refl _ _))
      have P8 := hd.out.putZ (fun j hj => hcp.out k j (Nat.le_refl _) hj) (p := ⟨w.heap.size + 1, 0, none⟩) r0 (.slice A3 n2 c3)
      have P9 := hide (P8.putZ (fun j hj => hcp.out k j (Nat.le_refl _) hj) (p := ⟨w.heap.size + 1, 1, none⟩) ((World.cell?_setCell_other _ _ _ _ (by intro q; cases q)).trans r1) (.slice none 0 0))
      clear hR hwl hcl hcp hstep P8
      go_wp2_with fail
      refine bodyPost_ret (v := .agg #[.slice A3 n2 c3, .slice none 0 0]) (by simp [results, Try.results24, go_sem, r0, r1, f0, f1]) rfl ?_
      exact ⟨A3, n2, c3, none, 0, 0, rfl, P9.out, olds_nil _, (BV.out.setCell (by simp) _).setCell (by simp) _⟩

theorem ref_crash_any {A B C : Option Addr} {n c m d l e : Nat} {ps : List Pg} {ws : List Od} {cuts : List Int} {w : World} (h : Pags w A n c ps) (g : Olds w B m d ws) (u : Nts w C l e cuts) (hm : m ≤ 100000) (P : List Pg) (W : List Od) (hP : crashP ps ws cuts = P) (hW : crashW ps ws = W) :
    Calls Try.prog 24 #[.agg #[.slice A n c, .slice B m d], .slice C l e] w (RetD w P W) := by
  subst hP hW
  unfold crashP crashW
  cases hr : rightB ps ws with
  | false => exact ref_crash_wrong h g hr
  | true => exact ref_crash_good h g u ((right_iff ps ws).1 hr) hm _ (by rw [← g.1]; rfl)
end Go.Proofs.Ytfmgmpelgnickaa

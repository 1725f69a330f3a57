/-
  The walk over 'made' (chapter 8's laws): a counter to which numbers are added, one behind the other.
-/
import Derived.Test.YtmbkkmolhmjpeaaWalks6
namespace Go.Proofs.Ytmbkkmolhmjpeaa
open Go.RowKit
set_option linter.unusedSimpArgs false
set_option linter.unusedVariables false
attribute [local go_sem ↓] Go.wp_at_zero Go.wp_at_succ

/-- A cell without parts and text lies in block b, and may be written. -/
structure Cel (w : World) (b : Nat) (kd vk n : Int) : Prop where
  c0 : w.cell? ⟨b, 0, none⟩ = some (.int .i64 kd)
  c1 : w.cell? ⟨b, 1, none⟩ = some (.int .i64 vk)
  c2 : w.cell? ⟨b, 2, none⟩ = some (.int .i64 n)
  c3 : w.cell? ⟨b, 3, none⟩ = some (.string ⟨#[]⟩)
  c4 : w.cell? ⟨b, 4, none⟩ = some (.slice none 0 0)
  f0 : w.frozen? ⟨b, 0, none⟩ = false
  f1 : w.frozen? ⟨b, 1, none⟩ = false
  f2 : w.frozen? ⟨b, 2, none⟩ = false
  f3 : w.frozen? ⟨b, 3, none⟩ = false
  f4 : w.frozen? ⟨b, 4, none⟩ = false
theorem Cel.keep {w w' : World} {b : Nat} {kd vk n : Int} (h : Cel w b kd vk n) (hc : ∀ o, w'.cell? ⟨b, o, none⟩ = w.cell? ⟨b, o, none⟩) (hf : ∀ o, w'.frozen? ⟨b, o, none⟩ = w.frozen? ⟨b, o, none⟩) : Cel w' b kd vk n :=
  ⟨(hc 0).trans h.c0, (hc 1).trans h.c1, (hc 2).trans h.c2, (hc 3).trans h.c3, (hc 4).trans h.c4, (hf 0).trans h.f0, (hf 1).trans h.f1, (hf 2).trans h.f2, (hf 3).trans h.f3, (hf 4).trans h.f4⟩
theorem Cel.lt {w : World} {b : Nat} {kd vk n : Int} (h : Cel w b kd vk n) : b < w.heap.size := World.block_lt_of_cell? w _ h.c0
theorem Cel.below {w w' : World} {b B : Nat} {kd vk n : Int} (h : Cel w b kd vk n) (hb : Below B w w') (hB : b < B) : Cel w' b kd vk n :=
  h.keep (fun o => hb.cell (p := ⟨b, o, none⟩) hB) (fun o => hb.frozen (p := ⟨b, o, none⟩) hB)
theorem Cel.call {w w' : World} {b : Nat} {kd vk n : Int} (h : Cel w b kd vk n) (hb : Below w.heap.size w w') : Cel w' b kd vk n := h.below hb h.lt
theorem Cel.drew {w : World} {b : Nat} {kd vk n : Int} (h : Cel w b kd vk n) : Cel w.drew b kd vk n := h.keep (fun _ => rfl) (fun _ => rfl)
theorem Cel.alloc {w : World} {b : Nat} {kd vk n : Int} (h : Cel w b kd vk n) (o : Obj) : Cel (w.alloc o) b kd vk n :=
  h.below ((Below.refl w.heap.size w).alloc (Nat.le_refl _) o) h.lt
theorem Cel.new (w : World) (kd vk n : Int) : Cel (w.alloc (.cells #[.int .i64 kd, .int .i64 vk, .int .i64 n, .string ⟨#[]⟩, .slice none 0 0] 26)) w.heap.size kd vk n := by
  constructor <;> simp [go_sem]
theorem Cel.set {w : World} {b : Nat} {kd vk n : Int} (h : Cel w b kd vk n) (kd' vk' n' : Int) :
    Cel (((((w.setCell ⟨b, 0, none⟩ (.int .i64 kd')).setCell ⟨b, 1, none⟩ (.int .i64 vk')).setCell ⟨b, 2, none⟩ (.int .i64 n')).setCell ⟨b, 3, none⟩ (.string ⟨#[]⟩)).setCell ⟨b, 4, none⟩ (.slice none 0 0)) b kd' vk' n' := by
  have k0 := h.c0
  have k1 := h.c1
  have k2 := h.c2
  have k3 := h.c3
  have k4 := h.c4
  have g0 := h.f0
  have g1 := h.f1
  have g2 := h.f2
  have g3 := h.f3
  have g4 := h.f4
  constructor <;> simp [go_sem, k0, k1, k2, k3, k4, g0, g1, g2, g3, g4]
theorem Cel.far {w : World} {b : Nat} {kd vk n : Int} (h : Cel w b kd vk n) {p : Addr} (hp : b ≠ p.block) (u : Value) : Cel (w.setCell p u) b kd vk n :=
  h.keep (fun o => World.cell?_of_block (Below.heap_setCell w p u b hp)) (fun o => World.frozen?_of_block (Below.heap_setCell w p u b hp))

theorem Cel.far5 {w : World} {b : Nat} {kd vk n : Int} (h : Cel w b kd vk n) {q : Nat} (hp : b ≠ q) (kd' vk' n' : Int) :
    Cel (((((w.setCell ⟨q, 0, none⟩ (.int .i64 kd')).setCell ⟨q, 1, none⟩ (.int .i64 vk')).setCell ⟨q, 2, none⟩ (.int .i64 n')).setCell ⟨q, 3, none⟩ (.string ⟨#[]⟩)).setCell ⟨q, 4, none⟩ (.slice none 0 0)) b kd vk n :=
  ((((h.far hp _).far hp _).far hp _).far hp _).far hp _

theorem sum_step (zs : List Int) (k : Nat) (hk : k < zs.length) : (zs.take (k + 1)).sum = (zs.take k).sum + zs.getD k 0 := by
  rw [List.take_succ_eq_append_getElem hk, List.sum_append, List.getD_eq_getElem?_getD, List.getElem?_eq_getElem hk]; simp
/-- What holds at each round's head. -/
def Making (w wr : World) (a : Int) : Prop := Below w.heap.size w wr ∧ Cel wr w.heap.size 2 1 a ∧ Cel wr (w.heap.size + 1) 0 0 0
set_option maxHeartbeats 1000000 in
theorem made_any (c0 : Int) (A : Option Addr) (n cap : Nat) (zs : List Int) (w : World) (hr : RdI w w.heap.size .i32 A n zs) (hz : ∀ z ∈ zs, -2147483648 ≤ z ∧ z ≤ 2147483647) (hn : n ≤ 1000)
    (hs : ∀ k, k ≤ n → fitsB (c0 + (zs.take k).sum) = true) :
    Calls Try.prog 20 #[.agg #[.int .i64 2, .int .i64 1, .int .i64 c0, .string ⟨#[]⟩, .slice none 0 0], .slice A n cap] w fun e w' =>
      e = .returned (.tuple #[.agg #[.int .i64 2, .int .i64 1, .int .i64 (c0 + zs.sum), .string ⟨#[]⟩, .slice none 0 0], .bool true]) ∧ Below w.heap.size w w' := by
  have hlen := hide hr.1
  replace hr := hide hr
  replace hz := hide hz
  replace hs := hide hs
  go_enter Try.func20, Try.ntmps20
  go_wp2
  go_loopw [6, 7, 8, 9] (fun al i _ _ wr => ∃ k : Nat, k ≤ n ∧ i = .int .i64 k ∧ al = .bool true ∧ Making w wr (c0 + (zs.take k).sum)) (fun _ i _ _ _ => n - (intOf i).toNat)
  case atStart =>
    refine ⟨0, by omega, rfl, rfl, by go_grown, ?_, ?_⟩
    · have h := (Cel.new w 2 1 c0).alloc (.cells #[.int .i64 0, .int .i64 0, .int .i64 0, .string ⟨#[]⟩, .slice none 0 0] 26)
      simpa using h
    · have h := Cel.new (w.alloc (.cells #[.int .i64 2, .int .i64 1, .int .i64 c0, .string ⟨#[]⟩, .slice none 0 0] 26)) 0 0 0
      simpa using h
  case round =>
    obtain ⟨k, hk, rfl, rfl, hB, hX, hR⟩ := hrel
    obtain ⟨wo, hwo⟩ : ∃ wo, wo = wr := ⟨_, rfl⟩
    by_cases hlt : k < n
    · obtain ⟨b, off, rfl, hbB, hc⟩ := hr.out.2 (by omega)
      have hcell : wr.cell? ⟨b, off + k, none⟩ = some (.int .i32 (zs.getD k 0)) := (hB.cell (p := ⟨b, off + k, none⟩) hbB).trans (hc k hlt)
      have hk0 : (0 : Int) ≤ (k : Int) := by omega
      have hk1 : (k : Int) < (n : Int) := by omega
      have hst := hide (sum_step zs k (by rw [hlen.out]; exact hlt))
      have F1 := hide (hs.out k (by omega))
      have F2 := hide (hs.out (k + 1) (by omega))
      have hzk : -2147483648 ≤ zs[k]?.getD 0 ∧ zs[k]?.getD 0 ≤ 2147483647 := by
        rw [List.getElem?_eq_getElem (by rw [hlen.out]; exact hlt)]; exact hz.out _ (List.getElem_mem _)
      obtain ⟨hz1, hz2⟩ := hzk
      have hwz : IntKind.i64.wrap (zs[k]?.getD 0) = zs[k]?.getD 0 := IntWalk.i64_in _ (by omega)
      have F3 := hide (fits_yes (zs[k]?.getD 0) (by omega) (by omega))
      have hR3 : c0 + (zs.take k).sum + zs[k]?.getD 0 = c0 + (zs.take (k + 1)).sum := by rw [hst.out, List.getD_eq_getElem?_getD]; omega
      have AD := fun w => hide (add_yes (c0 + (zs.take k).sum) (zs[k]?.getD 0) (c0 + (zs.take (k + 1)).sum) none 0 F1.out F3.out F2.out hR3 w)
      clear hc hwo hst hR3 F1 F2 F3
      obtain ⟨R, hRe⟩ : ∃ R, R = c0 + (zs.take (k + 1)).sum := ⟨_, rfl⟩
      rw [← hRe] at AD
      replace hRe := hide hRe
      have hX' := hide hX
      have hR' := hide hR
      have hlt1 := hR.lt
      have hlt0 := hX.lt
      have hbw : b < wr.heap.size := by omega
      obtain ⟨x0, x1, x2, x3, x4, g0, g1, g2, g3, g4⟩ := hX
      clear hR
      generalize c0 + (zs.take k).sum = S at *
      go_wp2_with fail
      go_region_held3 (fun w' => w'.cell? ⟨w.heap.size, 0, none⟩ = some (.int .i64 2) ∧ w'.cell? ⟨w.heap.size, 1, none⟩ = some (.int .i64 1) ∧ w'.cell? ⟨w.heap.size, 2, none⟩ = some (.int .i64 S) ∧ w'.cell? ⟨w.heap.size, 3, none⟩ = some (.string ⟨#[]⟩) ∧ w'.cell? ⟨w.heap.size, 4, none⟩ = some (.slice none 0 0) ∧ w'.cell? ⟨b, off + k, none⟩ = some (.int .i32 (zs[k]?.getD 0))) ((simp [go_sem, *]; done))
        (first
          | (go_at_call 9; refine ((AD _).out).mono ?_; rintro e w1 ⟨rfl, hb1⟩; have B1 := st (Below.refl _ wr) hb1 (by go_grown); obtain ⟨hc1, hf1⟩ := bcell hb1; have y0 := (B1.cell (p := ⟨w.heap.size, 0, none⟩) hlt0).trans x0; have y1 := (B1.cell (p := ⟨w.heap.size, 1, none⟩) hlt0).trans x1; have y2 := (B1.cell (p := ⟨w.heap.size, 2, none⟩) hlt0).trans x2; have y3 := (B1.cell (p := ⟨w.heap.size, 3, none⟩) hlt0).trans x3; have y4 := (B1.cell (p := ⟨w.heap.size, 4, none⟩) hlt0).trans x4; have y5 := (B1.cell (p := ⟨b, off + k, none⟩) hbw).trans hcell; have z0 := (B1.frozen (p := ⟨w.heap.size, 0, none⟩) hlt0).trans g0; have z1 := (B1.frozen (p := ⟨w.heap.size, 1, none⟩) hlt0).trans g1; have z2 := (B1.frozen (p := ⟨w.heap.size, 2, none⟩) hlt0).trans g2; have z3 := (B1.frozen (p := ⟨w.heap.size, 3, none⟩) hlt0).trans g3; have z4 := (B1.frozen (p := ⟨w.heap.size, 4, none⟩) hlt0).trans g4; have v0 := Nat.lt_of_lt_of_le hlt0 B1.size; have v1 := Nat.lt_of_lt_of_le hbw B1.size; have v2 := Nat.lt_of_lt_of_le hlt1 B1.size))
      all_goals go_wp2_with fail
      all_goals
        have BB := hB.trans (B1.mono hB.size)
        have X1 := hX'.out.below B1 hlt0
        have R1 := hR'.out.below B1 hlt1
        have ne1 : w.heap.size ≠ wr.heap.size := by omega
        have ne2 : w.heap.size + 1 ≠ wr.heap.size := by omega
        have ne3 : w.heap.size + 1 ≠ w.heap.size := by omega
        have le1 : w.heap.size ≤ wr.heap.size := hB.size
        clear y0 y1 y2 y3 y4 y5 z0 z1 z2 z3 z4 hc1 hf1
        go_roundw
        case measure => simp [intOf]; omega
        case rel =>
          refine ⟨k + 1, by omega, by go_num, rfl, ?_⟩
          rw [← hRe.out]
          unfold Making
          refine ⟨by go_grown, ?_, ?_⟩
          · first
              | (with_reducible exact (X1.set 2 1 R).alloc _)
              | (with_reducible exact (X1.far5 ne1 2 1 R).set 2 1 R)
          · first
              | (with_reducible exact (R1.far5 ne3 2 1 R).alloc _)
              | (with_reducible exact (R1.far5 ne2 2 1 R).far5 ne3 2 1 R)
    · obtain rfl : k = n := by omega
      have e : (zs.take k).sum = zs.sum := by rw [List.take_of_length_le (by rw [hlen.out]; omega)]
      rw [e] at hX
      obtain ⟨x0, x1, x2, x3, x4, g0, g1, g2, g3, g4⟩ := hX
      obtain ⟨p0, p1, p2, p3, p4, q0, q1, q2, q3, q4⟩ := hR
      clear e hwo
      go_wp2_with fail
      refine bodyPost_ret (by simp [results, Try.results20, go_sem, *]; try rfl) rfl ?_
      exact ⟨rfl, by go_grown⟩
end Go.Proofs.Ytmbkkmolhmjpeaa

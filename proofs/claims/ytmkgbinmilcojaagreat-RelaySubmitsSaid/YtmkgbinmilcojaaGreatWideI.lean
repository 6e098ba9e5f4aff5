/- Package wide: Div, bit by bit: the walk. Printed by divgen.py. -/
import Derived.Test.YtmkgbinmilcojaaGreatWideJ
namespace Go.Proofs.YtmkgbinmilcojaaGreat
open Go.RowKit Go.Maps Go.Shelf

def C4 (a b c d : Int) : Array Value := #[.int .u64 a, .int .u64 b, .int .u64 c, .int .u64 d]
structure DivSt (w wr : World) (N M k : Nat) (a0 a1 a2 a3 m0 m1 m2 m3 q0 q1 q2 q3 r0 r1 r2 r3 : Int) : Prop where
  q : Wd q0 ∧ Wd q1 ∧ Wd q2 ∧ Wd q3
  r : Wd r0 ∧ Wd r1 ∧ Wd r2 ∧ Wd r3
  qe : n4 q0 q1 q2 q3 = ((N / 2 ^ k / M * 2 ^ k : Nat) : Int)
  re : n4 r0 r1 r2 r3 = ((N / 2 ^ k % M : Nat) : Int)
  b2 : Blk wr (w.heap.size) (C4 a0 a1 a2 a3) 51
  b3 : Blk wr (w.heap.size + 1) (C4 m0 m1 m2 m3) 51
  b4 : Blk wr (w.heap.size + 1 + 1) (C4 0 0 0 0) 51
  b5 : Blk wr (w.heap.size + 1 + 1 + 1) (C4 0 0 0 0) 51
  b7 : Blk wr (w.heap.size + 1 + 1 + 1 + 1) (C4 q0 q1 q2 q3) 51
  b8 : Blk wr (w.heap.size + 1 + 1 + 1 + 1 + 1) (C4 r0 r1 r2 r3) 51
  c : Chg [] w wr

set_option maxRecDepth 100000 in
set_option maxHeartbeats 64000000 in
theorem wide_DivW (a0 a1 a2 a3 m0 m1 m2 m3 : Int) (N M : Nat) (w : World) (ha0 : Wd a0) (ha1 : Wd a1) (ha2 : Wd a2) (ha3 : Wd a3) (hm0 : Wd m0) (hm1 : Wd m1) (hm2 : Wd m2) (hm3 : Wd m3)
    (hN : (N : Int) = n4 a0 a1 a2 a3) (hM : (M : Int) = n4 m0 m1 m2 m3) (h0 : M ≠ 0) :
    Calls Tryz.prog 98 #[V4 a0 a1 a2 a3, V4 m0 m1 m2 m3] w fun e w' => e = .returned (.tuple #[wv (N / M), wv (N % M), .int .i64 0]) ∧ Chg [] w w' := by
  have heq : ∀ w, (Op.equalIn 10000 51 (V4 m0 m1 m2 m3) (V4 0 0 0 0)).run Tryz.prog w = .ok false w := fun w => by
    rw [run_eqW]; simp only [n4_zero hm0 hm1 hm2 hm3, ← hM]; simp; omega
  have hbits : ∀ w, Calls Tryz.prog 88 #[V4 a0 a1 a2 a3] w fun e w' => e = .returned (.int .i64 (blen N)) ∧ Chg [] w w' := fun w => by
    have := wide_BitsW a0 a1 a2 a3 w ha0 ha1 ha2 ha3
    rw [← hN] at this; simpa using this
  have hNlt : N < TOP := by have := (n4_lt ha0 ha1 ha2 ha3).2; omega
  have hMlt : M < TOP := by have := (n4_lt hm0 hm1 hm2 hm3).2; omega
  have hL := blen_top hNlt
  have hNb : N / 2 ^ blen N = 0 := Nat.div_eq_of_lt (lt_blen N)
  have HNB := Lib.hid hNb
  have HN := Lib.hid hN
  have HM := Lib.hid hM
  clear hN hM hNb
  generalize blen N = L at hbits hL HNB
  unfold V4 at heq hbits ⊢
  go_enter Tryz.func98, Tryz.ntmps98
  go_wp2_with fail
  refine (hbits _).mono ?_
  rintro e w1 ⟨rfl, hc1⟩
  have hcx : Chg [] w ((((((w.alloc (.cells (C4 a0 a1 a2 a3) 51)).alloc (.cells (C4 m0 m1 m2 m3) 51)).alloc (.cells (C4 0 0 0 0) 51)).alloc (.cells (C4 0 0 0 0) 51)).alloc (.cells (C4 0 0 0 0) 51)).alloc (.cells (C4 0 0 0 0) 51)) := (by repeat (first | exact Chg.refl _ _ | refine Chg.alloc ?_ _ | refine Chg.drew ?_ | refine Chg.drewN ?_ _ | refine Chg.setCell ?_ (.inr (by simp)) _))
  have k2 := ((((((Blk.new w (C4 a0 a1 a2 a3) 51).alloc (.cells (C4 m0 m1 m2 m3) 51)).alloc (.cells (C4 0 0 0 0) 51)).alloc (.cells (C4 0 0 0 0) 51)).alloc (.cells (C4 0 0 0 0) 51)).alloc (.cells (C4 0 0 0 0) 51)).chg hc1 (by simp)
  have k3 := (((((Blk.new (w.alloc (.cells (C4 a0 a1 a2 a3) 51)) (C4 m0 m1 m2 m3) 51).alloc (.cells (C4 0 0 0 0) 51)).alloc (.cells (C4 0 0 0 0) 51)).alloc (.cells (C4 0 0 0 0) 51)).alloc (.cells (C4 0 0 0 0) 51)).chg hc1 (by simp)
  have k4 := ((((Blk.new ((w.alloc (.cells (C4 a0 a1 a2 a3) 51)).alloc (.cells (C4 m0 m1 m2 m3) 51)) (C4 0 0 0 0) 51).alloc (.cells (C4 0 0 0 0) 51)).alloc (.cells (C4 0 0 0 0) 51)).alloc (.cells (C4 0 0 0 0) 51)).chg hc1 (by simp)
  have k5 := (((Blk.new (((w.alloc (.cells (C4 a0 a1 a2 a3) 51)).alloc (.cells (C4 m0 m1 m2 m3) 51)).alloc (.cells (C4 0 0 0 0) 51)) (C4 0 0 0 0) 51).alloc (.cells (C4 0 0 0 0) 51)).alloc (.cells (C4 0 0 0 0) 51)).chg hc1 (by simp)
  have k7 := ((Blk.new ((((w.alloc (.cells (C4 a0 a1 a2 a3) 51)).alloc (.cells (C4 m0 m1 m2 m3) 51)).alloc (.cells (C4 0 0 0 0) 51)).alloc (.cells (C4 0 0 0 0) 51)) (C4 0 0 0 0) 51).alloc (.cells (C4 0 0 0 0) 51)).chg hc1 (by simp)
  have k8 := (Blk.new (((((w.alloc (.cells (C4 a0 a1 a2 a3) 51)).alloc (.cells (C4 m0 m1 m2 m3) 51)).alloc (.cells (C4 0 0 0 0) 51)).alloc (.cells (C4 0 0 0 0) 51)).alloc (.cells (C4 0 0 0 0) 51)) (C4 0 0 0 0) 51).chg hc1 (by simp)
  simp only [World.size_alloc] at k2 k3 k4 k5 k7 k8
  have hst : DivSt w w1 N M L a0 a1 a2 a3 m0 m1 m2 m3 0 0 0 0 0 0 0 0 :=
    ⟨⟨wd0, wd0, wd0, wd0⟩, ⟨wd0, wd0, wd0, wd0⟩, by rw [HNB.out]; simp [n4], by rw [HNB.out]; simp [n4], k2, k3, k4, k5, k7, k8, hcx.trans hc1 (by simp)⟩
  clear k2 k3 k4 k5 k7 k8 hcx hc1 HNB heq hbits
  have hLw : wrap64 ((L : Int) - 1) = (L : Int) - 1 := by unfold wrap64; omega
  go_wp2
  go_loopw [9] (fun s9 wr => ∃ (k : Nat) (q0 q1 q2 q3 r0 r1 r2 r3 : Int), s9 = .int .i64 ((k : Int) - 1) ∧ k ≤ 256 ∧ DivSt w wr N M k a0 a1 a2 a3 m0 m1 m2 m3 q0 q1 q2 q3 r0 r1 r2 r3) (fun s9 _ => (intOf s9 + 1).toNat)
  case atStart => exact ⟨L, 0, 0, 0, 0, 0, 0, 0, 0, rfl, hL, hst⟩
  case round =>
    clear hst hLw hL
    obtain ⟨k, q0, q1, q2, q3, r0, r1, r2, r3, rfl, hk, hS⟩ := hrel
    by_cases hk0 : k = 0
    · subst hk0
      have e1 := hS.qe
      have e2 := hS.re
      simp only [Nat.pow_zero, Nat.div_one, Nat.mul_one] at e1 e2
      obtain ⟨Q0, Q1, Q2, Q3⟩ := hS.q
      obtain ⟨R0, R1, R2, R3⟩ := hS.r
      have v1 := wv_of Q0 Q1 Q2 Q3 e1.symm
      have v2 := wv_of R0 R1 R2 R3 e2.symm
      have b4 := hS.b4
      have b5 := hS.b5
      have b7 := hS.b7
      have b8 := hS.b8
      have hc := hS.c
      unfold C4 at b4 b5 b7 b8
      have V1 := Lib.hid v1
      have V2 := Lib.hid v2
      clear e1 e2 v1 v2 hS
      have x0 := b7.cell 0 rfl
      have x1 := b7.cell 1 rfl
      have x2 := b7.cell 2 rfl
      have x3 := b7.cell 3 rfl
      have y0 := b8.cell 0 rfl
      have y1 := b8.cell 1 rfl
      have y2 := b8.cell 2 rfl
      have y3 := b8.cell 3 rfl
      have z0 := b4.cell 0 rfl
      have z1 := b4.cell 1 rfl
      have z2 := b4.cell 2 rfl
      have z3 := b4.cell 3 rfl
      have zf0 := b4.free 0
      have zf1 := b4.free 1
      have zf2 := b4.free 2
      have zf3 := b4.free 3
      have o0 := b5.cell 0 rfl
      have o1 := b5.cell 1 rfl
      have o2 := b5.cell 2 rfl
      have o3 := b5.cell 3 rfl
      have of0 := b5.free 0
      have of1 := b5.free 1
      have of2 := b5.free 2
      have of3 := b5.free 3
      go_wp2
      go_region
      go_wp2
      have f4 := ((((((((b4.set 0 (.int .u64 q0)).set 1 (.int .u64 q1)).set 2 (.int .u64 q2)).set 3 (.int .u64 q3)).other (p := ⟨w.heap.size + 1 + 1 + 1, 0, none⟩) (by simp) (.int .u64 r0)).other (p := ⟨w.heap.size + 1 + 1 + 1, 1, none⟩) (by simp) (.int .u64 r1)).other (p := ⟨w.heap.size + 1 + 1 + 1, 2, none⟩) (by simp) (.int .u64 r2)).other (p := ⟨w.heap.size + 1 + 1 + 1, 3, none⟩) (by simp) (.int .u64 r3)).drew
      have f5 := ((((((((b5.other (p := ⟨w.heap.size + 1 + 1, 0, none⟩) (by simp) (.int .u64 q0)).other (p := ⟨w.heap.size + 1 + 1, 1, none⟩) (by simp) (.int .u64 q1)).other (p := ⟨w.heap.size + 1 + 1, 2, none⟩) (by simp) (.int .u64 q2)).other (p := ⟨w.heap.size + 1 + 1, 3, none⟩) (by simp) (.int .u64 q3)).set 0 (.int .u64 r0)).set 1 (.int .u64 r1)).set 2 (.int .u64 r2)).set 3 (.int .u64 r3)).drew
      have hcc : Chg [] w ((((((((wr.setCell ⟨w.heap.size + 1 + 1, 0, none⟩ (.int .u64 q0)).setCell ⟨w.heap.size + 1 + 1, 1, none⟩ (.int .u64 q1)).setCell ⟨w.heap.size + 1 + 1, 2, none⟩ (.int .u64 q2)).setCell ⟨w.heap.size + 1 + 1, 3, none⟩ (.int .u64 q3)).setCell ⟨w.heap.size + 1 + 1 + 1, 0, none⟩ (.int .u64 r0)).setCell ⟨w.heap.size + 1 + 1 + 1, 1, none⟩ (.int .u64 r1)).setCell ⟨w.heap.size + 1 + 1 + 1, 2, none⟩ (.int .u64 r2)).setCell ⟨w.heap.size + 1 + 1 + 1, 3, none⟩ (.int .u64 r3)).drew :=
        ((((((((hc.setCell (.inr (by simp; omega)) _).setCell (.inr (by simp; omega)) _).setCell (.inr (by simp; omega)) _).setCell (.inr (by simp; omega)) _).setCell (.inr (by simp; omega)) _).setCell (.inr (by simp; omega)) _).setCell (.inr (by simp; omega)) _).setCell (.inr (by simp; omega)) _).drew
      generalize ((((((((wr.setCell ⟨w.heap.size + 1 + 1, 0, none⟩ (.int .u64 q0)).setCell ⟨w.heap.size + 1 + 1, 1, none⟩ (.int .u64 q1)).setCell ⟨w.heap.size + 1 + 1, 2, none⟩ (.int .u64 q2)).setCell ⟨w.heap.size + 1 + 1, 3, none⟩ (.int .u64 q3)).setCell ⟨w.heap.size + 1 + 1 + 1, 0, none⟩ (.int .u64 r0)).setCell ⟨w.heap.size + 1 + 1 + 1, 1, none⟩ (.int .u64 r1)).setCell ⟨w.heap.size + 1 + 1 + 1, 2, none⟩ (.int .u64 r2)).setCell ⟨w.heap.size + 1 + 1 + 1, 3, none⟩ (.int .u64 r3)).drew = W at f4 f5 hcc ⊢
      clear x0 x1 x2 x3 y0 y1 y2 y3 z0 z1 z2 z3 zf0 zf1 zf2 zf3 o0 o1 o2 o3 of0 of1 of2 of3 b4 b5 b7 b8 hc
      have d0 := f4.cell 0 (v := .int .u64 q0) rfl
      have d1 := f4.cell 1 (v := .int .u64 q1) rfl
      have d2 := f4.cell 2 (v := .int .u64 q2) rfl
      have d3 := f4.cell 3 (v := .int .u64 q3) rfl
      have d4 := f5.cell 0 (v := .int .u64 r0) rfl
      have d5 := f5.cell 1 (v := .int .u64 r1) rfl
      have d6 := f5.cell 2 (v := .int .u64 r2) rfl
      have d7 := f5.cell 3 (v := .int .u64 r3) rfl
      exact bodyPost_ret (v := .tuple #[V4 q0 q1 q2 q3, V4 r0 r1 r2 r3, .int .i64 0]) (by simp [results, Tryz.results98, go_sem, V4, d0, d1, d2, d3, d4, d5, d6, d7]) rfl ⟨by rw [V1.out, V2.out], hcc⟩
    · obtain ⟨j, rfl⟩ : ∃ j, k = j + 1 := ⟨k - 1, by omega⟩
      have hm1 : ((j + 1 : Nat) : Int) - 1 = (j : Int) := by omega
      simp only [hm1]
      clear hm1 hk0
      obtain ⟨Q0, Q1, Q2, Q3⟩ := hS.q
      obtain ⟨R0, R1, R2, R3⟩ := hS.r
      obtain ⟨t0, t1, t2, t3, T0, T1, T2, T3, te, hleft⟩ := leftV r0 r1 r2 r3 R0 R1 R2 R3
      obtain ⟨hst1, hst2⟩ := div_step N M j (by omega)
      have hRlt := Nat.mod_lt (N / 2 ^ (j + 1)) (show 0 < M by omega)
      have hre := hS.re
      have hqe := hS.qe
      generalize hRN : N / 2 ^ (j + 1) % M = RN at hst1 hst2 hRlt hre
      generalize hAN : N / 2 ^ (j + 1) / M = AN at hst2 hqe
      have hβ1 : N / 2 ^ j % 2 < 2 := Nat.mod_lt _ (by omega)
      have hbit : ∀ c s : Nat, j = 64 * c + s → N / 2 ^ j % 2 = N / 2 ^ (64 * c) / 2 ^ s % 2 := fun c s h => by rw [h, Nat.pow_add, Nat.div_div_eq_div_mul]
      generalize hβ : N / 2 ^ j % 2 = b at hst1 hst2 hβ1 hbit
      have tev : t0 % 2 = 0 := by rw [hre] at te; unfold n4 TOP at te; omega
      have hor0 := div_low T0 tev (β := (b : Int)) (by omega) (by omega)
      have T0' : Wd (t0 + (b : Int)) := ⟨by have := T0.1; omega, by have := T0.2; omega⟩
      have te' : n4 (t0 + (b : Int)) t1 t2 t3 = ((2 * RN + b : Nat) : Int) % TOP := by
        rw [hre] at te; have := T0.1; have := T1.1; have := T2.1; have := T3.1; have := T0.2; have := T1.2; have := T2.2; have := T3.2
        unfold n4 TOP at *; omega
      obtain ⟨u0, u1, u2, u3, zb, U0, U1, U2, U3, ue, hsub⟩ := subV (t0 + (b : Int)) t1 t2 t3 m0 m1 m2 m3 T0' T1 T2 T3 hm0 hm1 hm2 hm3
      have hcmp := fun w => wide_CmpW (t0 + (b : Int)) t1 t2 t3 m0 m1 m2 m3 w T0' T1 T2 T3 hm0 hm1 hm2 hm3
      rw [← HM.out] at ue hcmp
      have b2 := hS.b2
      have b3 := hS.b3
      have b4 := hS.b4
      have b5 := hS.b5
      have b7 := hS.b7
      have b8 := hS.b8
      unfold C4 at b2 b3 b4 b5 b7 b8
      have x0 := b2.cell 0 (v := .int .u64 a0) rfl
      have x1 := b2.cell 1 (v := .int .u64 a1) rfl
      have x2 := b2.cell 2 (v := .int .u64 a2) rfl
      have x3 := b2.cell 3 (v := .int .u64 a3) rfl
      have y0 := b8.cell 0 (v := .int .u64 r0) rfl
      have y1 := b8.cell 1 (v := .int .u64 r1) rfl
      have y2 := b8.cell 2 (v := .int .u64 r2) rfl
      have y3 := b8.cell 3 (v := .int .u64 r3) rfl
      have yf0 := b8.free 0
      have yf1 := b8.free 1
      have yf2 := b8.free 2
      have yf3 := b8.free 3
      unfold V4 at hleft hsub hcmp
      have hj : (j : Int) ≤ 255 := by omega
      obtain ⟨sf, hsf⟩ : ∃ sf : Int, sf = (j : Int) % 64 := ⟨_, rfl⟩
      have hsf0 : 0 ≤ sf := by omega
      have hsf1 : sf < 64 := by omega
      have hm := hsf.symm
      clear hsf
      have hcs : (j : Int) / 64 = 0 ∨ (j : Int) / 64 = 1 ∨ (j : Int) / 64 = 2 ∨ (j : Int) / 64 = 3 := by omega
      rcases hcs with hq | hq | hq | hq
      · have hj2 := Lib.hid (show j = 64 * 0 + sf.toNat by omega)
        have hand : bits .and .u64 (a0 / 2 ^ sf.toNat) 1 = (b : Int) := by rw [hand_0 ha0 ha1 ha2 ha3 HN.out (s := sf.toNat) (by omega), ← hbit 0 sf.toNat hj2.out]
        obtain ⟨hqb, hqw, hqn⟩ := qbit_0 Q0 Q1 Q2 Q3 (A := AN) (s := sf.toNat) (by omega) hj2.out hqe
        have HQN := Lib.hid hqn
        have HQE := Lib.hid hqe
        have HS1 := Lib.hid hst1
        have HS2 := Lib.hid hst2
        have HRE := Lib.hid hre
        have HUE := Lib.hid ue
        have HTE := Lib.hid te'
        clear hqn hqe hst1 hst2 hre ue te' te hbit hAN hRN hβ tev
        by_cases hi : 9223372036854775808 ≤ r3
        · have hie : (r3 / 9223372036854775808 == 1) = true := by rw [show r3 / 9223372036854775808 = 1 by have := R3.2; omega]; rfl
          have hRN : TOP ≤ 2 * RN := by have h1 := HRE.out; have := R0.1; have := R1.1; have := R2.1; unfold n4 at h1; unfold TOP; omega
          have hge : M ≤ 2 * RN + b := by omega
          have HUN := Lib.hid (show n4 u0 u1 u2 u3 = ((2 * RN + b - M : Nat) : Int) by rw [HUE.out, HTE.out]; unfold TOP at *; omega)
          have HGE := Lib.hid hge
          clear hRN hge
          go_wp2_with fail
          refine (hleft _).mono ?_
          rintro e w2 ⟨rfl, hc2⟩
          have c2 := b2.chg hc2 (by simp)
          have c3 := b3.chg hc2 (by simp)
          have c4 := b4.chg hc2 (by simp)
          have c5 := b5.chg hc2 (by simp)
          have c7 := b7.chg hc2 (by simp)
          have c8 := b8.chg hc2 (by simp)
          have hcw := hS.c.trans hc2 (by simp)
          clear y0 y1 y2 y3 yf0 yf1 yf2 yf3 x0 x1 x2 x3 b2 b3 b4 b5 b7 b8 hc2 hleft
          have y0 := c8.cell 0 (v := .int .u64 r0) rfl
          have yf0 := c8.free 0
          have y1 := c8.cell 1 (v := .int .u64 r1) rfl
          have yf1 := c8.free 1
          have y2 := c8.cell 2 (v := .int .u64 r2) rfl
          have yf2 := c8.free 2
          have y3 := c8.cell 3 (v := .int .u64 r3) rfl
          have yf3 := c8.free 3
          go_wp2
          have d2 := ((((c2.other (p := ⟨w.heap.size + 1 + 1 + 1 + 1 + 1, 0, none⟩) (by simp; try omega) (.int .u64 t0)).other (p := ⟨w.heap.size + 1 + 1 + 1 + 1 + 1, 1, none⟩) (by simp; try omega) (.int .u64 t1)).other (p := ⟨w.heap.size + 1 + 1 + 1 + 1 + 1, 2, none⟩) (by simp; try omega) (.int .u64 t2)).other (p := ⟨w.heap.size + 1 + 1 + 1 + 1 + 1, 3, none⟩) (by simp; try omega) (.int .u64 t3))
          have d3 := ((((c3.other (p := ⟨w.heap.size + 1 + 1 + 1 + 1 + 1, 0, none⟩) (by simp; try omega) (.int .u64 t0)).other (p := ⟨w.heap.size + 1 + 1 + 1 + 1 + 1, 1, none⟩) (by simp; try omega) (.int .u64 t1)).other (p := ⟨w.heap.size + 1 + 1 + 1 + 1 + 1, 2, none⟩) (by simp; try omega) (.int .u64 t2)).other (p := ⟨w.heap.size + 1 + 1 + 1 + 1 + 1, 3, none⟩) (by simp; try omega) (.int .u64 t3))
          have d4 := ((((c4.other (p := ⟨w.heap.size + 1 + 1 + 1 + 1 + 1, 0, none⟩) (by simp; try omega) (.int .u64 t0)).other (p := ⟨w.heap.size + 1 + 1 + 1 + 1 + 1, 1, none⟩) (by simp; try omega) (.int .u64 t1)).other (p := ⟨w.heap.size + 1 + 1 + 1 + 1 + 1, 2, none⟩) (by simp; try omega) (.int .u64 t2)).other (p := ⟨w.heap.size + 1 + 1 + 1 + 1 + 1, 3, none⟩) (by simp; try omega) (.int .u64 t3))
          have d5 := ((((c5.other (p := ⟨w.heap.size + 1 + 1 + 1 + 1 + 1, 0, none⟩) (by simp; try omega) (.int .u64 t0)).other (p := ⟨w.heap.size + 1 + 1 + 1 + 1 + 1, 1, none⟩) (by simp; try omega) (.int .u64 t1)).other (p := ⟨w.heap.size + 1 + 1 + 1 + 1 + 1, 2, none⟩) (by simp; try omega) (.int .u64 t2)).other (p := ⟨w.heap.size + 1 + 1 + 1 + 1 + 1, 3, none⟩) (by simp; try omega) (.int .u64 t3))
          have d7 := ((((c7.other (p := ⟨w.heap.size + 1 + 1 + 1 + 1 + 1, 0, none⟩) (by simp; try omega) (.int .u64 t0)).other (p := ⟨w.heap.size + 1 + 1 + 1 + 1 + 1, 1, none⟩) (by simp; try omega) (.int .u64 t1)).other (p := ⟨w.heap.size + 1 + 1 + 1 + 1 + 1, 2, none⟩) (by simp; try omega) (.int .u64 t2)).other (p := ⟨w.heap.size + 1 + 1 + 1 + 1 + 1, 3, none⟩) (by simp; try omega) (.int .u64 t3))
          have d8 := ((((c8.set 0 (.int .u64 t0)).set 1 (.int .u64 t1)).set 2 (.int .u64 t2)).set 3 (.int .u64 t3))
          have hcw3 : Chg [] w ((((w2.setCell ⟨w.heap.size + 1 + 1 + 1 + 1 + 1, 0, none⟩ (.int .u64 t0)).setCell ⟨w.heap.size + 1 + 1 + 1 + 1 + 1, 1, none⟩ (.int .u64 t1)).setCell ⟨w.heap.size + 1 + 1 + 1 + 1 + 1, 2, none⟩ (.int .u64 t2)).setCell ⟨w.heap.size + 1 + 1 + 1 + 1 + 1, 3, none⟩ (.int .u64 t3)) := ((((hcw.setCell (.inr (by simp; omega)) _).setCell (.inr (by simp; omega)) _).setCell (.inr (by simp; omega)) _).setCell (.inr (by simp; omega)) _)
          generalize ((((w2.setCell ⟨w.heap.size + 1 + 1 + 1 + 1 + 1, 0, none⟩ (.int .u64 t0)).setCell ⟨w.heap.size + 1 + 1 + 1 + 1 + 1, 1, none⟩ (.int .u64 t1)).setCell ⟨w.heap.size + 1 + 1 + 1 + 1 + 1, 2, none⟩ (.int .u64 t2)).setCell ⟨w.heap.size + 1 + 1 + 1 + 1 + 1, 3, none⟩ (.int .u64 t3)) = w3 at d2 d3 d4 d5 d7 d8 hcw3 ⊢
          clear c2 c3 c4 c5 c7 c8 hcw
          clear y0 y1 y2 y3 yf0 yf1 yf2 yf3
          have y0 := d8.cell 0 (v := .int .u64 t0) rfl
          have yf0 := d8.free 0
          have x0 := d2.cell 0 (v := .int .u64 a0) rfl
          go_region
          have f2 := (d2.other (p := ⟨w.heap.size + 1 + 1 + 1 + 1 + 1, 0, none⟩) (by simp; try omega) (.int .u64 (t0 + (b : Int)))).drew
          have f3 := (d3.other (p := ⟨w.heap.size + 1 + 1 + 1 + 1 + 1, 0, none⟩) (by simp; try omega) (.int .u64 (t0 + (b : Int)))).drew
          have f4 := (d4.other (p := ⟨w.heap.size + 1 + 1 + 1 + 1 + 1, 0, none⟩) (by simp; try omega) (.int .u64 (t0 + (b : Int)))).drew
          have f5 := (d5.other (p := ⟨w.heap.size + 1 + 1 + 1 + 1 + 1, 0, none⟩) (by simp; try omega) (.int .u64 (t0 + (b : Int)))).drew
          have f7 := (d7.other (p := ⟨w.heap.size + 1 + 1 + 1 + 1 + 1, 0, none⟩) (by simp; try omega) (.int .u64 (t0 + (b : Int)))).drew
          have f8 := (d8.set 0 (.int .u64 (t0 + (b : Int)))).drew
          have hcw4 : Chg [] w (w3.setCell ⟨w.heap.size + 1 + 1 + 1 + 1 + 1, 0, none⟩ (.int .u64 (t0 + (b : Int)))).drew := (hcw3.setCell (.inr (by simp; omega)) _).drew
          generalize (w3.setCell ⟨w.heap.size + 1 + 1 + 1 + 1 + 1, 0, none⟩ (.int .u64 (t0 + (b : Int)))).drew = w4 at f2 f3 f4 f5 f7 f8 hcw4 ⊢
          clear d2 d3 d4 d5 d7 d8 hcw3
          clear y0 yf0 x0
          have y0 := f8.cell 0 (v := .int .u64 (t0 + (b : Int))) rfl
          have yf0 := f8.free 0
          have y1 := f8.cell 1 (v := .int .u64 t1) rfl
          have yf1 := f8.free 1
          have y2 := f8.cell 2 (v := .int .u64 t2) rfl
          have yf2 := f8.free 2
          have y3 := f8.cell 3 (v := .int .u64 t3) rfl
          have yf3 := f8.free 3
          have z0 := f3.cell 0 (v := .int .u64 m0) rfl
          have z1 := f3.cell 1 (v := .int .u64 m1) rfl
          have z2 := f3.cell 2 (v := .int .u64 m2) rfl
          have z3 := f3.cell 3 (v := .int .u64 m3) rfl
          go_wp2_with fail
          refine (hsub _).mono ?_
          rintro e w6 ⟨rfl, hc6⟩
          have hx2 := f2.chg hc6 (by simp)
          have hx3 := f3.chg hc6 (by simp)
          have hx4 := f4.chg hc6 (by simp)
          have hx5 := f5.chg hc6 (by simp)
          have hx7 := f7.chg hc6 (by simp)
          have hx8 := f8.chg hc6 (by simp)
          have hcw6 := hcw4.trans hc6 (by simp)
          clear y0 y1 y2 y3 yf0 yf1 yf2 yf3 z0 z1 z2 z3 f2 f3 f4 f5 f7 f8 hc6 hsub hcw4
          have y0 := hx8.cell 0 (v := .int .u64 (t0 + (b : Int))) rfl
          have yf0 := hx8.free 0
          have y1 := hx8.cell 1 (v := .int .u64 t1) rfl
          have yf1 := hx8.free 1
          have y2 := hx8.cell 2 (v := .int .u64 t2) rfl
          have yf2 := hx8.free 2
          have y3 := hx8.cell 3 (v := .int .u64 t3) rfl
          have yf3 := hx8.free 3
          go_wp2
          have p2 := ((((hx2.other (p := ⟨w.heap.size + 1 + 1 + 1 + 1 + 1, 0, none⟩) (by simp; try omega) (.int .u64 u0)).other (p := ⟨w.heap.size + 1 + 1 + 1 + 1 + 1, 1, none⟩) (by simp; try omega) (.int .u64 u1)).other (p := ⟨w.heap.size + 1 + 1 + 1 + 1 + 1, 2, none⟩) (by simp; try omega) (.int .u64 u2)).other (p := ⟨w.heap.size + 1 + 1 + 1 + 1 + 1, 3, none⟩) (by simp; try omega) (.int .u64 u3))
          have p3 := ((((hx3.other (p := ⟨w.heap.size + 1 + 1 + 1 + 1 + 1, 0, none⟩) (by simp; try omega) (.int .u64 u0)).other (p := ⟨w.heap.size + 1 + 1 + 1 + 1 + 1, 1, none⟩) (by simp; try omega) (.int .u64 u1)).other (p := ⟨w.heap.size + 1 + 1 + 1 + 1 + 1, 2, none⟩) (by simp; try omega) (.int .u64 u2)).other (p := ⟨w.heap.size + 1 + 1 + 1 + 1 + 1, 3, none⟩) (by simp; try omega) (.int .u64 u3))
          have p4 := ((((hx4.other (p := ⟨w.heap.size + 1 + 1 + 1 + 1 + 1, 0, none⟩) (by simp; try omega) (.int .u64 u0)).other (p := ⟨w.heap.size + 1 + 1 + 1 + 1 + 1, 1, none⟩) (by simp; try omega) (.int .u64 u1)).other (p := ⟨w.heap.size + 1 + 1 + 1 + 1 + 1, 2, none⟩) (by simp; try omega) (.int .u64 u2)).other (p := ⟨w.heap.size + 1 + 1 + 1 + 1 + 1, 3, none⟩) (by simp; try omega) (.int .u64 u3))
          have p5 := ((((hx5.other (p := ⟨w.heap.size + 1 + 1 + 1 + 1 + 1, 0, none⟩) (by simp; try omega) (.int .u64 u0)).other (p := ⟨w.heap.size + 1 + 1 + 1 + 1 + 1, 1, none⟩) (by simp; try omega) (.int .u64 u1)).other (p := ⟨w.heap.size + 1 + 1 + 1 + 1 + 1, 2, none⟩) (by simp; try omega) (.int .u64 u2)).other (p := ⟨w.heap.size + 1 + 1 + 1 + 1 + 1, 3, none⟩) (by simp; try omega) (.int .u64 u3))
          have p7 := ((((hx7.other (p := ⟨w.heap.size + 1 + 1 + 1 + 1 + 1, 0, none⟩) (by simp; try omega) (.int .u64 u0)).other (p := ⟨w.heap.size + 1 + 1 + 1 + 1 + 1, 1, none⟩) (by simp; try omega) (.int .u64 u1)).other (p := ⟨w.heap.size + 1 + 1 + 1 + 1 + 1, 2, none⟩) (by simp; try omega) (.int .u64 u2)).other (p := ⟨w.heap.size + 1 + 1 + 1 + 1 + 1, 3, none⟩) (by simp; try omega) (.int .u64 u3))
          have p8 := ((((hx8.set 0 (.int .u64 u0)).set 1 (.int .u64 u1)).set 2 (.int .u64 u2)).set 3 (.int .u64 u3))
          have hcw7 : Chg [] w ((((w6.setCell ⟨w.heap.size + 1 + 1 + 1 + 1 + 1, 0, none⟩ (.int .u64 u0)).setCell ⟨w.heap.size + 1 + 1 + 1 + 1 + 1, 1, none⟩ (.int .u64 u1)).setCell ⟨w.heap.size + 1 + 1 + 1 + 1 + 1, 2, none⟩ (.int .u64 u2)).setCell ⟨w.heap.size + 1 + 1 + 1 + 1 + 1, 3, none⟩ (.int .u64 u3)) := ((((hcw6.setCell (.inr (by simp; omega)) _).setCell (.inr (by simp; omega)) _).setCell (.inr (by simp; omega)) _).setCell (.inr (by simp; omega)) _)
          generalize ((((w6.setCell ⟨w.heap.size + 1 + 1 + 1 + 1 + 1, 0, none⟩ (.int .u64 u0)).setCell ⟨w.heap.size + 1 + 1 + 1 + 1 + 1, 1, none⟩ (.int .u64 u1)).setCell ⟨w.heap.size + 1 + 1 + 1 + 1 + 1, 2, none⟩ (.int .u64 u2)).setCell ⟨w.heap.size + 1 + 1 + 1 + 1 + 1, 3, none⟩ (.int .u64 u3)) = w7 at p2 p3 p4 p5 p7 p8 hcw7 ⊢
          clear hx2 hx3 hx4 hx5 hx7 hx8 hcw6
          clear y0 y1 y2 y3 yf0 yf1 yf2 yf3
          have y0 := p7.cell 0 (v := .int .u64 q0) rfl
          have yf0 := p7.free 0
          go_region
          have k2 := (p2.other (p := ⟨w.heap.size + 1 + 1 + 1 + 1, 0, none⟩) (by simp; try omega) (.int .u64 (q0 + 2 ^ sf.toNat))).drew
          have k3 := (p3.other (p := ⟨w.heap.size + 1 + 1 + 1 + 1, 0, none⟩) (by simp; try omega) (.int .u64 (q0 + 2 ^ sf.toNat))).drew
          have k4 := (p4.other (p := ⟨w.heap.size + 1 + 1 + 1 + 1, 0, none⟩) (by simp; try omega) (.int .u64 (q0 + 2 ^ sf.toNat))).drew
          have k5 := (p5.other (p := ⟨w.heap.size + 1 + 1 + 1 + 1, 0, none⟩) (by simp; try omega) (.int .u64 (q0 + 2 ^ sf.toNat))).drew
          have k7 := (p7.set 0 (.int .u64 (q0 + 2 ^ sf.toNat))).drew
          have k8 := (p8.other (p := ⟨w.heap.size + 1 + 1 + 1 + 1, 0, none⟩) (by simp; try omega) (.int .u64 (q0 + 2 ^ sf.toNat))).drew
          have hcw8 : Chg [] w (w7.setCell ⟨w.heap.size + 1 + 1 + 1 + 1, 0, none⟩ (.int .u64 (q0 + 2 ^ sf.toNat))).drew := (hcw7.setCell (.inr (by simp; omega)) _).drew
          generalize (w7.setCell ⟨w.heap.size + 1 + 1 + 1 + 1, 0, none⟩ (.int .u64 (q0 + 2 ^ sf.toNat))).drew = w8 at k2 k3 k4 k5 k7 k8 hcw8 ⊢
          clear p2 p3 p4 p5 p7 p8 hcw7
          clear y0 yf0
          go_wp2
          go_roundw
          case rel => exact ⟨j, _, q1, q2, q3, u0, u1, u2, u3, rfl, by omega, ⟨⟨hqw, Q1, Q2, Q3⟩, ⟨U0, U1, U2, U3⟩, by rw [HQN.out, HS2.out, if_pos HGE.out], by rw [HUN.out, HS1.out, if_pos HGE.out], by simpa [C4] using k2, by simpa [C4] using k3, by simpa [C4] using k4, by simpa [C4] using k5, by simpa [C4] using k7, by simpa [C4] using k8, hcw8⟩⟩
          case measure => simp [intOf]
        · have hie : (r3 / 9223372036854775808 == 1) = false := by rw [show r3 / 9223372036854775808 = 0 by have := R3.1; omega]; rfl
          have hRN : 2 * RN + b < TOP := by have h1 := HRE.out; have := R0.2; have := R1.2; have := R2.2; unfold n4 at h1; unfold TOP; omega
          have he : n4 (t0 + (b : Int)) t1 t2 t3 = ((2 * RN + b : Nat) : Int) := by rw [HTE.out, Int.emod_eq_of_lt (by omega) (by omega)]
          rw [he] at hcmp
          by_cases hge : M ≤ 2 * RN + b
          · have hcv : 0 ≤ cmpI ((2 * RN + b : Nat) : Int) (M : Int) := by unfold cmpI; rw [if_neg (by omega)]; split <;> omega
            have HUN := Lib.hid (show n4 u0 u1 u2 u3 = ((2 * RN + b - M : Nat) : Int) by rw [HUE.out, HTE.out]; unfold TOP at *; omega)
            have HGE := Lib.hid hge
            generalize cmpI ((2 * RN + b : Nat) : Int) (M : Int) = cv at hcmp hcv
            clear hRN hge he
            go_wp2_with fail
            refine (hleft _).mono ?_
            rintro e w2 ⟨rfl, hc2⟩
            have c2 := b2.chg hc2 (by simp)
            have c3 := b3.chg hc2 (by simp)
            have c4 := b4.chg hc2 (by simp)
            have c5 := b5.chg hc2 (by simp)
            have c7 := b7.chg hc2 (by simp)
            have c8 := b8.chg hc2 (by simp)
            have hcw := hS.c.trans hc2 (by simp)
            clear y0 y1 y2 y3 yf0 yf1 yf2 yf3 x0 x1 x2 x3 b2 b3 b4 b5 b7 b8 hc2 hleft
            have y0 := c8.cell 0 (v := .int .u64 r0) rfl
            have yf0 := c8.free 0
            have y1 := c8.cell 1 (v := .int .u64 r1) rfl
            have yf1 := c8.free 1
            have y2 := c8.cell 2 (v := .int .u64 r2) rfl
            have yf2 := c8.free 2
            have y3 := c8.cell 3 (v := .int .u64 r3) rfl
            have yf3 := c8.free 3
            go_wp2
            have d2 := ((((c2.other (p := ⟨w.heap.size + 1 + 1 + 1 + 1 + 1, 0, none⟩) (by simp; try omega) (.int .u64 t0)).other (p := ⟨w.heap.size + 1 + 1 + 1 + 1 + 1, 1, none⟩) (by simp; try omega) (.int .u64 t1)).other (p := ⟨w.heap.size + 1 + 1 + 1 + 1 + 1, 2, none⟩) (by simp; try omega) (.int .u64 t2)).other (p := ⟨w.heap.size + 1 + 1 + 1 + 1 + 1, 3, none⟩) (by simp; try omega) (.int .u64 t3))
            have d3 := ((((c3.other (p := ⟨w.heap.size + 1 + 1 + 1 + 1 + 1, 0, none⟩) (by simp; try omega) (.int .u64 t0)).other (p := ⟨w.heap.size + 1 + 1 + 1 + 1 + 1, 1, none⟩) (by simp; try omega) (.int .u64 t1)).other (p := ⟨w.heap.size + 1 + 1 + 1 + 1 + 1, 2, none⟩) (by simp; try omega) (.int .u64 t2)).other (p := ⟨w.heap.size + 1 + 1 + 1 + 1 + 1, 3, none⟩) (by simp; try omega) (.int .u64 t3))
            have d4 := ((((c4.other (p := ⟨w.heap.size + 1 + 1 + 1 + 1 + 1, 0, none⟩) (by simp; try omega) (.int .u64 t0)).other (p := ⟨w.heap.size + 1 + 1 + 1 + 1 + 1, 1, none⟩) (by simp; try omega) (.int .u64 t1)).other (p := ⟨w.heap.size + 1 + 1 + 1 + 1 + 1, 2, none⟩) (by simp; try omega) (.int .u64 t2)).other (p := ⟨w.heap.size + 1 + 1 + 1 + 1 + 1, 3, none⟩) (by simp; try omega) (.int .u64 t3))
            have d5 := ((((c5.other (p := ⟨w.heap.size + 1 + 1 + 1 + 1 + 1, 0, none⟩) (by simp; try omega) (.int .u64 t0)).other (p := ⟨w.heap.size + 1 + 1 + 1 + 1 + 1, 1, none⟩) (by simp; try omega) (.int .u64 t1)).other (p := ⟨w.heap.size + 1 + 1 + 1 + 1 + 1, 2, none⟩) (by simp; try omega) (.int .u64 t2)).other (p := ⟨w.heap.size + 1 + 1 + 1 + 1 + 1, 3, none⟩) (by simp; try omega) (.int .u64 t3))
            have d7 := ((((c7.other (p := ⟨w.heap.size + 1 + 1 + 1 + 1 + 1, 0, none⟩) (by simp; try omega) (.int .u64 t0)).other (p := ⟨w.heap.size + 1 + 1 + 1 + 1 + 1, 1, none⟩) (by simp; try omega) (.int .u64 t1)).other (p := ⟨w.heap.size + 1 + 1 + 1 + 1 + 1, 2, none⟩) (by simp; try omega) (.int .u64 t2)).other (p := ⟨w.heap.size + 1 + 1 + 1 + 1 + 1, 3, none⟩) (by simp; try omega) (.int .u64 t3))
            have d8 := ((((c8.set 0 (.int .u64 t0)).set 1 (.int .u64 t1)).set 2 (.int .u64 t2)).set 3 (.int .u64 t3))
            have hcw3 : Chg [] w ((((w2.setCell ⟨w.heap.size + 1 + 1 + 1 + 1 + 1, 0, none⟩ (.int .u64 t0)).setCell ⟨w.heap.size + 1 + 1 + 1 + 1 + 1, 1, none⟩ (.int .u64 t1)).setCell ⟨w.heap.size + 1 + 1 + 1 + 1 + 1, 2, none⟩ (.int .u64 t2)).setCell ⟨w.heap.size + 1 + 1 + 1 + 1 + 1, 3, none⟩ (.int .u64 t3)) := ((((hcw.setCell (.inr (by simp; omega)) _).setCell (.inr (by simp; omega)) _).setCell (.inr (by simp; omega)) _).setCell (.inr (by simp; omega)) _)
            generalize ((((w2.setCell ⟨w.heap.size + 1 + 1 + 1 + 1 + 1, 0, none⟩ (.int .u64 t0)).setCell ⟨w.heap.size + 1 + 1 + 1 + 1 + 1, 1, none⟩ (.int .u64 t1)).setCell ⟨w.heap.size + 1 + 1 + 1 + 1 + 1, 2, none⟩ (.int .u64 t2)).setCell ⟨w.heap.size + 1 + 1 + 1 + 1 + 1, 3, none⟩ (.int .u64 t3)) = w3 at d2 d3 d4 d5 d7 d8 hcw3 ⊢
            clear c2 c3 c4 c5 c7 c8 hcw
            clear y0 y1 y2 y3 yf0 yf1 yf2 yf3
            have y0 := d8.cell 0 (v := .int .u64 t0) rfl
            have yf0 := d8.free 0
            have x0 := d2.cell 0 (v := .int .u64 a0) rfl
            go_region
            have f2 := (d2.other (p := ⟨w.heap.size + 1 + 1 + 1 + 1 + 1, 0, none⟩) (by simp; try omega) (.int .u64 (t0 + (b : Int)))).drew
            have f3 := (d3.other (p := ⟨w.heap.size + 1 + 1 + 1 + 1 + 1, 0, none⟩) (by simp; try omega) (.int .u64 (t0 + (b : Int)))).drew
            have f4 := (d4.other (p := ⟨w.heap.size + 1 + 1 + 1 + 1 + 1, 0, none⟩) (by simp; try omega) (.int .u64 (t0 + (b : Int)))).drew
            have f5 := (d5.other (p := ⟨w.heap.size + 1 + 1 + 1 + 1 + 1, 0, none⟩) (by simp; try omega) (.int .u64 (t0 + (b : Int)))).drew
            have f7 := (d7.other (p := ⟨w.heap.size + 1 + 1 + 1 + 1 + 1, 0, none⟩) (by simp; try omega) (.int .u64 (t0 + (b : Int)))).drew
            have f8 := (d8.set 0 (.int .u64 (t0 + (b : Int)))).drew
            have hcw4 : Chg [] w (w3.setCell ⟨w.heap.size + 1 + 1 + 1 + 1 + 1, 0, none⟩ (.int .u64 (t0 + (b : Int)))).drew := (hcw3.setCell (.inr (by simp; omega)) _).drew
            generalize (w3.setCell ⟨w.heap.size + 1 + 1 + 1 + 1 + 1, 0, none⟩ (.int .u64 (t0 + (b : Int)))).drew = w4 at f2 f3 f4 f5 f7 f8 hcw4 ⊢
            clear d2 d3 d4 d5 d7 d8 hcw3
            clear y0 yf0 x0
            have y0 := f8.cell 0 (v := .int .u64 (t0 + (b : Int))) rfl
            have yf0 := f8.free 0
            have y1 := f8.cell 1 (v := .int .u64 t1) rfl
            have yf1 := f8.free 1
            have y2 := f8.cell 2 (v := .int .u64 t2) rfl
            have yf2 := f8.free 2
            have y3 := f8.cell 3 (v := .int .u64 t3) rfl
            have yf3 := f8.free 3
            have z0 := f3.cell 0 (v := .int .u64 m0) rfl
            have z1 := f3.cell 1 (v := .int .u64 m1) rfl
            have z2 := f3.cell 2 (v := .int .u64 m2) rfl
            have z3 := f3.cell 3 (v := .int .u64 m3) rfl
            go_wp2_with fail
            refine (hcmp _).mono ?_
            rintro e w5 ⟨rfl, hc5⟩
            have g2 := f2.chg hc5 (by simp)
            have g3 := f3.chg hc5 (by simp)
            have g4 := f4.chg hc5 (by simp)
            have g5 := f5.chg hc5 (by simp)
            have g7 := f7.chg hc5 (by simp)
            have g8 := f8.chg hc5 (by simp)
            have hcw5 := hcw4.trans hc5 (by simp)
            clear y0 y1 y2 y3 yf0 yf1 yf2 yf3 z0 z1 z2 z3 f2 f3 f4 f5 f7 f8 hc5 hcmp hcw4
            have y0 := g8.cell 0 (v := .int .u64 (t0 + (b : Int))) rfl
            have yf0 := g8.free 0
            have y1 := g8.cell 1 (v := .int .u64 t1) rfl
            have yf1 := g8.free 1
            have y2 := g8.cell 2 (v := .int .u64 t2) rfl
            have yf2 := g8.free 2
            have y3 := g8.cell 3 (v := .int .u64 t3) rfl
            have yf3 := g8.free 3
            have z0 := g3.cell 0 (v := .int .u64 m0) rfl
            have z1 := g3.cell 1 (v := .int .u64 m1) rfl
            have z2 := g3.cell 2 (v := .int .u64 m2) rfl
            have z3 := g3.cell 3 (v := .int .u64 m3) rfl
            go_wp2_with fail
            refine (hsub _).mono ?_
            rintro e w6 ⟨rfl, hc6⟩
            have hx2 := g2.chg hc6 (by simp)
            have hx3 := g3.chg hc6 (by simp)
            have hx4 := g4.chg hc6 (by simp)
            have hx5 := g5.chg hc6 (by simp)
            have hx7 := g7.chg hc6 (by simp)
            have hx8 := g8.chg hc6 (by simp)
            have hcw6 := hcw5.trans hc6 (by simp)
            clear y0 y1 y2 y3 yf0 yf1 yf2 yf3 z0 z1 z2 z3 g2 g3 g4 g5 g7 g8 hc6 hsub hcw5
            have y0 := hx8.cell 0 (v := .int .u64 (t0 + (b : Int))) rfl
            have yf0 := hx8.free 0
            have y1 := hx8.cell 1 (v := .int .u64 t1) rfl
            have yf1 := hx8.free 1
            have y2 := hx8.cell 2 (v := .int .u64 t2) rfl
            have yf2 := hx8.free 2
            have y3 := hx8.cell 3 (v := .int .u64 t3) rfl
            have yf3 := hx8.free 3
            go_wp2
            have p2 := ((((hx2.other (p := ⟨w.heap.size + 1 + 1 + 1 + 1 + 1, 0, none⟩) (by simp; try omega) (.int .u64 u0)).other (p := ⟨w.heap.size + 1 + 1 + 1 + 1 + 1, 1, none⟩) (by simp; try omega) (.int .u64 u1)).other (p := ⟨w.heap.size + 1 + 1 + 1 + 1 + 1, 2, none⟩) (by simp; try omega) (.int .u64 u2)).other (p := ⟨w.heap.size + 1 + 1 + 1 + 1 + 1, 3, none⟩) (by simp; try omega) (.int .u64 u3))
            have p3 := ((((hx3.other (p := ⟨w.heap.size + 1 + 1 + 1 + 1 + 1, 0, none⟩) (by simp; try omega) (.int .u64 u0)).other (p := ⟨w.heap.size + 1 + 1 + 1 + 1 + 1, 1, none⟩) (by simp; try omega) (.int .u64 u1)).other (p := ⟨w.heap.size + 1 + 1 + 1 + 1 + 1, 2, none⟩) (by simp; try omega) (.int .u64 u2)).other (p := ⟨w.heap.size + 1 + 1 + 1 + 1 + 1, 3, none⟩) (by simp; try omega) (.int .u64 u3))
            have p4 := ((((hx4.other (p := ⟨w.heap.size + 1 + 1 + 1 + 1 + 1, 0, none⟩) (by simp; try omega) (.int .u64 u0)).other (p := ⟨w.heap.size + 1 + 1 + 1 + 1 + 1, 1, none⟩) (by simp; try omega) (.int .u64 u1)).other (p := ⟨w.heap.size + 1 + 1 + 1 + 1 + 1, 2, none⟩) (by simp; try omega) (.int .u64 u2)).other (p := ⟨w.heap.size + 1 + 1 + 1 + 1 + 1, 3, none⟩) (by simp; try omega) (.int .u64 u3))
            have p5 := ((((hx5.other (p := ⟨w.heap.size + 1 + 1 + 1 + 1 + 1, 0, none⟩) (by simp; try omega) (.int .u64 u0)).other (p := ⟨w.heap.size + 1 + 1 + 1 + 1 + 1, 1, none⟩) (by simp; try omega) (.int .u64 u1)).other (p := ⟨w.heap.size + 1 + 1 + 1 + 1 + 1, 2, none⟩) (by simp; try omega) (.int .u64 u2)).other (p := ⟨w.heap.size + 1 + 1 + 1 + 1 + 1, 3, none⟩) (by simp; try omega) (.int .u64 u3))
            have p7 := ((((hx7.other (p := ⟨w.heap.size + 1 + 1 + 1 + 1 + 1, 0, none⟩) (by simp; try omega) (.int .u64 u0)).other (p := ⟨w.heap.size + 1 + 1 + 1 + 1 + 1, 1, none⟩) (by simp; try omega) (.int .u64 u1)).other (p := ⟨w.heap.size + 1 + 1 + 1 + 1 + 1, 2, none⟩) (by simp; try omega) (.int .u64 u2)).other (p := ⟨w.heap.size + 1 + 1 + 1 + 1 + 1, 3, none⟩) (by simp; try omega) (.int .u64 u3))
            have p8 := ((((hx8.set 0 (.int .u64 u0)).set 1 (.int .u64 u1)).set 2 (.int .u64 u2)).set 3 (.int .u64 u3))
            have hcw7 : Chg [] w ((((w6.setCell ⟨w.heap.size + 1 + 1 + 1 + 1 + 1, 0, none⟩ (.int .u64 u0)).setCell ⟨w.heap.size + 1 + 1 + 1 + 1 + 1, 1, none⟩ (.int .u64 u1)).setCell ⟨w.heap.size + 1 + 1 + 1 + 1 + 1, 2, none⟩ (.int .u64 u2)).setCell ⟨w.heap.size + 1 + 1 + 1 + 1 + 1, 3, none⟩ (.int .u64 u3)) := ((((hcw6.setCell (.inr (by simp; omega)) _).setCell (.inr (by simp; omega)) _).setCell (.inr (by simp; omega)) _).setCell (.inr (by simp; omega)) _)
            generalize ((((w6.setCell ⟨w.heap.size + 1 + 1 + 1 + 1 + 1, 0, none⟩ (.int .u64 u0)).setCell ⟨w.heap.size + 1 + 1 + 1 + 1 + 1, 1, none⟩ (.int .u64 u1)).setCell ⟨w.heap.size + 1 + 1 + 1 + 1 + 1, 2, none⟩ (.int .u64 u2)).setCell ⟨w.heap.size + 1 + 1 + 1 + 1 + 1, 3, none⟩ (.int .u64 u3)) = w7 at p2 p3 p4 p5 p7 p8 hcw7 ⊢
            clear hx2 hx3 hx4 hx5 hx7 hx8 hcw6
            clear y0 y1 y2 y3 yf0 yf1 yf2 yf3
            have y0 := p7.cell 0 (v := .int .u64 q0) rfl
            have yf0 := p7.free 0
            go_region
            have k2 := (p2.other (p := ⟨w.heap.size + 1 + 1 + 1 + 1, 0, none⟩) (by simp; try omega) (.int .u64 (q0 + 2 ^ sf.toNat))).drew
            have k3 := (p3.other (p := ⟨w.heap.size + 1 + 1 + 1 + 1, 0, none⟩) (by simp; try omega) (.int .u64 (q0 + 2 ^ sf.toNat))).drew
            have k4 := (p4.other (p := ⟨w.heap.size + 1 + 1 + 1 + 1, 0, none⟩) (by simp; try omega) (.int .u64 (q0 + 2 ^ sf.toNat))).drew
            have k5 := (p5.other (p := ⟨w.heap.size + 1 + 1 + 1 + 1, 0, none⟩) (by simp; try omega) (.int .u64 (q0 + 2 ^ sf.toNat))).drew
            have k7 := (p7.set 0 (.int .u64 (q0 + 2 ^ sf.toNat))).drew
            have k8 := (p8.other (p := ⟨w.heap.size + 1 + 1 + 1 + 1, 0, none⟩) (by simp; try omega) (.int .u64 (q0 + 2 ^ sf.toNat))).drew
            have hcw8 : Chg [] w (w7.setCell ⟨w.heap.size + 1 + 1 + 1 + 1, 0, none⟩ (.int .u64 (q0 + 2 ^ sf.toNat))).drew := (hcw7.setCell (.inr (by simp; omega)) _).drew
            generalize (w7.setCell ⟨w.heap.size + 1 + 1 + 1 + 1, 0, none⟩ (.int .u64 (q0 + 2 ^ sf.toNat))).drew = w8 at k2 k3 k4 k5 k7 k8 hcw8 ⊢
            clear p2 p3 p4 p5 p7 p8 hcw7
            clear y0 yf0
            go_wp2
            go_roundw
            case rel => exact ⟨j, _, q1, q2, q3, u0, u1, u2, u3, rfl, by omega, ⟨⟨hqw, Q1, Q2, Q3⟩, ⟨U0, U1, U2, U3⟩, by rw [HQN.out, HS2.out, if_pos HGE.out], by rw [HUN.out, HS1.out, if_pos HGE.out], by simpa [C4] using k2, by simpa [C4] using k3, by simpa [C4] using k4, by simpa [C4] using k5, by simpa [C4] using k7, by simpa [C4] using k8, hcw8⟩⟩
            case measure => simp [intOf]
          · have hcv : cmpI ((2 * RN + b : Nat) : Int) (M : Int) < 0 := by rw [cmpI_lt (by omega)]; decide
            have HGE := Lib.hid hge
            have HTN := Lib.hid he
            generalize cmpI ((2 * RN + b : Nat) : Int) (M : Int) = cv at hcmp hcv
            clear hRN hge he
            go_wp2_with fail
            refine (hleft _).mono ?_
            rintro e w2 ⟨rfl, hc2⟩
            have c2 := b2.chg hc2 (by simp)
            have c3 := b3.chg hc2 (by simp)
            have c4 := b4.chg hc2 (by simp)
            have c5 := b5.chg hc2 (by simp)
            have c7 := b7.chg hc2 (by simp)
            have c8 := b8.chg hc2 (by simp)
            have hcw := hS.c.trans hc2 (by simp)
            clear y0 y1 y2 y3 yf0 yf1 yf2 yf3 x0 x1 x2 x3 b2 b3 b4 b5 b7 b8 hc2 hleft
            have y0 := c8.cell 0 (v := .int .u64 r0) rfl
            have yf0 := c8.free 0
            have y1 := c8.cell 1 (v := .int .u64 r1) rfl
            have yf1 := c8.free 1
            have y2 := c8.cell 2 (v := .int .u64 r2) rfl
            have yf2 := c8.free 2
            have y3 := c8.cell 3 (v := .int .u64 r3) rfl
            have yf3 := c8.free 3
            go_wp2
            have d2 := ((((c2.other (p := ⟨w.heap.size + 1 + 1 + 1 + 1 + 1, 0, none⟩) (by simp; try omega) (.int .u64 t0)).other (p := ⟨w.heap.size + 1 + 1 + 1 + 1 + 1, 1, none⟩) (by simp; try omega) (.int .u64 t1)).other (p := ⟨w.heap.size + 1 + 1 + 1 + 1 + 1, 2, none⟩) (by simp; try omega) (.int .u64 t2)).other (p := ⟨w.heap.size + 1 + 1 + 1 + 1 + 1, 3, none⟩) (by simp; try omega) (.int .u64 t3))
            have d3 := ((((c3.other (p := ⟨w.heap.size + 1 + 1 + 1 + 1 + 1, 0, none⟩) (by simp; try omega) (.int .u64 t0)).other (p := ⟨w.heap.size + 1 + 1 + 1 + 1 + 1, 1, none⟩) (by simp; try omega) (.int .u64 t1)).other (p := ⟨w.heap.size + 1 + 1 + 1 + 1 + 1, 2, none⟩) (by simp; try omega) (.int .u64 t2)).other (p := ⟨w.heap.size + 1 + 1 + 1 + 1 + 1, 3, none⟩) (by simp; try omega) (.int .u64 t3))
            have d4 := ((((c4.other (p := ⟨w.heap.size + 1 + 1 + 1 + 1 + 1, 0, none⟩) (by simp; try omega) (.int .u64 t0)).other (p := ⟨w.heap.size + 1 + 1 + 1 + 1 + 1, 1, none⟩) (by simp; try omega) (.int .u64 t1)).other (p := ⟨w.heap.size + 1 + 1 + 1 + 1 + 1, 2, none⟩) (by simp; try omega) (.int .u64 t2)).other (p := ⟨w.heap.size + 1 + 1 + 1 + 1 + 1, 3, none⟩) (by simp; try omega) (.int .u64 t3))
            have d5 := ((((c5.other (p := ⟨w.heap.size + 1 + 1 + 1 + 1 + 1, 0, none⟩) (by simp; try omega) (.int .u64 t0)).other (p := ⟨w.heap.size + 1 + 1 + 1 + 1 + 1, 1, none⟩) (by simp; try omega) (.int .u64 t1)).other (p := ⟨w.heap.size + 1 + 1 + 1 + 1 + 1, 2, none⟩) (by simp; try omega) (.int .u64 t2)).other (p := ⟨w.heap.size + 1 + 1 + 1 + 1 + 1, 3, none⟩) (by simp; try omega) (.int .u64 t3))
            have d7 := ((((c7.other (p := ⟨w.heap.size + 1 + 1 + 1 + 1 + 1, 0, none⟩) (by simp; try omega) (.int .u64 t0)).other (p := ⟨w.heap.size + 1 + 1 + 1 + 1 + 1, 1, none⟩) (by simp; try omega) (.int .u64 t1)).other (p := ⟨w.heap.size + 1 + 1 + 1 + 1 + 1, 2, none⟩) (by simp; try omega) (.int .u64 t2)).other (p := ⟨w.heap.size + 1 + 1 + 1 + 1 + 1, 3, none⟩) (by simp; try omega) (.int .u64 t3))
            have d8 := ((((c8.set 0 (.int .u64 t0)).set 1 (.int .u64 t1)).set 2 (.int .u64 t2)).set 3 (.int .u64 t3))
            have hcw3 : Chg [] w ((((w2.setCell ⟨w.heap.size + 1 + 1 + 1 + 1 + 1, 0, none⟩ (.int .u64 t0)).setCell ⟨w.heap.size + 1 + 1 + 1 + 1 + 1, 1, none⟩ (.int .u64 t1)).setCell ⟨w.heap.size + 1 + 1 + 1 + 1 + 1, 2, none⟩ (.int .u64 t2)).setCell ⟨w.heap.size + 1 + 1 + 1 + 1 + 1, 3, none⟩ (.int .u64 t3)) := ((((hcw.setCell (.inr (by simp; omega)) _).setCell (.inr (by simp; omega)) _).setCell (.inr (by simp; omega)) _).setCell (.inr (by simp; omega)) _)
            generalize ((((w2.setCell ⟨w.heap.size + 1 + 1 + 1 + 1 + 1, 0, none⟩ (.int .u64 t0)).setCell ⟨w.heap.size + 1 + 1 + 1 + 1 + 1, 1, none⟩ (.int .u64 t1)).setCell ⟨w.heap.size + 1 + 1 + 1 + 1 + 1, 2, none⟩ (.int .u64 t2)).setCell ⟨w.heap.size + 1 + 1 + 1 + 1 + 1, 3, none⟩ (.int .u64 t3)) = w3 at d2 d3 d4 d5 d7 d8 hcw3 ⊢
            clear c2 c3 c4 c5 c7 c8 hcw
            clear y0 y1 y2 y3 yf0 yf1 yf2 yf3
            have y0 := d8.cell 0 (v := .int .u64 t0) rfl
            have yf0 := d8.free 0
            have x0 := d2.cell 0 (v := .int .u64 a0) rfl
            go_region
            have f2 := (d2.other (p := ⟨w.heap.size + 1 + 1 + 1 + 1 + 1, 0, none⟩) (by simp; try omega) (.int .u64 (t0 + (b : Int)))).drew
            have f3 := (d3.other (p := ⟨w.heap.size + 1 + 1 + 1 + 1 + 1, 0, none⟩) (by simp; try omega) (.int .u64 (t0 + (b : Int)))).drew
            have f4 := (d4.other (p := ⟨w.heap.size + 1 + 1 + 1 + 1 + 1, 0, none⟩) (by simp; try omega) (.int .u64 (t0 + (b : Int)))).drew
            have f5 := (d5.other (p := ⟨w.heap.size + 1 + 1 + 1 + 1 + 1, 0, none⟩) (by simp; try omega) (.int .u64 (t0 + (b : Int)))).drew
            have f7 := (d7.other (p := ⟨w.heap.size + 1 + 1 + 1 + 1 + 1, 0, none⟩) (by simp; try omega) (.int .u64 (t0 + (b : Int)))).drew
            have f8 := (d8.set 0 (.int .u64 (t0 + (b : Int)))).drew
            have hcw4 : Chg [] w (w3.setCell ⟨w.heap.size + 1 + 1 + 1 + 1 + 1, 0, none⟩ (.int .u64 (t0 + (b : Int)))).drew := (hcw3.setCell (.inr (by simp; omega)) _).drew
            generalize (w3.setCell ⟨w.heap.size + 1 + 1 + 1 + 1 + 1, 0, none⟩ (.int .u64 (t0 + (b : Int)))).drew = w4 at f2 f3 f4 f5 f7 f8 hcw4 ⊢
            clear d2 d3 d4 d5 d7 d8 hcw3
            clear y0 yf0 x0
            have y0 := f8.cell 0 (v := .int .u64 (t0 + (b : Int))) rfl
            have yf0 := f8.free 0
            have y1 := f8.cell 1 (v := .int .u64 t1) rfl
            have yf1 := f8.free 1
            have y2 := f8.cell 2 (v := .int .u64 t2) rfl
            have yf2 := f8.free 2
            have y3 := f8.cell 3 (v := .int .u64 t3) rfl
            have yf3 := f8.free 3
            have z0 := f3.cell 0 (v := .int .u64 m0) rfl
            have z1 := f3.cell 1 (v := .int .u64 m1) rfl
            have z2 := f3.cell 2 (v := .int .u64 m2) rfl
            have z3 := f3.cell 3 (v := .int .u64 m3) rfl
            go_wp2_with fail
            refine (hcmp _).mono ?_
            rintro e w5 ⟨rfl, hc5⟩
            have g2 := f2.chg hc5 (by simp)
            have g3 := f3.chg hc5 (by simp)
            have g4 := f4.chg hc5 (by simp)
            have g5 := f5.chg hc5 (by simp)
            have g7 := f7.chg hc5 (by simp)
            have g8 := f8.chg hc5 (by simp)
            have hcw5 := hcw4.trans hc5 (by simp)
            clear y0 y1 y2 y3 yf0 yf1 yf2 yf3 z0 z1 z2 z3 f2 f3 f4 f5 f7 f8 hc5 hcmp hcw4
            have y0 := g8.cell 0 (v := .int .u64 (t0 + (b : Int))) rfl
            have yf0 := g8.free 0
            have y1 := g8.cell 1 (v := .int .u64 t1) rfl
            have yf1 := g8.free 1
            have y2 := g8.cell 2 (v := .int .u64 t2) rfl
            have yf2 := g8.free 2
            have y3 := g8.cell 3 (v := .int .u64 t3) rfl
            have yf3 := g8.free 3
            have z0 := g3.cell 0 (v := .int .u64 m0) rfl
            have z1 := g3.cell 1 (v := .int .u64 m1) rfl
            have z2 := g3.cell 2 (v := .int .u64 m2) rfl
            have z3 := g3.cell 3 (v := .int .u64 m3) rfl
            go_wp2
            go_roundw
            case rel => exact ⟨j, q0, q1, q2, q3, _, _, _, _, rfl, by omega, ⟨⟨Q0, Q1, Q2, Q3⟩, ⟨T0', T1, T2, T3⟩, by rw [HQE.out, HS2.out, if_neg HGE.out, Nat.pow_succ, Nat.add_zero, Nat.mul_comm 2 AN, Nat.mul_assoc, Nat.mul_comm 2], by rw [HTN.out, HS1.out, if_neg HGE.out], g2, g3, by simpa [C4] using g4, by simpa [C4] using g5, by simpa [C4] using g7, by simpa [C4] using g8, hcw5⟩⟩
            case measure => simp [intOf]
      · have hj2 := Lib.hid (show j = 64 * 1 + sf.toNat by omega)
        have hand : bits .and .u64 (a1 / 2 ^ sf.toNat) 1 = (b : Int) := by rw [hand_1 ha0 ha1 ha2 ha3 HN.out (s := sf.toNat) (by omega), ← hbit 1 sf.toNat hj2.out]
        obtain ⟨hqb, hqw, hqn⟩ := qbit_1 Q0 Q1 Q2 Q3 (A := AN) (s := sf.toNat) (by omega) hj2.out hqe
        have HQN := Lib.hid hqn
        have HQE := Lib.hid hqe
        have HS1 := Lib.hid hst1
        have HS2 := Lib.hid hst2
        have HRE := Lib.hid hre
        have HUE := Lib.hid ue
        have HTE := Lib.hid te'
        clear hqn hqe hst1 hst2 hre ue te' te hbit hAN hRN hβ tev
        by_cases hi : 9223372036854775808 ≤ r3
        · have hie : (r3 / 9223372036854775808 == 1) = true := by rw [show r3 / 9223372036854775808 = 1 by have := R3.2; omega]; rfl
          have hRN : TOP ≤ 2 * RN := by have h1 := HRE.out; have := R0.1; have := R1.1; have := R2.1; unfold n4 at h1; unfold TOP; omega
          have hge : M ≤ 2 * RN + b := by omega
          have HUN := Lib.hid (show n4 u0 u1 u2 u3 = ((2 * RN + b - M : Nat) : Int) by rw [HUE.out, HTE.out]; unfold TOP at *; omega)
          have HGE := Lib.hid hge
          clear hRN hge
          go_wp2_with fail
          refine (hleft _).mono ?_
          rintro e w2 ⟨rfl, hc2⟩
          have c2 := b2.chg hc2 (by simp)
          have c3 := b3.chg hc2 (by simp)
          have c4 := b4.chg hc2 (by simp)
          have c5 := b5.chg hc2 (by simp)
          have c7 := b7.chg hc2 (by simp)
          have c8 := b8.chg hc2 (by simp)
          have hcw := hS.c.trans hc2 (by simp)
          clear y0 y1 y2 y3 yf0 yf1 yf2 yf3 x0 x1 x2 x3 b2 b3 b4 b5 b7 b8 hc2 hleft
          have y0 := c8.cell 0 (v := .int .u64 r0) rfl
          have yf0 := c8.free 0
          have y1 := c8.cell 1 (v := .int .u64 r1) rfl
          have yf1 := c8.free 1
          have y2 := c8.cell 2 (v := .int .u64 r2) rfl
          have yf2 := c8.free 2
          have y3 := c8.cell 3 (v := .int .u64 r3) rfl
          have yf3 := c8.free 3
          go_wp2
          have d2 := ((((c2.other (p := ⟨w.heap.size + 1 + 1 + 1 + 1 + 1, 0, none⟩) (by simp; try omega) (.int .u64 t0)).other (p := ⟨w.heap.size + 1 + 1 + 1 + 1 + 1, 1, none⟩) (by simp; try omega) (.int .u64 t1)).other (p := ⟨w.heap.size + 1 + 1 + 1 + 1 + 1, 2, none⟩) (by simp; try omega) (.int .u64 t2)).other (p := ⟨w.heap.size + 1 + 1 + 1 + 1 + 1, 3, none⟩) (by simp; try omega) (.int .u64 t3))
          have d3 := ((((c3.other (p := ⟨w.heap.size + 1 + 1 + 1 + 1 + 1, 0, none⟩) (by simp; try omega) (.int .u64 t0)).other (p := ⟨w.heap.size + 1 + 1 + 1 + 1 + 1, 1, none⟩) (by simp; try omega) (.int .u64 t1)).other (p := ⟨w.heap.size + 1 + 1 + 1 + 1 + 1, 2, none⟩) (by simp; try omega) (.int .u64 t2)).other (p := ⟨w.heap.size + 1 + 1 + 1 + 1 + 1, 3, none⟩) (by simp; try omega) (.int .u64 t3))
          have d4 := ((((c4.other (p := ⟨w.heap.size + 1 + 1 + 1 + 1 + 1, 0, none⟩) (by simp; try omega) (.int .u64 t0)).other (p := ⟨w.heap.size + 1 + 1 + 1 + 1 + 1, 1, none⟩) (by simp; try omega) (.int .u64 t1)).other (p := ⟨w.heap.size + 1 + 1 + 1 + 1 + 1, 2, none⟩) (by simp; try omega) (.int .u64 t2)).other (p := ⟨w.heap.size + 1 + 1 + 1 + 1 + 1, 3, none⟩) (by simp; try omega) (.int .u64 t3))
          have d5 := ((((c5.other (p := ⟨w.heap.size + 1 + 1 + 1 + 1 + 1, 0, none⟩) (by simp; try omega) (.int .u64 t0)).other (p := ⟨w.heap.size + 1 + 1 + 1 + 1 + 1, 1, none⟩) (by simp; try omega) (.int .u64 t1)).other (p := ⟨w.heap.size + 1 + 1 + 1 + 1 + 1, 2, none⟩) (by simp; try omega) (.int .u64 t2)).other (p := ⟨w.heap.size + 1 + 1 + 1 + 1 + 1, 3, none⟩) (by simp; try omega) (.int .u64 t3))
          have d7 := ((((c7.other (p := ⟨w.heap.size + 1 + 1 + 1 + 1 + 1, 0, none⟩) (by simp; try omega) (.int .u64 t0)).other (p := ⟨w.heap.size + 1 + 1 + 1 + 1 + 1, 1, none⟩) (by simp; try omega) (.int .u64 t1)).other (p := ⟨w.heap.size + 1 + 1 + 1 + 1 + 1, 2, none⟩) (by simp; try omega) (.int .u64 t2)).other (p := ⟨w.heap.size + 1 + 1 + 1 + 1 + 1, 3, none⟩) (by simp; try omega) (.int .u64 t3))
          have d8 := ((((c8.set 0 (.int .u64 t0)).set 1 (.int .u64 t1)).set 2 (.int .u64 t2)).set 3 (.int .u64 t3))
          have hcw3 : Chg [] w ((((w2.setCell ⟨w.heap.size + 1 + 1 + 1 + 1 + 1, 0, none⟩ (.int .u64 t0)).setCell ⟨w.heap.size + 1 + 1 + 1 + 1 + 1, 1, none⟩ (.int .u64 t1)).setCell ⟨w.heap.size + 1 + 1 + 1 + 1 + 1, 2, none⟩ (.int .u64 t2)).setCell ⟨w.heap.size + 1 + 1 + 1 + 1 + 1, 3, none⟩ (.int .u64 t3)) := ((((hcw.setCell (.inr (by simp; omega)) _).setCell (.inr (by simp; omega)) _).setCell (.inr (by simp; omega)) _).setCell (.inr (by simp; omega)) _)
          generalize ((((w2.setCell ⟨w.heap.size + 1 + 1 + 1 + 1 + 1, 0, none⟩ (.int .u64 t0)).setCell ⟨w.heap.size + 1 + 1 + 1 + 1 + 1, 1, none⟩ (.int .u64 t1)).setCell ⟨w.heap.size + 1 + 1 + 1 + 1 + 1, 2, none⟩ (.int .u64 t2)).setCell ⟨w.heap.size + 1 + 1 + 1 + 1 + 1, 3, none⟩ (.int .u64 t3)) = w3 at d2 d3 d4 d5 d7 d8 hcw3 ⊢
          clear c2 c3 c4 c5 c7 c8 hcw
          clear y0 y1 y2 y3 yf0 yf1 yf2 yf3
          have y0 := d8.cell 0 (v := .int .u64 t0) rfl
          have yf0 := d8.free 0
          have x1 := d2.cell 1 (v := .int .u64 a1) rfl
          go_region
          have f2 := (d2.other (p := ⟨w.heap.size + 1 + 1 + 1 + 1 + 1, 0, none⟩) (by simp; try omega) (.int .u64 (t0 + (b : Int)))).drew
          have f3 := (d3.other (p := ⟨w.heap.size + 1 + 1 + 1 + 1 + 1, 0, none⟩) (by simp; try omega) (.int .u64 (t0 + (b : Int)))).drew
          have f4 := (d4.other (p := ⟨w.heap.size + 1 + 1 + 1 + 1 + 1, 0, none⟩) (by simp; try omega) (.int .u64 (t0 + (b : Int)))).drew
          have f5 := (d5.other (p := ⟨w.heap.size + 1 + 1 + 1 + 1 + 1, 0, none⟩) (by simp; try omega) (.int .u64 (t0 + (b : Int)))).drew
          have f7 := (d7.other (p := ⟨w.heap.size + 1 + 1 + 1 + 1 + 1, 0, none⟩) (by simp; try omega) (.int .u64 (t0 + (b : Int)))).drew
          have f8 := (d8.set 0 (.int .u64 (t0 + (b : Int)))).drew
          have hcw4 : Chg [] w (w3.setCell ⟨w.heap.size + 1 + 1 + 1 + 1 + 1, 0, none⟩ (.int .u64 (t0 + (b : Int)))).drew := (hcw3.setCell (.inr (by simp; omega)) _).drew
          generalize (w3.setCell ⟨w.heap.size + 1 + 1 + 1 + 1 + 1, 0, none⟩ (.int .u64 (t0 + (b : Int)))).drew = w4 at f2 f3 f4 f5 f7 f8 hcw4 ⊢
          clear d2 d3 d4 d5 d7 d8 hcw3
          clear y0 yf0 x1
          have y0 := f8.cell 0 (v := .int .u64 (t0 + (b : Int))) rfl
          have yf0 := f8.free 0
          have y1 := f8.cell 1 (v := .int .u64 t1) rfl
          have yf1 := f8.free 1
          have y2 := f8.cell 2 (v := .int .u64 t2) rfl
          have yf2 := f8.free 2
          have y3 := f8.cell 3 (v := .int .u64 t3) rfl
          have yf3 := f8.free 3
          have z0 := f3.cell 0 (v := .int .u64 m0) rfl
          have z1 := f3.cell 1 (v := .int .u64 m1) rfl
          have z2 := f3.cell 2 (v := .int .u64 m2) rfl
          have z3 := f3.cell 3 (v := .int .u64 m3) rfl
          go_wp2_with fail
          refine (hsub _).mono ?_
          rintro e w6 ⟨rfl, hc6⟩
          have hx2 := f2.chg hc6 (by simp)
          have hx3 := f3.chg hc6 (by simp)
          have hx4 := f4.chg hc6 (by simp)
          have hx5 := f5.chg hc6 (by simp)
          have hx7 := f7.chg hc6 (by simp)
          have hx8 := f8.chg hc6 (by simp)
          have hcw6 := hcw4.trans hc6 (by simp)
          clear y0 y1 y2 y3 yf0 yf1 yf2 yf3 z0 z1 z2 z3 f2 f3 f4 f5 f7 f8 hc6 hsub hcw4
          have y0 := hx8.cell 0 (v := .int .u64 (t0 + (b : Int))) rfl
          have yf0 := hx8.free 0
          have y1 := hx8.cell 1 (v := .int .u64 t1) rfl
          have yf1 := hx8.free 1
          have y2 := hx8.cell 2 (v := .int .u64 t2) rfl
          have yf2 := hx8.free 2
          have y3 := hx8.cell 3 (v := .int .u64 t3) rfl
          have yf3 := hx8.free 3
          go_wp2
          have p2 := ((((hx2.other (p := ⟨w.heap.size + 1 + 1 + 1 + 1 + 1, 0, none⟩) (by simp; try omega) (.int .u64 u0)).other (p := ⟨w.heap.size + 1 + 1 + 1 + 1 + 1, 1, none⟩) (by simp; try omega) (.int .u64 u1)).other (p := ⟨w.heap.size + 1 + 1 + 1 + 1 + 1, 2, none⟩) (by simp; try omega) (.int .u64 u2)).other (p := ⟨w.heap.size + 1 + 1 + 1 + 1 + 1, 3, none⟩) (by simp; try omega) (.int .u64 u3))
          have p3 := ((((hx3.other (p := ⟨w.heap.size + 1 + 1 + 1 + 1 + 1, 0, none⟩) (by simp; try omega) (.int .u64 u0)).other (p := ⟨w.heap.size + 1 + 1 + 1 + 1 + 1, 1, none⟩) (by simp; try omega) (.int .u64 u1)).other (p := ⟨w.heap.size + 1 + 1 + 1 + 1 + 1, 2, none⟩) (by simp; try omega) (.int .u64 u2)).other (p := ⟨w.heap.size + 1 + 1 + 1 + 1 + 1, 3, none⟩) (by simp; try omega) (.int .u64 u3))
          have p4 := ((((hx4.other (p := ⟨w.heap.size + 1 + 1 + 1 + 1 + 1, 0, none⟩) (by simp; try omega) (.int .u64 u0)).other (p := ⟨w.heap.size + 1 + 1 + 1 + 1 + 1, 1, none⟩) (by simp; try omega) (.int .u64 u1)).other (p := ⟨w.heap.size + 1 + 1 + 1 + 1 + 1, 2, none⟩) (by simp; try omega) (.int .u64 u2)).other (p := ⟨w.heap.size + 1 + 1 + 1 + 1 + 1, 3, none⟩) (by simp; try omega) (.int .u64 u3))
          have p5 := ((((hx5.other (p := ⟨w.heap.size + 1 + 1 + 1 + 1 + 1, 0, none⟩) (by simp; try omega) (.int .u64 u0)).other (p := ⟨w.heap.size + 1 + 1 + 1 + 1 + 1, 1, none⟩) (by simp; try omega) (.int .u64 u1)).other (p := ⟨w.heap.size + 1 + 1 + 1 + 1 + 1, 2, none⟩) (by simp; try omega) (.int .u64 u2)).other (p := ⟨w.heap.size + 1 + 1 + 1 + 1 + 1, 3, none⟩) (by simp; try omega) (.int .u64 u3))
          have p7 := ((((hx7.other (p := ⟨w.heap.size + 1 + 1 + 1 + 1 + 1, 0, none⟩) (by simp; try omega) (.int .u64 u0)).other (p := ⟨w.heap.size + 1 + 1 + 1 + 1 + 1, 1, none⟩) (by simp; try omega) (.int .u64 u1)).other (p := ⟨w.heap.size + 1 + 1 + 1 + 1 + 1, 2, none⟩) (by simp; try omega) (.int .u64 u2)).other (p := ⟨w.heap.size + 1 + 1 + 1 + 1 + 1, 3, none⟩) (by simp; try omega) (.int .u64 u3))
          have p8 := ((((hx8.set 0 (.int .u64 u0)).set 1 (.int .u64 u1)).set 2 (.int .u64 u2)).set 3 (.int .u64 u3))
          have hcw7 : Chg [] w ((((w6.setCell ⟨w.heap.size + 1 + 1 + 1 + 1 + 1, 0, none⟩ (.int .u64 u0)).setCell ⟨w.heap.size + 1 + 1 + 1 + 1 + 1, 1, none⟩ (.int .u64 u1)).setCell ⟨w.heap.size + 1 + 1 + 1 + 1 + 1, 2, none⟩ (.int .u64 u2)).setCell ⟨w.heap.size + 1 + 1 + 1 + 1 + 1, 3, none⟩ (.int .u64 u3)) := ((((hcw6.setCell (.inr (by simp; omega)) _).setCell (.inr (by simp; omega)) _).setCell (.inr (by simp; omega)) _).setCell (.inr (by simp; omega)) _)
          generalize ((((w6.setCell ⟨w.heap.size + 1 + 1 + 1 + 1 + 1, 0, none⟩ (.int .u64 u0)).setCell ⟨w.heap.size + 1 + 1 + 1 + 1 + 1, 1, none⟩ (.int .u64 u1)).setCell ⟨w.heap.size + 1 + 1 + 1 + 1 + 1, 2, none⟩ (.int .u64 u2)).setCell ⟨w.heap.size + 1 + 1 + 1 + 1 + 1, 3, none⟩ (.int .u64 u3)) = w7 at p2 p3 p4 p5 p7 p8 hcw7 ⊢
          clear hx2 hx3 hx4 hx5 hx7 hx8 hcw6
          clear y0 y1 y2 y3 yf0 yf1 yf2 yf3
          have y0 := p7.cell 1 (v := .int .u64 q1) rfl
          have yf0 := p7.free 1
          go_region
          have k2 := (p2.other (p := ⟨w.heap.size + 1 + 1 + 1 + 1, 1, none⟩) (by simp; try omega) (.int .u64 (q1 + 2 ^ sf.toNat))).drew
          have k3 := (p3.other (p := ⟨w.heap.size + 1 + 1 + 1 + 1, 1, none⟩) (by simp; try omega) (.int .u64 (q1 + 2 ^ sf.toNat))).drew
          have k4 := (p4.other (p := ⟨w.heap.size + 1 + 1 + 1 + 1, 1, none⟩) (by simp; try omega) (.int .u64 (q1 + 2 ^ sf.toNat))).drew
          have k5 := (p5.other (p := ⟨w.heap.size + 1 + 1 + 1 + 1, 1, none⟩) (by simp; try omega) (.int .u64 (q1 + 2 ^ sf.toNat))).drew
          have k7 := (p7.set 1 (.int .u64 (q1 + 2 ^ sf.toNat))).drew
          have k8 := (p8.other (p := ⟨w.heap.size + 1 + 1 + 1 + 1, 1, none⟩) (by simp; try omega) (.int .u64 (q1 + 2 ^ sf.toNat))).drew
          have hcw8 : Chg [] w (w7.setCell ⟨w.heap.size + 1 + 1 + 1 + 1, 1, none⟩ (.int .u64 (q1 + 2 ^ sf.toNat))).drew := (hcw7.setCell (.inr (by simp; omega)) _).drew
          generalize (w7.setCell ⟨w.heap.size + 1 + 1 + 1 + 1, 1, none⟩ (.int .u64 (q1 + 2 ^ sf.toNat))).drew = w8 at k2 k3 k4 k5 k7 k8 hcw8 ⊢
          clear p2 p3 p4 p5 p7 p8 hcw7
          clear y0 yf0
          go_wp2
          go_roundw
          case rel => exact ⟨j, q0, _, q2, q3, u0, u1, u2, u3, rfl, by omega, ⟨⟨Q0, hqw, Q2, Q3⟩, ⟨U0, U1, U2, U3⟩, by rw [HQN.out, HS2.out, if_pos HGE.out], by rw [HUN.out, HS1.out, if_pos HGE.out], by simpa [C4] using k2, by simpa [C4] using k3, by simpa [C4] using k4, by simpa [C4] using k5, by simpa [C4] using k7, by simpa [C4] using k8, hcw8⟩⟩
          case measure => simp [intOf]
        · have hie : (r3 / 9223372036854775808 == 1) = false := by rw [show r3 / 9223372036854775808 = 0 by have := R3.1; omega]; rfl
          have hRN : 2 * RN + b < TOP := by have h1 := HRE.out; have := R0.2; have := R1.2; have := R2.2; unfold n4 at h1; unfold TOP; omega
          have he : n4 (t0 + (b : Int)) t1 t2 t3 = ((2 * RN + b : Nat) : Int) := by rw [HTE.out, Int.emod_eq_of_lt (by omega) (by omega)]
          rw [he] at hcmp
          by_cases hge : M ≤ 2 * RN + b
          · have hcv : 0 ≤ cmpI ((2 * RN + b : Nat) : Int) (M : Int) := by unfold cmpI; rw [if_neg (by omega)]; split <;> omega
            have HUN := Lib.hid (show n4 u0 u1 u2 u3 = ((2 * RN + b - M : Nat) : Int) by rw [HUE.out, HTE.out]; unfold TOP at *; omega)
            have HGE := Lib.hid hge
            generalize cmpI ((2 * RN + b : Nat) : Int) (M : Int) = cv at hcmp hcv
            clear hRN hge he
            go_wp2_with fail
            refine (hleft _).mono ?_
            rintro e w2 ⟨rfl, hc2⟩
            have c2 := b2.chg hc2 (by simp)
            have c3 := b3.chg hc2 (by simp)
            have c4 := b4.chg hc2 (by simp)
            have c5 := b5.chg hc2 (by simp)
            have c7 := b7.chg hc2 (by simp)
            have c8 := b8.chg hc2 (by simp)
            have hcw := hS.c.trans hc2 (by simp)
            clear y0 y1 y2 y3 yf0 yf1 yf2 yf3 x0 x1 x2 x3 b2 b3 b4 b5 b7 b8 hc2 hleft
            have y0 := c8.cell 0 (v := .int .u64 r0) rfl
            have yf0 := c8.free 0
            have y1 := c8.cell 1 (v := .int .u64 r1) rfl
            have yf1 := c8.free 1
            have y2 := c8.cell 2 (v := .int .u64 r2) rfl
            have yf2 := c8.free 2
            have y3 := c8.cell 3 (v := .int .u64 r3) rfl
            have yf3 := c8.free 3
            go_wp2
            have d2 := ((((c2.other (p := ⟨w.heap.size + 1 + 1 + 1 + 1 + 1, 0, none⟩) (by simp; try omega) (.int .u64 t0)).other (p := ⟨w.heap.size + 1 + 1 + 1 + 1 + 1, 1, none⟩) (by simp; try omega) (.int .u64 t1)).other (p := ⟨w.heap.size + 1 + 1 + 1 + 1 + 1, 2, none⟩) (by simp; try omega) (.int .u64 t2)).other (p := ⟨w.heap.size + 1 + 1 + 1 + 1 + 1, 3, none⟩) (by simp; try omega) (.int .u64 t3))
            have d3 := ((((c3.other (p := ⟨w.heap.size + 1 + 1 + 1 + 1 + 1, 0, none⟩) (by simp; try omega) (.int .u64 t0)).other (p := ⟨w.heap.size + 1 + 1 + 1 + 1 + 1, 1, none⟩) (by simp; try omega) (.int .u64 t1)).other (p := ⟨w.heap.size + 1 + 1 + 1 + 1 + 1, 2, none⟩) (by simp; try omega) (.int .u64 t2)).other (p := ⟨w.heap.size + 1 + 1 + 1 + 1 + 1, 3, none⟩) (by simp; try omega) (.int .u64 t3))
            have d4 := ((((c4.other (p := ⟨w.heap.size + 1 + 1 + 1 + 1 + 1, 0, none⟩) (by simp; try omega) (.int .u64 t0)).other (p := ⟨w.heap.size + 1 + 1 + 1 + 1 + 1, 1, none⟩) (by simp; try omega) (.int .u64 t1)).other (p := ⟨w.heap.size + 1 + 1 + 1 + 1 + 1, 2, none⟩) (by simp; try omega) (.int .u64 t2)).other (p := ⟨w.heap.size + 1 + 1 + 1 + 1 + 1, 3, none⟩) (by simp; try omega) (.int .u64 t3))
            have d5 := ((((c5.other (p := ⟨w.heap.size + 1 + 1 + 1 + 1 + 1, 0, none⟩) (by simp; try omega) (.int .u64 t0)).other (p := ⟨w.heap.size + 1 + 1 + 1 + 1 + 1, 1, none⟩) (by simp; try omega) (.int .u64 t1)).other (p := ⟨w.heap.size + 1 + 1 + 1 + 1 + 1, 2, none⟩) (by simp; try omega) (.int .u64 t2)).other (p := ⟨w.heap.size + 1 + 1 + 1 + 1 + 1, 3, none⟩) (by simp; try omega) (.int .u64 t3))
            have d7 := ((((c7.other (p := ⟨w.heap.size + 1 + 1 + 1 + 1 + 1, 0, none⟩) (by simp; try omega) (.int .u64 t0)).other (p := ⟨w.heap.size + 1 + 1 + 1 + 1 + 1, 1, none⟩) (by simp; try omega) (.int .u64 t1)).other (p := ⟨w.heap.size + 1 + 1 + 1 + 1 + 1, 2, none⟩) (by simp; try omega) (.int .u64 t2)).other (p := ⟨w.heap.size + 1 + 1 + 1 + 1 + 1, 3, none⟩) (by simp; try omega) (.int .u64 t3))
            have d8 := ((((c8.set 0 (.int .u64 t0)).set 1 (.int .u64 t1)).set 2 (.int .u64 t2)).set 3 (.int .u64 t3))
            have hcw3 : Chg [] w ((((w2.setCell ⟨w.heap.size + 1 + 1 + 1 + 1 + 1, 0, none⟩ (.int .u64 t0)).setCell ⟨w.heap.size + 1 + 1 + 1 + 1 + 1, 1, none⟩ (.int .u64 t1)).setCell ⟨w.heap.size + 1 + 1 + 1 + 1 + 1, 2, none⟩ (.int .u64 t2)).setCell ⟨w.heap.size + 1 + 1 + 1 + 1 + 1, 3, none⟩ (.int .u64 t3)) := ((((hcw.setCell (.inr (by simp; omega)) _).setCell (.inr (by simp; omega)) _).setCell (.inr (by simp; omega)) _).setCell (.inr (by simp; omega)) _)
            generalize ((((w2.setCell ⟨w.heap.size + 1 + 1 + 1 + 1 + 1, 0, none⟩ (.int .u64 t0)).setCell ⟨w.heap.size + 1 + 1 + 1 + 1 + 1, 1, none⟩ (.int .u64 t1)).setCell ⟨w.heap.size + 1 + 1 + 1 + 1 + 1, 2, none⟩ (.int .u64 t2)).setCell ⟨w.heap.size + 1 + 1 + 1 + 1 + 1, 3, none⟩ (.int .u64 t3)) = w3 at d2 d3 d4 d5 d7 d8 hcw3 ⊢
            clear c2 c3 c4 c5 c7 c8 hcw
            clear y0 y1 y2 y3 yf0 yf1 yf2 yf3
            have y0 := d8.cell 0 (v := .int .u64 t0) rfl
            have yf0 := d8.free 0
            have x1 := d2.cell 1 (v := .int .u64 a1) rfl
            go_region
            have f2 := (d2.other (p := ⟨w.heap.size + 1 + 1 + 1 + 1 + 1, 0, none⟩) (by simp; try omega) (.int .u64 (t0 + (b : Int)))).drew
            have f3 := (d3.other (p := ⟨w.heap.size + 1 + 1 + 1 + 1 + 1, 0, none⟩) (by simp; try omega) (.int .u64 (t0 + (b : Int)))).drew
            have f4 := (d4.other (p := ⟨w.heap.size + 1 + 1 + 1 + 1 + 1, 0, none⟩) (by simp; try omega) (.int .u64 (t0 + (b : Int)))).drew
            have f5 := (d5.other (p := ⟨w.heap.size + 1 + 1 + 1 + 1 + 1, 0, none⟩) (by simp; try omega) (.int .u64 (t0 + (b : Int)))).drew
            have f7 := (d7.other (p := ⟨w.heap.size + 1 + 1 + 1 + 1 + 1, 0, none⟩) (by simp; try omega) (.int .u64 (t0 + (b : Int)))).drew
            have f8 := (d8.set 0 (.int .u64 (t0 + (b : Int)))).drew
            have hcw4 : Chg [] w (w3.setCell ⟨w.heap.size + 1 + 1 + 1 + 1 + 1, 0, none⟩ (.int .u64 (t0 + (b : Int)))).drew := (hcw3.setCell (.inr (by simp; omega)) _).drew
            generalize (w3.setCell ⟨w.heap.size + 1 + 1 + 1 + 1 + 1, 0, none⟩ (.int .u64 (t0 + (b : Int)))).drew = w4 at f2 f3 f4 f5 f7 f8 hcw4 ⊢
            clear d2 d3 d4 d5 d7 d8 hcw3
            clear y0 yf0 x1
            have y0 := f8.cell 0 (v := .int .u64 (t0 + (b : Int))) rfl
            have yf0 := f8.free 0
            have y1 := f8.cell 1 (v := .int .u64 t1) rfl
            have yf1 := f8.free 1
            have y2 := f8.cell 2 (v := .int .u64 t2) rfl
            have yf2 := f8.free 2
            have y3 := f8.cell 3 (v := .int .u64 t3) rfl
            have yf3 := f8.free 3
            have z0 := f3.cell 0 (v := .int .u64 m0) rfl
            have z1 := f3.cell 1 (v := .int .u64 m1) rfl
            have z2 := f3.cell 2 (v := .int .u64 m2) rfl
            have z3 := f3.cell 3 (v := .int .u64 m3) rfl
            go_wp2_with fail
            refine (hcmp _).mono ?_
            rintro e w5 ⟨rfl, hc5⟩
            have g2 := f2.chg hc5 (by simp)
            have g3 := f3.chg hc5 (by simp)
            have g4 := f4.chg hc5 (by simp)
            have g5 := f5.chg hc5 (by simp)
            have g7 := f7.chg hc5 (by simp)
            have g8 := f8.chg hc5 (by simp)
            have hcw5 := hcw4.trans hc5 (by simp)
            clear y0 y1 y2 y3 yf0 yf1 yf2 yf3 z0 z1 z2 z3 f2 f3 f4 f5 f7 f8 hc5 hcmp hcw4
            have y0 := g8.cell 0 (v := .int .u64 (t0 + (b : Int))) rfl
            have yf0 := g8.free 0
            have y1 := g8.cell 1 (v := .int .u64 t1) rfl
            have yf1 := g8.free 1
            have y2 := g8.cell 2 (v := .int .u64 t2) rfl
            have yf2 := g8.free 2
            have y3 := g8.cell 3 (v := .int .u64 t3) rfl
            have yf3 := g8.free 3
            have z0 := g3.cell 0 (v := .int .u64 m0) rfl
            have z1 := g3.cell 1 (v := .int .u64 m1) rfl
            have z2 := g3.cell 2 (v := .int .u64 m2) rfl
            have z3 := g3.cell 3 (v := .int .u64 m3) rfl
            go_wp2_with fail
            refine (hsub _).mono ?_
            rintro e w6 ⟨rfl, hc6⟩
            have hx2 := g2.chg hc6 (by simp)
            have hx3 := g3.chg hc6 (by simp)
            have hx4 := g4.chg hc6 (by simp)
            have hx5 := g5.chg hc6 (by simp)
            have hx7 := g7.chg hc6 (by simp)
            have hx8 := g8.chg hc6 (by simp)
            have hcw6 := hcw5.trans hc6 (by simp)
            clear y0 y1 y2 y3 yf0 yf1 yf2 yf3 z0 z1 z2 z3 g2 g3 g4 g5 g7 g8 hc6 hsub hcw5
            have y0 := hx8.cell 0 (v := .int .u64 (t0 + (b : Int))) rfl
            have yf0 := hx8.free 0
            have y1 := hx8.cell 1 (v := .int .u64 t1) rfl
            have yf1 := hx8.free 1
            have y2 := hx8.cell 2 (v := .int .u64 t2) rfl
            have yf2 := hx8.free 2
            have y3 := hx8.cell 3 (v := .int .u64 t3) rfl
            have yf3 := hx8.free 3
            go_wp2
            have p2 := ((((hx2.other (p := ⟨w.heap.size + 1 + 1 + 1 + 1 + 1, 0, none⟩) (by simp; try omega) (.int .u64 u0)).other (p := ⟨w.heap.size + 1 + 1 + 1 + 1 + 1, 1, none⟩) (by simp; try omega) (.int .u64 u1)).other (p := ⟨w.heap.size + 1 + 1 + 1 + 1 + 1, 2, none⟩) (by simp; try omega) (.int .u64 u2)).other (p := ⟨w.heap.size + 1 + 1 + 1 + 1 + 1, 3, none⟩) (by simp; try omega) (.int .u64 u3))
            have p3 := ((((hx3.other (p := ⟨w.heap.size + 1 + 1 + 1 + 1 + 1, 0, none⟩) (by simp; try omega) (.int .u64 u0)).other (p := ⟨w.heap.size + 1 + 1 + 1 + 1 + 1, 1, none⟩) (by simp; try omega) (.int .u64 u1)).other (p := ⟨w.heap.size + 1 + 1 + 1 + 1 + 1, 2, none⟩) (by simp; try omega) (.int .u64 u2)).other (p := ⟨w.heap.size + 1 + 1 + 1 + 1 + 1, 3, none⟩) (by simp; try omega) (.int .u64 u3))
            have p4 := ((((hx4.other (p := ⟨w.heap.size + 1 + 1 + 1 + 1 + 1, 0, none⟩) (by simp; try omega) (.int .u64 u0)).other (p := ⟨w.heap.size + 1 + 1 + 1 + 1 + 1, 1, none⟩) (by simp; try omega) (.int .u64 u1)).other (p := ⟨w.heap.size + 1 + 1 + 1 + 1 + 1, 2, none⟩) (by simp; try omega) (.int .u64 u2)).other (p := ⟨w.heap.size + 1 + 1 + 1 + 1 + 1, 3, none⟩) (by simp; try omega) (.int .u64 u3))
            have p5 := ((((hx5.other (p := ⟨w.heap.size + 1 + 1 + 1 + 1 + 1, 0, none⟩) (by simp; try omega) (.int .u64 u0)).other (p := ⟨w.heap.size + 1 + 1 + 1 + 1 + 1, 1, none⟩) (by simp; try omega) (.int .u64 u1)).other (p := ⟨w.heap.size + 1 + 1 + 1 + 1 + 1, 2, none⟩) (by simp; try omega) (.int .u64 u2)).other (p := ⟨w.heap.size + 1 + 1 + 1 + 1 + 1, 3, none⟩) (by simp; try omega) (.int .u64 u3))
            have p7 := ((((hx7.other (p := ⟨w.heap.size + 1 + 1 + 1 + 1 + 1, 0, none⟩) (by simp; try omega) (.int .u64 u0)).other (p := ⟨w.heap.size + 1 + 1 + 1 + 1 + 1, 1, none⟩) (by simp; try omega) (.int .u64 u1)).other (p := ⟨w.heap.size + 1 + 1 + 1 + 1 + 1, 2, none⟩) (by simp; try omega) (.int .u64 u2)).other (p := ⟨w.heap.size + 1 + 1 + 1 + 1 + 1, 3, none⟩) (by simp; try omega) (.int .u64 u3))
            have p8 := ((((hx8.set 0 (.int .u64 u0)).set 1 (.int .u64 u1)).set 2 (.int .u64 u2)).set 3 (.int .u64 u3))
            have hcw7 : Chg [] w ((((w6.setCell ⟨w.heap.size + 1 + 1 + 1 + 1 + 1, 0, none⟩ (.int .u64 u0)).setCell ⟨w.heap.size + 1 + 1 + 1 + 1 + 1, 1, none⟩ (.int .u64 u1)).setCell ⟨w.heap.size + 1 + 1 + 1 + 1 + 1, 2, none⟩ (.int .u64 u2)).setCell ⟨w.heap.size + 1 + 1 + 1 + 1 + 1, 3, none⟩ (.int .u64 u3)) := ((((hcw6.setCell (.inr (by simp; omega)) _).setCell (.inr (by simp; omega)) _).setCell (.inr (by simp; omega)) _).setCell (.inr (by simp; omega)) _)
            generalize ((((w6.setCell ⟨w.heap.size + 1 + 1 + 1 + 1 + 1, 0, none⟩ (.int .u64 u0)).setCell ⟨w.heap.size + 1 + 1 + 1 + 1 + 1, 1, none⟩ (.int .u64 u1)).setCell ⟨w.heap.size + 1 + 1 + 1 + 1 + 1, 2, none⟩ (.int .u64 u2)).setCell ⟨w.heap.size + 1 + 1 + 1 + 1 + 1, 3, none⟩ (.int .u64 u3)) = w7 at p2 p3 p4 p5 p7 p8 hcw7 ⊢
            clear hx2 hx3 hx4 hx5 hx7 hx8 hcw6
            clear y0 y1 y2 y3 yf0 yf1 yf2 yf3
            have y0 := p7.cell 1 (v := .int .u64 q1) rfl
            have yf0 := p7.free 1
            go_region
            have k2 := (p2.other (p := ⟨w.heap.size + 1 + 1 + 1 + 1, 1, none⟩) (by simp; try omega) (.int .u64 (q1 + 2 ^ sf.toNat))).drew
            have k3 := (p3.other (p := ⟨w.heap.size + 1 + 1 + 1 + 1, 1, none⟩) (by simp; try omega) (.int .u64 (q1 + 2 ^ sf.toNat))).drew
            have k4 := (p4.other (p := ⟨w.heap.size + 1 + 1 + 1 + 1, 1, none⟩) (by simp; try omega) (.int .u64 (q1 + 2 ^ sf.toNat))).drew
            have k5 := (p5.other (p := ⟨w.heap.size + 1 + 1 + 1 + 1, 1, none⟩) (by simp; try omega) (.int .u64 (q1 + 2 ^ sf.toNat))).drew
            have k7 := (p7.set 1 (.int .u64 (q1 + 2 ^ sf.toNat))).drew
            have k8 := (p8.other (p := ⟨w.heap.size + 1 + 1 + 1 + 1, 1, none⟩) (by simp; try omega) (.int .u64 (q1 + 2 ^ sf.toNat))).drew
            have hcw8 : Chg [] w (w7.setCell ⟨w.heap.size + 1 + 1 + 1 + 1, 1, none⟩ (.int .u64 (q1 + 2 ^ sf.toNat))).drew := (hcw7.setCell (.inr (by simp; omega)) _).drew
            generalize (w7.setCell ⟨w.heap.size + 1 + 1 + 1 + 1, 1, none⟩ (.int .u64 (q1 + 2 ^ sf.toNat))).drew = w8 at k2 k3 k4 k5 k7 k8 hcw8 ⊢
            clear p2 p3 p4 p5 p7 p8 hcw7
            clear y0 yf0
            go_wp2
            go_roundw
            case rel => exact ⟨j, q0, _, q2, q3, u0, u1, u2, u3, rfl, by omega, ⟨⟨Q0, hqw, Q2, Q3⟩, ⟨U0, U1, U2, U3⟩, by rw [HQN.out, HS2.out, if_pos HGE.out], by rw [HUN.out, HS1.out, if_pos HGE.out], by simpa [C4] using k2, by simpa [C4] using k3, by simpa [C4] using k4, by simpa [C4] using k5, by simpa [C4] using k7, by simpa [C4] using k8, hcw8⟩⟩
            case measure => simp [intOf]
          · have hcv : cmpI ((2 * RN + b : Nat) : Int) (M : Int) < 0 := by rw [cmpI_lt (by omega)]; decide
            have HGE := Lib.hid hge
            have HTN := Lib.hid he
            generalize cmpI ((2 * RN + b : Nat) : Int) (M : Int) = cv at hcmp hcv
            clear hRN hge he
            go_wp2_with fail
            refine (hleft _).mono ?_
            rintro e w2 ⟨rfl, hc2⟩
            have c2 := b2.chg hc2 (by simp)
            have c3 := b3.chg hc2 (by simp)
            have c4 := b4.chg hc2 (by simp)
            have c5 := b5.chg hc2 (by simp)
            have c7 := b7.chg hc2 (by simp)
            have c8 := b8.chg hc2 (by simp)
            have hcw := hS.c.trans hc2 (by simp)
            clear y0 y1 y2 y3 yf0 yf1 yf2 yf3 x0 x1 x2 x3 b2 b3 b4 b5 b7 b8 hc2 hleft
            have y0 := c8.cell 0 (v := .int .u64 r0) rfl
            have yf0 := c8.free 0
            have y1 := c8.cell 1 (v := .int .u64 r1) rfl
            have yf1 := c8.free 1
            have y2 := c8.cell 2 (v := .int .u64 r2) rfl
            have yf2 := c8.free 2
            have y3 := c8.cell 3 (v := .int .u64 r3) rfl
            have yf3 := c8.free 3
            go_wp2
            have d2 := ((((c2.other (p := ⟨w.heap.size + 1 + 1 + 1 + 1 + 1, 0, none⟩) (by simp; try omega) (.int .u64 t0)).other (p := ⟨w.heap.size + 1 + 1 + 1 + 1 + 1, 1, none⟩) (by simp; try omega) (.int .u64 t1)).other (p := ⟨w.heap.size + 1 + 1 + 1 + 1 + 1, 2, none⟩) (by simp; try omega) (.int .u64 t2)).other (p := ⟨w.heap.size + 1 + 1 + 1 + 1 + 1, 3, none⟩) (by simp; try omega) (.int .u64 t3))
            have d3 := ((((c3.other (p := ⟨w.heap.size + 1 + 1 + 1 + 1 + 1, 0, none⟩) (by simp; try omega) (.int .u64 t0)).other (p := ⟨w.heap.size + 1 + 1 + 1 + 1 + 1, 1, none⟩) (by simp; try omega) (.int .u64 t1)).other (p := ⟨w.heap.size + 1 + 1 + 1 + 1 + 1, 2, none⟩) (by simp; try omega) (.int .u64 t2)).other (p := ⟨w.heap.size + 1 + 1 + 1 + 1 + 1, 3, none⟩) (by simp; try omega) (.int .u64 t3))
            have d4 := ((((c4.other (p := ⟨w.heap.size + 1 + 1 + 1 + 1 + 1, 0, none⟩) (by simp; try omega) (.int .u64 t0)).other (p := ⟨w.heap.size + 1 + 1 + 1 + 1 + 1, 1, none⟩) (by simp; try omega) (.int .u64 t1)).other (p := ⟨w.heap.size + 1 + 1 + 1 + 1 + 1, 2, none⟩) (by simp; try omega) (.int .u64 t2)).other (p := ⟨w.heap.size + 1 + 1 + 1 + 1 + 1, 3, none⟩) (by simp; try omega) (.int .u64 t3))
            have d5 := ((((c5.other (p := ⟨w.heap.size + 1 + 1 + 1 + 1 + 1, 0, none⟩) (by simp; try omega) (.int .u64 t0)).other (p := ⟨w.heap.size + 1 + 1 + 1 + 1 + 1, 1, none⟩) (by simp; try omega) (.int .u64 t1)).other (p := ⟨w.heap.size + 1 + 1 + 1 + 1 + 1, 2, none⟩) (by simp; try omega) (.int .u64 t2)).other (p := ⟨w.heap.size + 1 + 1 + 1 + 1 + 1, 3, none⟩) (by simp; try omega) (.int .u64 t3))
            have d7 := ((((c7.other (p := ⟨w.heap.size + 1 + 1 + 1 + 1 + 1, 0, none⟩) (by simp; try omega) (.int .u64 t0)).other (p := ⟨w.heap.size + 1 + 1 + 1 + 1 + 1, 1, none⟩) (by simp; try omega) (.int .u64 t1)).other (p := ⟨w.heap.size + 1 + 1 + 1 + 1 + 1, 2, none⟩) (by simp; try omega) (.int .u64 t2)).other (p := ⟨w.heap.size + 1 + 1 + 1 + 1 + 1, 3, none⟩) (by simp; try omega) (.int .u64 t3))
            have d8 := ((((c8.set 0 (.int .u64 t0)).set 1 (.int .u64 t1)).set 2 (.int .u64 t2)).set 3 (.int .u64 t3))
            have hcw3 : Chg [] w ((((w2.setCell ⟨w.heap.size + 1 + 1 + 1 + 1 + 1, 0, none⟩ (.int .u64 t0)).setCell ⟨w.heap.size + 1 + 1 + 1 + 1 + 1, 1, none⟩ (.int .u64 t1)).setCell ⟨w.heap.size + 1 + 1 + 1 + 1 + 1, 2, none⟩ (.int .u64 t2)).setCell ⟨w.heap.size + 1 + 1 + 1 + 1 + 1, 3, none⟩ (.int .u64 t3)) := ((((hcw.setCell (.inr (by simp; omega)) _).setCell (.inr (by simp; omega)) _).setCell (.inr (by simp; omega)) _).setCell (.inr (by simp; omega)) _)
            generalize ((((w2.setCell ⟨w.heap.size + 1 + 1 + 1 + 1 + 1, 0, none⟩ (.int .u64 t0)).setCell ⟨w.heap.size + 1 + 1 + 1 + 1 + 1, 1, none⟩ (.int .u64 t1)).setCell ⟨w.heap.size + 1 + 1 + 1 + 1 + 1, 2, none⟩ (.int .u64 t2)).setCell ⟨w.heap.size + 1 + 1 + 1 + 1 + 1, 3, none⟩ (.int .u64 t3)) = w3 at d2 d3 d4 d5 d7 d8 hcw3 ⊢
            clear c2 c3 c4 c5 c7 c8 hcw
            clear y0 y1 y2 y3 yf0 yf1 yf2 yf3
            have y0 := d8.cell 0 (v := .int .u64 t0) rfl
            have yf0 := d8.free 0
            have x1 := d2.cell 1 (v := .int .u64 a1) rfl
            go_region
            have f2 := (d2.other (p := ⟨w.heap.size + 1 + 1 + 1 + 1 + 1, 0, none⟩) (by simp; try omega) (.int .u64 (t0 + (b : Int)))).drew
            have f3 := (d3.other (p := ⟨w.heap.size + 1 + 1 + 1 + 1 + 1, 0, none⟩) (by simp; try omega) (.int .u64 (t0 + (b : Int)))).drew
            have f4 := (d4.other (p := ⟨w.heap.size + 1 + 1 + 1 + 1 + 1, 0, none⟩) (by simp; try omega) (.int .u64 (t0 + (b : Int)))).drew
            have f5 := (d5.other (p := ⟨w.heap.size + 1 + 1 + 1 + 1 + 1, 0, none⟩) (by simp; try omega) (.int .u64 (t0 + (b : Int)))).drew
            have f7 := (d7.other (p := ⟨w.heap.size + 1 + 1 + 1 + 1 + 1, 0, none⟩) (by simp; try omega) (.int .u64 (t0 + (b : Int)))).drew
            have f8 := (d8.set 0 (.int .u64 (t0 + (b : Int)))).drew
            have hcw4 : Chg [] w (w3.setCell ⟨w.heap.size + 1 + 1 + 1 + 1 + 1, 0, none⟩ (.int .u64 (t0 + (b : Int)))).drew := (hcw3.setCell (.inr (by simp; omega)) _).drew
            generalize (w3.setCell ⟨w.heap.size + 1 + 1 + 1 + 1 + 1, 0, none⟩ (.int .u64 (t0 + (b : Int)))).drew = w4 at f2 f3 f4 f5 f7 f8 hcw4 ⊢
            clear d2 d3 d4 d5 d7 d8 hcw3
            clear y0 yf0 x1
            have y0 := f8.cell 0 (v := .int .u64 (t0 + (b : Int))) rfl
            have yf0 := f8.free 0
            have y1 := f8.cell 1 (v := .int .u64 t1) rfl
            have yf1 := f8.free 1
            have y2 := f8.cell 2 (v := .int .u64 t2) rfl
            have yf2 := f8.free 2
            have y3 := f8.cell 3 (v := .int .u64 t3) rfl
            have yf3 := f8.free 3
            have z0 := f3.cell 0 (v := .int .u64 m0) rfl
            have z1 := f3.cell 1 (v := .int .u64 m1) rfl
            have z2 := f3.cell 2 (v := .int .u64 m2) rfl
            have z3 := f3.cell 3 (v := .int .u64 m3) rfl
            go_wp2_with fail
            refine (hcmp _).mono ?_
            rintro e w5 ⟨rfl, hc5⟩
            have g2 := f2.chg hc5 (by simp)
            have g3 := f3.chg hc5 (by simp)
            have g4 := f4.chg hc5 (by simp)
            have g5 := f5.chg hc5 (by simp)
            have g7 := f7.chg hc5 (by simp)
            have g8 := f8.chg hc5 (by simp)
            have hcw5 := hcw4.trans hc5 (by simp)
            clear y0 y1 y2 y3 yf0 yf1 yf2 yf3 z0 z1 z2 z3 f2 f3 f4 f5 f7 f8 hc5 hcmp hcw4
            have y0 := g8.cell 0 (v := .int .u64 (t0 + (b : Int))) rfl
            have yf0 := g8.free 0
            have y1 := g8.cell 1 (v := .int .u64 t1) rfl
            have yf1 := g8.free 1
            have y2 := g8.cell 2 (v := .int .u64 t2) rfl
            have yf2 := g8.free 2
            have y3 := g8.cell 3 (v := .int .u64 t3) rfl
            have yf3 := g8.free 3
            have z0 := g3.cell 0 (v := .int .u64 m0) rfl
            have z1 := g3.cell 1 (v := .int .u64 m1) rfl
            have z2 := g3.cell 2 (v := .int .u64 m2) rfl
            have z3 := g3.cell 3 (v := .int .u64 m3) rfl
            go_wp2
            go_roundw
            case rel => exact ⟨j, q0, q1, q2, q3, _, _, _, _, rfl, by omega, ⟨⟨Q0, Q1, Q2, Q3⟩, ⟨T0', T1, T2, T3⟩, by rw [HQE.out, HS2.out, if_neg HGE.out, Nat.pow_succ, Nat.add_zero, Nat.mul_comm 2 AN, Nat.mul_assoc, Nat.mul_comm 2], by rw [HTN.out, HS1.out, if_neg HGE.out], g2, g3, by simpa [C4] using g4, by simpa [C4] using g5, by simpa [C4] using g7, by simpa [C4] using g8, hcw5⟩⟩
            case measure => simp [intOf]
      · have hj2 := Lib.hid (show j = 64 * 2 + sf.toNat by omega)
        have hand : bits .and .u64 (a2 / 2 ^ sf.toNat) 1 = (b : Int) := by rw [hand_2 ha0 ha1 ha2 ha3 HN.out (s := sf.toNat) (by omega), ← hbit 2 sf.toNat hj2.out]
        obtain ⟨hqb, hqw, hqn⟩ := qbit_2 Q0 Q1 Q2 Q3 (A := AN) (s := sf.toNat) (by omega) hj2.out hqe
        have HQN := Lib.hid hqn
        have HQE := Lib.hid hqe
        have HS1 := Lib.hid hst1
        have HS2 := Lib.hid hst2
        have HRE := Lib.hid hre
        have HUE := Lib.hid ue
        have HTE := Lib.hid te'
        clear hqn hqe hst1 hst2 hre ue te' te hbit hAN hRN hβ tev
        by_cases hi : 9223372036854775808 ≤ r3
        · have hie : (r3 / 9223372036854775808 == 1) = true := by rw [show r3 / 9223372036854775808 = 1 by have := R3.2; omega]; rfl
          have hRN : TOP ≤ 2 * RN := by have h1 := HRE.out; have := R0.1; have := R1.1; have := R2.1; unfold n4 at h1; unfold TOP; omega
          have hge : M ≤ 2 * RN + b := by omega
          have HUN := Lib.hid (show n4 u0 u1 u2 u3 = ((2 * RN + b - M : Nat) : Int) by rw [HUE.out, HTE.out]; unfold TOP at *; omega)
          have HGE := Lib.hid hge
          clear hRN hge
          go_wp2_with fail
          refine (hleft _).mono ?_
          rintro e w2 ⟨rfl, hc2⟩
          have c2 := b2.chg hc2 (by simp)
          have c3 := b3.chg hc2 (by simp)
          have c4 := b4.chg hc2 (by simp)
          have c5 := b5.chg hc2 (by simp)
          have c7 := b7.chg hc2 (by simp)
          have c8 := b8.chg hc2 (by simp)
          have hcw := hS.c.trans hc2 (by simp)
          clear y0 y1 y2 y3 yf0 yf1 yf2 yf3 x0 x1 x2 x3 b2 b3 b4 b5 b7 b8 hc2 hleft
          have y0 := c8.cell 0 (v := .int .u64 r0) rfl
          have yf0 := c8.free 0
          have y1 := c8.cell 1 (v := .int .u64 r1) rfl
          have yf1 := c8.free 1
          have y2 := c8.cell 2 (v := .int .u64 r2) rfl
          have yf2 := c8.free 2
          have y3 := c8.cell 3 (v := .int .u64 r3) rfl
          have yf3 := c8.free 3
          go_wp2
          have d2 := ((((c2.other (p := ⟨w.heap.size + 1 + 1 + 1 + 1 + 1, 0, none⟩) (by simp; try omega) (.int .u64 t0)).other (p := ⟨w.heap.size + 1 + 1 + 1 + 1 + 1, 1, none⟩) (by simp; try omega) (.int .u64 t1)).other (p := ⟨w.heap.size + 1 + 1 + 1 + 1 + 1, 2, none⟩) (by simp; try omega) (.int .u64 t2)).other (p := ⟨w.heap.size + 1 + 1 + 1 + 1 + 1, 3, none⟩) (by simp; try omega) (.int .u64 t3))
          have d3 := ((((c3.other (p := ⟨w.heap.size + 1 + 1 + 1 + 1 + 1, 0, none⟩) (by simp; try omega) (.int .u64 t0)).other (p := ⟨w.heap.size + 1 + 1 + 1 + 1 + 1, 1, none⟩) (by simp; try omega) (.int .u64 t1)).other (p := ⟨w.heap.size + 1 + 1 + 1 + 1 + 1, 2, none⟩) (by simp; try omega) (.int .u64 t2)).other (p := ⟨w.heap.size + 1 + 1 + 1 + 1 + 1, 3, none⟩) (by simp; try omega) (.int .u64 t3))
          have d4 := ((((c4.other (p := ⟨w.heap.size + 1 + 1 + 1 + 1 + 1, 0, none⟩) (by simp; try omega) (.int .u64 t0)).other (p := ⟨w.heap.size + 1 + 1 + 1 + 1 + 1, 1, none⟩) (by simp; try omega) (.int .u64 t1)).other (p := ⟨w.heap.size + 1 + 1 + 1 + 1 + 1, 2, none⟩) (by simp; try omega) (.int .u64 t2)).other (p := ⟨w.heap.size + 1 + 1 + 1 + 1 + 1, 3, none⟩) (by simp; try omega) (.int .u64 t3))
          have d5 := ((((c5.other (p := ⟨w.heap.size + 1 + 1 + 1 + 1 + 1, 0, none⟩) (by simp; try omega) (.int .u64 t0)).other (p := ⟨w.heap.size + 1 + 1 + 1 + 1 + 1, 1, none⟩) (by simp; try omega) (.int .u64 t1)).other (p := ⟨w.heap.size + 1 + 1 + 1 + 1 + 1, 2, none⟩) (by simp; try omega) (.int .u64 t2)).other (p := ⟨w.heap.size + 1 + 1 + 1 + 1 + 1, 3, none⟩) (by simp; try omega) (.int .u64 t3))
          have d7 := ((((c7.other (p := ⟨w.heap.size + 1 + 1 + 1 + 1 + 1, 0, none⟩) (by simp; try omega) (.int .u64 t0)).other (p := ⟨w.heap.size + 1 + 1 + 1 + 1 + 1, 1, none⟩) (by simp; try omega) (.int .u64 t1)).other (p := ⟨w.heap.size + 1 + 1 + 1 + 1 + 1, 2, none⟩) (by simp; try omega) (.int .u64 t2)).other (p := ⟨w.heap.size + 1 + 1 + 1 + 1 + 1, 3, none⟩) (by simp; try omega) (.int .u64 t3))
          have d8 := ((((c8.set 0 (.int .u64 t0)).set 1 (.int .u64 t1)).set 2 (.int .u64 t2)).set 3 (.int .u64 t3))
          have hcw3 : Chg [] w ((((w2.setCell ⟨w.heap.size + 1 + 1 + 1 + 1 + 1, 0, none⟩ (.int .u64 t0)).setCell ⟨w.heap.size + 1 + 1 + 1 + 1 + 1, 1, none⟩ (.int .u64 t1)).setCell ⟨w.heap.size + 1 + 1 + 1 + 1 + 1, 2, none⟩ (.int .u64 t2)).setCell ⟨w.heap.size + 1 + 1 + 1 + 1 + 1, 3, none⟩ (.int .u64 t3)) := ((((hcw.setCell (.inr (by simp; omega)) _).setCell (.inr (by simp; omega)) _).setCell (.inr (by simp; omega)) _).setCell (.inr (by simp; omega)) _)
          generalize ((((w2.setCell ⟨w.heap.size + 1 + 1 + 1 + 1 + 1, 0, none⟩ (.int .u64 t0)).setCell ⟨w.heap.size + 1 + 1 + 1 + 1 + 1, 1, none⟩ (.int .u64 t1)).setCell ⟨w.heap.size + 1 + 1 + 1 + 1 + 1, 2, none⟩ (.int .u64 t2)).setCell ⟨w.heap.size + 1 + 1 + 1 + 1 + 1, 3, none⟩ (.int .u64 t3)) = w3 at d2 d3 d4 d5 d7 d8 hcw3 ⊢
          clear c2 c3 c4 c5 c7 c8 hcw
          clear y0 y1 y2 y3 yf0 yf1 yf2 yf3
          have y0 := d8.cell 0 (v := .int .u64 t0) rfl
          have yf0 := d8.free 0
          have x2 := d2.cell 2 (v := .int .u64 a2) rfl
          go_region
          have f2 := (d2.other (p := ⟨w.heap.size + 1 + 1 + 1 + 1 + 1, 0, none⟩) (by simp; try omega) (.int .u64 (t0 + (b : Int)))).drew
          have f3 := (d3.other (p := ⟨w.heap.size + 1 + 1 + 1 + 1 + 1, 0, none⟩) (by simp; try omega) (.int .u64 (t0 + (b : Int)))).drew
          have f4 := (d4.other (p := ⟨w.heap.size + 1 + 1 + 1 + 1 + 1, 0, none⟩) (by simp; try omega) (.int .u64 (t0 + (b : Int)))).drew
          have f5 := (d5.other (p := ⟨w.heap.size + 1 + 1 + 1 + 1 + 1, 0, none⟩) (by simp; try omega) (.int .u64 (t0 + (b : Int)))).drew
          have f7 := (d7.other (p := ⟨w.heap.size + 1 + 1 + 1 + 1 + 1, 0, none⟩) (by simp; try omega) (.int .u64 (t0 + (b : Int)))).drew
          have f8 := (d8.set 0 (.int .u64 (t0 + (b : Int)))).drew
          have hcw4 : Chg [] w (w3.setCell ⟨w.heap.size + 1 + 1 + 1 + 1 + 1, 0, none⟩ (.int .u64 (t0 + (b : Int)))).drew := (hcw3.setCell (.inr (by simp; omega)) _).drew
          generalize (w3.setCell ⟨w.heap.size + 1 + 1 + 1 + 1 + 1, 0, none⟩ (.int .u64 (t0 + (b : Int)))).drew = w4 at f2 f3 f4 f5 f7 f8 hcw4 ⊢
          clear d2 d3 d4 d5 d7 d8 hcw3
          clear y0 yf0 x2
          have y0 := f8.cell 0 (v := .int .u64 (t0 + (b : Int))) rfl
          have yf0 := f8.free 0
          have y1 := f8.cell 1 (v := .int .u64 t1) rfl
          have yf1 := f8.free 1
          have y2 := f8.cell 2 (v := .int .u64 t2) rfl
          have yf2 := f8.free 2
          have y3 := f8.cell 3 (v := .int .u64 t3) rfl
          have yf3 := f8.free 3
          have z0 := f3.cell 0 (v := .int .u64 m0) rfl
          have z1 := f3.cell 1 (v := .int .u64 m1) rfl
          have z2 := f3.cell 2 (v := .int .u64 m2) rfl
          have z3 := f3.cell 3 (v := .int .u64 m3) rfl
          go_wp2_with fail
          refine (hsub _).mono ?_
          rintro e w6 ⟨rfl, hc6⟩
          have hx2 := f2.chg hc6 (by simp)
          have hx3 := f3.chg hc6 (by simp)
          have hx4 := f4.chg hc6 (by simp)
          have hx5 := f5.chg hc6 (by simp)
          have hx7 := f7.chg hc6 (by simp)
          have hx8 := f8.chg hc6 (by simp)
          have hcw6 := hcw4.trans hc6 (by simp)
          clear y0 y1 y2 y3 yf0 yf1 yf2 yf3 z0 z1 z2 z3 f2 f3 f4 f5 f7 f8 hc6 hsub hcw4
          have y0 := hx8.cell 0 (v := .int .u64 (t0 + (b : Int))) rfl
          have yf0 := hx8.free 0
          have y1 := hx8.cell 1 (v := .int .u64 t1) rfl
          have yf1 := hx8.free 1
          have y2 := hx8.cell 2 (v := .int .u64 t2) rfl
          have yf2 := hx8.free 2
          have y3 := hx8.cell 3 (v := .int .u64 t3) rfl
          have yf3 := hx8.free 3
          go_wp2
          have p2 := ((((hx2.other (p := ⟨w.heap.size + 1 + 1 + 1 + 1 + 1, 0, none⟩) (by simp; try omega) (.int .u64 u0)).other (p := ⟨w.heap.size + 1 + 1 + 1 + 1 + 1, 1, none⟩) (by simp; try omega) (.int .u64 u1)).other (p := ⟨w.heap.size + 1 + 1 + 1 + 1 + 1, 2, none⟩) (by simp; try omega) (.int .u64 u2)).other (p := ⟨w.heap.size + 1 + 1 + 1 + 1 + 1, 3, none⟩) (by simp; try omega) (.int .u64 u3))
          have p3 := ((((hx3.other (p := ⟨w.heap.size + 1 + 1 + 1 + 1 + 1, 0, none⟩) (by simp; try omega) (.int .u64 u0)).other (p := ⟨w.heap.size + 1 + 1 + 1 + 1 + 1, 1, none⟩) (by simp; try omega) (.int .u64 u1)).other (p := ⟨w.heap.size + 1 + 1 + 1 + 1 + 1, 2, none⟩) (by simp; try omega) (.int .u64 u2)).other (p := ⟨w.heap.size + 1 + 1 + 1 + 1 + 1, 3, none⟩) (by simp; try omega) (.int .u64 u3))
          have p4 := ((((hx4.other (p := ⟨w.heap.size + 1 + 1 + 1 + 1 + 1, 0, none⟩) (by simp; try omega) (.int .u64 u0)).other (p := ⟨w.heap.size + 1 + 1 + 1 + 1 + 1, 1, none⟩) (by simp; try omega) (.int .u64 u1)).other (p := ⟨w.heap.size + 1 + 1 + 1 + 1 + 1, 2, none⟩) (by simp; try omega) (.int .u64 u2)).other (p := ⟨w.heap.size + 1 + 1 + 1 + 1 + 1, 3, none⟩) (by simp; try omega) (.int .u64 u3))
          have p5 := ((((hx5.other (p := ⟨w.heap.size + 1 + 1 + 1 + 1 + 1, 0, none⟩) (by simp; try omega) (.int .u64 u0)).other (p := ⟨w.heap.size + 1 + 1 + 1 + 1 + 1, 1, none⟩) (by simp; try omega) (.int .u64 u1)).other (p := ⟨w.heap.size + 1 + 1 + 1 + 1 + 1, 2, none⟩) (by simp; try omega) (.int .u64 u2)).other (p := ⟨w.heap.size + 1 + 1 + 1 + 1 + 1, 3, none⟩) (by simp; try omega) (.int .u64 u3))
          have p7 := ((((hx7.other (p := ⟨w.heap.size + 1 + 1 + 1 + 1 + 1, 0, none⟩) (by simp; try omega) (.int .u64 u0)).other (p := ⟨w.heap.size + 1 + 1 + 1 + 1 + 1, 1, none⟩) (by simp; try omega) (.int .u64 u1)).other (p := ⟨w.heap.size + 1 + 1 + 1 + 1 + 1, 2, none⟩) (by simp; try omega) (.int .u64 u2)).other (p := ⟨w.heap.size + 1 + 1 + 1 + 1 + 1, 3, none⟩) (by simp; try omega) (.int .u64 u3))
          have p8 := ((((hx8.set 0 (.int .u64 u0)).set 1 (.int .u64 u1)).set 2 (.int .u64 u2)).set 3 (.int .u64 u3))
          have hcw7 : Chg [] w ((((w6.setCell ⟨w.heap.size + 1 + 1 + 1 + 1 + 1, 0, none⟩ (.int .u64 u0)).setCell ⟨w.heap.size + 1 + 1 + 1 + 1 + 1, 1, none⟩ (.int .u64 u1)).setCell ⟨w.heap.size + 1 + 1 + 1 + 1 + 1, 2, none⟩ (.int .u64 u2)).setCell ⟨w.heap.size + 1 + 1 + 1 + 1 + 1, 3, none⟩ (.int .u64 u3)) := ((((hcw6.setCell (.inr (by simp; omega)) _).setCell (.inr (by simp; omega)) _).setCell (.inr (by simp; omega)) _).setCell (.inr (by simp; omega)) _)
          generalize ((((w6.setCell ⟨w.heap.size + 1 + 1 + 1 + 1 + 1, 0, none⟩ (.int .u64 u0)).setCell ⟨w.heap.size + 1 + 1 + 1 + 1 + 1, 1, none⟩ (.int .u64 u1)).setCell ⟨w.heap.size + 1 + 1 + 1 + 1 + 1, 2, none⟩ (.int .u64 u2)).setCell ⟨w.heap.size + 1 + 1 + 1 + 1 + 1, 3, none⟩ (.int .u64 u3)) = w7 at p2 p3 p4 p5 p7 p8 hcw7 ⊢
          clear hx2 hx3 hx4 hx5 hx7 hx8 hcw6
          clear y0 y1 y2 y3 yf0 yf1 yf2 yf3
          have y0 := p7.cell 2 (v := .int .u64 q2) rfl
          have yf0 := p7.free 2
          go_region
          have k2 := (p2.other (p := ⟨w.heap.size + 1 + 1 + 1 + 1, 2, none⟩) (by simp; try omega) (.int .u64 (q2 + 2 ^ sf.toNat))).drew
          have k3 := (p3.other (p := ⟨w.heap.size + 1 + 1 + 1 + 1, 2, none⟩) (by simp; try omega) (.int .u64 (q2 + 2 ^ sf.toNat))).drew
          have k4 := (p4.other (p := ⟨w.heap.size + 1 + 1 + 1 + 1, 2, none⟩) (by simp; try omega) (.int .u64 (q2 + 2 ^ sf.toNat))).drew
          have k5 := (p5.other (p := ⟨w.heap.size + 1 + 1 + 1 + 1, 2, none⟩) (by simp; try omega) (.int .u64 (q2 + 2 ^ sf.toNat))).drew
          have k7 := (p7.set 2 (.int .u64 (q2 + 2 ^ sf.toNat))).drew
          have k8 := (p8.other (p := ⟨w.heap.size + 1 + 1 + 1 + 1, 2, none⟩) (by simp; try omega) (.int .u64 (q2 + 2 ^ sf.toNat))).drew
          have hcw8 : Chg [] w (w7.setCell ⟨w.heap.size + 1 + 1 + 1 + 1, 2, none⟩ (.int .u64 (q2 + 2 ^ sf.toNat))).drew := (hcw7.setCell (.inr (by simp; omega)) _).drew
          generalize (w7.setCell ⟨w.heap.size + 1 + 1 + 1 + 1, 2, none⟩ (.int .u64 (q2 + 2 ^ sf.toNat))).drew = w8 at k2 k3 k4 k5 k7 k8 hcw8 ⊢
          clear p2 p3 p4 p5 p7 p8 hcw7
          clear y0 yf0
          go_wp2
          go_roundw
          case rel => exact ⟨j, q0, q1, _, q3, u0, u1, u2, u3, rfl, by omega, ⟨⟨Q0, Q1, hqw, Q3⟩, ⟨U0, U1, U2, U3⟩, by rw [HQN.out, HS2.out, if_pos HGE.out], by rw [HUN.out, HS1.out, if_pos HGE.out], by simpa [C4] using k2, by simpa [C4] using k3, by simpa [C4] using k4, by simpa [C4] using k5, by simpa [C4] using k7, by simpa [C4] using k8, hcw8⟩⟩
          case measure => simp [intOf]
        · have hie : (r3 / 9223372036854775808 == 1) = false := by rw [show r3 / 9223372036854775808 = 0 by have := R3.1; omega]; rfl
          have hRN : 2 * RN + b < TOP := by have h1 := HRE.out; have := R0.2; have := R1.2; have := R2.2; unfold n4 at h1; unfold TOP; omega
          have he : n4 (t0 + (b : Int)) t1 t2 t3 = ((2 * RN + b : Nat) : Int) := by rw [HTE.out, Int.emod_eq_of_lt (by omega) (by omega)]
          rw [he] at hcmp
          by_cases hge : M ≤ 2 * RN + b
          · have hcv : 0 ≤ cmpI ((2 * RN + b : Nat) : Int) (M : Int) := by unfold cmpI; rw [if_neg (by omega)]; split <;> omega
            have HUN := Lib.hid (show n4 u0 u1 u2 u3 = ((2 * RN + b - M : Nat) : Int) by rw [HUE.out, HTE.out]; unfold TOP at *; omega)
            have HGE := Lib.hid hge
            generalize cmpI ((2 * RN + b : Nat) : Int) (M : Int) = cv at hcmp hcv
            clear hRN hge he
            go_wp2_with fail
            refine (hleft _).mono ?_
            rintro e w2 ⟨rfl, hc2⟩
            have c2 := b2.chg hc2 (by simp)
            have c3 := b3.chg hc2 (by simp)
            have c4 := b4.chg hc2 (by simp)
            have c5 := b5.chg hc2 (by simp)
            have c7 := b7.chg hc2 (by simp)
            have c8 := b8.chg hc2 (by simp)
            have hcw := hS.c.trans hc2 (by simp)
            clear y0 y1 y2 y3 yf0 yf1 yf2 yf3 x0 x1 x2 x3 b2 b3 b4 b5 b7 b8 hc2 hleft
            have y0 := c8.cell 0 (v := .int .u64 r0) rfl
            have yf0 := c8.free 0
            have y1 := c8.cell 1 (v := .int .u64 r1) rfl
            have yf1 := c8.free 1
            have y2 := c8.cell 2 (v := .int .u64 r2) rfl
            have yf2 := c8.free 2
            have y3 := c8.cell 3 (v := .int .u64 r3) rfl
            have yf3 := c8.free 3
            go_wp2
            have d2 := ((((c2.other (p := ⟨w.heap.size + 1 + 1 + 1 + 1 + 1, 0, none⟩) (by simp; try omega) (.int .u64 t0)).other (p := ⟨w.heap.size + 1 + 1 + 1 + 1 + 1, 1, none⟩) (by simp; try omega) (.int .u64 t1)).other (p := ⟨w.heap.size + 1 + 1 + 1 + 1 + 1, 2, none⟩) (by simp; try omega) (.int .u64 t2)).other (p := ⟨w.heap.size + 1 + 1 + 1 + 1 + 1, 3, none⟩) (by simp; try omega) (.int .u64 t3))
            have d3 := ((((c3.other (p := ⟨w.heap.size + 1 + 1 + 1 + 1 + 1, 0, none⟩) (by simp; try omega) (.int .u64 t0)).other (p := ⟨w.heap.size + 1 + 1 + 1 + 1 + 1, 1, none⟩) (by simp; try omega) (.int .u64 t1)).other (p := ⟨w.heap.size + 1 + 1 + 1 + 1 + 1, 2, none⟩) (by simp; try omega) (.int .u64 t2)).other (p := ⟨w.heap.size + 1 + 1 + 1 + 1 + 1, 3, none⟩) (by simp; try omega) (.int .u64 t3))
            have d4 := ((((c4.other (p := ⟨w.heap.size + 1 + 1 + 1 + 1 + 1, 0, none⟩) (by simp; try omega) (.int .u64 t0)).other (p := ⟨w.heap.size + 1 + 1 + 1 + 1 + 1, 1, none⟩) (by simp; try omega) (.int .u64 t1)).other (p := ⟨w.heap.size + 1 + 1 + 1 + 1 + 1, 2, none⟩) (by simp; try omega) (.int .u64 t2)).other (p := ⟨w.heap.size + 1 + 1 + 1 + 1 + 1, 3, none⟩) (by simp; try omega) (.int .u64 t3))
            have d5 := ((((c5.other (p := ⟨w.heap.size + 1 + 1 + 1 + 1 + 1, 0, none⟩) (by simp; try omega) (.int .u64 t0)).other (p := ⟨w.heap.size + 1 + 1 + 1 + 1 + 1, 1, none⟩) (by simp; try omega) (.int .u64 t1)).other (p := ⟨w.heap.size + 1 + 1 + 1 + 1 + 1, 2, none⟩) (by simp; try omega) (.int .u64 t2)).other (p := ⟨w.heap.size + 1 + 1 + 1 + 1 + 1, 3, none⟩) (by simp; try omega) (.int .u64 t3))
            have d7 := ((((c7.other (p := ⟨w.heap.size + 1 + 1 + 1 + 1 + 1, 0, none⟩) (by simp; try omega) (.int .u64 t0)).other (p := ⟨w.heap.size + 1 + 1 + 1 + 1 + 1, 1, none⟩) (by simp; try omega) (.int .u64 t1)).other (p := ⟨w.heap.size + 1 + 1 + 1 + 1 + 1, 2, none⟩) (by simp; try omega) (.int .u64 t2)).other (p := ⟨w.heap.size + 1 + 1 + 1 + 1 + 1, 3, none⟩) (by simp; try omega) (.int .u64 t3))
            have d8 := ((((c8.set 0 (.int .u64 t0)).set 1 (.int .u64 t1)).set 2 (.int .u64 t2)).set 3 (.int .u64 t3))
            have hcw3 : Chg [] w ((((w2.setCell ⟨w.heap.size + 1 + 1 + 1 + 1 + 1, 0, none⟩ (.int .u64 t0)).setCell ⟨w.heap.size + 1 + 1 + 1 + 1 + 1, 1, none⟩ (.int .u64 t1)).setCell ⟨w.heap.size + 1 + 1 + 1 + 1 + 1, 2, none⟩ (.int .u64 t2)).setCell ⟨w.heap.size + 1 + 1 + 1 + 1 + 1, 3, none⟩ (.int .u64 t3)) := ((((hcw.setCell (.inr (by simp; omega)) _).setCell (.inr (by simp; omega)) _).setCell (.inr (by simp; omega)) _).setCell (.inr (by simp; omega)) _)
            generalize ((((w2.setCell ⟨w.heap.size + 1 + 1 + 1 + 1 + 1, 0, none⟩ (.int .u64 t0)).setCell ⟨w.heap.size + 1 + 1 + 1 + 1 + 1, 1, none⟩ (.int .u64 t1)).setCell ⟨w.heap.size + 1 + 1 + 1 + 1 + 1, 2, none⟩ (.int .u64 t2)).setCell ⟨w.heap.size + 1 + 1 + 1 + 1 + 1, 3, none⟩ (.int .u64 t3)) = w3 at d2 d3 d4 d5 d7 d8 hcw3 ⊢
            clear c2 c3 c4 c5 c7 c8 hcw
            clear y0 y1 y2 y3 yf0 yf1 yf2 yf3
            have y0 := d8.cell 0 (v := .int .u64 t0) rfl
            have yf0 := d8.free 0
            have x2 := d2.cell 2 (v := .int .u64 a2) rfl
            go_region
            have f2 := (d2.other (p := ⟨w.heap.size + 1 + 1 + 1 + 1 + 1, 0, none⟩) (by simp; try omega) (.int .u64 (t0 + (b : Int)))).drew
            have f3 := (d3.other (p := ⟨w.heap.size + 1 + 1 + 1 + 1 + 1, 0, none⟩) (by simp; try omega) (.int .u64 (t0 + (b : Int)))).drew
            have f4 := (d4.other (p := ⟨w.heap.size + 1 + 1 + 1 + 1 + 1, 0, none⟩) (by simp; try omega) (.int .u64 (t0 + (b : Int)))).drew
            have f5 := (d5.other (p := ⟨w.heap.size + 1 + 1 + 1 + 1 + 1, 0, none⟩) (by simp; try omega) (.int .u64 (t0 + (b : Int)))).drew
            have f7 := (d7.other (p := ⟨w.heap.size + 1 + 1 + 1 + 1 + 1, 0, none⟩) (by simp; try omega) (.int .u64 (t0 + (b : Int)))).drew
            have f8 := (d8.set 0 (.int .u64 (t0 + (b : Int)))).drew
            have hcw4 : Chg [] w (w3.setCell ⟨w.heap.size + 1 + 1 + 1 + 1 + 1, 0, none⟩ (.int .u64 (t0 + (b : Int)))).drew := (hcw3.setCell (.inr (by simp; omega)) _).drew
            generalize (w3.setCell ⟨w.heap.size + 1 + 1 + 1 + 1 + 1, 0, none⟩ (.int .u64 (t0 + (b : Int)))).drew = w4 at f2 f3 f4 f5 f7 f8 hcw4 ⊢
            clear d2 d3 d4 d5 d7 d8 hcw3
            clear y0 yf0 x2
            have y0 := f8.cell 0 (v := .int .u64 (t0 + (b : Int))) rfl
            have yf0 := f8.free 0
            have y1 := f8.cell 1 (v := .int .u64 t1) rfl
            have yf1 := f8.free 1
            have y2 := f8.cell 2 (v := .int .u64 t2) rfl
            have yf2 := f8.free 2
            have y3 := f8.cell 3 (v := .int .u64 t3) rfl
            have yf3 := f8.free 3
            have z0 := f3.cell 0 (v := .int .u64 m0) rfl
            have z1 := f3.cell 1 (v := .int .u64 m1) rfl
            have z2 := f3.cell 2 (v := .int .u64 m2) rfl
            have z3 := f3.cell 3 (v := .int .u64 m3) rfl
            go_wp2_with fail
            refine (hcmp _).mono ?_
            rintro e w5 ⟨rfl, hc5⟩
            have g2 := f2.chg hc5 (by simp)
            have g3 := f3.chg hc5 (by simp)
            have g4 := f4.chg hc5 (by simp)
            have g5 := f5.chg hc5 (by simp)
            have g7 := f7.chg hc5 (by simp)
            have g8 := f8.chg hc5 (by simp)
            have hcw5 := hcw4.trans hc5 (by simp)
            clear y0 y1 y2 y3 yf0 yf1 yf2 yf3 z0 z1 z2 z3 f2 f3 f4 f5 f7 f8 hc5 hcmp hcw4
            have y0 := g8.cell 0 (v := .int .u64 (t0 + (b : Int))) rfl
            have yf0 := g8.free 0
            have y1 := g8.cell 1 (v := .int .u64 t1) rfl
            have yf1 := g8.free 1
            have y2 := g8.cell 2 (v := .int .u64 t2) rfl
            have yf2 := g8.free 2
            have y3 := g8.cell 3 (v := .int .u64 t3) rfl
            have yf3 := g8.free 3
            have z0 := g3.cell 0 (v := .int .u64 m0) rfl
            have z1 := g3.cell 1 (v := .int .u64 m1) rfl
            have z2 := g3.cell 2 (v := .int .u64 m2) rfl
            have z3 := g3.cell 3 (v := .int .u64 m3) rfl
            go_wp2_with fail
            refine (hsub _).mono ?_
            rintro e w6 ⟨rfl, hc6⟩
            have hx2 := g2.chg hc6 (by simp)
            have hx3 := g3.chg hc6 (by simp)
            have hx4 := g4.chg hc6 (by simp)
            have hx5 := g5.chg hc6 (by simp)
            have hx7 := g7.chg hc6 (by simp)
            have hx8 := g8.chg hc6 (by simp)
            have hcw6 := hcw5.trans hc6 (by simp)
            clear y0 y1 y2 y3 yf0 yf1 yf2 yf3 z0 z1 z2 z3 g2 g3 g4 g5 g7 g8 hc6 hsub hcw5
            have y0 := hx8.cell 0 (v := .int .u64 (t0 + (b : Int))) rfl
            have yf0 := hx8.free 0
            have y1 := hx8.cell 1 (v := .int .u64 t1) rfl
            have yf1 := hx8.free 1
            have y2 := hx8.cell 2 (v := .int .u64 t2) rfl
            have yf2 := hx8.free 2
            have y3 := hx8.cell 3 (v := .int .u64 t3) rfl
            have yf3 := hx8.free 3
            go_wp2
            have p2 := ((((hx2.other (p := ⟨w.heap.size + 1 + 1 + 1 + 1 + 1, 0, none⟩) (by simp; try omega) (.int .u64 u0)).other (p := ⟨w.heap.size + 1 + 1 + 1 + 1 + 1, 1, none⟩) (by simp; try omega) (.int .u64 u1)).other (p := ⟨w.heap.size + 1 + 1 + 1 + 1 + 1, 2, none⟩) (by simp; try omega) (.int .u64 u2)).other (p := ⟨w.heap.size + 1 + 1 + 1 + 1 + 1, 3, none⟩) (by simp; try omega) (.int .u64 u3))
            have p3 := ((((hx3.other (p := ⟨w.heap.size + 1 + 1 + 1 + 1 + 1, 0, none⟩) (by simp; try omega) (.int .u64 u0)).other (p := ⟨w.heap.size + 1 + 1 + 1 + 1 + 1, 1, none⟩) (by simp; try omega) (.int .u64 u1)).other (p := ⟨w.heap.size + 1 + 1 + 1 + 1 + 1, 2, none⟩) (by simp; try omega) (.int .u64 u2)).other (p := ⟨w.heap.size + 1 + 1 + 1 + 1 + 1, 3, none⟩) (by simp; try omega) (.int .u64 u3))
            have p4 := ((((hx4.other (p := ⟨w.heap.size + 1 + 1 + 1 + 1 + 1, 0, none⟩) (by simp; try omega) (.int .u64 u0)).other (p := ⟨w.heap.size + 1 + 1 + 1 + 1 + 1, 1, none⟩) (by simp; try omega) (.int .u64 u1)).other (p := ⟨w.heap.size + 1 + 1 + 1 + 1 + 1, 2, none⟩) (by simp; try omega) (.int .u64 u2)).other (p := ⟨w.heap.size + 1 + 1 + 1 + 1 + 1, 3, none⟩) (by simp; try omega) (.int .u64 u3))
            have p5 := ((((hx5.other (p := ⟨w.heap.size + 1 + 1 + 1 + 1 + 1, 0, none⟩) (by simp; try omega) (.int .u64 u0)).other (p := ⟨w.heap.size + 1 + 1 + 1 + 1 + 1, 1, none⟩) (by simp; try omega) (.int .u64 u1)).other (p := ⟨w.heap.size + 1 + 1 + 1 + 1 + 1, 2, none⟩) (by simp; try omega) (.int .u64 u2)).other (p := ⟨w.heap.size + 1 + 1 + 1 + 1 + 1, 3, none⟩) (by simp; try omega) (.int .u64 u3))
            have p7 := ((((hx7.other (p := ⟨w.heap.size + 1 + 1 + 1 + 1 + 1, 0, none⟩) (by simp; try omega) (.int .u64 u0)).other (p := ⟨w.heap.size + 1 + 1 + 1 + 1 + 1, 1, none⟩) (by simp; try omega) (.int .u64 u1)).other (p := ⟨w.heap.size + 1 + 1 + 1 + 1 + 1, 2, none⟩) (by simp; try omega) (.int .u64 u2)).other (p := ⟨w.heap.size + 1 + 1 + 1 + 1 + 1, 3, none⟩) (by simp; try omega) (.int .u64 u3))
            have p8 := ((((hx8.set 0 (.int .u64 u0)).set 1 (.int .u64 u1)).set 2 (.int .u64 u2)).set 3 (.int .u64 u3))
            have hcw7 : Chg [] w ((((w6.setCell ⟨w.heap.size + 1 + 1 + 1 + 1 + 1, 0, none⟩ (.int .u64 u0)).setCell ⟨w.heap.size + 1 + 1 + 1 + 1 + 1, 1, none⟩ (.int .u64 u1)).setCell ⟨w.heap.size + 1 + 1 + 1 + 1 + 1, 2, none⟩ (.int .u64 u2)).setCell ⟨w.heap.size + 1 + 1 + 1 + 1 + 1, 3, none⟩ (.int .u64 u3)) := ((((hcw6.setCell (.inr (by simp; omega)) _).setCell (.inr (by simp; omega)) _).setCell (.inr (by simp; omega)) _).setCell (.inr (by simp; omega)) _)
            generalize ((((w6.setCell ⟨w.heap.size + 1 + 1 + 1 + 1 + 1, 0, none⟩ (.int .u64 u0)).setCell ⟨w.heap.size + 1 + 1 + 1 + 1 + 1, 1, none⟩ (.int .u64 u1)).setCell ⟨w.heap.size + 1 + 1 + 1 + 1 + 1, 2, none⟩ (.int .u64 u2)).setCell ⟨w.heap.size + 1 + 1 + 1 + 1 + 1, 3, none⟩ (.int .u64 u3)) = w7 at p2 p3 p4 p5 p7 p8 hcw7 ⊢
            clear hx2 hx3 hx4 hx5 hx7 hx8 hcw6
            clear y0 y1 y2 y3 yf0 yf1 yf2 yf3
            have y0 := p7.cell 2 (v := .int .u64 q2) rfl
            have yf0 := p7.free 2
            go_region
            have k2 := (p2.other (p := ⟨w.heap.size + 1 + 1 + 1 + 1, 2, none⟩) (by simp; try omega) (.int .u64 (q2 + 2 ^ sf.toNat))).drew
            have k3 := (p3.other (p := ⟨w.heap.size + 1 + 1 + 1 + 1, 2, none⟩) (by simp; try omega) (.int .u64 (q2 + 2 ^ sf.toNat))).drew
            have k4 := (p4.other (p := ⟨w.heap.size + 1 + 1 + 1 + 1, 2, none⟩) (by simp; try omega) (.int .u64 (q2 + 2 ^ sf.toNat))).drew
            have k5 := (p5.other (p := ⟨w.heap.size + 1 + 1 + 1 + 1, 2, none⟩) (by simp; try omega) (.int .u64 (q2 + 2 ^ sf.toNat))).drew
            have k7 := (p7.set 2 (.int .u64 (q2 + 2 ^ sf.toNat))).drew
            have k8 := (p8.other (p := ⟨w.heap.size + 1 + 1 + 1 + 1, 2, none⟩) (by simp; try omega) (.int .u64 (q2 + 2 ^ sf.toNat))).drew
            have hcw8 : Chg [] w (w7.setCell ⟨w.heap.size + 1 + 1 + 1 + 1, 2, none⟩ (.int .u64 (q2 + 2 ^ sf.toNat))).drew := (hcw7.setCell (.inr (by simp; omega)) _).drew
            generalize (w7.setCell ⟨w.heap.size + 1 + 1 + 1 + 1, 2, none⟩ (.int .u64 (q2 + 2 ^ sf.toNat))).drew = w8 at k2 k3 k4 k5 k7 k8 hcw8 ⊢
            clear p2 p3 p4 p5 p7 p8 hcw7
            clear y0 yf0
            go_wp2
            go_roundw
            case rel => exact ⟨j, q0, q1, _, q3, u0, u1, u2, u3, rfl, by omega, ⟨⟨Q0, Q1, hqw, Q3⟩, ⟨U0, U1, U2, U3⟩, by rw [HQN.out, HS2.out, if_pos HGE.out], by rw [HUN.out, HS1.out, if_pos HGE.out], by simpa [C4] using k2, by simpa [C4] using k3, by simpa [C4] using k4, by simpa [C4] using k5, by simpa [C4] using k7, by simpa [C4] using k8, hcw8⟩⟩
            case measure => simp [intOf]
          · have hcv : cmpI ((2 * RN + b : Nat) : Int) (M : Int) < 0 := by rw [cmpI_lt (by omega)]; decide
            have HGE := Lib.hid hge
            have HTN := Lib.hid he
            generalize cmpI ((2 * RN + b : Nat) : Int) (M : Int) = cv at hcmp hcv
            clear hRN hge he
            go_wp2_with fail
            refine (hleft _).mono ?_
            rintro e w2 ⟨rfl, hc2⟩
            have c2 := b2.chg hc2 (by simp)
            have c3 := b3.chg hc2 (by simp)
            have c4 := b4.chg hc2 (by simp)
            have c5 := b5.chg hc2 (by simp)
            have c7 := b7.chg hc2 (by simp)
            have c8 := b8.chg hc2 (by simp)
            have hcw := hS.c.trans hc2 (by simp)
            clear y0 y1 y2 y3 yf0 yf1 yf2 yf3 x0 x1 x2 x3 b2 b3 b4 b5 b7 b8 hc2 hleft
            have y0 := c8.cell 0 (v := .int .u64 r0) rfl
            have yf0 := c8.free 0
            have y1 := c8.cell 1 (v := .int .u64 r1) rfl
            have yf1 := c8.free 1
            have y2 := c8.cell 2 (v := .int .u64 r2) rfl
            have yf2 := c8.free 2
            have y3 := c8.cell 3 (v := .int .u64 r3) rfl
            have yf3 := c8.free 3
            go_wp2
            have d2 := ((((c2.other (p := ⟨w.heap.size + 1 + 1 + 1 + 1 + 1, 0, none⟩) (by simp; try omega) (.int .u64 t0)).other (p := ⟨w.heap.size + 1 + 1 + 1 + 1 + 1, 1, none⟩) (by simp; try omega) (.int .u64 t1)).other (p := ⟨w.heap.size + 1 + 1 + 1 + 1 + 1, 2, none⟩) (by simp; try omega) (.int .u64 t2)).other (p := ⟨w.heap.size + 1 + 1 + 1 + 1 + 1, 3, none⟩) (by simp; try omega) (.int .u64 t3))
            have d3 := ((((c3.other (p := ⟨w.heap.size + 1 + 1 + 1 + 1 + 1, 0, none⟩) (by simp; try omega) (.int .u64 t0)).other (p := ⟨w.heap.size + 1 + 1 + 1 + 1 + 1, 1, none⟩) (by simp; try omega) (.int .u64 t1)).other (p := ⟨w.heap.size + 1 + 1 + 1 + 1 + 1, 2, none⟩) (by simp; try omega) (.int .u64 t2)).other (p := ⟨w.heap.size + 1 + 1 + 1 + 1 + 1, 3, none⟩) (by simp; try omega) (.int .u64 t3))
            have d4 := ((((c4.other (p := ⟨w.heap.size + 1 + 1 + 1 + 1 + 1, 0, none⟩) (by simp; try omega) (.int .u64 t0)).other (p := ⟨w.heap.size + 1 + 1 + 1 + 1 + 1, 1, none⟩) (by simp; try omega) (.int .u64 t1)).other (p := ⟨w.heap.size + 1 + 1 + 1 + 1 + 1, 2, none⟩) (by simp; try omega) (.int .u64 t2)).other (p := ⟨w.heap.size + 1 + 1 + 1 + 1 + 1, 3, none⟩) (by simp; try omega) (.int .u64 t3))
            have d5 := ((((c5.other (p := ⟨w.heap.size + 1 + 1 + 1 + 1 + 1, 0, none⟩) (by simp; try omega) (.int .u64 t0)).other (p := ⟨w.heap.size + 1 + 1 + 1 + 1 + 1, 1, none⟩) (by simp; try omega) (.int .u64 t1)).other (p := ⟨w.heap.size + 1 + 1 + 1 + 1 + 1, 2, none⟩) (by simp; try omega) (.int .u64 t2)).other (p := ⟨w.heap.size + 1 + 1 + 1 + 1 + 1, 3, none⟩) (by simp; try omega) (.int .u64 t3))
            have d7 := ((((c7.other (p := ⟨w.heap.size + 1 + 1 + 1 + 1 + 1, 0, none⟩) (by simp; try omega) (.int .u64 t0)).other (p := ⟨w.heap.size + 1 + 1 + 1 + 1 + 1, 1, none⟩) (by simp; try omega) (.int .u64 t1)).other (p := ⟨w.heap.size + 1 + 1 + 1 + 1 + 1, 2, none⟩) (by simp; try omega) (.int .u64 t2)).other (p := ⟨w.heap.size + 1 + 1 + 1 + 1 + 1, 3, none⟩) (by simp; try omega) (.int .u64 t3))
            have d8 := ((((c8.set 0 (.int .u64 t0)).set 1 (.int .u64 t1)).set 2 (.int .u64 t2)).set 3 (.int .u64 t3))
            have hcw3 : Chg [] w ((((w2.setCell ⟨w.heap.size + 1 + 1 + 1 + 1 + 1, 0, none⟩ (.int .u64 t0)).setCell ⟨w.heap.size + 1 + 1 + 1 + 1 + 1, 1, none⟩ (.int .u64 t1)).setCell ⟨w.heap.size + 1 + 1 + 1 + 1 + 1, 2, none⟩ (.int .u64 t2)).setCell ⟨w.heap.size + 1 + 1 + 1 + 1 + 1, 3, none⟩ (.int .u64 t3)) := ((((hcw.setCell (.inr (by simp; omega)) _).setCell (.inr (by simp; omega)) _).setCell (.inr (by simp; omega)) _).setCell (.inr (by simp; omega)) _)
            generalize ((((w2.setCell ⟨w.heap.size + 1 + 1 + 1 + 1 + 1, 0, none⟩ (.int .u64 t0)).setCell ⟨w.heap.size + 1 + 1 + 1 + 1 + 1, 1, none⟩ (.int .u64 t1)).setCell ⟨w.heap.size + 1 + 1 + 1 + 1 + 1, 2, none⟩ (.int .u64 t2)).setCell ⟨w.heap.size + 1 + 1 + 1 + 1 + 1, 3, none⟩ (.int .u64 t3)) = w3 at d2 d3 d4 d5 d7 d8 hcw3 ⊢
            clear c2 c3 c4 c5 c7 c8 hcw
            clear y0 y1 y2 y3 yf0 yf1 yf2 yf3
            have y0 := d8.cell 0 (v := .int .u64 t0) rfl
            have yf0 := d8.free 0
            have x2 := d2.cell 2 (v := .int .u64 a2) rfl
            go_region
            have f2 := (d2.other (p := ⟨w.heap.size + 1 + 1 + 1 + 1 + 1, 0, none⟩) (by simp; try omega) (.int .u64 (t0 + (b : Int)))).drew
            have f3 := (d3.other (p := ⟨w.heap.size + 1 + 1 + 1 + 1 + 1, 0, none⟩) (by simp; try omega) (.int .u64 (t0 + (b : Int)))).drew
            have f4 := (d4.other (p := ⟨w.heap.size + 1 + 1 + 1 + 1 + 1, 0, none⟩) (by simp; try omega) (.int .u64 (t0 + (b : Int)))).drew
            have f5 := (d5.other (p := ⟨w.heap.size + 1 + 1 + 1 + 1 + 1, 0, none⟩) (by simp; try omega) (.int .u64 (t0 + (b : Int)))).drew
            have f7 := (d7.other (p := ⟨w.heap.size + 1 + 1 + 1 + 1 + 1, 0, none⟩) (by simp; try omega) (.int .u64 (t0 + (b : Int)))).drew
            have f8 := (d8.set 0 (.int .u64 (t0 + (b : Int)))).drew
            have hcw4 : Chg [] w (w3.setCell ⟨w.heap.size + 1 + 1 + 1 + 1 + 1, 0, none⟩ (.int .u64 (t0 + (b : Int)))).drew := (hcw3.setCell (.inr (by simp; omega)) _).drew
            generalize (w3.setCell ⟨w.heap.size + 1 + 1 + 1 + 1 + 1, 0, none⟩ (.int .u64 (t0 + (b : Int)))).drew = w4 at f2 f3 f4 f5 f7 f8 hcw4 ⊢
            clear d2 d3 d4 d5 d7 d8 hcw3
            clear y0 yf0 x2
            have y0 := f8.cell 0 (v := .int .u64 (t0 + (b : Int))) rfl
            have yf0 := f8.free 0
            have y1 := f8.cell 1 (v := .int .u64 t1) rfl
            have yf1 := f8.free 1
            have y2 := f8.cell 2 (v := .int .u64 t2) rfl
            have yf2 := f8.free 2
            have y3 := f8.cell 3 (v := .int .u64 t3) rfl
            have yf3 := f8.free 3
            have z0 := f3.cell 0 (v := .int .u64 m0) rfl
            have z1 := f3.cell 1 (v := .int .u64 m1) rfl
            have z2 := f3.cell 2 (v := .int .u64 m2) rfl
            have z3 := f3.cell 3 (v := .int .u64 m3) rfl
            go_wp2_with fail
            refine (hcmp _).mono ?_
            rintro e w5 ⟨rfl, hc5⟩
            have g2 := f2.chg hc5 (by simp)
            have g3 := f3.chg hc5 (by simp)
            have g4 := f4.chg hc5 (by simp)
            have g5 := f5.chg hc5 (by simp)
            have g7 := f7.chg hc5 (by simp)
            have g8 := f8.chg hc5 (by simp)
            have hcw5 := hcw4.trans hc5 (by simp)
            clear y0 y1 y2 y3 yf0 yf1 yf2 yf3 z0 z1 z2 z3 f2 f3 f4 f5 f7 f8 hc5 hcmp hcw4
            have y0 := g8.cell 0 (v := .int .u64 (t0 + (b : Int))) rfl
            have yf0 := g8.free 0
            have y1 := g8.cell 1 (v := .int .u64 t1) rfl
            have yf1 := g8.free 1
            have y2 := g8.cell 2 (v := .int .u64 t2) rfl
            have yf2 := g8.free 2
            have y3 := g8.cell 3 (v := .int .u64 t3) rfl
            have yf3 := g8.free 3
            have z0 := g3.cell 0 (v := .int .u64 m0) rfl
            have z1 := g3.cell 1 (v := .int .u64 m1) rfl
            have z2 := g3.cell 2 (v := .int .u64 m2) rfl
            have z3 := g3.cell 3 (v := .int .u64 m3) rfl
            go_wp2
            go_roundw
            case rel => exact ⟨j, q0, q1, q2, q3, _, _, _, _, rfl, by omega, ⟨⟨Q0, Q1, Q2, Q3⟩, ⟨T0', T1, T2, T3⟩, by rw [HQE.out, HS2.out, if_neg HGE.out, Nat.pow_succ, Nat.add_zero, Nat.mul_comm 2 AN, Nat.mul_assoc, Nat.mul_comm 2], by rw [HTN.out, HS1.out, if_neg HGE.out], g2, g3, by simpa [C4] using g4, by simpa [C4] using g5, by simpa [C4] using g7, by simpa [C4] using g8, hcw5⟩⟩
            case measure => simp [intOf]
      · have hj2 := Lib.hid (show j = 64 * 3 + sf.toNat by omega)
        have hand : bits .and .u64 (a3 / 2 ^ sf.toNat) 1 = (b : Int) := by rw [hand_3 ha0 ha1 ha2 ha3 HN.out (s := sf.toNat) (by omega), ← hbit 3 sf.toNat hj2.out]
        obtain ⟨hqb, hqw, hqn⟩ := qbit_3 Q0 Q1 Q2 Q3 (A := AN) (s := sf.toNat) (by omega) hj2.out hqe
        have HQN := Lib.hid hqn
        have HQE := Lib.hid hqe
        have HS1 := Lib.hid hst1
        have HS2 := Lib.hid hst2
        have HRE := Lib.hid hre
        have HUE := Lib.hid ue
        have HTE := Lib.hid te'
        clear hqn hqe hst1 hst2 hre ue te' te hbit hAN hRN hβ tev
        by_cases hi : 9223372036854775808 ≤ r3
        · have hie : (r3 / 9223372036854775808 == 1) = true := by rw [show r3 / 9223372036854775808 = 1 by have := R3.2; omega]; rfl
          have hRN : TOP ≤ 2 * RN := by have h1 := HRE.out; have := R0.1; have := R1.1; have := R2.1; unfold n4 at h1; unfold TOP; omega
          have hge : M ≤ 2 * RN + b := by omega
          have HUN := Lib.hid (show n4 u0 u1 u2 u3 = ((2 * RN + b - M : Nat) : Int) by rw [HUE.out, HTE.out]; unfold TOP at *; omega)
          have HGE := Lib.hid hge
          clear hRN hge
          go_wp2_with fail
          refine (hleft _).mono ?_
          rintro e w2 ⟨rfl, hc2⟩
          have c2 := b2.chg hc2 (by simp)
          have c3 := b3.chg hc2 (by simp)
          have c4 := b4.chg hc2 (by simp)
          have c5 := b5.chg hc2 (by simp)
          have c7 := b7.chg hc2 (by simp)
          have c8 := b8.chg hc2 (by simp)
          have hcw := hS.c.trans hc2 (by simp)
          clear y0 y1 y2 y3 yf0 yf1 yf2 yf3 x0 x1 x2 x3 b2 b3 b4 b5 b7 b8 hc2 hleft
          have y0 := c8.cell 0 (v := .int .u64 r0) rfl
          have yf0 := c8.free 0
          have y1 := c8.cell 1 (v := .int .u64 r1) rfl
          have yf1 := c8.free 1
          have y2 := c8.cell 2 (v := .int .u64 r2) rfl
          have yf2 := c8.free 2
          have y3 := c8.cell 3 (v := .int .u64 r3) rfl
          have yf3 := c8.free 3
          go_wp2
          have d2 := ((((c2.other (p := ⟨w.heap.size + 1 + 1 + 1 + 1 + 1, 0, none⟩) (by simp; try omega) (.int .u64 t0)).other (p := ⟨w.heap.size + 1 + 1 + 1 + 1 + 1, 1, none⟩) (by simp; try omega) (.int .u64 t1)).other (p := ⟨w.heap.size + 1 + 1 + 1 + 1 + 1, 2, none⟩) (by simp; try omega) (.int .u64 t2)).other (p := ⟨w.heap.size + 1 + 1 + 1 + 1 + 1, 3, none⟩) (by simp; try omega) (.int .u64 t3))
          have d3 := ((((c3.other (p := ⟨w.heap.size + 1 + 1 + 1 + 1 + 1, 0, none⟩) (by simp; try omega) (.int .u64 t0)).other (p := ⟨w.heap.size + 1 + 1 + 1 + 1 + 1, 1, none⟩) (by simp; try omega) (.int .u64 t1)).other (p := ⟨w.heap.size + 1 + 1 + 1 + 1 + 1, 2, none⟩) (by simp; try omega) (.int .u64 t2)).other (p := ⟨w.heap.size + 1 + 1 + 1 + 1 + 1, 3, none⟩) (by simp; try omega) (.int .u64 t3))
          have d4 := ((((c4.other (p := ⟨w.heap.size + 1 + 1 + 1 + 1 + 1, 0, none⟩) (by simp; try omega) (.int .u64 t0)).other (p := ⟨w.heap.size + 1 + 1 + 1 + 1 + 1, 1, none⟩) (by simp; try omega) (.int .u64 t1)).other (p := ⟨w.heap.size + 1 + 1 + 1 + 1 + 1, 2, none⟩) (by simp; try omega) (.int .u64 t2)).other (p := ⟨w.heap.size + 1 + 1 + 1 + 1 + 1, 3, none⟩) (by simp; try omega) (.int .u64 t3))
          have d5 := ((((c5.other (p := ⟨w.heap.size + 1 + 1 + 1 + 1 + 1, 0, none⟩) (by simp; try omega) (.int .u64 t0)).other (p := ⟨w.heap.size + 1 + 1 + 1 + 1 + 1, 1, none⟩) (by simp; try omega) (.int .u64 t1)).other (p := ⟨w.heap.size + 1 + 1 + 1 + 1 + 1, 2, none⟩) (by simp; try omega) (.int .u64 t2)).other (p := ⟨w.heap.size + 1 + 1 + 1 + 1 + 1, 3, none⟩) (by simp; try omega) (.int .u64 t3))
          have d7 := ((((c7.other (p := ⟨w.heap.size + 1 + 1 + 1 + 1 + 1, 0, none⟩) (by simp; try omega) (.int .u64 t0)).other (p := ⟨w.heap.size + 1 + 1 + 1 + 1 + 1, 1, none⟩) (by simp; try omega) (.int .u64 t1)).other (p := ⟨w.heap.size + 1 + 1 + 1 + 1 + 1, 2, none⟩) (by simp; try omega) (.int .u64 t2)).other (p := ⟨w.heap.size + 1 + 1 + 1 + 1 + 1, 3, none⟩) (by simp; try omega) (.int .u64 t3))
          have d8 := ((((c8.set 0 (.int .u64 t0)).set 1 (.int .u64 t1)).set 2 (.int .u64 t2)).set 3 (.int .u64 t3))
          have hcw3 : Chg [] w ((((w2.setCell ⟨w.heap.size + 1 + 1 + 1 + 1 + 1, 0, none⟩ (.int .u64 t0)).setCell ⟨w.heap.size + 1 + 1 + 1 + 1 + 1, 1, none⟩ (.int .u64 t1)).setCell ⟨w.heap.size + 1 + 1 + 1 + 1 + 1, 2, none⟩ (.int .u64 t2)).setCell ⟨w.heap.size + 1 + 1 + 1 + 1 + 1, 3, none⟩ (.int .u64 t3)) := ((((hcw.setCell (.inr (by simp; omega)) _).setCell (.inr (by simp; omega)) _).setCell (.inr (by simp; omega)) _).setCell (.inr (by simp; omega)) _)
          generalize ((((w2.setCell ⟨w.heap.size + 1 + 1 + 1 + 1 + 1, 0, none⟩ (.int .u64 t0)).setCell ⟨w.heap.size + 1 + 1 + 1 + 1 + 1, 1, none⟩ (.int .u64 t1)).setCell ⟨w.heap.size + 1 + 1 + 1 + 1 + 1, 2, none⟩ (.int .u64 t2)).setCell ⟨w.heap.size + 1 + 1 + 1 + 1 + 1, 3, none⟩ (.int .u64 t3)) = w3 at d2 d3 d4 d5 d7 d8 hcw3 ⊢
          clear c2 c3 c4 c5 c7 c8 hcw
          clear y0 y1 y2 y3 yf0 yf1 yf2 yf3
          have y0 := d8.cell 0 (v := .int .u64 t0) rfl
          have yf0 := d8.free 0
          have x3 := d2.cell 3 (v := .int .u64 a3) rfl
          go_region
          have f2 := (d2.other (p := ⟨w.heap.size + 1 + 1 + 1 + 1 + 1, 0, none⟩) (by simp; try omega) (.int .u64 (t0 + (b : Int)))).drew
          have f3 := (d3.other (p := ⟨w.heap.size + 1 + 1 + 1 + 1 + 1, 0, none⟩) (by simp; try omega) (.int .u64 (t0 + (b : Int)))).drew
          have f4 := (d4.other (p := ⟨w.heap.size + 1 + 1 + 1 + 1 + 1, 0, none⟩) (by simp; try omega) (.int .u64 (t0 + (b : Int)))).drew
          have f5 := (d5.other (p := ⟨w.heap.size + 1 + 1 + 1 + 1 + 1, 0, none⟩) (by simp; try omega) (.int .u64 (t0 + (b : Int)))).drew
          have f7 := (d7.other (p := ⟨w.heap.size + 1 + 1 + 1 + 1 + 1, 0, none⟩) (by simp; try omega) (.int .u64 (t0 + (b : Int)))).drew
          have f8 := (d8.set 0 (.int .u64 (t0 + (b : Int)))).drew
          have hcw4 : Chg [] w (w3.setCell ⟨w.heap.size + 1 + 1 + 1 + 1 + 1, 0, none⟩ (.int .u64 (t0 + (b : Int)))).drew := (hcw3.setCell (.inr (by simp; omega)) _).drew
          generalize (w3.setCell ⟨w.heap.size + 1 + 1 + 1 + 1 + 1, 0, none⟩ (.int .u64 (t0 + (b : Int)))).drew = w4 at f2 f3 f4 f5 f7 f8 hcw4 ⊢
          clear d2 d3 d4 d5 d7 d8 hcw3
          clear y0 yf0 x3
          have y0 := f8.cell 0 (v := .int .u64 (t0 + (b : Int))) rfl
          have yf0 := f8.free 0
          have y1 := f8.cell 1 (v := .int .u64 t1) rfl
          have yf1 := f8.free 1
          have y2 := f8.cell 2 (v := .int .u64 t2) rfl
          have yf2 := f8.free 2
          have y3 := f8.cell 3 (v := .int .u64 t3) rfl
          have yf3 := f8.free 3
          have z0 := f3.cell 0 (v := .int .u64 m0) rfl
          have z1 := f3.cell 1 (v := .int .u64 m1) rfl
          have z2 := f3.cell 2 (v := .int .u64 m2) rfl
          have z3 := f3.cell 3 (v := .int .u64 m3) rfl
          go_wp2_with fail
          refine (hsub _).mono ?_
          rintro e w6 ⟨rfl, hc6⟩
          have hx2 := f2.chg hc6 (by simp)
          have hx3 := f3.chg hc6 (by simp)
          have hx4 := f4.chg hc6 (by simp)
          have hx5 := f5.chg hc6 (by simp)
          have hx7 := f7.chg hc6 (by simp)
          have hx8 := f8.chg hc6 (by simp)
          have hcw6 := hcw4.trans hc6 (by simp)
          clear y0 y1 y2 y3 yf0 yf1 yf2 yf3 z0 z1 z2 z3 f2 f3 f4 f5 f7 f8 hc6 hsub hcw4
          have y0 := hx8.cell 0 (v := .int .u64 (t0 + (b : Int))) rfl
          have yf0 := hx8.free 0
          have y1 := hx8.cell 1 (v := .int .u64 t1) rfl
          have yf1 := hx8.free 1
          have y2 := hx8.cell 2 (v := .int .u64 t2) rfl
          have yf2 := hx8.free 2
          have y3 := hx8.cell 3 (v := .int .u64 t3) rfl
          have yf3 := hx8.free 3
          go_wp2
          have p2 := ((((hx2.other (p := ⟨w.heap.size + 1 + 1 + 1 + 1 + 1, 0, none⟩) (by simp; try omega) (.int .u64 u0)).other (p := ⟨w.heap.size + 1 + 1 + 1 + 1 + 1, 1, none⟩) (by simp; try omega) (.int .u64 u1)).other (p := ⟨w.heap.size + 1 + 1 + 1 + 1 + 1, 2, none⟩) (by simp; try omega) (.int .u64 u2)).other (p := ⟨w.heap.size + 1 + 1 + 1 + 1 + 1, 3, none⟩) (by simp; try omega) (.int .u64 u3))
          have p3 := ((((hx3.other (p := ⟨w.heap.size + 1 + 1 + 1 + 1 + 1, 0, none⟩) (by simp; try omega) (.int .u64 u0)).other (p := ⟨w.heap.size + 1 + 1 + 1 + 1 + 1, 1, none⟩) (by simp; try omega) (.int .u64 u1)).other (p := ⟨w.heap.size + 1 + 1 + 1 + 1 + 1, 2, none⟩) (by simp; try omega) (.int .u64 u2)).other (p := ⟨w.heap.size + 1 + 1 + 1 + 1 + 1, 3, none⟩) (by simp; try omega) (.int .u64 u3))
          have p4 := ((((hx4.other (p := ⟨w.heap.size + 1 + 1 + 1 + 1 + 1, 0, none⟩) (by simp; try omega) (.int .u64 u0)).other (p := ⟨w.heap.size + 1 + 1 + 1 + 1 + 1, 1, none⟩) (by simp; try omega) (.int .u64 u1)).other (p := ⟨w.heap.size + 1 + 1 + 1 + 1 + 1, 2, none⟩) (by simp; try omega) (.int .u64 u2)).other (p := ⟨w.heap.size + 1 + 1 + 1 + 1 + 1, 3, none⟩) (by simp; try omega) (.int .u64 u3))
          have p5 := ((((hx5.other (p := ⟨w.heap.size + 1 + 1 + 1 + 1 + 1, 0, none⟩) (by simp; try omega) (.int .u64 u0)).other (p := ⟨w.heap.size + 1 + 1 + 1 + 1 + 1, 1, none⟩) (by simp; try omega) (.int .u64 u1)).other (p := ⟨w.heap.size + 1 + 1 + 1 + 1 + 1, 2, none⟩) (by simp; try omega) (.int .u64 u2)).other (p := ⟨w.heap.size + 1 + 1 + 1 + 1 + 1, 3, none⟩) (by simp; try omega) (.int .u64 u3))
          have p7 := ((((hx7.other (p := ⟨w.heap.size + 1 + 1 + 1 + 1 + 1, 0, none⟩) (by simp; try omega) (.int .u64 u0)).other (p := ⟨w.heap.size + 1 + 1 + 1 + 1 + 1, 1, none⟩) (by simp; try omega) (.int .u64 u1)).other (p := ⟨w.heap.size + 1 + 1 + 1 + 1 + 1, 2, none⟩) (by simp; try omega) (.int .u64 u2)).other (p := ⟨w.heap.size + 1 + 1 + 1 + 1 + 1, 3, none⟩) (by simp; try omega) (.int .u64 u3))
          have p8 := ((((hx8.set 0 (.int .u64 u0)).set 1 (.int .u64 u1)).set 2 (.int .u64 u2)).set 3 (.int .u64 u3))
          have hcw7 : Chg [] w ((((w6.setCell ⟨w.heap.size + 1 + 1 + 1 + 1 + 1, 0, none⟩ (.int .u64 u0)).setCell ⟨w.heap.size + 1 + 1 + 1 + 1 + 1, 1, none⟩ (.int .u64 u1)).setCell ⟨w.heap.size + 1 + 1 + 1 + 1 + 1, 2, none⟩ (.int .u64 u2)).setCell ⟨w.heap.size + 1 + 1 + 1 + 1 + 1, 3, none⟩ (.int .u64 u3)) := ((((hcw6.setCell (.inr (by simp; omega)) _).setCell (.inr (by simp; omega)) _).setCell (.inr (by simp; omega)) _).setCell (.inr (by simp; omega)) _)
          generalize ((((w6.setCell ⟨w.heap.size + 1 + 1 + 1 + 1 + 1, 0, none⟩ (.int .u64 u0)).setCell ⟨w.heap.size + 1 + 1 + 1 + 1 + 1, 1, none⟩ (.int .u64 u1)).setCell ⟨w.heap.size + 1 + 1 + 1 + 1 + 1, 2, none⟩ (.int .u64 u2)).setCell ⟨w.heap.size + 1 + 1 + 1 + 1 + 1, 3, none⟩ (.int .u64 u3)) = w7 at p2 p3 p4 p5 p7 p8 hcw7 ⊢
          clear hx2 hx3 hx4 hx5 hx7 hx8 hcw6
          clear y0 y1 y2 y3 yf0 yf1 yf2 yf3
          have y0 := p7.cell 3 (v := .int .u64 q3) rfl
          have yf0 := p7.free 3
          go_region
          have k2 := (p2.other (p := ⟨w.heap.size + 1 + 1 + 1 + 1, 3, none⟩) (by simp; try omega) (.int .u64 (q3 + 2 ^ sf.toNat))).drew
          have k3 := (p3.other (p := ⟨w.heap.size + 1 + 1 + 1 + 1, 3, none⟩) (by simp; try omega) (.int .u64 (q3 + 2 ^ sf.toNat))).drew
          have k4 := (p4.other (p := ⟨w.heap.size + 1 + 1 + 1 + 1, 3, none⟩) (by simp; try omega) (.int .u64 (q3 + 2 ^ sf.toNat))).drew
          have k5 := (p5.other (p := ⟨w.heap.size + 1 + 1 + 1 + 1, 3, none⟩) (by simp; try omega) (.int .u64 (q3 + 2 ^ sf.toNat))).drew
          have k7 := (p7.set 3 (.int .u64 (q3 + 2 ^ sf.toNat))).drew
          have k8 := (p8.other (p := ⟨w.heap.size + 1 + 1 + 1 + 1, 3, none⟩) (by simp; try omega) (.int .u64 (q3 + 2 ^ sf.toNat))).drew
          have hcw8 : Chg [] w (w7.setCell ⟨w.heap.size + 1 + 1 + 1 + 1, 3, none⟩ (.int .u64 (q3 + 2 ^ sf.toNat))).drew := (hcw7.setCell (.inr (by simp; omega)) _).drew
          generalize (w7.setCell ⟨w.heap.size + 1 + 1 + 1 + 1, 3, none⟩ (.int .u64 (q3 + 2 ^ sf.toNat))).drew = w8 at k2 k3 k4 k5 k7 k8 hcw8 ⊢
          clear p2 p3 p4 p5 p7 p8 hcw7
          clear y0 yf0
          go_wp2
          go_roundw
          case rel => exact ⟨j, q0, q1, q2, _, u0, u1, u2, u3, rfl, by omega, ⟨⟨Q0, Q1, Q2, hqw⟩, ⟨U0, U1, U2, U3⟩, by rw [HQN.out, HS2.out, if_pos HGE.out], by rw [HUN.out, HS1.out, if_pos HGE.out], by simpa [C4] using k2, by simpa [C4] using k3, by simpa [C4] using k4, by simpa [C4] using k5, by simpa [C4] using k7, by simpa [C4] using k8, hcw8⟩⟩
          case measure => simp [intOf]
        · have hie : (r3 / 9223372036854775808 == 1) = false := by rw [show r3 / 9223372036854775808 = 0 by have := R3.1; omega]; rfl
          have hRN : 2 * RN + b < TOP := by have h1 := HRE.out; have := R0.2; have := R1.2; have := R2.2; unfold n4 at h1; unfold TOP; omega
          have he : n4 (t0 + (b : Int)) t1 t2 t3 = ((2 * RN + b : Nat) : Int) := by rw [HTE.out, Int.emod_eq_of_lt (by omega) (by omega)]
          rw [he] at hcmp
          by_cases hge : M ≤ 2 * RN + b
          · have hcv : 0 ≤ cmpI ((2 * RN + b : Nat) : Int) (M : Int) := by unfold cmpI; rw [if_neg (by omega)]; split <;> omega
            have HUN := Lib.hid (show n4 u0 u1 u2 u3 = ((2 * RN + b - M : Nat) : Int) by rw [HUE.out, HTE.out]; unfold TOP at *; omega)
            have HGE := Lib.hid hge
            generalize cmpI ((2 * RN + b : Nat) : Int) (M : Int) = cv at hcmp hcv
            clear hRN hge he
            go_wp2_with fail
            refine (hleft _).mono ?_
            rintro e w2 ⟨rfl, hc2⟩
            have c2 := b2.chg hc2 (by simp)
            have c3 := b3.chg hc2 (by simp)
            have c4 := b4.chg hc2 (by simp)
            have c5 := b5.chg hc2 (by simp)
            have c7 := b7.chg hc2 (by simp)
            have c8 := b8.chg hc2 (by simp)
            have hcw := hS.c.trans hc2 (by simp)
            clear y0 y1 y2 y3 yf0 yf1 yf2 yf3 x0 x1 x2 x3 b2 b3 b4 b5 b7 b8 hc2 hleft
            have y0 := c8.cell 0 (v := .int .u64 r0) rfl
            have yf0 := c8.free 0
            have y1 := c8.cell 1 (v := .int .u64 r1) rfl
            have yf1 := c8.free 1
            have y2 := c8.cell 2 (v := .int .u64 r2) rfl
            have yf2 := c8.free 2
            have y3 := c8.cell 3 (v := .int .u64 r3) rfl
            have yf3 := c8.free 3
            go_wp2
            have d2 := ((((c2.other (p := ⟨w.heap.size + 1 + 1 + 1 + 1 + 1, 0, none⟩) (by simp; try omega) (.int .u64 t0)).other (p := ⟨w.heap.size + 1 + 1 + 1 + 1 + 1, 1, none⟩) (by simp; try omega) (.int .u64 t1)).other (p := ⟨w.heap.size + 1 + 1 + 1 + 1 + 1, 2, none⟩) (by simp; try omega) (.int .u64 t2)).other (p := ⟨w.heap.size + 1 + 1 + 1 + 1 + 1, 3, none⟩) (by simp; try omega) (.int .u64 t3))
            have d3 := ((((c3.other (p := ⟨w.heap.size + 1 + 1 + 1 + 1 + 1, 0, none⟩) (by simp; try omega) (.int .u64 t0)).other (p := ⟨w.heap.size + 1 + 1 + 1 + 1 + 1, 1, none⟩) (by simp; try omega) (.int .u64 t1)).other (p := ⟨w.heap.size + 1 + 1 + 1 + 1 + 1, 2, none⟩) (by simp; try omega) (.int .u64 t2)).other (p := ⟨w.heap.size + 1 + 1 + 1 + 1 + 1, 3, none⟩) (by simp; try omega) (.int .u64 t3))
            have d4 := ((((c4.other (p := ⟨w.heap.size + 1 + 1 + 1 + 1 + 1, 0, none⟩) (by simp; try omega) (.int .u64 t0)).other (p := ⟨w.heap.size + 1 + 1 + 1 + 1 + 1, 1, none⟩) (by simp; try omega) (.int .u64 t1)).other (p := ⟨w.heap.size + 1 + 1 + 1 + 1 + 1, 2, none⟩) (by simp; try omega) (.int .u64 t2)).other (p := ⟨w.heap.size + 1 + 1 + 1 + 1 + 1, 3, none⟩) (by simp; try omega) (.int .u64 t3))
            have d5 := ((((c5.other (p := ⟨w.heap.size + 1 + 1 + 1 + 1 + 1, 0, none⟩) (by simp; try omega) (.int .u64 t0)).other (p := ⟨w.heap.size + 1 + 1 + 1 + 1 + 1, 1, none⟩) (by simp; try omega) (.int .u64 t1)).other (p := ⟨w.heap.size + 1 + 1 + 1 + 1 + 1, 2, none⟩) (by simp; try omega) (.int .u64 t2)).other (p := ⟨w.heap.size + 1 + 1 + 1 + 1 + 1, 3, none⟩) (by simp; try omega) (.int .u64 t3))
            have d7 := ((((c7.other (p := ⟨w.heap.size + 1 + 1 + 1 + 1 + 1, 0, none⟩) (by simp; try omega) (.int .u64 t0)).other (p := ⟨w.heap.size + 1 + 1 + 1 + 1 + 1, 1, none⟩) (by simp; try omega) (.int .u64 t1)).other (p := ⟨w.heap.size + 1 + 1 + 1 + 1 + 1, 2, none⟩) (by simp; try omega) (.int .u64 t2)).other (p := ⟨w.heap.size + 1 + 1 + 1 + 1 + 1, 3, none⟩) (by simp; try omega) (.int .u64 t3))
            have d8 := ((((c8.set 0 (.int .u64 t0)).set 1 (.int .u64 t1)).set 2 (.int .u64 t2)).set 3 (.int .u64 t3))
            have hcw3 : Chg [] w ((((w2.setCell ⟨w.heap.size + 1 + 1 + 1 + 1 + 1, 0, none⟩ (.int .u64 t0)).setCell ⟨w.heap.size + 1 + 1 + 1 + 1 + 1, 1, none⟩ (.int .u64 t1)).setCell ⟨w.heap.size + 1 + 1 + 1 + 1 + 1, 2, none⟩ (.int .u64 t2)).setCell ⟨w.heap.size + 1 + 1 + 1 + 1 + 1, 3, none⟩ (.int .u64 t3)) := ((((hcw.setCell (.inr (by simp; omega)) _).setCell (.inr (by simp; omega)) _).setCell (.inr (by simp; omega)) _).setCell (.inr (by simp; omega)) _)
            generalize ((((w2.setCell ⟨w.heap.size + 1 + 1 + 1 + 1 + 1, 0, none⟩ (.int .u64 t0)).setCell ⟨w.heap.size + 1 + 1 + 1 + 1 + 1, 1, none⟩ (.int .u64 t1)).setCell ⟨w.heap.size + 1 + 1 + 1 + 1 + 1, 2, none⟩ (.int .u64 t2)).setCell ⟨w.heap.size + 1 + 1 + 1 + 1 + 1, 3, none⟩ (.int .u64 t3)) = w3 at d2 d3 d4 d5 d7 d8 hcw3 ⊢
            clear c2 c3 c4 c5 c7 c8 hcw
            clear y0 y1 y2 y3 yf0 yf1 yf2 yf3
            have y0 := d8.cell 0 (v := .int .u64 t0) rfl
            have yf0 := d8.free 0
            have x3 := d2.cell 3 (v := .int .u64 a3) rfl
            go_region
            have f2 := (d2.other (p := ⟨w.heap.size + 1 + 1 + 1 + 1 + 1, 0, none⟩) (by simp; try omega) (.int .u64 (t0 + (b : Int)))).drew
            have f3 := (d3.other (p := ⟨w.heap.size + 1 + 1 + 1 + 1 + 1, 0, none⟩) (by simp; try omega) (.int .u64 (t0 + (b : Int)))).drew
            have f4 := (d4.other (p := ⟨w.heap.size + 1 + 1 + 1 + 1 + 1, 0, none⟩) (by simp; try omega) (.int .u64 (t0 + (b : Int)))).drew
            have f5 := (d5.other (p := ⟨w.heap.size + 1 + 1 + 1 + 1 + 1, 0, none⟩) (by simp; try omega) (.int .u64 (t0 + (b : Int)))).drew
            have f7 := (d7.other (p := ⟨w.heap.size + 1 + 1 + 1 + 1 + 1, 0, none⟩) (by simp; try omega) (.int .u64 (t0 + (b : Int)))).drew
            have f8 := (d8.set 0 (.int .u64 (t0 + (b : Int)))).drew
            have hcw4 : Chg [] w (w3.setCell ⟨w.heap.size + 1 + 1 + 1 + 1 + 1, 0, none⟩ (.int .u64 (t0 + (b : Int)))).drew := (hcw3.setCell (.inr (by simp; omega)) _).drew
            generalize (w3.setCell ⟨w.heap.size + 1 + 1 + 1 + 1 + 1, 0, none⟩ (.int .u64 (t0 + (b : Int)))).drew = w4 at f2 f3 f4 f5 f7 f8 hcw4 ⊢
            clear d2 d3 d4 d5 d7 d8 hcw3
            clear y0 yf0 x3
            have y0 := f8.cell 0 (v := .int .u64 (t0 + (b : Int))) rfl
            have yf0 := f8.free 0
            have y1 := f8.cell 1 (v := .int .u64 t1) rfl
            have yf1 := f8.free 1
            have y2 := f8.cell 2 (v := .int .u64 t2) rfl
            have yf2 := f8.free 2
            have y3 := f8.cell 3 (v := .int .u64 t3) rfl
            have yf3 := f8.free 3
            have z0 := f3.cell 0 (v := .int .u64 m0) rfl
            have z1 := f3.cell 1 (v := .int .u64 m1) rfl
            have z2 := f3.cell 2 (v := .int .u64 m2) rfl
            have z3 := f3.cell 3 (v := .int .u64 m3) rfl
            go_wp2_with fail
            refine (hcmp _).mono ?_
            rintro e w5 ⟨rfl, hc5⟩
            have g2 := f2.chg hc5 (by simp)
            have g3 := f3.chg hc5 (by simp)
            have g4 := f4.chg hc5 (by simp)
            have g5 := f5.chg hc5 (by simp)
            have g7 := f7.chg hc5 (by simp)
            have g8 := f8.chg hc5 (by simp)
            have hcw5 := hcw4.trans hc5 (by simp)
            clear y0 y1 y2 y3 yf0 yf1 yf2 yf3 z0 z1 z2 z3 f2 f3 f4 f5 f7 f8 hc5 hcmp hcw4
            have y0 := g8.cell 0 (v := .int .u64 (t0 + (b : Int))) rfl
            have yf0 := g8.free 0
            have y1 := g8.cell 1 (v := .int .u64 t1) rfl
            have yf1 := g8.free 1
            have y2 := g8.cell 2 (v := .int .u64 t2) rfl
            have yf2 := g8.free 2
            have y3 := g8.cell 3 (v := .int .u64 t3) rfl
            have yf3 := g8.free 3
            have z0 := g3.cell 0 (v := .int .u64 m0) rfl
            have z1 := g3.cell 1 (v := .int .u64 m1) rfl
            have z2 := g3.cell 2 (v := .int .u64 m2) rfl
            have z3 := g3.cell 3 (v := .int .u64 m3) rfl
            go_wp2_with fail
            refine (hsub _).mono ?_
            rintro e w6 ⟨rfl, hc6⟩
            have hx2 := g2.chg hc6 (by simp)
            have hx3 := g3.chg hc6 (by simp)
            have hx4 := g4.chg hc6 (by simp)
            have hx5 := g5.chg hc6 (by simp)
            have hx7 := g7.chg hc6 (by simp)
            have hx8 := g8.chg hc6 (by simp)
            have hcw6 := hcw5.trans hc6 (by simp)
            clear y0 y1 y2 y3 yf0 yf1 yf2 yf3 z0 z1 z2 z3 g2 g3 g4 g5 g7 g8 hc6 hsub hcw5
            have y0 := hx8.cell 0 (v := .int .u64 (t0 + (b : Int))) rfl
            have yf0 := hx8.free 0
            have y1 := hx8.cell 1 (v := .int .u64 t1) rfl
            have yf1 := hx8.free 1
            have y2 := hx8.cell 2 (v := .int .u64 t2) rfl
            have yf2 := hx8.free 2
            have y3 := hx8.cell 3 (v := .int .u64 t3) rfl
            have yf3 := hx8.free 3
            go_wp2
            have p2 := ((((hx2.other (p := ⟨w.heap.size + 1 + 1 + 1 + 1 + 1, 0, none⟩) (by simp; try omega) (.int .u64 u0)).other (p := ⟨w.heap.size + 1 + 1 + 1 + 1 + 1, 1, none⟩) (by simp; try omega) (.int .u64 u1)).other (p := ⟨w.heap.size + 1 + 1 + 1 + 1 + 1, 2, none⟩) (by simp; try omega) (.int .u64 u2)).other (p := ⟨w.heap.size + 1 + 1 + 1 + 1 + 1, 3, none⟩) (by simp; try omega) (.int .u64 u3))
            have p3 := ((((hx3.other (p := ⟨w.heap.size + 1 + 1 + 1 + 1 + 1, 0, none⟩) (by simp; try omega) (.int .u64 u0)).other (p := ⟨w.heap.size + 1 + 1 + 1 + 1 + 1, 1, none⟩) (by simp; try omega) (.int .u64 u1)).other (p := ⟨w.heap.size + 1 + 1 + 1 + 1 + 1, 2, none⟩) (by simp; try omega) (.int .u64 u2)).other (p := ⟨w.heap.size + 1 + 1 + 1 + 1 + 1, 3, none⟩) (by simp; try omega) (.int .u64 u3))
            have p4 := ((((hx4.other (p := ⟨w.heap.size + 1 + 1 + 1 + 1 + 1, 0, none⟩) (by simp; try omega) (.int .u64 u0)).other (p := ⟨w.heap.size + 1 + 1 + 1 + 1 + 1, 1, none⟩) (by simp; try omega) (.int .u64 u1)).other (p := ⟨w.heap.size + 1 + 1 + 1 + 1 + 1, 2, none⟩) (by simp; try omega) (.int .u64 u2)).other (p := ⟨w.heap.size + 1 + 1 + 1 + 1 + 1, 3, none⟩) (by simp; try omega) (.int .u64 u3))
            have p5 := ((((hx5.other (p := ⟨w.heap.size + 1 + 1 + 1 + 1 + 1, 0, none⟩) (by simp; try omega) (.int .u64 u0)).other (p := ⟨w.heap.size + 1 + 1 + 1 + 1 + 1, 1, none⟩) (by simp; try omega) (.int .u64 u1)).other (p := ⟨w.heap.size + 1 + 1 + 1 + 1 + 1, 2, none⟩) (by simp; try omega) (.int .u64 u2)).other (p := ⟨w.heap.size + 1 + 1 + 1 + 1 + 1, 3, none⟩) (by simp; try omega) (.int .u64 u3))
            have p7 := ((((hx7.other (p := ⟨w.heap.size + 1 + 1 + 1 + 1 + 1, 0, none⟩) (by simp; try omega) (.int .u64 u0)).other (p := ⟨w.heap.size + 1 + 1 + 1 + 1 + 1, 1, none⟩) (by simp; try omega) (.int .u64 u1)).other (p := ⟨w.heap.size + 1 + 1 + 1 + 1 + 1, 2, none⟩) (by simp; try omega) (.int .u64 u2)).other (p := ⟨w.heap.size + 1 + 1 + 1 + 1 + 1, 3, none⟩) (by simp; try omega) (.int .u64 u3))
            have p8 := ((((hx8.set 0 (.int .u64 u0)).set 1 (.int .u64 u1)).set 2 (.int .u64 u2)).set 3 (.int .u64 u3))
            have hcw7 : Chg [] w ((((w6.setCell ⟨w.heap.size + 1 + 1 + 1 + 1 + 1, 0, none⟩ (.int .u64 u0)).setCell ⟨w.heap.size + 1 + 1 + 1 + 1 + 1, 1, none⟩ (.int .u64 u1)).setCell ⟨w.heap.size + 1 + 1 + 1 + 1 + 1, 2, none⟩ (.int .u64 u2)).setCell ⟨w.heap.size + 1 + 1 + 1 + 1 + 1, 3, none⟩ (.int .u64 u3)) := ((((hcw6.setCell (.inr (by simp; omega)) _).setCell (.inr (by simp; omega)) _).setCell (.inr (by simp; omega)) _).setCell (.inr (by simp; omega)) _)
            generalize ((((w6.setCell ⟨w.heap.size + 1 + 1 + 1 + 1 + 1, 0, none⟩ (.int .u64 u0)).setCell ⟨w.heap.size + 1 + 1 + 1 + 1 + 1, 1, none⟩ (.int .u64 u1)).setCell ⟨w.heap.size + 1 + 1 + 1 + 1 + 1, 2, none⟩ (.int .u64 u2)).setCell ⟨w.heap.size + 1 + 1 + 1 + 1 + 1, 3, none⟩ (.int .u64 u3)) = w7 at p2 p3 p4 p5 p7 p8 hcw7 ⊢
            clear hx2 hx3 hx4 hx5 hx7 hx8 hcw6
            clear y0 y1 y2 y3 yf0 yf1 yf2 yf3
            have y0 := p7.cell 3 (v := .int .u64 q3) rfl
            have yf0 := p7.free 3
            go_region
            have k2 := (p2.other (p := ⟨w.heap.size + 1 + 1 + 1 + 1, 3, none⟩) (by simp; try omega) (.int .u64 (q3 + 2 ^ sf.toNat))).drew
            have k3 := (p3.other (p := ⟨w.heap.size + 1 + 1 + 1 + 1, 3, none⟩) (by simp; try omega) (.int .u64 (q3 + 2 ^ sf.toNat))).drew
            have k4 := (p4.other (p := ⟨w.heap.size + 1 + 1 + 1 + 1, 3, none⟩) (by simp; try omega) (.int .u64 (q3 + 2 ^ sf.toNat))).drew
            have k5 := (p5.other (p := ⟨w.heap.size + 1 + 1 + 1 + 1, 3, none⟩) (by simp; try omega) (.int .u64 (q3 + 2 ^ sf.toNat))).drew
            have k7 := (p7.set 3 (.int .u64 (q3 + 2 ^ sf.toNat))).drew
            have k8 := (p8.other (p := ⟨w.heap.size + 1 + 1 + 1 + 1, 3, none⟩) (by simp; try omega) (.int .u64 (q3 + 2 ^ sf.toNat))).drew
            have hcw8 : Chg [] w (w7.setCell ⟨w.heap.size + 1 + 1 + 1 + 1, 3, none⟩ (.int .u64 (q3 + 2 ^ sf.toNat))).drew := (hcw7.setCell (.inr (by simp; omega)) _).drew
            generalize (w7.setCell ⟨w.heap.size + 1 + 1 + 1 + 1, 3, none⟩ (.int .u64 (q3 + 2 ^ sf.toNat))).drew = w8 at k2 k3 k4 k5 k7 k8 hcw8 ⊢
            clear p2 p3 p4 p5 p7 p8 hcw7
            clear y0 yf0
            go_wp2
            go_roundw
            case rel => exact ⟨j, q0, q1, q2, _, u0, u1, u2, u3, rfl, by omega, ⟨⟨Q0, Q1, Q2, hqw⟩, ⟨U0, U1, U2, U3⟩, by rw [HQN.out, HS2.out, if_pos HGE.out], by rw [HUN.out, HS1.out, if_pos HGE.out], by simpa [C4] using k2, by simpa [C4] using k3, by simpa [C4] using k4, by simpa [C4] using k5, by simpa [C4] using k7, by simpa [C4] using k8, hcw8⟩⟩
            case measure => simp [intOf]
          · have hcv : cmpI ((2 * RN + b : Nat) : Int) (M : Int) < 0 := by rw [cmpI_lt (by omega)]; decide
            have HGE := Lib.hid hge
            have HTN := Lib.hid he
            generalize cmpI ((2 * RN + b : Nat) : Int) (M : Int) = cv at hcmp hcv
            clear hRN hge he
            go_wp2_with fail
            refine (hleft _).mono ?_
            rintro e w2 ⟨rfl, hc2⟩
            have c2 := b2.chg hc2 (by simp)
            have c3 := b3.chg hc2 (by simp)
            have c4 := b4.chg hc2 (by simp)
            have c5 := b5.chg hc2 (by simp)
            have c7 := b7.chg hc2 (by simp)
            have c8 := b8.chg hc2 (by simp)
            have hcw := hS.c.trans hc2 (by simp)
            clear y0 y1 y2 y3 yf0 yf1 yf2 yf3 x0 x1 x2 x3 b2 b3 b4 b5 b7 b8 hc2 hleft
            have y0 := c8.cell 0 (v := .int .u64 r0) rfl
            have yf0 := c8.free 0
            have y1 := c8.cell 1 (v := .int .u64 r1) rfl
            have yf1 := c8.free 1
            have y2 := c8.cell 2 (v := .int .u64 r2) rfl
            have yf2 := c8.free 2
            have y3 := c8.cell 3 (v := .int .u64 r3) rfl
            have yf3 := c8.free 3
            go_wp2
            have d2 := ((((c2.other (p := ⟨w.heap.size + 1 + 1 + 1 + 1 + 1, 0, none⟩) (by simp; try omega) (.int .u64 t0)).other (p := ⟨w.heap.size + 1 + 1 + 1 + 1 + 1, 1, none⟩) (by simp; try omega) (.int .u64 t1)).other (p := ⟨w.heap.size + 1 + 1 + 1 + 1 + 1, 2, none⟩) (by simp; try omega) (.int .u64 t2)).other (p := ⟨w.heap.size + 1 + 1 + 1 + 1 + 1, 3, none⟩) (by simp; try omega) (.int .u64 t3))
            have d3 := ((((c3.other (p := ⟨w.heap.size + 1 + 1 + 1 + 1 + 1, 0, none⟩) (by simp; try omega) (.int .u64 t0)).other (p := ⟨w.heap.size + 1 + 1 + 1 + 1 + 1, 1, none⟩) (by simp; try omega) (.int .u64 t1)).other (p := ⟨w.heap.size + 1 + 1 + 1 + 1 + 1, 2, none⟩) (by simp; try omega) (.int .u64 t2)).other (p := ⟨w.heap.size + 1 + 1 + 1 + 1 + 1, 3, none⟩) (by simp; try omega) (.int .u64 t3))
            have d4 := ((((c4.other (p := ⟨w.heap.size + 1 + 1 + 1 + 1 + 1, 0, none⟩) (by simp; try omega) (.int .u64 t0)).other (p := ⟨w.heap.size + 1 + 1 + 1 + 1 + 1, 1, none⟩) (by simp; try omega) (.int .u64 t1)).other (p := ⟨w.heap.size + 1 + 1 + 1 + 1 + 1, 2, none⟩) (by simp; try omega) (.int .u64 t2)).other (p := ⟨w.heap.size + 1 + 1 + 1 + 1 + 1, 3, none⟩) (by simp; try omega) (.int .u64 t3))
            have d5 := ((((c5.other (p := ⟨w.heap.size + 1 + 1 + 1 + 1 + 1, 0, none⟩) (by simp; try omega) (.int .u64 t0)).other (p := ⟨w.heap.size + 1 + 1 + 1 + 1 + 1, 1, none⟩) (by simp; try omega) (.int .u64 t1)).other (p := ⟨w.heap.size + 1 + 1 + 1 + 1 + 1, 2, none⟩) (by simp; try omega) (.int .u64 t2)).other (p := ⟨w.heap.size + 1 + 1 + 1 + 1 + 1, 3, none⟩) (by simp; try omega) (.int .u64 t3))
            have d7 := ((((c7.other (p := ⟨w.heap.size + 1 + 1 + 1 + 1 + 1, 0, none⟩) (by simp; try omega) (.int .u64 t0)).other (p := ⟨w.heap.size + 1 + 1 + 1 + 1 + 1, 1, none⟩) (by simp; try omega) (.int .u64 t1)).other (p := ⟨w.heap.size + 1 + 1 + 1 + 1 + 1, 2, none⟩) (by simp; try omega) (.int .u64 t2)).other (p := ⟨w.heap.size + 1 + 1 + 1 + 1 + 1, 3, none⟩) (by simp; try omega) (.int .u64 t3))
            have d8 := ((((c8.set 0 (.int .u64 t0)).set 1 (.int .u64 t1)).set 2 (.int .u64 t2)).set 3 (.int .u64 t3))
            have hcw3 : Chg [] w ((((w2.setCell ⟨w.heap.size + 1 + 1 + 1 + 1 + 1, 0, none⟩ (.int .u64 t0)).setCell ⟨w.heap.size + 1 + 1 + 1 + 1 + 1, 1, none⟩ (.int .u64 t1)).setCell ⟨w.heap.size + 1 + 1 + 1 + 1 + 1, 2, none⟩ (.int .u64 t2)).setCell ⟨w.heap.size + 1 + 1 + 1 + 1 + 1, 3, none⟩ (.int .u64 t3)) := ((((hcw.setCell (.inr (by simp; omega)) _).setCell (.inr (by simp; omega)) _).setCell (.inr (by simp; omega)) _).setCell (.inr (by simp; omega)) _)
            generalize ((((w2.setCell ⟨w.heap.size + 1 + 1 + 1 + 1 + 1, 0, none⟩ (.int .u64 t0)).setCell ⟨w.heap.size + 1 + 1 + 1 + 1 + 1, 1, none⟩ (.int .u64 t1)).setCell ⟨w.heap.size + 1 + 1 + 1 + 1 + 1, 2, none⟩ (.int .u64 t2)).setCell ⟨w.heap.size + 1 + 1 + 1 + 1 + 1, 3, none⟩ (.int .u64 t3)) = w3 at d2 d3 d4 d5 d7 d8 hcw3 ⊢
            clear c2 c3 c4 c5 c7 c8 hcw
            clear y0 y1 y2 y3 yf0 yf1 yf2 yf3
            have y0 := d8.cell 0 (v := .int .u64 t0) rfl
            have yf0 := d8.free 0
            have x3 := d2.cell 3 (v := .int .u64 a3) rfl
            go_region
            have f2 := (d2.other (p := ⟨w.heap.size + 1 + 1 + 1 + 1 + 1, 0, none⟩) (by simp; try omega) (.int .u64 (t0 + (b : Int)))).drew
            have f3 := (d3.other (p := ⟨w.heap.size + 1 + 1 + 1 + 1 + 1, 0, none⟩) (by simp; try omega) (.int .u64 (t0 + (b : Int)))).drew
            have f4 := (d4.other (p := ⟨w.heap.size + 1 + 1 + 1 + 1 + 1, 0, none⟩) (by simp; try omega) (.int .u64 (t0 + (b : Int)))).drew
            have f5 := (d5.other (p := ⟨w.heap.size + 1 + 1 + 1 + 1 + 1, 0, none⟩) (by simp; try omega) (.int .u64 (t0 + (b : Int)))).drew
            have f7 := (d7.other (p := ⟨w.heap.size + 1 + 1 + 1 + 1 + 1, 0, none⟩) (by simp; try omega) (.int .u64 (t0 + (b : Int)))).drew
            have f8 := (d8.set 0 (.int .u64 (t0 + (b : Int)))).drew
            have hcw4 : Chg [] w (w3.setCell ⟨w.heap.size + 1 + 1 + 1 + 1 + 1, 0, none⟩ (.int .u64 (t0 + (b : Int)))).drew := (hcw3.setCell (.inr (by simp; omega)) _).drew
            generalize (w3.setCell ⟨w.heap.size + 1 + 1 + 1 + 1 + 1, 0, none⟩ (.int .u64 (t0 + (b : Int)))).drew = w4 at f2 f3 f4 f5 f7 f8 hcw4 ⊢
            clear d2 d3 d4 d5 d7 d8 hcw3
            clear y0 yf0 x3
            have y0 := f8.cell 0 (v := .int .u64 (t0 + (b : Int))) rfl
            have yf0 := f8.free 0
            have y1 := f8.cell 1 (v := .int .u64 t1) rfl
            have yf1 := f8.free 1
            have y2 := f8.cell 2 (v := .int .u64 t2) rfl
            have yf2 := f8.free 2
            have y3 := f8.cell 3 (v := .int .u64 t3) rfl
            have yf3 := f8.free 3
            have z0 := f3.cell 0 (v := .int .u64 m0) rfl
            have z1 := f3.cell 1 (v := .int .u64 m1) rfl
            have z2 := f3.cell 2 (v := .int .u64 m2) rfl
            have z3 := f3.cell 3 (v := .int .u64 m3) rfl
            go_wp2_with fail
            refine (hcmp _).mono ?_
            rintro e w5 ⟨rfl, hc5⟩
            have g2 := f2.chg hc5 (by simp)
            have g3 := f3.chg hc5 (by simp)
            have g4 := f4.chg hc5 (by simp)
            have g5 := f5.chg hc5 (by simp)
            have g7 := f7.chg hc5 (by simp)
            have g8 := f8.chg hc5 (by simp)
            have hcw5 := hcw4.trans hc5 (by simp)
            clear y0 y1 y2 y3 yf0 yf1 yf2 yf3 z0 z1 z2 z3 f2 f3 f4 f5 f7 f8 hc5 hcmp hcw4
            have y0 := g8.cell 0 (v := .int .u64 (t0 + (b : Int))) rfl
            have yf0 := g8.free 0
            have y1 := g8.cell 1 (v := .int .u64 t1) rfl
            have yf1 := g8.free 1
            have y2 := g8.cell 2 (v := .int .u64 t2) rfl
            have yf2 := g8.free 2
            have y3 := g8.cell 3 (v := .int .u64 t3) rfl
            have yf3 := g8.free 3
            have z0 := g3.cell 0 (v := .int .u64 m0) rfl
            have z1 := g3.cell 1 (v := .int .u64 m1) rfl
            have z2 := g3.cell 2 (v := .int .u64 m2) rfl
            have z3 := g3.cell 3 (v := .int .u64 m3) rfl
            go_wp2
            go_roundw
            case rel => exact ⟨j, q0, q1, q2, q3, _, _, _, _, rfl, by omega, ⟨⟨Q0, Q1, Q2, Q3⟩, ⟨T0', T1, T2, T3⟩, by rw [HQE.out, HS2.out, if_neg HGE.out, Nat.pow_succ, Nat.add_zero, Nat.mul_comm 2 AN, Nat.mul_assoc, Nat.mul_comm 2], by rw [HTN.out, HS1.out, if_neg HGE.out], g2, g3, by simpa [C4] using g4, by simpa [C4] using g5, by simpa [C4] using g7, by simpa [C4] using g8, hcw5⟩⟩
            case measure => simp [intOf]
end Go.Proofs.YtmkgbinmilcojaaGreat

/- Package wide: Of, Add, Sub, Mul, Cmp, Bits, Uint, and Left by any number, as numbers. -/
import Derived.Test.YtackdgbcmeafhaaGreatWideF
namespace Go.Proofs.YtackdgbcmeafhaaGreat
open Go.RowKit Go.Maps Go.Shelf

theorem wd_nat {n : Nat} (h : n < 18446744073709551616) : Wd n := ⟨by omega, by omega⟩
theorem wv_small {n : Nat} (h : n < 18446744073709551616) : wv n = V4 n 0 0 0 :=
  (wv_of (wd_nat h) wd0 wd0 wd0 (by unfold n4; omega)).symm
theorem wv0 : wv 0 = V4 0 0 0 0 := wv_small (by omega)
theorem wide_Of' (x : Nat) (hx : x < 18446744073709551616) (w : World) :
    Calls Tryz.prog 62 #[.int .u64 x] w fun e w' => e = .returned (wv x) ∧ Chg [] w w' := by
  rw [wv_small hx]; exact wide_Of x w
theorem wide_Add (N M : Nat) (hN : N < TOP) (hM : M < TOP) (w : World) :
    Calls Tryz.prog 63 #[wv N, wv M] w fun e w' => e = .returned (.tuple #[wv ((N + M) % TOP), .bool (decide (TOP ≤ N + M))]) ∧ Chg [] w w' := by
  obtain ⟨a0, a1, a2, a3, ha0, ha1, ha2, ha3, hNe, hwv⟩ := words N hN
  obtain ⟨b0, b1, b2, b3, hb0, hb1, hb2, hb3, hMe, hwv2⟩ := words M hM
  rw [hwv, hwv2]
  obtain ⟨s0, s1, s2, s3, c, hs0, hs1, hs2, hs3, c0, c1, e, h⟩ := wide_AddW a0 a1 a2 a3 b0 b1 b2 b3 w ha0 ha1 ha2 ha3 hb0 hb1 hb2 hb3
  refine h.mono fun e' w' ⟨he, hc⟩ => ⟨?_, hc⟩
  obtain ⟨l0, l1⟩ := n4_lt hs0 hs1 hs2 hs3
  rw [← hNe, ← hMe] at e
  have e1 : (((N + M) % TOP : Nat) : Int) = n4 s0 s1 s2 s3 := by rw [Int.natCast_emod]; exact emod_top l0 l1 (by rw [Int.natCast_add, e])
  have e2 : (c == 1) = decide (TOP ≤ N + M) := by
    unfold TOP at *
    rw [Bool.eq_iff_iff]
    simp only [beq_iff_eq, decide_eq_true_eq]
    omega
  rw [he, wv_of hs0 hs1 hs2 hs3 e1, e2]
theorem wide_Sub (N M : Nat) (hN : N < TOP) (hM : M < TOP) (w : World) :
    Calls Tryz.prog 110 #[wv N, wv M] w fun e w' => e = .returned (.tuple #[wv ((N + TOP - M) % TOP), .bool (decide (N < M))]) ∧ Chg [] w w' := by
  obtain ⟨a0, a1, a2, a3, ha0, ha1, ha2, ha3, hNe, hwv⟩ := words N hN
  obtain ⟨b0, b1, b2, b3, hb0, hb1, hb2, hb3, hMe, hwv2⟩ := words M hM
  rw [hwv, hwv2]
  obtain ⟨s0, s1, s2, s3, c, hs0, hs1, hs2, hs3, c0, c1, e, h⟩ := wide_SubW a0 a1 a2 a3 b0 b1 b2 b3 w ha0 ha1 ha2 ha3 hb0 hb1 hb2 hb3
  refine h.mono fun e' w' ⟨he, hc⟩ => ⟨?_, hc⟩
  obtain ⟨l0, l1⟩ := n4_lt hs0 hs1 hs2 hs3
  rw [← hNe, ← hMe] at e
  have e1 : (((N + TOP - M) % TOP : Nat) : Int) = n4 s0 s1 s2 s3 := by
    rw [Int.natCast_emod]; exact emod_top l0 l1 (D := 1 - c) (by unfold TOP at *; omega)
  have e2 : (c == 1) = decide (N < M) := by
    unfold TOP at *
    rw [Bool.eq_iff_iff]
    simp only [beq_iff_eq, decide_eq_true_eq]
    omega
  rw [he, wv_of hs0 hs1 hs2 hs3 e1, e2]
theorem wide_Mul (N x : Nat) (hN : N < TOP) (hx : x < 18446744073709551616) (w : World) :
    Calls Tryz.prog 99 #[wv N, .int .u64 x] w fun e w' => e = .returned (.tuple #[wv (N * x % TOP), .bool (decide (TOP ≤ N * x))]) ∧ Chg [] w w' := by
  obtain ⟨a0, a1, a2, a3, ha0, ha1, ha2, ha3, hNe, hwv⟩ := words N hN
  rw [hwv]
  obtain ⟨s0, s1, s2, s3, c, hs0, hs1, hs2, hs3, c0, e, h⟩ := wide_MulW a0 a1 a2 a3 x w ha0 ha1 ha2 ha3 (wd_nat hx)
  refine h.mono fun e' w' ⟨he, hc⟩ => ⟨?_, hc⟩
  obtain ⟨l0, l1⟩ := n4_lt hs0 hs1 hs2 hs3
  rw [← hNe, ← Int.natCast_mul] at e
  have e1 : ((N * x % TOP : Nat) : Int) = n4 s0 s1 s2 s3 := by rw [Int.natCast_emod]; exact emod_top l0 l1 e
  have e2 : decide (0 < c) = decide (TOP ≤ N * x) := by
    generalize N * x = p at *
    unfold TOP at *
    rw [Bool.eq_iff_iff]
    simp only [decide_eq_true_eq]
    omega
  rw [he, wv_of hs0 hs1 hs2 hs3 e1, e2]
def cmpN (N M : Nat) : Int := if N < M then -1 else if M < N then 1 else 0
theorem wide_Cmp (N M : Nat) (hN : N < TOP) (hM : M < TOP) (w : World) :
    Calls Tryz.prog 109 #[wv N, wv M] w fun e w' => e = .returned (.int .i64 (cmpN N M)) ∧ Chg [] w w' := by
  obtain ⟨a0, a1, a2, a3, ha0, ha1, ha2, ha3, hNe, hwv⟩ := words N hN
  obtain ⟨b0, b1, b2, b3, hb0, hb1, hb2, hb3, hMe, hwv2⟩ := words M hM
  rw [hwv, hwv2]
  refine (wide_CmpW a0 a1 a2 a3 b0 b1 b2 b3 w ha0 ha1 ha2 ha3 hb0 hb1 hb2 hb3).mono fun e' w' ⟨he, hc⟩ => ⟨?_, hc⟩
  rw [he, ← hNe, ← hMe]
  unfold cmpI cmpN
  simp only [Int.ofNat_lt]
theorem wide_Bits (N : Nat) (hN : N < TOP) (w : World) :
    Calls Tryz.prog 107 #[wv N] w fun e w' => e = .returned (.int .i64 (blen N)) ∧ Chg [] w w' := by
  obtain ⟨a0, a1, a2, a3, ha0, ha1, ha2, ha3, hNe, hwv⟩ := words N hN
  rw [hwv]
  refine (wide_BitsW a0 a1 a2 a3 w ha0 ha1 ha2 ha3).mono fun e' w' ⟨he, hc⟩ => ⟨?_, hc⟩
  rw [he, ← hNe]; simp
theorem blen_top {N : Nat} (hN : N < TOP) : blen N ≤ 256 := blen_le.2 (by unfold TOP at hN; exact hN)
set_option maxRecDepth 100000 in
set_option maxHeartbeats 4000000 in
theorem wide_Uint (N : Nat) (hN : N < TOP) (w : World) :
    Calls Tryz.prog 64 #[wv N] w fun e w' => e = .returned (.tuple #[.int .u64 (if blen N ≤ 64 then N else 0 : Nat), .bool (decide (blen N ≤ 64))]) ∧ Chg [] w w' := by
  have hb := wide_Bits N hN
  have hl := blen_top hN
  have hsm : blen N ≤ 64 → N < 18446744073709551616 := fun h => by have := blen_le.1 h; simpa using this
  obtain ⟨a0, a1, a2, a3, ha0, ha1, ha2, ha3, hNe, hwv⟩ := words N hN
  rw [hwv] at hb ⊢
  by_cases h : blen N ≤ 64
  · have hN2 := hsm h
    have : a0 = (N : Int) := by
      have := ha0.1; have := ha0.2; have := ha1.1; have := ha2.1; have := ha3.1
      unfold n4 at hNe; omega
    subst this
    rw [if_pos h, show decide (blen N ≤ 64) = true by simpa using h]
    clear hNe hwv hsm
    generalize blen N = L at hb hl h
    unfold V4 at hb ⊢
    go_enter Tryz.func64, Tryz.ntmps64
    go_wp2_with fail
    refine (hb _).mono ?_
    rintro e w1 ⟨rfl, hc⟩
    have hk := (Blk.new w #[.int .u64 (N : Int), .int .u64 a1, .int .u64 a2, .int .u64 a3] 116).chg hc (by simp)
    have c0 := hk.cell 0 rfl
    go_wp2
    go_ret2
    exact ⟨rfl, ((Chg.refl _ _).alloc _).trans hc (by simp)⟩
  · rw [if_neg h, show decide (blen N ≤ 64) = false by simpa using h]
    clear hNe hwv hsm
    have h' : 64 < blen N := by omega
    generalize blen N = L at hb hl h'
    unfold V4 at hb ⊢
    go_enter Tryz.func64, Tryz.ntmps64
    go_wp2_with fail
    refine (hb _).mono ?_
    rintro e w1 ⟨rfl, hc⟩
    go_wp2
    go_ret2
    exact ⟨rfl, ((Chg.refl _ _).alloc _).trans hc (by simp)⟩
set_option maxRecDepth 100000 in
set_option maxHeartbeats 4000000 in
theorem wide_Left_big (N : Nat) (n : Int) (hN : N < TOP) (hn : 256 ≤ n) (hn2 : n ≤ 100000) (w : World) : Calls Tryz.prog 108 #[wv N, .int .i64 n] w fun e w' => e = .returned (wv 0) ∧ Chg [] w w' := by
  obtain ⟨a0, a1, a2, a3, ha0, ha1, ha2, ha3, hNe, hwv⟩ := words N hN
  rw [hwv, wv0]
  unfold V4
  go_enter Tryz.func108, Tryz.ntmps108
  go_wp2
  exact bodyPost_ret (v := V4 0 0 0 0) (by simp [results, Tryz.results108, go_sem, V4]) rfl ⟨by unfold V4; rfl, (by repeat (first | exact Chg.refl _ _ | refine Chg.alloc ?_ _ | refine Chg.drew ?_ | refine Chg.drewN ?_ _ | refine Chg.setCell ?_ (.inr (by simp)) _))⟩
set_option maxRecDepth 100000 in
set_option maxHeartbeats 4000000 in
theorem wide_Left_neg (N n : Nat) (hN : N < TOP) (hn : 0 < n) (hn2 : n < 256) (w : World) : Calls Tryz.prog 108 #[wv N, .int .i64 (-(n : Int))] w fun e w' => e = .returned (wv (N / 2 ^ n)) ∧ Chg [] w w' := by
  have hr := wide_Right N n hN hn2
  have hlt : N / 2 ^ n < TOP := Nat.lt_of_le_of_lt (Nat.div_le_self _ _) hN
  generalize N / 2 ^ n = X at hr hlt ⊢
  obtain ⟨a0, a1, a2, a3, ha0, ha1, ha2, ha3, hNe, hwv⟩ := words N hN
  obtain ⟨x0, x1, x2, x3, hx0, hx1, hx2, hx3, hXe, hwx⟩ := words X hlt
  rw [hwv, hwx] at hr
  rw [hwv, hwx]
  clear hNe hXe hwv hwx
  unfold V4 at hr ⊢
  go_enter Tryz.func108, Tryz.ntmps108
  go_wp2_with fail
  refine (hr _).mono ?_
  rintro e w1 ⟨rfl, hc⟩
  have hk := (Blk.new (w.alloc (.cells #[.int .u64 a0, .int .u64 a1, .int .u64 a2, .int .u64 a3] 116)) #[.int .u64 0, .int .u64 0, .int .u64 0, .int .u64 0] 116).chg hc (by simp)
  simp only [World.size_alloc] at hk
  have c0 := hk.cell 0 rfl
  have c1 := hk.cell 1 rfl
  have c2 := hk.cell 2 rfl
  have c3 := hk.cell 3 rfl
  have f0 := hk.free 0
  have f1 := hk.free 1
  have f2 := hk.free 2
  have f3 := hk.free 3
  go_wp2
  have hk2 := (((hk.set 0 (.int .u64 x0)).set 1 (.int .u64 x1)).set 2 (.int .u64 x2)).set 3 (.int .u64 x3)
  have d0 := hk2.cell 0 rfl
  have d1 := hk2.cell 1 rfl
  have d2 := hk2.cell 2 rfl
  have d3 := hk2.cell 3 rfl
  have hcc := (((Chg.refl [] w).alloc (.cells #[.int .u64 a0, .int .u64 a1, .int .u64 a2, .int .u64 a3] 116)).alloc (.cells #[.int .u64 0, .int .u64 0, .int .u64 0, .int .u64 0] 116)).trans hc (by simp)
  exact bodyPost_ret (v := V4 x0 x1 x2 x3) (by simp [results, Tryz.results108, go_sem, V4, d0, d1, d2, d3]) rfl ⟨by unfold V4; rfl, (((hcc.setCell (.inr (by simp)) _).setCell (.inr (by simp)) _).setCell (.inr (by simp)) _).setCell (.inr (by simp)) _⟩
end Go.Proofs.YtackdgbcmeafhaaGreat

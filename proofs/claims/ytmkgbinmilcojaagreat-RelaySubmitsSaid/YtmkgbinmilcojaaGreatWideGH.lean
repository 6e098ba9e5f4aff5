import Derived.Test.YtmkgbinmilcojaaGreatWideF
import Derived.Laws.StructEq
import Derived.Laws.Cover2

/- Package wide: Of, Add, Sub, Mul, Cmp, Bits, Uint, and Left by any number, as numbers. -/
namespace Go.Proofs.YtmkgbinmilcojaaGreat
open Go.RowKit Go.Maps Go.Shelf

theorem wd_nat {n : Nat} (h : n < 18446744073709551616) : Wd n := ⟨by omega, by omega⟩
theorem wv_small {n : Nat} (h : n < 18446744073709551616) : wv n = V4 n 0 0 0 :=
  (wv_of (wd_nat h) wd0 wd0 wd0 (by unfold n4; omega)).symm
theorem wv0 : wv 0 = V4 0 0 0 0 := wv_small (by omega)
theorem wide_Of' (x : Nat) (hx : x < 18446744073709551616) (w : World) :
    Calls Tryz.prog 87 #[.int .u64 x] w fun e w' => e = .returned (wv x) ∧ Chg [] w w' := by
  rw [wv_small hx]; exact wide_Of x w
theorem wide_Add (N M : Nat) (hN : N < TOP) (hM : M < TOP) (w : World) :
    Calls Tryz.prog 43 #[wv N, wv M] w fun e w' => e = .returned (.tuple #[wv ((N + M) % TOP), .bool (decide (TOP ≤ N + M))]) ∧ Chg [] w w' := by
  obtain ⟨a0, a1, a2, a3, ha0, ha1, ha2, ha3, hNe, hwv⟩ := words N hN
  obtain ⟨b0, b1, b2, b3, hb0, hb1, hb2, hb3, hMe, hwv2⟩ := words M hM
  rw [hwv, hwv2]
  obtain ⟨s0, s1, s2, s3, c, hs0, hs1, hs2, hs3, c0, c1, e, h⟩ := wide_AddW a0 a1 a2 a3 b0 b1 b2 b3 w ha0 ha1 ha2 ha3 hb0 hb1 hb2 hb3
  refine h.mono fun e' w' ⟨he, hc⟩ => ⟨?_, hc⟩
  obtain ⟨l0, l1⟩ := n4_lt hs0 hs1 hs2 hs3
  rw [← hNe, ← hMe] at e
  have e1 : (((N + M) % TOP : Nat) : Int) = n4 s0 s1 s2 s3 := by rw [Int.natCast_emod]; exact emod_top l0 l1 (by rw [Int.natCast_add, e])
  have e2 : (c == 1) = decide (TOP ≤ N + M) := by
    unfold TOP at *
    rw [Bool.eq_iff_iff]
    simp only [beq_iff_eq, decide_eq_true_eq]
    omega
  rw [he, wv_of hs0 hs1 hs2 hs3 e1, e2]
theorem wide_Sub (N M : Nat) (hN : N < TOP) (hM : M < TOP) (w : World) :
    Calls Tryz.prog 119 #[wv N, wv M] w fun e w' => e = .returned (.tuple #[wv ((N + TOP - M) % TOP), .bool (decide (N < M))]) ∧ Chg [] w w' := by
  obtain ⟨a0, a1, a2, a3, ha0, ha1, ha2, ha3, hNe, hwv⟩ := words N hN
  obtain ⟨b0, b1, b2, b3, hb0, hb1, hb2, hb3, hMe, hwv2⟩ := words M hM
  rw [hwv, hwv2]
  obtain ⟨s0, s1, s2, s3, c, hs0, hs1, hs2, hs3, c0, c1, e, h⟩ := wide_SubW a0 a1 a2 a3 b0 b1 b2 b3 w ha0 ha1 ha2 ha3 hb0 hb1 hb2 hb3
  refine h.mono fun e' w' ⟨he, hc⟩ => ⟨?_, hc⟩
  obtain ⟨l0, l1⟩ := n4_lt hs0 hs1 hs2 hs3
  rw [← hNe, ← hMe] at e
  have e1 : (((N + TOP - M) % TOP : Nat) : Int) = n4 s0 s1 s2 s3 := by
    rw [Int.natCast_emod]; exact emod_top l0 l1 (D := 1 - c) (by unfold TOP at *; omega)
  have e2 : (c == 1) = decide (N < M) := by
    unfold TOP at *
    rw [Bool.eq_iff_iff]
    simp only [beq_iff_eq, decide_eq_true_eq]
    omega
  rw [he, wv_of hs0 hs1 hs2 hs3 e1, e2]
theorem wide_Mul (N x : Nat) (hN : N < TOP) (hx : x < 18446744073709551616) (w : World) :
    Calls Tryz.prog 133 #[wv N, .int .u64 x] w fun e w' => e = .returned (.tuple #[wv (N * x % TOP), .bool (decide (TOP ≤ N * x))]) ∧ Chg [] w w' := by
  obtain ⟨a0, a1, a2, a3, ha0, ha1, ha2, ha3, hNe, hwv⟩ := words N hN
  rw [hwv]
  obtain ⟨s0, s1, s2, s3, c, hs0, hs1, hs2, hs3, c0, e, h⟩ := wide_MulW a0 a1 a2 a3 x w ha0 ha1 ha2 ha3 (wd_nat hx)
  refine h.mono fun e' w' ⟨he, hc⟩ => ⟨?_, hc⟩
  obtain ⟨l0, l1⟩ := n4_lt hs0 hs1 hs2 hs3
  rw [← hNe, ← Int.natCast_mul] at e
  have e1 : ((N * x % TOP : Nat) : Int) = n4 s0 s1 s2 s3 := by rw [Int.natCast_emod]; exact emod_top l0 l1 e
  have e2 : decide (0 < c) = decide (TOP ≤ N * x) := by
    generalize N * x = p at *
    unfold TOP at *
    rw [Bool.eq_iff_iff]
    simp only [decide_eq_true_eq]
    omega
  rw [he, wv_of hs0 hs1 hs2 hs3 e1, e2]
def cmpN (N M : Nat) : Int := if N < M then -1 else if M < N then 1 else 0
theorem wide_Cmp (N M : Nat) (hN : N < TOP) (hM : M < TOP) (w : World) :
    Calls Tryz.prog 17 #[wv N, wv M] w fun e w' => e = .returned (.int .i64 (cmpN N M)) ∧ Chg [] w w' := by
  obtain ⟨a0, a1, a2, a3, ha0, ha1, ha2, ha3, hNe, hwv⟩ := words N hN
  obtain ⟨b0, b1, b2, b3, hb0, hb1, hb2, hb3, hMe, hwv2⟩ := words M hM
  rw [hwv, hwv2]
  refine (wide_CmpW a0 a1 a2 a3 b0 b1 b2 b3 w ha0 ha1 ha2 ha3 hb0 hb1 hb2 hb3).mono fun e' w' ⟨he, hc⟩ => ⟨?_, hc⟩
  rw [he, ← hNe, ← hMe]
  unfold cmpI cmpN
  simp only [Int.ofNat_lt]
theorem wide_Bits (N : Nat) (hN : N < TOP) (w : World) :
    Calls Tryz.prog 88 #[wv N] w fun e w' => e = .returned (.int .i64 (blen N)) ∧ Chg [] w w' := by
  obtain ⟨a0, a1, a2, a3, ha0, ha1, ha2, ha3, hNe, hwv⟩ := words N hN
  rw [hwv]
  refine (wide_BitsW a0 a1 a2 a3 w ha0 ha1 ha2 ha3).mono fun e' w' ⟨he, hc⟩ => ⟨?_, hc⟩
  rw [he, ← hNe]; simp
theorem blen_top {N : Nat} (hN : N < TOP) : blen N ≤ 256 := blen_le.2 (by unfold TOP at hN; exact hN)
set_option maxRecDepth 100000 in
set_option maxHeartbeats 4000000 in
theorem wide_Uint (N : Nat) (hN : N < TOP) (w : World) :
    Calls Tryz.prog 134 #[wv N] w fun e w' => e = .returned (.tuple #[.int .u64 (if blen N ≤ 64 then N else 0 : Nat), .bool (decide (blen N ≤ 64))]) ∧ Chg [] w w' := by
  have hb := wide_Bits N hN
  have hl := blen_top hN
  have hsm : blen N ≤ 64 → N < 18446744073709551616 := fun h => by have := blen_le.1 h; simpa using this
  obtain ⟨a0, a1, a2, a3, ha0, ha1, ha2, ha3, hNe, hwv⟩ := words N hN
  rw [hwv] at hb ⊢
  by_cases h : blen N ≤ 64
  · have hN2 := hsm h
    have : a0 = (N : Int) := by
      have := ha0.1; have := ha0.2; have := ha1.1; have := ha2.1; have := ha3.1
      unfold n4 at hNe; omega
    subst this
    rw [if_pos h, show decide (blen N ≤ 64) = true by simpa using h]
    clear hNe hwv hsm
    generalize blen N = L at hb hl h
    unfold V4 at hb ⊢
    go_enter Tryz.func134, Tryz.ntmps134
    go_wp2_with fail
    refine (hb _).mono ?_
    rintro e w1 ⟨rfl, hc⟩
    have hk := (Blk.new w #[.int .u64 (N : Int), .int .u64 a1, .int .u64 a2, .int .u64 a3] 51).chg hc (by simp)
    have c0 := hk.cell 0 rfl
    go_wp2
    go_ret2
    exact ⟨rfl, ((Chg.refl _ _).alloc _).trans hc (by simp)⟩
  · rw [if_neg h, show decide (blen N ≤ 64) = false by simpa using h]
    clear hNe hwv hsm
    have h' : 64 < blen N := by omega
    generalize blen N = L at hb hl h'
    unfold V4 at hb ⊢
    go_enter Tryz.func134, Tryz.ntmps134
    go_wp2_with fail
    refine (hb _).mono ?_
    rintro e w1 ⟨rfl, hc⟩
    go_wp2
    go_ret2
    exact ⟨rfl, ((Chg.refl _ _).alloc _).trans hc (by simp)⟩
set_option maxRecDepth 100000 in
set_option maxHeartbeats 4000000 in
theorem wide_Left_big (N : Nat) (n : Int) (hN : N < TOP) (hn : 256 ≤ n) (hn2 : n ≤ 100000) (w : World) : Calls Tryz.prog 89 #[wv N, .int .i64 n] w fun e w' => e = .returned (wv 0) ∧ Chg [] w w' := by
  obtain ⟨a0, a1, a2, a3, ha0, ha1, ha2, ha3, hNe, hwv⟩ := words N hN
  rw [hwv, wv0]
  unfold V4
  go_enter Tryz.func89, Tryz.ntmps89
  go_wp2
  exact bodyPost_ret (v := V4 0 0 0 0) (by simp [results, Tryz.results89, go_sem, V4]) rfl ⟨by unfold V4; rfl, (by repeat (first | exact Chg.refl _ _ | refine Chg.alloc ?_ _ | refine Chg.drew ?_ | refine Chg.drewN ?_ _ | refine Chg.setCell ?_ (.inr (by simp)) _))⟩
set_option maxRecDepth 100000 in
set_option maxHeartbeats 4000000 in
theorem wide_Left_neg (N n : Nat) (hN : N < TOP) (hn : 0 < n) (hn2 : n < 256) (w : World) : Calls Tryz.prog 89 #[wv N, .int .i64 (-(n : Int))] w fun e w' => e = .returned (wv (N / 2 ^ n)) ∧ Chg [] w w' := by
  have hr := wide_Right N n hN hn2
  have hlt : N / 2 ^ n < TOP := Nat.lt_of_le_of_lt (Nat.div_le_self _ _) hN
  generalize N / 2 ^ n = X at hr hlt ⊢
  obtain ⟨a0, a1, a2, a3, ha0, ha1, ha2, ha3, hNe, hwv⟩ := words N hN
  obtain ⟨x0, x1, x2, x3, hx0, hx1, hx2, hx3, hXe, hwx⟩ := words X hlt
  rw [hwv, hwx] at hr
  rw [hwv, hwx]
  clear hNe hXe hwv hwx
  unfold V4 at hr ⊢
  go_enter Tryz.func89, Tryz.ntmps89
  go_wp2_with fail
  refine (hr _).mono ?_
  rintro e w1 ⟨rfl, hc⟩
  have hk := (Blk.new (w.alloc (.cells #[.int .u64 a0, .int .u64 a1, .int .u64 a2, .int .u64 a3] 51)) #[.int .u64 0, .int .u64 0, .int .u64 0, .int .u64 0] 51).chg hc (by simp)
  simp only [World.size_alloc] at hk
  have c0 := hk.cell 0 rfl
  have c1 := hk.cell 1 rfl
  have c2 := hk.cell 2 rfl
  have c3 := hk.cell 3 rfl
  have f0 := hk.free 0
  have f1 := hk.free 1
  have f2 := hk.free 2
  have f3 := hk.free 3
  go_wp2
  have hk2 := (((hk.set 0 (.int .u64 x0)).set 1 (.int .u64 x1)).set 2 (.int .u64 x2)).set 3 (.int .u64 x3)
  have d0 := hk2.cell 0 rfl
  have d1 := hk2.cell 1 rfl
  have d2 := hk2.cell 2 rfl
  have d3 := hk2.cell 3 rfl
  have hcc := (((Chg.refl [] w).alloc (.cells #[.int .u64 a0, .int .u64 a1, .int .u64 a2, .int .u64 a3] 51)).alloc (.cells #[.int .u64 0, .int .u64 0, .int .u64 0, .int .u64 0] 51)).trans hc (by simp)
  exact bodyPost_ret (v := V4 x0 x1 x2 x3) (by simp [results, Tryz.results89, go_sem, V4, d0, d1, d2, d3]) rfl ⟨by unfold V4; rfl, (((hcc.setCell (.inr (by simp)) _).setCell (.inr (by simp)) _).setCell (.inr (by simp)) _).setCell (.inr (by simp)) _⟩
end Go.Proofs.YtmkgbinmilcojaaGreat

/- Package wide: are two numbers one ('==' of arrays of four words)? -/
namespace Go.Proofs.YtmkgbinmilcojaaGreat
open Go.RowKit Go.Maps Go.Shelf

set_option maxRecDepth 100000 in
set_option maxHeartbeats 1000000 in
theorem run_eqW (a b c d e f g h : Int) (w : World) : (Op.equalIn 10000 51 (V4 a b c d) (V4 e f g h)).run Tryz.prog w = .ok (decide (a = e ∧ b = f ∧ c = g ∧ d = h)) w := by
  have u3 := Tryz.underlying49
  have a3 := Tryz.isAgg49
  have z3 := Tryz.sizeOf49
  unfold V4
  rw [show (10000 : Nat) = 9999 + 1 from rfl, Op.equalIn]
  simp only [Sem.run_bind, run_underlying Tryz.underlying51, Result.andThen_ok]
  simp only [Std.Legacy.Range.forIn_eq_forIn_range', Std.Legacy.Range.size, Nat.sub_zero, Nat.add_sub_cancel, Nat.div_one, List.range'_succ, List.range'_zero, List.forIn_cons, List.forIn_nil]
  go_simp
  by_cases h1 : a = e <;> by_cases h2 : b = f <;> by_cases h3 : c = g <;> by_cases h4 : d = h <;> simp [h1, h2, h3, h4]
theorem n4_zero {a b c d : Int} (ha : Wd a) (hb : Wd b) (hc : Wd c) (hd : Wd d) : (a = 0 ∧ b = 0 ∧ c = 0 ∧ d = 0) ↔ n4 a b c d = 0 := by
  have := ha.1; have := hb.1; have := hc.1; have := hd.1
  unfold n4; omega
theorem n4_inj {a b c d e f g h : Int} (ha : Wd a) (hb : Wd b) (hc : Wd c) (hd : Wd d) (he : Wd e) (hf : Wd f) (hg : Wd g) (hh : Wd h) : (a = e ∧ b = f ∧ c = g ∧ d = h) ↔ n4 a b c d = n4 e f g h := by
  have := ha.1; have := hb.1; have := hc.1; have := hd.1; have := ha.2; have := hb.2; have := hc.2; have := hd.2
  have := he.1; have := hf.1; have := hg.1; have := hh.1; have := he.2; have := hf.2; have := hg.2; have := hh.2
  unfold n4; omega
end Go.Proofs.YtmkgbinmilcojaaGreat

/- Package wide: Div, bit by bit: the parts. -/
namespace Go.Proofs.YtmkgbinmilcojaaGreat
open Go.RowKit Go.Maps Go.Shelf

theorem leftV (r0 r1 r2 r3 : Int) (h0 : Wd r0) (h1 : Wd r1) (h2 : Wd r2) (h3 : Wd r3) : ∃ t0 t1 t2 t3 : Int, Wd t0 ∧ Wd t1 ∧ Wd t2 ∧ Wd t3 ∧ n4 t0 t1 t2 t3 = n4 r0 r1 r2 r3 * 2 % TOP ∧
    ∀ w, Calls Tryz.prog 89 #[V4 r0 r1 r2 r3, .int .i64 1] w fun e w' => e = .returned (V4 t0 t1 t2 t3) ∧ Chg [] w w' := by
  obtain ⟨l0, l1⟩ := n4_lt h0 h1 h2 h3
  obtain ⟨N, hN⟩ : ∃ N : Nat, (N : Int) = n4 r0 r1 r2 r3 := ⟨(n4 r0 r1 r2 r3).toNat, Int.toNat_of_nonneg l0⟩
  have hlt : N * 2 ^ 1 % TOP < TOP := Nat.mod_lt _ (by unfold TOP; omega)
  obtain ⟨t0, t1, t2, t3, k0, k1, k2, k3, e, hv⟩ := words _ hlt
  refine ⟨t0, t1, t2, t3, k0, k1, k2, k3, ?_, fun w => ?_⟩
  · rw [← e, ← hN, Int.natCast_emod, Int.natCast_mul]; rfl
  · have h := wide_Left N 1 (by omega) (by omega) w
    rw [hv, wv_of (n := N) h0 h1 h2 h3 hN |>.symm] at h
    exact h
theorem subV (a0 a1 a2 a3 b0 b1 b2 b3 : Int) (ha0 : Wd a0) (ha1 : Wd a1) (ha2 : Wd a2) (ha3 : Wd a3) (hb0 : Wd b0) (hb1 : Wd b1) (hb2 : Wd b2) (hb3 : Wd b3) : ∃ (u0 u1 u2 u3 : Int) (z : Bool), Wd u0 ∧ Wd u1 ∧ Wd u2 ∧ Wd u3 ∧ n4 u0 u1 u2 u3 = (n4 a0 a1 a2 a3 - n4 b0 b1 b2 b3) % TOP ∧
    ∀ w, Calls Tryz.prog 119 #[V4 a0 a1 a2 a3, V4 b0 b1 b2 b3] w fun e w' => e = .returned (.tuple #[V4 u0 u1 u2 u3, .bool z]) ∧ Chg [] w w' := by
  obtain ⟨l0, l1⟩ := n4_lt ha0 ha1 ha2 ha3
  obtain ⟨l2, l3⟩ := n4_lt hb0 hb1 hb2 hb3
  obtain ⟨N, hN⟩ : ∃ N : Nat, (N : Int) = n4 a0 a1 a2 a3 := ⟨(n4 a0 a1 a2 a3).toNat, Int.toNat_of_nonneg l0⟩
  obtain ⟨M, hM⟩ : ∃ M : Nat, (M : Int) = n4 b0 b1 b2 b3 := ⟨(n4 b0 b1 b2 b3).toNat, Int.toNat_of_nonneg l2⟩
  have hlt : (N + TOP - M) % TOP < TOP := Nat.mod_lt _ (by unfold TOP; omega)
  obtain ⟨t0, t1, t2, t3, k0, k1, k2, k3, e, hv⟩ := words _ hlt
  refine ⟨t0, t1, t2, t3, decide (N < M), k0, k1, k2, k3, ?_, fun w => ?_⟩
  · rw [← e, ← hN, ← hM]; unfold TOP at *; omega
  · have h := wide_Sub N M (by omega) (by omega) w
    rw [hv, wv_of (n := N) ha0 ha1 ha2 ha3 hN |>.symm, wv_of (n := M) hb0 hb1 hb2 hb3 hM |>.symm] at h
    exact h

theorem div_step (N M j : Nat) (hM : 0 < M) : N / 2 ^ j % M = (if M ≤ 2 * (N / 2 ^ (j + 1) % M) + N / 2 ^ j % 2 then 2 * (N / 2 ^ (j + 1) % M) + N / 2 ^ j % 2 - M else 2 * (N / 2 ^ (j + 1) % M) + N / 2 ^ j % 2) ∧
    N / 2 ^ j / M = 2 * (N / 2 ^ (j + 1) / M) + (if M ≤ 2 * (N / 2 ^ (j + 1) % M) + N / 2 ^ j % 2 then 1 else 0) := by
  have h1 : N / 2 ^ (j + 1) = N / 2 ^ j / 2 := by rw [Nat.pow_succ, Nat.div_div_eq_div_mul]
  rw [h1]
  generalize N / 2 ^ j = X
  have h2 : X = 2 * (X / 2) + X % 2 := by omega
  have h3 := Nat.div_add_mod (X / 2) M
  have h4 := Nat.mod_lt (X / 2) hM
  generalize hq : X / 2 / M = q at *
  generalize hr : X / 2 % M = r at *
  have h5 : X = M * (2 * q) + (2 * r + X % 2) := by
    have : M * (2 * q) = 2 * (M * q) := by rw [← Nat.mul_assoc, Nat.mul_comm M 2, Nat.mul_assoc]
    omega
  generalize X % 2 = b at *
  have hb : b < 2 ∨ 2 ≤ b := by omega
  have hb1 : b ≤ 1 ∨ b > 1 := by omega
  by_cases hge : M ≤ 2 * r + b
  · rw [if_pos hge, if_pos hge]
    have hlt : 2 * r + b - M < M := by
      rcases hb1 with h | h
      · omega
      · exfalso; subst h5; omega
    have h6 : X = (2 * r + b - M) + M * (2 * q + 1) := by rw [Nat.mul_add, Nat.mul_one]; omega
    exact ⟨by rw [h6, Nat.add_mul_mod_self_left, Nat.mod_eq_of_lt hlt], by rw [h6, Nat.add_mul_div_left _ _ hM, Nat.div_eq_of_lt hlt]; omega⟩
  · rw [if_neg hge, if_neg hge]
    have h6 : X = (2 * r + b) + M * (2 * q) := by omega
    exact ⟨by rw [h6, Nat.add_mul_mod_self_left, Nat.mod_eq_of_lt (by omega)], by rw [h6, Nat.add_mul_div_left _ _ hM, Nat.div_eq_of_lt (by omega)]; omega⟩
theorem bit_word {x y s : Nat} (hs : s < 64) : (x + 18446744073709551616 * y) / 2 ^ s % 2 = x / 2 ^ s % 2 := by
  have e : 18446744073709551616 * y = 2 ^ s * (2 * (2 ^ (63 - s) * y)) := by
    have : (18446744073709551616 : Nat) = 2 ^ s * (2 * 2 ^ (63 - s)) := by
      rw [← Nat.mul_assoc, Nat.mul_comm _ 2, Nat.mul_assoc, ← Nat.pow_add, show s + (63 - s) = 63 by omega]
    rw [this]; simp only [Nat.mul_assoc]
  rw [e, Nat.add_mul_div_left _ _ (Nat.two_pow_pos s)]
  omega
end Go.Proofs.YtmkgbinmilcojaaGreat

/- Package wide: Of, Add, Sub, Mul. -/
import Derived.Test.YtackdgbcmeafhaaGreatWide
namespace Go.Proofs.YtackdgbcmeafhaaGreat
open Go.RowKit Go.Maps Go.Shelf

/-- a word. -/
def Wd (x : Int) : Prop := 0 ≤ x ∧ x < 18446744073709551616
def V4 (a b c d : Int) : Value := .agg #[.int .u64 a, .int .u64 b, .int .u64 c, .int .u64 d]
def n4 (a b c d : Int) : Int := a + 18446744073709551616 * b + 340282366920938463463374607431768211456 * c + 6277101735386680763835789423207666416102355444464034512896 * d
theorem wv_n4 {a b c d : Int} (ha : Wd a) (hb : Wd b) (hc : Wd c) (hd : Wd d) : wv (n4 a b c d).toNat = V4 a b c d := by
  have h := wv_num (a := a.toNat) (b := b.toNat) (c := c.toNat) (d := d.toNat) (by have := ha.1; have := ha.2; omega) (by have := hb.1; have := hb.2; omega) (by have := hc.1; have := hc.2; omega) (by have := hd.1; have := hd.2; omega)
  have e : (n4 a b c d).toNat = num4 a.toNat b.toNat c.toNat d.toNat := by
    have := ha.1; have := hb.1; have := hc.1; have := hd.1
    unfold n4 num4; omega
  rw [e, h, W4, V4, Int.toNat_of_nonneg ha.1, Int.toNat_of_nonneg hb.1, Int.toNat_of_nonneg hc.1, Int.toNat_of_nonneg hd.1]
theorem n4_lt {a b c d : Int} (ha : Wd a) (hb : Wd b) (hc : Wd c) (hd : Wd d) : 0 ≤ n4 a b c d ∧ n4 a b c d < TOP := by
  have := ha.1; have := hb.1; have := hc.1; have := hd.1; have := ha.2; have := hb.2; have := hc.2; have := hd.2
  unfold n4 TOP; omega
/-- each number below 2^256, by its words. -/
theorem words (n : Nat) (h : n < TOP) : ∃ a b c d : Int, Wd a ∧ Wd b ∧ Wd c ∧ Wd d ∧ (n : Int) = n4 a b c d ∧ wv n = V4 a b c d := by
  obtain ⟨a, b, c, d, ha, hb, hc, hd, e⟩ := num_of n h
  refine ⟨a, b, c, d, ⟨by omega, by omega⟩, ⟨by omega, by omega⟩, ⟨by omega, by omega⟩, ⟨by omega, by omega⟩, ?_, ?_⟩
  · rw [e]; unfold n4 num4; omega
  · rw [e, wv_num ha hb hc hd, W4, V4]
theorem wv_of {n : Nat} {a b c d : Int} (ha : Wd a) (hb : Wd b) (hc : Wd c) (hd : Wd d) (e : (n : Int) = n4 a b c d) : V4 a b c d = wv n := by
  rw [← wv_n4 ha hb hc hd, ← e]; simp

theorem add64 (x y c : Int) (hx : Wd x) (hy : Wd y) (hc0 : 0 ≤ c) (hc : c ≤ 1) : ∃ s d : Int, Wd s ∧ 0 ≤ d ∧ d ≤ 1 ∧ x + y + c = s + 18446744073709551616 * d ∧
    ∀ w, (callFunc 111 #[.int .u64 x, .int .u64 y, .int .u64 c]).run Tryz.prog w = .ok (.value (.tuple #[.int .u64 s, .int .u64 d])) w := by
  obtain ⟨hx0, hx1⟩ := hx
  obtain ⟨hy0, hy1⟩ := hy
  refine ⟨(x + y + c) % 18446744073709551616, (x + y + c) / 18446744073709551616, ⟨by omega, by omega⟩, by omega, by omega, by omega, fun w => ?_⟩
  have h := run_Add64 x.toNat y.toNat c.toNat (by omega) w
  rw [Int.toNat_of_nonneg hx0, Int.toNat_of_nonneg hy0, Int.toNat_of_nonneg hc0] at h
  rw [h]
  have e1 : (((x.toNat + y.toNat + c.toNat) % 18446744073709551616 : Nat) : Int) = (x + y + c) % 18446744073709551616 := by omega
  have e2 : (((x.toNat + y.toNat + c.toNat) / 18446744073709551616 : Nat) : Int) = (x + y + c) / 18446744073709551616 := by omega
  rw [e1, e2]
theorem sub64 (x y c : Int) (hx : Wd x) (hy : Wd y) (hc0 : 0 ≤ c) (hc : c ≤ 1) : ∃ s d : Int, Wd s ∧ 0 ≤ d ∧ d ≤ 1 ∧ x - y - c = s - 18446744073709551616 * d ∧
    ∀ w, (callFunc 129 #[.int .u64 x, .int .u64 y, .int .u64 c]).run Tryz.prog w = .ok (.value (.tuple #[.int .u64 s, .int .u64 d])) w := by
  obtain ⟨hx0, hx1⟩ := hx
  obtain ⟨hy0, hy1⟩ := hy
  refine ⟨(x + 18446744073709551616 - y - c) % 18446744073709551616, if x < y + c then 1 else 0, ⟨by omega, by omega⟩, by split <;> omega, by split <;> omega, by split <;> omega, fun w => ?_⟩
  have h := run_Sub64 x.toNat y.toNat c.toNat (by omega) w
  rw [Int.toNat_of_nonneg hx0, Int.toNat_of_nonneg hy0, Int.toNat_of_nonneg hc0] at h
  rw [h]
  have e1 : (((x.toNat + 18446744073709551616 - y.toNat - c.toNat) % 18446744073709551616 : Nat) : Int) = (x + 18446744073709551616 - y - c) % 18446744073709551616 := by omega
  have e2 : (((if x.toNat < y.toNat + c.toNat then 1 else 0) : Nat) : Int) = if x < y + c then 1 else 0 := by split <;> split <;> omega
  rw [e1, e2]
theorem mul64 (x y : Int) (hx : Wd x) (hy : Wd y) : ∃ h l : Int, Wd l ∧ 0 ≤ h ∧ h ≤ 18446744073709551614 ∧ x * y = l + 18446744073709551616 * h ∧
    ∀ w, Calls Tryz.prog 106 #[.int .u64 x, .int .u64 y] w fun e w' => e = .returned (.tuple #[.int .u64 h, .int .u64 l]) ∧ w = w' := by
  obtain ⟨hx0, hx1⟩ := hx
  obtain ⟨hy0, hy1⟩ := hy
  obtain ⟨X, rfl⟩ := Int.eq_ofNat_of_zero_le hx0
  obtain ⟨Y, rfl⟩ := Int.eq_ofNat_of_zero_le hy0
  have hp : X * Y ≤ 18446744073709551615 * 18446744073709551615 := Nat.mul_le_mul (by omega) (by omega)
  refine ⟨((X * Y / 18446744073709551616 : Nat) : Int), ((X * Y % 18446744073709551616 : Nat) : Int), ⟨by omega, by omega⟩, by omega, by omega, ?_, fun w => bits_Mul64 X Y (by omega) (by omega) w⟩
  rw [← Int.natCast_mul]
  generalize X * Y = p at *
  omega

set_option maxRecDepth 100000 in
set_option maxHeartbeats 1000000 in
theorem wide_Of (x : Int) (w : World) :
    Calls Tryz.prog 62 #[.int .u64 x] w fun e w' => e = .returned (V4 x 0 0 0) ∧ Chg [] w w' := by
  go_enter Tryz.func62, Tryz.ntmps62
  go_wp2
  exact bodyPost_ret (v := V4 x 0 0 0) (by simp [results, Tryz.results62, go_sem, V4]) rfl ⟨rfl, (Chg.refl _ _).alloc _⟩

set_option maxRecDepth 100000 in
set_option maxHeartbeats 4000000 in
theorem wide_AddW (a0 a1 a2 a3 b0 b1 b2 b3 : Int) (w : World) (ha0 : Wd a0) (ha1 : Wd a1) (ha2 : Wd a2) (ha3 : Wd a3) (hb0 : Wd b0) (hb1 : Wd b1) (hb2 : Wd b2) (hb3 : Wd b3) :
    ∃ s0 s1 s2 s3 c : Int, Wd s0 ∧ Wd s1 ∧ Wd s2 ∧ Wd s3 ∧ 0 ≤ c ∧ c ≤ 1 ∧ n4 a0 a1 a2 a3 + n4 b0 b1 b2 b3 = n4 s0 s1 s2 s3 + TOP * c ∧
    Calls Tryz.prog 63 #[V4 a0 a1 a2 a3, V4 b0 b1 b2 b3] w fun e w' => e = .returned (.tuple #[V4 s0 s1 s2 s3, .bool (c == 1)]) ∧ Chg [] w w' := by
  obtain ⟨s0, c0, h0, p0, q0, e0, r0⟩ := add64 a0 b0 0 ha0 hb0 (by omega) (by omega)
  obtain ⟨s1, c1, h1, p1, q1, e1, r1⟩ := add64 a1 b1 c0 ha1 hb1 p0 q0
  obtain ⟨s2, c2, h2, p2, q2, e2, r2⟩ := add64 a2 b2 c1 ha2 hb2 p1 q1
  obtain ⟨s3, c3, h3, p3, q3, e3, r3⟩ := add64 a3 b3 c2 ha3 hb3 p2 q2
  refine ⟨s0, s1, s2, s3, c3, h0, h1, h2, h3, p3, q3, by unfold n4 TOP; omega, ?_⟩
  clear e0 e1 e2 e3 h0 h1 h2 h3 p0 p1 p2 p3 q0 q1 q2 q3
  unfold V4
  go_enter Tryz.func63, Tryz.ntmps63
  go_wp2
  refine wp_loop_rounds 5 ?_
  rw [rounds_succ]
  iterate 4
    go_wp2
    go_region
    go_wp2
    rw [rounds_succ]
  go_wp2
  exact bodyPost_ret (v := .tuple #[V4 s0 s1 s2 s3, .bool (c3 == 1)]) (by simp [results, Tryz.results63, go_sem, V4]) rfl ⟨rfl, (by repeat (first | exact Chg.refl _ _ | refine Chg.alloc ?_ _ | refine Chg.drew ?_ | refine Chg.drewN ?_ _ | refine Chg.setCell ?_ (.inr (by simp)) _))⟩
set_option maxRecDepth 100000 in
set_option maxHeartbeats 4000000 in
theorem wide_SubW (a0 a1 a2 a3 b0 b1 b2 b3 : Int) (w : World) (ha0 : Wd a0) (ha1 : Wd a1) (ha2 : Wd a2) (ha3 : Wd a3) (hb0 : Wd b0) (hb1 : Wd b1) (hb2 : Wd b2) (hb3 : Wd b3) :
    ∃ s0 s1 s2 s3 c : Int, Wd s0 ∧ Wd s1 ∧ Wd s2 ∧ Wd s3 ∧ 0 ≤ c ∧ c ≤ 1 ∧ n4 a0 a1 a2 a3 - n4 b0 b1 b2 b3 = n4 s0 s1 s2 s3 - TOP * c ∧
    Calls Tryz.prog 110 #[V4 a0 a1 a2 a3, V4 b0 b1 b2 b3] w fun e w' => e = .returned (.tuple #[V4 s0 s1 s2 s3, .bool (c == 1)]) ∧ Chg [] w w' := by
  obtain ⟨s0, c0, h0, p0, q0, e0, r0⟩ := sub64 a0 b0 0 ha0 hb0 (by omega) (by omega)
  obtain ⟨s1, c1, h1, p1, q1, e1, r1⟩ := sub64 a1 b1 c0 ha1 hb1 p0 q0
  obtain ⟨s2, c2, h2, p2, q2, e2, r2⟩ := sub64 a2 b2 c1 ha2 hb2 p1 q1
  obtain ⟨s3, c3, h3, p3, q3, e3, r3⟩ := sub64 a3 b3 c2 ha3 hb3 p2 q2
  refine ⟨s0, s1, s2, s3, c3, h0, h1, h2, h3, p3, q3, by unfold n4 TOP; omega, ?_⟩
  clear e0 e1 e2 e3 h0 h1 h2 h3 p0 p1 p2 p3 q0 q1 q2 q3
  unfold V4
  go_enter Tryz.func110, Tryz.ntmps110
  go_wp2
  refine wp_loop_rounds 5 ?_
  rw [rounds_succ]
  iterate 4
    go_wp2
    go_region
    go_wp2
    rw [rounds_succ]
  go_wp2
  exact bodyPost_ret (v := .tuple #[V4 s0 s1 s2 s3, .bool (c3 == 1)]) (by simp [results, Tryz.results110, go_sem, V4]) rfl ⟨rfl, (by repeat (first | exact Chg.refl _ _ | refine Chg.alloc ?_ _ | refine Chg.drew ?_ | refine Chg.drewN ?_ _ | refine Chg.setCell ?_ (.inr (by simp)) _))⟩
set_option maxRecDepth 100000 in
set_option maxHeartbeats 4000000 in
theorem wide_MulW (a0 a1 a2 a3 x : Int) (w : World) (ha0 : Wd a0) (ha1 : Wd a1) (ha2 : Wd a2) (ha3 : Wd a3) (hx : Wd x) :
    ∃ s0 s1 s2 s3 c : Int, Wd s0 ∧ Wd s1 ∧ Wd s2 ∧ Wd s3 ∧ 0 ≤ c ∧ n4 a0 a1 a2 a3 * x = n4 s0 s1 s2 s3 + TOP * c ∧
    Calls Tryz.prog 99 #[V4 a0 a1 a2 a3, .int .u64 x] w fun e w' => e = .returned (.tuple #[V4 s0 s1 s2 s3, .bool (decide (0 < c))]) ∧ Chg [] w w' := by
  obtain ⟨h0, l0, k0, u0, v0, f0, m0⟩ := mul64 a0 x ha0 hx
  obtain ⟨h1, l1, k1, u1, v1, f1, m1⟩ := mul64 a1 x ha1 hx
  obtain ⟨h2, l2, k2, u2, v2, f2, m2⟩ := mul64 a2 x ha2 hx
  obtain ⟨h3, l3, k3, u3, v3, f3, m3⟩ := mul64 a3 x ha3 hx
  obtain ⟨s0, c0, g0, p0, q0, e0, r0⟩ := add64 l0 0 0 k0 ⟨by omega, by omega⟩ (by omega) (by omega)
  obtain ⟨s1, c1, g1, p1, q1, e1, r1⟩ := add64 l1 (h0 + c0) 0 k1 ⟨by omega, by omega⟩ (by omega) (by omega)
  obtain ⟨s2, c2, g2, p2, q2, e2, r2⟩ := add64 l2 (h1 + c1) 0 k2 ⟨by omega, by omega⟩ (by omega) (by omega)
  obtain ⟨s3, c3, g3, p3, q3, e3, r3⟩ := add64 l3 (h2 + c2) 0 k3 ⟨by omega, by omega⟩ (by omega) (by omega)
  refine ⟨s0, s1, s2, s3, h3 + c3, g0, g1, g2, g3, by omega, ?_, ?_⟩
  · unfold n4 TOP
    have d : (a0 + 18446744073709551616 * a1 + 340282366920938463463374607431768211456 * a2 + 6277101735386680763835789423207666416102355444464034512896 * a3) * x = a0 * x + 18446744073709551616 * (a1 * x) + 340282366920938463463374607431768211456 * (a2 * x) + 6277101735386680763835789423207666416102355444464034512896 * (a3 * x) := by
      simp only [Int.add_mul, Int.mul_assoc]
    rw [d, f0, f1, f2, f3]
    omega
  · have w0 : 0 ≤ h0 + c0 ∧ h0 + c0 ≤ 18446744073709551615 := by omega
    have w1 : 0 ≤ h1 + c1 ∧ h1 + c1 ≤ 18446744073709551615 := by omega
    have w2 : 0 ≤ h2 + c2 ∧ h2 + c2 ≤ 18446744073709551615 := by omega
    have w3 : 0 ≤ h3 + c3 ∧ h3 + c3 ≤ 18446744073709551615 := by omega
    clear e0 e1 e2 e3 g0 g1 g2 g3 f0 f1 f2 f3 k0 k1 k2 k3
    unfold V4
    go_enter Tryz.func99, Tryz.ntmps99
    go_wp2
    refine wp_loop_rounds 5 ?_
    rw [rounds_succ]
    go_wp2_with fail
    refine (m0 _).mono ?_
    rintro e w' ⟨rfl, rfl⟩
    go_wp2
    rw [rounds_succ]
    go_wp2_with fail
    refine (m1 _).mono ?_
    rintro e w' ⟨rfl, rfl⟩
    go_wp2
    rw [rounds_succ]
    go_wp2_with fail
    refine (m2 _).mono ?_
    rintro e w' ⟨rfl, rfl⟩
    go_wp2
    rw [rounds_succ]
    go_wp2_with fail
    refine (m3 _).mono ?_
    rintro e w' ⟨rfl, rfl⟩
    go_wp2
    rw [rounds_succ]
    go_wp2
    exact bodyPost_ret (v := .tuple #[V4 s0 s1 s2 s3, .bool (decide (0 < h3 + c3))]) (by simp [results, Tryz.results99, go_sem, V4]) rfl ⟨rfl, (by repeat (first | exact Chg.refl _ _ | refine Chg.alloc ?_ _ | refine Chg.drew ?_ | refine Chg.drewN ?_ _ | refine Chg.setCell ?_ (.inr (by simp)) _))⟩
end Go.Proofs.YtackdgbcmeafhaaGreat

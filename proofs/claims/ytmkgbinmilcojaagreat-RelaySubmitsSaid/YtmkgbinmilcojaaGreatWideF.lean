/- Package wide: Left, Right, as numbers. Printed by shifts2.py. -/
import Derived.Test.YtmkgbinmilcojaaGreatWideCD
import Derived.Test.YtmkgbinmilcojaaGreatWideAB
namespace Go.Proofs.YtmkgbinmilcojaaGreat
open Go.RowKit Go.Maps Go.Shelf

theorem wd0 : Wd 0 := ⟨by omega, by omega⟩
theorem n4_mul (a b c d P : Int) : n4 a b c d * P = a * P + 18446744073709551616 * (b * P) + 340282366920938463463374607431768211456 * (c * P) + 6277101735386680763835789423207666416102355444464034512896 * (d * P) := by
  unfold n4; simp only [Int.add_mul, Int.mul_assoc]

theorem left_0 (N n : Nat) (hN : N < TOP) (hn0 : 0 ≤ n) (hn1 : n < 64) (w : World) :
    Calls Tryz.prog 89 #[wv N, .int .i64 n] w fun e w' => e = .returned (wv (N * 2 ^ n % TOP)) ∧ Chg [] w w' := by
  obtain ⟨a0, a1, a2, a3, ha0, ha1, ha2, ha3, hNe, hwv⟩ := words N hN
  rw [hwv]
  by_cases hr : (n : Int) % 64 = 0
  · have h := WideC_0z a0 a1 a2 a3 n w ha0 ha1 ha2 ha3 (by omega) (by omega) hr (by omega)
    refine h.mono fun e w' ⟨he, hc⟩ => ⟨?_, hc⟩
    rw [he]
    obtain rfl : n = 0 := by omega
    refine congrArg Ending.returned (wv_of ha0 ha1 ha2 ha3 ?_)
    rw [Int.natCast_emod]
    refine emod_top (n4_lt ha0 ha1 ha2 ha3).1 (n4_lt ha0 ha1 ha2 ha3).2 (D := 0) ?_
    rw [Int.natCast_mul, hNe, show (((2 : Nat) ^ 0 : Nat) : Int) = 1 from rfl]
    unfold n4 TOP; omega
  · obtain ⟨r, hr'⟩ : ∃ r, r = (n : Int) % 64 := ⟨_, rfl⟩
    have hr0 : 0 < r := by omega
    have hr1 : r < 64 := by omega
    have h := WideC_0r a0 a1 a2 a3 n r w ha0 ha1 ha2 ha3 (by omega) (by omega) hr0 hr1 hr'.symm (by omega)
    obtain ⟨u0, h0, A0, A1, A2, A3, A4, A5, A6, A7⟩ := lw1 ha0 hr0 hr1
    obtain ⟨u1, h1, B0, B1, B2, B3, B4, B5, B6, B7⟩ := lw1 ha1 hr0 hr1
    obtain ⟨u2, h2, C0, C1, C2, C3, C4, C5, C6, C7⟩ := lw1 ha2 hr0 hr1
    obtain ⟨u3, h3, D0, D1, D2, D3, D4, D5, D6, D7⟩ := lw1 ha3 hr0 hr1
    rw [A5, B5, A6, B7 h0 A2 A3, C5, B6, C7 h1 B2 B3, D5, C6, D7 h2 C2 C3] at h
    refine h.mono fun e w' ⟨he, hc⟩ => ⟨?_, hc⟩
    rw [he]
    have hp := p_pos r.toNat
    have s0 : Wd u0 := ⟨A0, by omega⟩
    have s1 : Wd (u1 + h0) := ⟨by omega, by omega⟩
    have s2 : Wd (u2 + h1) := ⟨by omega, by omega⟩
    have s3 : Wd (u3 + h2) := ⟨by omega, by omega⟩
    refine congrArg Ending.returned (wv_of s0 s1 s2 s3 ?_)
    rw [Int.natCast_emod]
    refine emod_top (n4_lt s0 s1 s2 s3).1 (n4_lt s0 s1 s2 s3).2 (D := 0 + 0 + 0 + 0 + 1 * h3 + 0 + 0 + 0 + 0) ?_
    have e2 : (((2 : Nat) ^ n : Nat) : Int) = 2 ^ r.toNat * 1 := by
      rw [show n = r.toNat + 0 by omega, Nat.pow_add, Int.natCast_mul]
      simp
    rw [Int.natCast_mul, hNe, e2, ← Int.mul_assoc, n4_mul, A4, B4, C4, D4]
    unfold n4 TOP; omega

theorem right_0 (N n : Nat) (hN : N < TOP) (hn0 : 0 ≤ n) (hn1 : n < 64) (w : World) :
    Calls Tryz.prog 113 #[wv N, .int .i64 n] w fun e w' => e = .returned (wv (N / 2 ^ n)) ∧ Chg [] w w' := by
  obtain ⟨a0, a1, a2, a3, ha0, ha1, ha2, ha3, hNe, hwv⟩ := words N hN
  rw [hwv]
  by_cases hr : (n : Int) % 64 = 0
  · have h := WideD_0z a0 a1 a2 a3 n w ha0 ha1 ha2 ha3 (by omega) (by omega) hr (by omega)
    refine h.mono fun e w' ⟨he, hc⟩ => ⟨?_, hc⟩
    rw [he]
    obtain rfl : n = 0 := by omega
    refine congrArg Ending.returned (wv_of ha0 ha1 ha2 ha3 ?_)
    rw [Int.natCast_ediv, hNe, show (((2 : Nat) ^ 0 : Nat) : Int) = 1 from rfl]
    obtain ⟨x0, y0⟩ := ha0
    obtain ⟨x1, y1⟩ := ha1
    obtain ⟨x2, y2⟩ := ha2
    obtain ⟨x3, y3⟩ := ha3
    unfold n4; omega
  · obtain ⟨r, hr'⟩ : ∃ r, r = (n : Int) % 64 := ⟨_, rfl⟩
    have hr0 : 0 < r := by omega
    have hr1 : r < 64 := by omega
    have h := WideD_0r a0 a1 a2 a3 n r w ha0 ha1 ha2 ha3 (by omega) (by omega) hr0 hr1 hr'.symm (by omega)
    obtain ⟨u0, h0, A0, A1, A2, A3, A4, A5, A6, A7⟩ := rw1 ha0 hr0 hr1
    obtain ⟨u1, h1, B0, B1, B2, B3, B4, B5, B6, B7⟩ := rw1 ha1 hr0 hr1
    obtain ⟨u2, h2, C0, C1, C2, C3, C4, C5, C6, C7⟩ := rw1 ha2 hr0 hr1
    obtain ⟨u3, h3, D0, D1, D2, D3, D4, D5, D6, D7⟩ := rw1 ha3 hr0 hr1
    have hp := p_pos r.toNat
    have hq := p_pos (64 - r).toNat
    have hpq : (2 : Int) ^ r.toNat * 2 ^ (64 - r).toNat = 18446744073709551616 := by
      rw [show (64 - r).toNat = 64 - r.toNat by omega]; exact pq (by omega)
    have o0 := (or_disj (R := (64 - r).toNat) B0 A1 A5 (by omega) (by omega)).2
    have o1 := (or_disj (R := (64 - r).toNat) C0 B1 B5 (by omega) (by omega)).2
    have o2 := (or_disj (R := (64 - r).toNat) D0 C1 C5 (by omega) (by omega)).2
    rw [A4, B6, o0, B4, C6, o1, C4, D6, o2, D4] at h
    refine h.mono fun e w' ⟨he, hc⟩ => ⟨?_, hc⟩
    rw [he]
    have v1 := Int.mul_nonneg (Int.le_of_lt hq) B0
    have v2 := Int.mul_nonneg (Int.le_of_lt hq) C0
    have v3 := Int.mul_nonneg (Int.le_of_lt hq) D0
    have s0 : Wd (2 ^ (64 - r).toNat * u1 + h0) := ⟨by omega, by omega⟩
    have s1 : Wd (2 ^ (64 - r).toNat * u2 + h1) := ⟨by omega, by omega⟩
    have s2 : Wd (2 ^ (64 - r).toNat * u3 + h2) := ⟨by omega, by omega⟩
    have s3 : Wd h3 := ⟨D1, by omega⟩
    refine congrArg Ending.returned (wv_of s0 s1 s2 s3 ?_)
    have e2 : (((2 : Nat) ^ n : Nat) : Int) = 2 ^ r.toNat * 1 := by
      rw [show n = r.toNat + 0 by omega, Nat.pow_add, Int.natCast_mul]
      simp
    rw [Int.natCast_ediv, hNe, e2]
    generalize (2 : Int) ^ r.toNat = P at *
    generalize (2 : Int) ^ (64 - r).toNat = Q at *
    have f1 : P * (Q * u1) = 18446744073709551616 * u1 := by rw [← Int.mul_assoc, hpq]
    have f2 : P * (Q * u2) = 18446744073709551616 * u2 := by rw [← Int.mul_assoc, hpq]
    have f3 : P * (Q * u3) = 18446744073709551616 * u3 := by rw [← Int.mul_assoc, hpq]
    have key : n4 a0 a1 a2 a3 = P * 1 * n4 (Q * u1 + h0) (Q * u2 + h1) (Q * u3 + h2) h3 + (n4 a0 a1 a2 a3 % 1 + 1 * u0) := by
      rw [Int.mul_comm P, Int.mul_assoc, Int.mul_comm P, n4_mul]
      have g0 : (Q * u1 + h0) * P = 18446744073709551616 * u1 + P * h0 := by rw [Int.add_mul, Int.mul_comm h0, Int.mul_comm (Q * u1), f1]
      have g1 : (Q * u2 + h1) * P = 18446744073709551616 * u2 + P * h1 := by rw [Int.add_mul, Int.mul_comm h1, Int.mul_comm (Q * u2), f2]
      have g2 : (Q * u3 + h2) * P = 18446744073709551616 * u3 + P * h2 := by rw [Int.add_mul, Int.mul_comm h2, Int.mul_comm (Q * u3), f3]
      have g3 : h3 * P = P * h3 := Int.mul_comm _ _
      simp only [g0, g1, g2, g3]
      unfold n4
      have z0 := ha0.1; have z1 := ha0.2; have z2 := ha1.1; have z3 := ha1.2; have z4 := ha2.1; have z5 := ha2.2; have z6 := ha3.1; have z7 := ha3.2
      omega
    have rest : n4 a0 a1 a2 a3 % 1 + 1 * u0 < P * 1 := by
      have := Int.emod_lt_of_pos (n4 a0 a1 a2 a3) (show (0 : Int) < 1 by decide)
      omega
    have rest0 : 0 ≤ n4 a0 a1 a2 a3 % 1 + 1 * u0 := by
      have := Int.emod_nonneg (n4 a0 a1 a2 a3) (show (1 : Int) ≠ 0 by decide)
      omega
    generalize n4 a0 a1 a2 a3 % 1 + 1 * u0 = t at *
    rw [key, Int.add_comm, Int.add_mul_ediv_left _ _ (by omega), Int.ediv_eq_zero_of_lt rest0 rest, Int.zero_add]

theorem left_1 (N n : Nat) (hN : N < TOP) (hn0 : 64 ≤ n) (hn1 : n < 128) (w : World) :
    Calls Tryz.prog 89 #[wv N, .int .i64 n] w fun e w' => e = .returned (wv (N * 2 ^ n % TOP)) ∧ Chg [] w w' := by
  obtain ⟨a0, a1, a2, a3, ha0, ha1, ha2, ha3, hNe, hwv⟩ := words N hN
  rw [hwv]
  by_cases hr : (n : Int) % 64 = 0
  · have h := WideC_1z a0 a1 a2 a3 n w ha0 ha1 ha2 ha3 (by omega) (by omega) hr (by omega)
    refine h.mono fun e w' ⟨he, hc⟩ => ⟨?_, hc⟩
    rw [he]
    obtain rfl : n = 64 := by omega
    refine congrArg Ending.returned (wv_of wd0 ha0 ha1 ha2 ?_)
    rw [Int.natCast_emod]
    refine emod_top (n4_lt wd0 ha0 ha1 ha2).1 (n4_lt wd0 ha0 ha1 ha2).2 (D := 0 + 1 * a3) ?_
    rw [Int.natCast_mul, hNe, show (((2 : Nat) ^ 64 : Nat) : Int) = 18446744073709551616 from rfl]
    unfold n4 TOP; omega
  · obtain ⟨r, hr'⟩ : ∃ r, r = (n : Int) % 64 := ⟨_, rfl⟩
    have hr0 : 0 < r := by omega
    have hr1 : r < 64 := by omega
    have h := WideC_1r a0 a1 a2 a3 n r w ha0 ha1 ha2 ha3 (by omega) (by omega) hr0 hr1 hr'.symm (by omega)
    obtain ⟨u0, h0, A0, A1, A2, A3, A4, A5, A6, A7⟩ := lw1 ha0 hr0 hr1
    obtain ⟨u1, h1, B0, B1, B2, B3, B4, B5, B6, B7⟩ := lw1 ha1 hr0 hr1
    obtain ⟨u2, h2, C0, C1, C2, C3, C4, C5, C6, C7⟩ := lw1 ha2 hr0 hr1
    obtain ⟨u3, h3, D0, D1, D2, D3, D4, D5, D6, D7⟩ := lw1 ha3 hr0 hr1
    rw [A5, B5, A6, B7 h0 A2 A3, C5, B6, C7 h1 B2 B3] at h
    refine h.mono fun e w' ⟨he, hc⟩ => ⟨?_, hc⟩
    rw [he]
    have hp := p_pos r.toNat
    have s0 : Wd u0 := ⟨A0, by omega⟩
    have s1 : Wd (u1 + h0) := ⟨by omega, by omega⟩
    have s2 : Wd (u2 + h1) := ⟨by omega, by omega⟩
    have s3 : Wd (u3 + h2) := ⟨by omega, by omega⟩
    refine congrArg Ending.returned (wv_of wd0 s0 s1 s2 ?_)
    rw [Int.natCast_emod]
    refine emod_top (n4_lt wd0 s0 s1 s2).1 (n4_lt wd0 s0 s1 s2).2 (D := 0 + 0 + 0 + 1 * h2 + 18446744073709551616 * h3 + 0 + 0 + 0 + 1 * u3) ?_
    have e2 : (((2 : Nat) ^ n : Nat) : Int) = 2 ^ r.toNat * 18446744073709551616 := by
      rw [show n = r.toNat + 64 by omega, Nat.pow_add, Int.natCast_mul]
      simp
    rw [Int.natCast_mul, hNe, e2, ← Int.mul_assoc, n4_mul, A4, B4, C4, D4]
    unfold n4 TOP; omega

theorem right_1 (N n : Nat) (hN : N < TOP) (hn0 : 64 ≤ n) (hn1 : n < 128) (w : World) :
    Calls Tryz.prog 113 #[wv N, .int .i64 n] w fun e w' => e = .returned (wv (N / 2 ^ n)) ∧ Chg [] w w' := by
  obtain ⟨a0, a1, a2, a3, ha0, ha1, ha2, ha3, hNe, hwv⟩ := words N hN
  rw [hwv]
  by_cases hr : (n : Int) % 64 = 0
  · have h := WideD_1z a0 a1 a2 a3 n w ha0 ha1 ha2 ha3 (by omega) (by omega) hr (by omega)
    refine h.mono fun e w' ⟨he, hc⟩ => ⟨?_, hc⟩
    rw [he]
    obtain rfl : n = 64 := by omega
    refine congrArg Ending.returned (wv_of ha1 ha2 ha3 wd0 ?_)
    rw [Int.natCast_ediv, hNe, show (((2 : Nat) ^ 64 : Nat) : Int) = 18446744073709551616 from rfl]
    obtain ⟨x0, y0⟩ := ha0
    obtain ⟨x1, y1⟩ := ha1
    obtain ⟨x2, y2⟩ := ha2
    obtain ⟨x3, y3⟩ := ha3
    unfold n4; omega
  · obtain ⟨r, hr'⟩ : ∃ r, r = (n : Int) % 64 := ⟨_, rfl⟩
    have hr0 : 0 < r := by omega
    have hr1 : r < 64 := by omega
    have h := WideD_1r a0 a1 a2 a3 n r w ha0 ha1 ha2 ha3 (by omega) (by omega) hr0 hr1 hr'.symm (by omega)
    obtain ⟨u0, h0, A0, A1, A2, A3, A4, A5, A6, A7⟩ := rw1 ha0 hr0 hr1
    obtain ⟨u1, h1, B0, B1, B2, B3, B4, B5, B6, B7⟩ := rw1 ha1 hr0 hr1
    obtain ⟨u2, h2, C0, C1, C2, C3, C4, C5, C6, C7⟩ := rw1 ha2 hr0 hr1
    obtain ⟨u3, h3, D0, D1, D2, D3, D4, D5, D6, D7⟩ := rw1 ha3 hr0 hr1
    have hp := p_pos r.toNat
    have hq := p_pos (64 - r).toNat
    have hpq : (2 : Int) ^ r.toNat * 2 ^ (64 - r).toNat = 18446744073709551616 := by
      rw [show (64 - r).toNat = 64 - r.toNat by omega]; exact pq (by omega)
    have o0 := (or_disj (R := (64 - r).toNat) B0 A1 A5 (by omega) (by omega)).2
    have o1 := (or_disj (R := (64 - r).toNat) C0 B1 B5 (by omega) (by omega)).2
    have o2 := (or_disj (R := (64 - r).toNat) D0 C1 C5 (by omega) (by omega)).2
    rw [B4, C6, o1, C4, D6, o2, D4] at h
    refine h.mono fun e w' ⟨he, hc⟩ => ⟨?_, hc⟩
    rw [he]
    have v1 := Int.mul_nonneg (Int.le_of_lt hq) B0
    have v2 := Int.mul_nonneg (Int.le_of_lt hq) C0
    have v3 := Int.mul_nonneg (Int.le_of_lt hq) D0
    have s0 : Wd (2 ^ (64 - r).toNat * u1 + h0) := ⟨by omega, by omega⟩
    have s1 : Wd (2 ^ (64 - r).toNat * u2 + h1) := ⟨by omega, by omega⟩
    have s2 : Wd (2 ^ (64 - r).toNat * u3 + h2) := ⟨by omega, by omega⟩
    have s3 : Wd h3 := ⟨D1, by omega⟩
    refine congrArg Ending.returned (wv_of s1 s2 s3 wd0 ?_)
    have e2 : (((2 : Nat) ^ n : Nat) : Int) = 2 ^ r.toNat * 18446744073709551616 := by
      rw [show n = r.toNat + 64 by omega, Nat.pow_add, Int.natCast_mul]
      simp
    rw [Int.natCast_ediv, hNe, e2]
    generalize (2 : Int) ^ r.toNat = P at *
    generalize (2 : Int) ^ (64 - r).toNat = Q at *
    have f1 : P * (Q * u1) = 18446744073709551616 * u1 := by rw [← Int.mul_assoc, hpq]
    have f2 : P * (Q * u2) = 18446744073709551616 * u2 := by rw [← Int.mul_assoc, hpq]
    have f3 : P * (Q * u3) = 18446744073709551616 * u3 := by rw [← Int.mul_assoc, hpq]
    have key : n4 a0 a1 a2 a3 = P * 18446744073709551616 * n4 (Q * u2 + h1) (Q * u3 + h2) h3 0 + (n4 a0 a1 a2 a3 % 18446744073709551616 + 18446744073709551616 * u1) := by
      rw [Int.mul_comm P, Int.mul_assoc, Int.mul_comm P, n4_mul]
      have g0 : (Q * u1 + h0) * P = 18446744073709551616 * u1 + P * h0 := by rw [Int.add_mul, Int.mul_comm h0, Int.mul_comm (Q * u1), f1]
      have g1 : (Q * u2 + h1) * P = 18446744073709551616 * u2 + P * h1 := by rw [Int.add_mul, Int.mul_comm h1, Int.mul_comm (Q * u2), f2]
      have g2 : (Q * u3 + h2) * P = 18446744073709551616 * u3 + P * h2 := by rw [Int.add_mul, Int.mul_comm h2, Int.mul_comm (Q * u3), f3]
      have g3 : h3 * P = P * h3 := Int.mul_comm _ _
      simp only [g1, g2, g3, Int.zero_mul]
      unfold n4
      have z0 := ha0.1; have z1 := ha0.2; have z2 := ha1.1; have z3 := ha1.2; have z4 := ha2.1; have z5 := ha2.2; have z6 := ha3.1; have z7 := ha3.2
      omega
    have rest : n4 a0 a1 a2 a3 % 18446744073709551616 + 18446744073709551616 * u1 < P * 18446744073709551616 := by
      have := Int.emod_lt_of_pos (n4 a0 a1 a2 a3) (show (0 : Int) < 18446744073709551616 by decide)
      omega
    have rest0 : 0 ≤ n4 a0 a1 a2 a3 % 18446744073709551616 + 18446744073709551616 * u1 := by
      have := Int.emod_nonneg (n4 a0 a1 a2 a3) (show (18446744073709551616 : Int) ≠ 0 by decide)
      omega
    generalize n4 a0 a1 a2 a3 % 18446744073709551616 + 18446744073709551616 * u1 = t at *
    rw [key, Int.add_comm, Int.add_mul_ediv_left _ _ (by omega), Int.ediv_eq_zero_of_lt rest0 rest, Int.zero_add]

theorem left_2 (N n : Nat) (hN : N < TOP) (hn0 : 128 ≤ n) (hn1 : n < 192) (w : World) :
    Calls Tryz.prog 89 #[wv N, .int .i64 n] w fun e w' => e = .returned (wv (N * 2 ^ n % TOP)) ∧ Chg [] w w' := by
  obtain ⟨a0, a1, a2, a3, ha0, ha1, ha2, ha3, hNe, hwv⟩ := words N hN
  rw [hwv]
  by_cases hr : (n : Int) % 64 = 0
  · have h := WideC_2z a0 a1 a2 a3 n w ha0 ha1 ha2 ha3 (by omega) (by omega) hr (by omega)
    refine h.mono fun e w' ⟨he, hc⟩ => ⟨?_, hc⟩
    rw [he]
    obtain rfl : n = 128 := by omega
    refine congrArg Ending.returned (wv_of wd0 wd0 ha0 ha1 ?_)
    rw [Int.natCast_emod]
    refine emod_top (n4_lt wd0 wd0 ha0 ha1).1 (n4_lt wd0 wd0 ha0 ha1).2 (D := 0 + 1 * a2 + 18446744073709551616 * a3) ?_
    rw [Int.natCast_mul, hNe, show (((2 : Nat) ^ 128 : Nat) : Int) = 340282366920938463463374607431768211456 from rfl]
    unfold n4 TOP; omega
  · obtain ⟨r, hr'⟩ : ∃ r, r = (n : Int) % 64 := ⟨_, rfl⟩
    have hr0 : 0 < r := by omega
    have hr1 : r < 64 := by omega
    have h := WideC_2r a0 a1 a2 a3 n r w ha0 ha1 ha2 ha3 (by omega) (by omega) hr0 hr1 hr'.symm (by omega)
    obtain ⟨u0, h0, A0, A1, A2, A3, A4, A5, A6, A7⟩ := lw1 ha0 hr0 hr1
    obtain ⟨u1, h1, B0, B1, B2, B3, B4, B5, B6, B7⟩ := lw1 ha1 hr0 hr1
    obtain ⟨u2, h2, C0, C1, C2, C3, C4, C5, C6, C7⟩ := lw1 ha2 hr0 hr1
    obtain ⟨u3, h3, D0, D1, D2, D3, D4, D5, D6, D7⟩ := lw1 ha3 hr0 hr1
    rw [A5, B5, A6, B7 h0 A2 A3] at h
    refine h.mono fun e w' ⟨he, hc⟩ => ⟨?_, hc⟩
    rw [he]
    have hp := p_pos r.toNat
    have s0 : Wd u0 := ⟨A0, by omega⟩
    have s1 : Wd (u1 + h0) := ⟨by omega, by omega⟩
    have s2 : Wd (u2 + h1) := ⟨by omega, by omega⟩
    have s3 : Wd (u3 + h2) := ⟨by omega, by omega⟩
    refine congrArg Ending.returned (wv_of wd0 wd0 s0 s1 ?_)
    rw [Int.natCast_emod]
    refine emod_top (n4_lt wd0 wd0 s0 s1).1 (n4_lt wd0 wd0 s0 s1).2 (D := 0 + 0 + 1 * h1 + 18446744073709551616 * h2 + 340282366920938463463374607431768211456 * h3 + 0 + 0 + 1 * u2 + 18446744073709551616 * u3) ?_
    have e2 : (((2 : Nat) ^ n : Nat) : Int) = 2 ^ r.toNat * 340282366920938463463374607431768211456 := by
      rw [show n = r.toNat + 128 by omega, Nat.pow_add, Int.natCast_mul]
      simp
    rw [Int.natCast_mul, hNe, e2, ← Int.mul_assoc, n4_mul, A4, B4, C4, D4]
    unfold n4 TOP; omega

theorem right_2 (N n : Nat) (hN : N < TOP) (hn0 : 128 ≤ n) (hn1 : n < 192) (w : World) :
    Calls Tryz.prog 113 #[wv N, .int .i64 n] w fun e w' => e = .returned (wv (N / 2 ^ n)) ∧ Chg [] w w' := by
  obtain ⟨a0, a1, a2, a3, ha0, ha1, ha2, ha3, hNe, hwv⟩ := words N hN
  rw [hwv]
  by_cases hr : (n : Int) % 64 = 0
  · have h := WideD_2z a0 a1 a2 a3 n w ha0 ha1 ha2 ha3 (by omega) (by omega) hr (by omega)
    refine h.mono fun e w' ⟨he, hc⟩ => ⟨?_, hc⟩
    rw [he]
    obtain rfl : n = 128 := by omega
    refine congrArg Ending.returned (wv_of ha2 ha3 wd0 wd0 ?_)
    rw [Int.natCast_ediv, hNe, show (((2 : Nat) ^ 128 : Nat) : Int) = 340282366920938463463374607431768211456 from rfl]
    obtain ⟨x0, y0⟩ := ha0
    obtain ⟨x1, y1⟩ := ha1
    obtain ⟨x2, y2⟩ := ha2
    obtain ⟨x3, y3⟩ := ha3
    unfold n4; omega
  · obtain ⟨r, hr'⟩ : ∃ r, r = (n : Int) % 64 := ⟨_, rfl⟩
    have hr0 : 0 < r := by omega
    have hr1 : r < 64 := by omega
    have h := WideD_2r a0 a1 a2 a3 n r w ha0 ha1 ha2 ha3 (by omega) (by omega) hr0 hr1 hr'.symm (by omega)
    obtain ⟨u0, h0, A0, A1, A2, A3, A4, A5, A6, A7⟩ := rw1 ha0 hr0 hr1
    obtain ⟨u1, h1, B0, B1, B2, B3, B4, B5, B6, B7⟩ := rw1 ha1 hr0 hr1
    obtain ⟨u2, h2, C0, C1, C2, C3, C4, C5, C6, C7⟩ := rw1 ha2 hr0 hr1
    obtain ⟨u3, h3, D0, D1, D2, D3, D4, D5, D6, D7⟩ := rw1 ha3 hr0 hr1
    have hp := p_pos r.toNat
    have hq := p_pos (64 - r).toNat
    have hpq : (2 : Int) ^ r.toNat * 2 ^ (64 - r).toNat = 18446744073709551616 := by
      rw [show (64 - r).toNat = 64 - r.toNat by omega]; exact pq (by omega)
    have o0 := (or_disj (R := (64 - r).toNat) B0 A1 A5 (by omega) (by omega)).2
    have o1 := (or_disj (R := (64 - r).toNat) C0 B1 B5 (by omega) (by omega)).2
    have o2 := (or_disj (R := (64 - r).toNat) D0 C1 C5 (by omega) (by omega)).2
    rw [C4, D6, o2, D4] at h
    refine h.mono fun e w' ⟨he, hc⟩ => ⟨?_, hc⟩
    rw [he]
    have v1 := Int.mul_nonneg (Int.le_of_lt hq) B0
    have v2 := Int.mul_nonneg (Int.le_of_lt hq) C0
    have v3 := Int.mul_nonneg (Int.le_of_lt hq) D0
    have s0 : Wd (2 ^ (64 - r).toNat * u1 + h0) := ⟨by omega, by omega⟩
    have s1 : Wd (2 ^ (64 - r).toNat * u2 + h1) := ⟨by omega, by omega⟩
    have s2 : Wd (2 ^ (64 - r).toNat * u3 + h2) := ⟨by omega, by omega⟩
    have s3 : Wd h3 := ⟨D1, by omega⟩
    refine congrArg Ending.returned (wv_of s2 s3 wd0 wd0 ?_)
    have e2 : (((2 : Nat) ^ n : Nat) : Int) = 2 ^ r.toNat * 340282366920938463463374607431768211456 := by
      rw [show n = r.toNat + 128 by omega, Nat.pow_add, Int.natCast_mul]
      simp
    rw [Int.natCast_ediv, hNe, e2]
    generalize (2 : Int) ^ r.toNat = P at *
    generalize (2 : Int) ^ (64 - r).toNat = Q at *
    have f1 : P * (Q * u1) = 18446744073709551616 * u1 := by rw [← Int.mul_assoc, hpq]
    have f2 : P * (Q * u2) = 18446744073709551616 * u2 := by rw [← Int.mul_assoc, hpq]
    have f3 : P * (Q * u3) = 18446744073709551616 * u3 := by rw [← Int.mul_assoc, hpq]
    have key : n4 a0 a1 a2 a3 = P * 340282366920938463463374607431768211456 * n4 (Q * u3 + h2) h3 0 0 + (n4 a0 a1 a2 a3 % 340282366920938463463374607431768211456 + 340282366920938463463374607431768211456 * u2) := by
      rw [Int.mul_comm P, Int.mul_assoc, Int.mul_comm P, n4_mul]
      have g0 : (Q * u1 + h0) * P = 18446744073709551616 * u1 + P * h0 := by rw [Int.add_mul, Int.mul_comm h0, Int.mul_comm (Q * u1), f1]
      have g1 : (Q * u2 + h1) * P = 18446744073709551616 * u2 + P * h1 := by rw [Int.add_mul, Int.mul_comm h1, Int.mul_comm (Q * u2), f2]
      have g2 : (Q * u3 + h2) * P = 18446744073709551616 * u3 + P * h2 := by rw [Int.add_mul, Int.mul_comm h2, Int.mul_comm (Q * u3), f3]
      have g3 : h3 * P = P * h3 := Int.mul_comm _ _
      simp only [g2, g3, Int.zero_mul]
      unfold n4
      have z0 := ha0.1; have z1 := ha0.2; have z2 := ha1.1; have z3 := ha1.2; have z4 := ha2.1; have z5 := ha2.2; have z6 := ha3.1; have z7 := ha3.2
      omega
    have rest : n4 a0 a1 a2 a3 % 340282366920938463463374607431768211456 + 340282366920938463463374607431768211456 * u2 < P * 340282366920938463463374607431768211456 := by
      have := Int.emod_lt_of_pos (n4 a0 a1 a2 a3) (show (0 : Int) < 340282366920938463463374607431768211456 by decide)
      omega
    have rest0 : 0 ≤ n4 a0 a1 a2 a3 % 340282366920938463463374607431768211456 + 340282366920938463463374607431768211456 * u2 := by
      have := Int.emod_nonneg (n4 a0 a1 a2 a3) (show (340282366920938463463374607431768211456 : Int) ≠ 0 by decide)
      omega
    generalize n4 a0 a1 a2 a3 % 340282366920938463463374607431768211456 + 340282366920938463463374607431768211456 * u2 = t at *
    rw [key, Int.add_comm, Int.add_mul_ediv_left _ _ (by omega), Int.ediv_eq_zero_of_lt rest0 rest, Int.zero_add]

theorem left_3 (N n : Nat) (hN : N < TOP) (hn0 : 192 ≤ n) (hn1 : n < 256) (w : World) :
    Calls Tryz.prog 89 #[wv N, .int .i64 n] w fun e w' => e = .returned (wv (N * 2 ^ n % TOP)) ∧ Chg [] w w' := by
  obtain ⟨a0, a1, a2, a3, ha0, ha1, ha2, ha3, hNe, hwv⟩ := words N hN
  rw [hwv]
  by_cases hr : (n : Int) % 64 = 0
  · have h := WideC_3z a0 a1 a2 a3 n w ha0 ha1 ha2 ha3 (by omega) (by omega) hr (by omega)
    refine h.mono fun e w' ⟨he, hc⟩ => ⟨?_, hc⟩
    rw [he]
    obtain rfl : n = 192 := by omega
    refine congrArg Ending.returned (wv_of wd0 wd0 wd0 ha0 ?_)
    rw [Int.natCast_emod]
    refine emod_top (n4_lt wd0 wd0 wd0 ha0).1 (n4_lt wd0 wd0 wd0 ha0).2 (D := 0 + 1 * a1 + 18446744073709551616 * a2 + 340282366920938463463374607431768211456 * a3) ?_
    rw [Int.natCast_mul, hNe, show (((2 : Nat) ^ 192 : Nat) : Int) = 6277101735386680763835789423207666416102355444464034512896 from rfl]
    unfold n4 TOP; omega
  · obtain ⟨r, hr'⟩ : ∃ r, r = (n : Int) % 64 := ⟨_, rfl⟩
    have hr0 : 0 < r := by omega
    have hr1 : r < 64 := by omega
    have h := WideC_3r a0 a1 a2 a3 n r w ha0 ha1 ha2 ha3 (by omega) (by omega) hr0 hr1 hr'.symm (by omega)
    obtain ⟨u0, h0, A0, A1, A2, A3, A4, A5, A6, A7⟩ := lw1 ha0 hr0 hr1
    obtain ⟨u1, h1, B0, B1, B2, B3, B4, B5, B6, B7⟩ := lw1 ha1 hr0 hr1
    obtain ⟨u2, h2, C0, C1, C2, C3, C4, C5, C6, C7⟩ := lw1 ha2 hr0 hr1
    obtain ⟨u3, h3, D0, D1, D2, D3, D4, D5, D6, D7⟩ := lw1 ha3 hr0 hr1
    rw [A5] at h
    refine h.mono fun e w' ⟨he, hc⟩ => ⟨?_, hc⟩
    rw [he]
    have hp := p_pos r.toNat
    have s0 : Wd u0 := ⟨A0, by omega⟩
    have s1 : Wd (u1 + h0) := ⟨by omega, by omega⟩
    have s2 : Wd (u2 + h1) := ⟨by omega, by omega⟩
    have s3 : Wd (u3 + h2) := ⟨by omega, by omega⟩
    refine congrArg Ending.returned (wv_of wd0 wd0 wd0 s0 ?_)
    rw [Int.natCast_emod]
    refine emod_top (n4_lt wd0 wd0 wd0 s0).1 (n4_lt wd0 wd0 wd0 s0).2 (D := 0 + 1 * h0 + 18446744073709551616 * h1 + 340282366920938463463374607431768211456 * h2 + 6277101735386680763835789423207666416102355444464034512896 * h3 + 0 + 1 * u1 + 18446744073709551616 * u2 + 340282366920938463463374607431768211456 * u3) ?_
    have e2 : (((2 : Nat) ^ n : Nat) : Int) = 2 ^ r.toNat * 6277101735386680763835789423207666416102355444464034512896 := by
      rw [show n = r.toNat + 192 by omega, Nat.pow_add, Int.natCast_mul]
      simp
    rw [Int.natCast_mul, hNe, e2, ← Int.mul_assoc, n4_mul, A4, B4, C4, D4]
    unfold n4 TOP; omega

theorem right_3 (N n : Nat) (hN : N < TOP) (hn0 : 192 ≤ n) (hn1 : n < 256) (w : World) :
    Calls Tryz.prog 113 #[wv N, .int .i64 n] w fun e w' => e = .returned (wv (N / 2 ^ n)) ∧ Chg [] w w' := by
  obtain ⟨a0, a1, a2, a3, ha0, ha1, ha2, ha3, hNe, hwv⟩ := words N hN
  rw [hwv]
  by_cases hr : (n : Int) % 64 = 0
  · have h := WideD_3z a0 a1 a2 a3 n w ha0 ha1 ha2 ha3 (by omega) (by omega) hr (by omega)
    refine h.mono fun e w' ⟨he, hc⟩ => ⟨?_, hc⟩
    rw [he]
    obtain rfl : n = 192 := by omega
    refine congrArg Ending.returned (wv_of ha3 wd0 wd0 wd0 ?_)
    rw [Int.natCast_ediv, hNe, show (((2 : Nat) ^ 192 : Nat) : Int) = 6277101735386680763835789423207666416102355444464034512896 from rfl]
    obtain ⟨x0, y0⟩ := ha0
    obtain ⟨x1, y1⟩ := ha1
    obtain ⟨x2, y2⟩ := ha2
    obtain ⟨x3, y3⟩ := ha3
    unfold n4; omega
  · obtain ⟨r, hr'⟩ : ∃ r, r = (n : Int) % 64 := ⟨_, rfl⟩
    have hr0 : 0 < r := by omega
    have hr1 : r < 64 := by omega
    have h := WideD_3r a0 a1 a2 a3 n r w ha0 ha1 ha2 ha3 (by omega) (by omega) hr0 hr1 hr'.symm (by omega)
    obtain ⟨u0, h0, A0, A1, A2, A3, A4, A5, A6, A7⟩ := rw1 ha0 hr0 hr1
    obtain ⟨u1, h1, B0, B1, B2, B3, B4, B5, B6, B7⟩ := rw1 ha1 hr0 hr1
    obtain ⟨u2, h2, C0, C1, C2, C3, C4, C5, C6, C7⟩ := rw1 ha2 hr0 hr1
    obtain ⟨u3, h3, D0, D1, D2, D3, D4, D5, D6, D7⟩ := rw1 ha3 hr0 hr1
    have hp := p_pos r.toNat
    have hq := p_pos (64 - r).toNat
    have hpq : (2 : Int) ^ r.toNat * 2 ^ (64 - r).toNat = 18446744073709551616 := by
      rw [show (64 - r).toNat = 64 - r.toNat by omega]; exact pq (by omega)
    have o0 := (or_disj (R := (64 - r).toNat) B0 A1 A5 (by omega) (by omega)).2
    have o1 := (or_disj (R := (64 - r).toNat) C0 B1 B5 (by omega) (by omega)).2
    have o2 := (or_disj (R := (64 - r).toNat) D0 C1 C5 (by omega) (by omega)).2
    rw [D4] at h
    refine h.mono fun e w' ⟨he, hc⟩ => ⟨?_, hc⟩
    rw [he]
    have v1 := Int.mul_nonneg (Int.le_of_lt hq) B0
    have v2 := Int.mul_nonneg (Int.le_of_lt hq) C0
    have v3 := Int.mul_nonneg (Int.le_of_lt hq) D0
    have s0 : Wd (2 ^ (64 - r).toNat * u1 + h0) := ⟨by omega, by omega⟩
    have s1 : Wd (2 ^ (64 - r).toNat * u2 + h1) := ⟨by omega, by omega⟩
    have s2 : Wd (2 ^ (64 - r).toNat * u3 + h2) := ⟨by omega, by omega⟩
    have s3 : Wd h3 := ⟨D1, by omega⟩
    refine congrArg Ending.returned (wv_of s3 wd0 wd0 wd0 ?_)
    have e2 : (((2 : Nat) ^ n : Nat) : Int) = 2 ^ r.toNat * 6277101735386680763835789423207666416102355444464034512896 := by
      rw [show n = r.toNat + 192 by omega, Nat.pow_add, Int.natCast_mul]
      simp
    rw [Int.natCast_ediv, hNe, e2]
    generalize (2 : Int) ^ r.toNat = P at *
    generalize (2 : Int) ^ (64 - r).toNat = Q at *
    have f1 : P * (Q * u1) = 18446744073709551616 * u1 := by rw [← Int.mul_assoc, hpq]
    have f2 : P * (Q * u2) = 18446744073709551616 * u2 := by rw [← Int.mul_assoc, hpq]
    have f3 : P * (Q * u3) = 18446744073709551616 * u3 := by rw [← Int.mul_assoc, hpq]
    have key : n4 a0 a1 a2 a3 = P * 6277101735386680763835789423207666416102355444464034512896 * n4 h3 0 0 0 + (n4 a0 a1 a2 a3 % 6277101735386680763835789423207666416102355444464034512896 + 6277101735386680763835789423207666416102355444464034512896 * u3) := by
      rw [Int.mul_comm P, Int.mul_assoc, Int.mul_comm P, n4_mul]
      have g0 : (Q * u1 + h0) * P = 18446744073709551616 * u1 + P * h0 := by rw [Int.add_mul, Int.mul_comm h0, Int.mul_comm (Q * u1), f1]
      have g1 : (Q * u2 + h1) * P = 18446744073709551616 * u2 + P * h1 := by rw [Int.add_mul, Int.mul_comm h1, Int.mul_comm (Q * u2), f2]
      have g2 : (Q * u3 + h2) * P = 18446744073709551616 * u3 + P * h2 := by rw [Int.add_mul, Int.mul_comm h2, Int.mul_comm (Q * u3), f3]
      have g3 : h3 * P = P * h3 := Int.mul_comm _ _
      simp only [g3, Int.zero_mul]
      unfold n4
      have z0 := ha0.1; have z1 := ha0.2; have z2 := ha1.1; have z3 := ha1.2; have z4 := ha2.1; have z5 := ha2.2; have z6 := ha3.1; have z7 := ha3.2
      omega
    have rest : n4 a0 a1 a2 a3 % 6277101735386680763835789423207666416102355444464034512896 + 6277101735386680763835789423207666416102355444464034512896 * u3 < P * 6277101735386680763835789423207666416102355444464034512896 := by
      have := Int.emod_lt_of_pos (n4 a0 a1 a2 a3) (show (0 : Int) < 6277101735386680763835789423207666416102355444464034512896 by decide)
      omega
    have rest0 : 0 ≤ n4 a0 a1 a2 a3 % 6277101735386680763835789423207666416102355444464034512896 + 6277101735386680763835789423207666416102355444464034512896 * u3 := by
      have := Int.emod_nonneg (n4 a0 a1 a2 a3) (show (6277101735386680763835789423207666416102355444464034512896 : Int) ≠ 0 by decide)
      omega
    generalize n4 a0 a1 a2 a3 % 6277101735386680763835789423207666416102355444464034512896 + 6277101735386680763835789423207666416102355444464034512896 * u3 = t at *
    rw [key, Int.add_comm, Int.add_mul_ediv_left _ _ (by omega), Int.ediv_eq_zero_of_lt rest0 rest, Int.zero_add]

theorem wide_Left (N n : Nat) (hN : N < TOP) (hn : n < 256) (w : World) : Calls Tryz.prog 89 #[wv N, .int .i64 n] w fun e w' => e = .returned (wv (N * 2 ^ n % TOP)) ∧ Chg [] w w' := by
  by_cases h0 : n < 64
  · exact left_0 N n hN (by omega) h0 w
  · by_cases h1 : n < 128
    · exact left_1 N n hN (by omega) h1 w
    · by_cases h2 : n < 192
      · exact left_2 N n hN (by omega) h2 w
      · exact left_3 N n hN (by omega) hn w
theorem wide_Right (N n : Nat) (hN : N < TOP) (hn : n < 256) (w : World) : Calls Tryz.prog 113 #[wv N, .int .i64 n] w fun e w' => e = .returned (wv (N / 2 ^ n)) ∧ Chg [] w w' := by
  by_cases h0 : n < 64
  · exact right_0 N n hN (by omega) h0 w
  · by_cases h1 : n < 128
    · exact right_1 N n hN (by omega) h1 w
    · by_cases h2 : n < 192
      · exact right_2 N n hN (by omega) h2 w
      · exact right_3 N n hN (by omega) hn w
end Go.Proofs.YtmkgbinmilcojaaGreat

/- Plain facts for a round of wide.Div. Printed by divplain.py. -/
import Derived.Test.YtmkgbinmilcojaaGreatWideGH
namespace Go.Proofs.YtmkgbinmilcojaaGreat
open Go.RowKit Go.Maps Go.Shelf

theorem div_low {t : Int} (ht : Wd t) (he : t % 2 = 0) {β : Int} (h0 : 0 ≤ β) (h1 : β ≤ 1) : bits .or .u64 t β = t + β := by
  have h := (or_disj (q := t / 2) (y := β) (R := 1) (by have := ht.1; omega) h0 (by simp; omega) (by have := ht.2; simp; omega) (by omega)).1
  have e : (2 : Int) ^ 1 * (t / 2) = t := by simp; omega
  rwa [e] at h
theorem and1 {x : Int} (h0 : 0 ≤ x) (h1 : x < 18446744073709551616) : bits .and .u64 x 1 = x % 2 := by
  obtain ⟨X, rfl⟩ := Int.eq_ofNat_of_zero_le h0
  have := bits_and_u64_nat X 1 (by omega) (by omega)
  rw [Nat.and_one_is_mod] at this
  simpa using this
theorem and_bit {a : Int} (ha : Wd a) (s : Nat) : bits .and .u64 (a / 2 ^ s) 1 = ((a.toNat / 2 ^ s % 2 : Nat) : Int) := by
  obtain ⟨h0, h1⟩ := ha
  obtain ⟨X, rfl⟩ := Int.eq_ofNat_of_zero_le h0
  have e : (X : Int) / 2 ^ s = ((X / 2 ^ s : Nat) : Int) := by rw [Int.natCast_ediv]; simp
  have hl : X / 2 ^ s ≤ X := Nat.div_le_self _ _
  rw [e]
  rw [show ((X : Nat) : Int).toNat = X from rfl]
  generalize X / 2 ^ s = Y at hl ⊢
  rw [and1 (by omega) (by omega)]
  omega
/-- a word that is a multiple of 2^(s+1), and the bit s. -/
theorem or_bit {q z : Int} (hq : Wd q) {s : Nat} (hs : s < 64) (e : q = 2 ^ (s + 1) * z) : bits .or .u64 q (IntKind.u64.wrap (2 ^ s)) = q + 2 ^ s ∧ Wd (q + 2 ^ s) := by
  have hp := p_pos (s + 1)
  have hpq := pq (R := s + 1) (by omega)
  have h2 : (2 : Int) ^ (s + 1) = 2 * 2 ^ s := by rw [Int.pow_succ]; omega
  have hp0 := p_pos s
  have hqp := p_pos (64 - (s + 1))
  have hz0 : 0 ≤ z := by
    rcases Int.lt_or_le z 0 with h | h
    · have := Int.mul_neg_of_pos_of_neg hp h; have := hq.1; omega
    · exact h
  have hzq : z < 2 ^ (64 - (s + 1)) := by
    rcases Int.lt_or_le z (2 ^ (64 - (s + 1))) with h | h
    · exact h
    · have := Int.mul_le_mul_of_nonneg_left h (Int.le_of_lt hp); have := hq.2; omega
  have hm := mul_lt' hp hzq
  have hs2 : (2 : Int) ^ s < 18446744073709551616 := by
    have := Int.mul_le_mul_of_nonneg_left (show 1 ≤ (2 : Int) ^ (64 - (s + 1)) by omega) (Int.le_of_lt hp)
    omega
  have hw : IntKind.u64.wrap ((2 : Int) ^ s) = 2 ^ s := by rw [IntKind.wrap_u64, Int.emod_eq_of_lt (by omega) hs2]
  rw [hw]
  have h := (or_disj (q := z) (y := 2 ^ s) (R := s + 1) hz0 (by omega) (by omega) (by omega) (by omega)).1
  rw [← e] at h
  exact ⟨h, by have := hq.1; omega, by omega⟩

theorem hand_0 {a0 a1 a2 a3 : Int} (ha0 : Wd a0) (ha1 : Wd a1) (ha2 : Wd a2) (ha3 : Wd a3) {N : Nat} (hN : (N : Int) = n4 a0 a1 a2 a3) {s : Nat} (hs : s < 64) : bits .and .u64 (a0 / 2 ^ s) 1 = ((N / 2 ^ (64 * 0) / 2 ^ s % 2 : Nat) : Int) := by
  rw [and_bit ha0]
  have e : N / 2 ^ (64 * 0) = a0.toNat + 18446744073709551616 * (a1.toNat + 18446744073709551616 * a2.toNat + 340282366920938463463374607431768211456 * a3.toNat) := by
    rw [show (2 : Nat) ^ (64 * 0) = 1 from rfl]
    have := ha0.1; have := ha0.2; have := ha1.1; have := ha1.2; have := ha2.1; have := ha2.2; have := ha3.1; have := ha3.2
    unfold n4 at hN; omega
  rw [e, bit_word hs]

theorem qbit_0 {q0 q1 q2 q3 : Int} (hq0 : Wd q0) (hq1 : Wd q1) (hq2 : Wd q2) (hq3 : Wd q3) {A s j : Nat} (hs : s < 64) (hj : j = 64 * 0 + s) (e : n4 q0 q1 q2 q3 = ((A * 2 ^ (j + 1) : Nat) : Int)) :
    bits .or .u64 q0 (IntKind.u64.wrap (2 ^ s)) = q0 + 2 ^ s ∧ Wd (q0 + 2 ^ s) ∧ n4 (q0 + 2 ^ s) q1 q2 q3 = (((2 * A + 1) * 2 ^ j : Nat) : Int) := by
  have e1 : ((A * 2 ^ (j + 1) : Nat) : Int) = 1 * (2 ^ (s + 1) * (A : Int)) := by
    rw [hj, show 64 * 0 + s + 1 = 64 * 0 + (s + 1) by omega, Nat.pow_add, Int.natCast_mul, Int.natCast_mul, show (((2 : Nat) ^ (64 * 0) : Nat) : Int) = 1 from rfl, Int.natCast_pow, Int.mul_comm, Int.mul_assoc]
    rfl
  have e2 : (((2 * A + 1) * 2 ^ j : Nat) : Int) = 1 * (2 ^ (s + 1) * (A : Int)) + 1 * 2 ^ s := by
    have : (2 * A + 1) * 2 ^ j = A * 2 ^ (j + 1) + 2 ^ j := by rw [Nat.add_mul, Nat.one_mul, Nat.pow_succ, Nat.mul_comm 2 A, Nat.mul_assoc, Nat.mul_comm 2]
    rw [this, Int.natCast_add, e1, hj, Nat.pow_add, Int.natCast_mul, show (((2 : Nat) ^ (64 * 0) : Nat) : Int) = 1 from rfl, Int.natCast_pow]
    rfl
  rw [e1] at e
  rw [e2]
  have hpq := pq (R := s + 1) (by omega)
  have hz : ∃ z : Int, q0 = 2 ^ (s + 1) * z := by
    generalize (2 : Int) ^ (64 - (s + 1)) = Q at hpq
    refine ⟨A - Q * (q1 + 18446744073709551616 * q2 + 340282366920938463463374607431768211456 * q3), ?_⟩
    have hpQ : (2 : Int) ^ (s + 1) * (Q * (q1 + 18446744073709551616 * q2 + 340282366920938463463374607431768211456 * q3)) = 18446744073709551616 * (q1 + 18446744073709551616 * q2 + 340282366920938463463374607431768211456 * q3) := by rw [← Int.mul_assoc, hpq]
    rw [Int.mul_sub, hpQ]
    generalize (2 : Int) ^ (s + 1) * (A : Int) = PA at *
    have := hq0.1; have := hq0.2; have := hq1.1; have := hq1.2; have := hq2.1; have := hq2.2; have := hq3.1; have := hq3.2
    unfold n4 at e; omega
  obtain ⟨z, hz⟩ := hz
  obtain ⟨h1, h2⟩ := or_bit hq0 hs hz
  refine ⟨h1, h2, ?_⟩
  rw [← e]
  unfold n4; omega

theorem hand_1 {a0 a1 a2 a3 : Int} (ha0 : Wd a0) (ha1 : Wd a1) (ha2 : Wd a2) (ha3 : Wd a3) {N : Nat} (hN : (N : Int) = n4 a0 a1 a2 a3) {s : Nat} (hs : s < 64) : bits .and .u64 (a1 / 2 ^ s) 1 = ((N / 2 ^ (64 * 1) / 2 ^ s % 2 : Nat) : Int) := by
  rw [and_bit ha1]
  have e : N / 2 ^ (64 * 1) = a1.toNat + 18446744073709551616 * (a2.toNat + 18446744073709551616 * a3.toNat) := by
    rw [show (2 : Nat) ^ (64 * 1) = 18446744073709551616 from rfl]
    have := ha0.1; have := ha0.2; have := ha1.1; have := ha1.2; have := ha2.1; have := ha2.2; have := ha3.1; have := ha3.2
    unfold n4 at hN; omega
  rw [e, bit_word hs]

theorem qbit_1 {q0 q1 q2 q3 : Int} (hq0 : Wd q0) (hq1 : Wd q1) (hq2 : Wd q2) (hq3 : Wd q3) {A s j : Nat} (hs : s < 64) (hj : j = 64 * 1 + s) (e : n4 q0 q1 q2 q3 = ((A * 2 ^ (j + 1) : Nat) : Int)) :
    bits .or .u64 q1 (IntKind.u64.wrap (2 ^ s)) = q1 + 2 ^ s ∧ Wd (q1 + 2 ^ s) ∧ n4 q0 (q1 + 2 ^ s) q2 q3 = (((2 * A + 1) * 2 ^ j : Nat) : Int) := by
  have e1 : ((A * 2 ^ (j + 1) : Nat) : Int) = 18446744073709551616 * (2 ^ (s + 1) * (A : Int)) := by
    rw [hj, show 64 * 1 + s + 1 = 64 * 1 + (s + 1) by omega, Nat.pow_add, Int.natCast_mul, Int.natCast_mul, show (((2 : Nat) ^ (64 * 1) : Nat) : Int) = 18446744073709551616 from rfl, Int.natCast_pow, Int.mul_comm, Int.mul_assoc]
    rfl
  have e2 : (((2 * A + 1) * 2 ^ j : Nat) : Int) = 18446744073709551616 * (2 ^ (s + 1) * (A : Int)) + 18446744073709551616 * 2 ^ s := by
    have : (2 * A + 1) * 2 ^ j = A * 2 ^ (j + 1) + 2 ^ j := by rw [Nat.add_mul, Nat.one_mul, Nat.pow_succ, Nat.mul_comm 2 A, Nat.mul_assoc, Nat.mul_comm 2]
    rw [this, Int.natCast_add, e1, hj, Nat.pow_add, Int.natCast_mul, show (((2 : Nat) ^ (64 * 1) : Nat) : Int) = 18446744073709551616 from rfl, Int.natCast_pow]
    rfl
  rw [e1] at e
  rw [e2]
  have hpq := pq (R := s + 1) (by omega)
  have hz : ∃ z : Int, q1 = 2 ^ (s + 1) * z := by
    generalize (2 : Int) ^ (64 - (s + 1)) = Q at hpq
    refine ⟨A - Q * (q2 + 18446744073709551616 * q3), ?_⟩
    have hpQ : (2 : Int) ^ (s + 1) * (Q * (q2 + 18446744073709551616 * q3)) = 18446744073709551616 * (q2 + 18446744073709551616 * q3) := by rw [← Int.mul_assoc, hpq]
    rw [Int.mul_sub, hpQ]
    generalize (2 : Int) ^ (s + 1) * (A : Int) = PA at *
    have := hq0.1; have := hq0.2; have := hq1.1; have := hq1.2; have := hq2.1; have := hq2.2; have := hq3.1; have := hq3.2
    unfold n4 at e; omega
  obtain ⟨z, hz⟩ := hz
  obtain ⟨h1, h2⟩ := or_bit hq1 hs hz
  refine ⟨h1, h2, ?_⟩
  rw [← e]
  unfold n4; omega

theorem hand_2 {a0 a1 a2 a3 : Int} (ha0 : Wd a0) (ha1 : Wd a1) (ha2 : Wd a2) (ha3 : Wd a3) {N : Nat} (hN : (N : Int) = n4 a0 a1 a2 a3) {s : Nat} (hs : s < 64) : bits .and .u64 (a2 / 2 ^ s) 1 = ((N / 2 ^ (64 * 2) / 2 ^ s % 2 : Nat) : Int) := by
  rw [and_bit ha2]
  have e : N / 2 ^ (64 * 2) = a2.toNat + 18446744073709551616 * (a3.toNat) := by
    rw [show (2 : Nat) ^ (64 * 2) = 340282366920938463463374607431768211456 from rfl]
    have := ha0.1; have := ha0.2; have := ha1.1; have := ha1.2; have := ha2.1; have := ha2.2; have := ha3.1; have := ha3.2
    unfold n4 at hN; omega
  rw [e, bit_word hs]

theorem qbit_2 {q0 q1 q2 q3 : Int} (hq0 : Wd q0) (hq1 : Wd q1) (hq2 : Wd q2) (hq3 : Wd q3) {A s j : Nat} (hs : s < 64) (hj : j = 64 * 2 + s) (e : n4 q0 q1 q2 q3 = ((A * 2 ^ (j + 1) : Nat) : Int)) :
    bits .or .u64 q2 (IntKind.u64.wrap (2 ^ s)) = q2 + 2 ^ s ∧ Wd (q2 + 2 ^ s) ∧ n4 q0 q1 (q2 + 2 ^ s) q3 = (((2 * A + 1) * 2 ^ j : Nat) : Int) := by
  have e1 : ((A * 2 ^ (j + 1) : Nat) : Int) = 340282366920938463463374607431768211456 * (2 ^ (s + 1) * (A : Int)) := by
    rw [hj, show 64 * 2 + s + 1 = 64 * 2 + (s + 1) by omega, Nat.pow_add, Int.natCast_mul, Int.natCast_mul, show (((2 : Nat) ^ (64 * 2) : Nat) : Int) = 340282366920938463463374607431768211456 from rfl, Int.natCast_pow, Int.mul_comm, Int.mul_assoc]
    rfl
  have e2 : (((2 * A + 1) * 2 ^ j : Nat) : Int) = 340282366920938463463374607431768211456 * (2 ^ (s + 1) * (A : Int)) + 340282366920938463463374607431768211456 * 2 ^ s := by
    have : (2 * A + 1) * 2 ^ j = A * 2 ^ (j + 1) + 2 ^ j := by rw [Nat.add_mul, Nat.one_mul, Nat.pow_succ, Nat.mul_comm 2 A, Nat.mul_assoc, Nat.mul_comm 2]
    rw [this, Int.natCast_add, e1, hj, Nat.pow_add, Int.natCast_mul, show (((2 : Nat) ^ (64 * 2) : Nat) : Int) = 340282366920938463463374607431768211456 from rfl, Int.natCast_pow]
    rfl
  rw [e1] at e
  rw [e2]
  have hpq := pq (R := s + 1) (by omega)
  have hz : ∃ z : Int, q2 = 2 ^ (s + 1) * z := by
    generalize (2 : Int) ^ (64 - (s + 1)) = Q at hpq
    refine ⟨A - Q * q3, ?_⟩
    have hpQ : (2 : Int) ^ (s + 1) * (Q * q3) = 18446744073709551616 * q3 := by rw [← Int.mul_assoc, hpq]
    rw [Int.mul_sub, hpQ]
    generalize (2 : Int) ^ (s + 1) * (A : Int) = PA at *
    have := hq0.1; have := hq0.2; have := hq1.1; have := hq1.2; have := hq2.1; have := hq2.2; have := hq3.1; have := hq3.2
    unfold n4 at e; omega
  obtain ⟨z, hz⟩ := hz
  obtain ⟨h1, h2⟩ := or_bit hq2 hs hz
  refine ⟨h1, h2, ?_⟩
  rw [← e]
  unfold n4; omega

theorem hand_3 {a0 a1 a2 a3 : Int} (ha0 : Wd a0) (ha1 : Wd a1) (ha2 : Wd a2) (ha3 : Wd a3) {N : Nat} (hN : (N : Int) = n4 a0 a1 a2 a3) {s : Nat} (hs : s < 64) : bits .and .u64 (a3 / 2 ^ s) 1 = ((N / 2 ^ (64 * 3) / 2 ^ s % 2 : Nat) : Int) := by
  rw [and_bit ha3]
  have e : N / 2 ^ (64 * 3) = a3.toNat + 18446744073709551616 * (0) := by
    rw [show (2 : Nat) ^ (64 * 3) = 6277101735386680763835789423207666416102355444464034512896 from rfl]
    have := ha0.1; have := ha0.2; have := ha1.1; have := ha1.2; have := ha2.1; have := ha2.2; have := ha3.1; have := ha3.2
    unfold n4 at hN; omega
  rw [e, bit_word hs]

theorem qbit_3 {q0 q1 q2 q3 : Int} (hq0 : Wd q0) (hq1 : Wd q1) (hq2 : Wd q2) (hq3 : Wd q3) {A s j : Nat} (hs : s < 64) (hj : j = 64 * 3 + s) (e : n4 q0 q1 q2 q3 = ((A * 2 ^ (j + 1) : Nat) : Int)) :
    bits .or .u64 q3 (IntKind.u64.wrap (2 ^ s)) = q3 + 2 ^ s ∧ Wd (q3 + 2 ^ s) ∧ n4 q0 q1 q2 (q3 + 2 ^ s) = (((2 * A + 1) * 2 ^ j : Nat) : Int) := by
  have e1 : ((A * 2 ^ (j + 1) : Nat) : Int) = 6277101735386680763835789423207666416102355444464034512896 * (2 ^ (s + 1) * (A : Int)) := by
    rw [hj, show 64 * 3 + s + 1 = 64 * 3 + (s + 1) by omega, Nat.pow_add, Int.natCast_mul, Int.natCast_mul, show (((2 : Nat) ^ (64 * 3) : Nat) : Int) = 6277101735386680763835789423207666416102355444464034512896 from rfl, Int.natCast_pow, Int.mul_comm, Int.mul_assoc]
    rfl
  have e2 : (((2 * A + 1) * 2 ^ j : Nat) : Int) = 6277101735386680763835789423207666416102355444464034512896 * (2 ^ (s + 1) * (A : Int)) + 6277101735386680763835789423207666416102355444464034512896 * 2 ^ s := by
    have : (2 * A + 1) * 2 ^ j = A * 2 ^ (j + 1) + 2 ^ j := by rw [Nat.add_mul, Nat.one_mul, Nat.pow_succ, Nat.mul_comm 2 A, Nat.mul_assoc, Nat.mul_comm 2]
    rw [this, Int.natCast_add, e1, hj, Nat.pow_add, Int.natCast_mul, show (((2 : Nat) ^ (64 * 3) : Nat) : Int) = 6277101735386680763835789423207666416102355444464034512896 from rfl, Int.natCast_pow]
    rfl
  rw [e1] at e
  rw [e2]
  have hpq := pq (R := s + 1) (by omega)
  have hz : ∃ z : Int, q3 = 2 ^ (s + 1) * z := by
    generalize (2 : Int) ^ (64 - (s + 1)) = Q at hpq
    refine ⟨A, ?_⟩
    have hpQ : (2 : Int) ^ (s + 1) * (Q * 0) = 18446744073709551616 * 0 := by rw [← Int.mul_assoc, hpq]
    rw [show (A : Int) = A from rfl]
    generalize (2 : Int) ^ (s + 1) * (A : Int) = PA at *
    have := hq0.1; have := hq0.2; have := hq1.1; have := hq1.2; have := hq2.1; have := hq2.2; have := hq3.1; have := hq3.2
    unfold n4 at e; omega
  obtain ⟨z, hz⟩ := hz
  obtain ⟨h1, h2⟩ := or_bit hq3 hs hz
  refine ⟨h1, h2, ?_⟩
  rw [← e]
  unfold n4; omega

end Go.Proofs.YtmkgbinmilcojaaGreat

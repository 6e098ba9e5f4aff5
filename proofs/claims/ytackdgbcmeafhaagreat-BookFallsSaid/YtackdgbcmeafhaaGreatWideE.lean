/- Shifts of words and of four words (plain). -/
import Derived.Test.YtackdgbcmeafhaaGreatWideB
namespace Go.Proofs.YtackdgbcmeafhaaGreat
open Go.RowKit Go.Maps Go.Shelf

theorem pq {R : Nat} (h : R ≤ 64) : (2 : Int) ^ R * 2 ^ (64 - R) = 18446744073709551616 := by
  rw [← Int.pow_add, show R + (64 - R) = 64 by omega]; rfl
theorem p_pos (R : Nat) : (0 : Int) < 2 ^ R := Int.pow_pos (by decide)
theorem left_word {a : Int} {R : Nat} (h : R ≤ 64) : IntKind.u64.wrap (a * 2 ^ R) = 2 ^ R * (a % 2 ^ (64 - R)) := by
  rw [IntKind.wrap_u64, ← pq h, Int.mul_comm a, Int.mul_emod_mul_of_pos _ _ (p_pos R)]
theorem or_disj {q y : Int} {R : Nat} (hq : 0 ≤ q) (hy : 0 ≤ y) (hy2 : y < 2 ^ R) (hl : 2 ^ R * q < 18446744073709551616) (hR : R ≤ 64) : bits .or .u64 (2 ^ R * q) y = 2 ^ R * q + y ∧ bits .or .u64 y (2 ^ R * q) = 2 ^ R * q + y := by
  obtain ⟨Q, rfl⟩ := Int.eq_ofNat_of_zero_le hq
  obtain ⟨Y, rfl⟩ := Int.eq_ofNat_of_zero_le hy
  have e : (2 : Int) ^ R * (Q : Int) = ((2 ^ R * Q : Nat) : Int) := by simp
  have hy3 : Y < 2 ^ R := by
    have e2 : ((2 ^ R : Nat) : Int) = (2 : Int) ^ R := by simp
    omega
  have hp : (2 : Nat) ^ R ≤ 2 ^ 64 := Nat.pow_le_pow_right (by decide) hR
  rw [e] at hl ⊢
  have h1 : 2 ^ R * Q < 18446744073709551616 := by omega
  have h2 : Y < 18446744073709551616 := by omega
  rw [bits_or_u64_nat _ _ h1 h2, bits_or_u64_nat _ _ h2 h1, Nat.or_comm Y, ← Nat.two_pow_add_eq_or_of_lt hy3 Q]
  exact ⟨by simp, by simp⟩
/-- a word's parts: a = 2^(64-R) h + m. -/
theorem parts {a : Int} (ha : Wd a) {R : Nat} (h : R ≤ 64) : 0 ≤ a / 2 ^ (64 - R) ∧ a / 2 ^ (64 - R) < 2 ^ R ∧ 0 ≤ a % 2 ^ (64 - R) ∧ a % 2 ^ (64 - R) < 2 ^ (64 - R) ∧ a = 2 ^ (64 - R) * (a / 2 ^ (64 - R)) + a % 2 ^ (64 - R) := by
  have hq := p_pos (64 - R)
  refine ⟨Int.ediv_nonneg ha.1 (Int.le_of_lt hq), ?_, Int.emod_nonneg _ (by omega), Int.emod_lt_of_pos _ hq, (Int.mul_ediv_add_emod a _).symm⟩
  exact Int.ediv_lt_of_lt_mul hq (by rw [pq h]; exact ha.2)
theorem mul_lt' {P Q m : Int} (hP : 0 < P) (hm : m < Q) : P * m + P ≤ P * Q := by
  have := Int.mul_le_mul_of_nonneg_left (show m + 1 ≤ Q by omega) (Int.le_of_lt hP)
  rw [Int.mul_add, Int.mul_one] at this; exact this

/-- Left's word. -/
theorem lw1 {a : Int} (ha : Wd a) {r : Int} (h0 : 0 < r) (h1 : r < 64) : ∃ u h : Int, 0 ≤ u ∧ u + 2 ^ r.toNat ≤ 18446744073709551616 ∧ 0 ≤ h ∧ h < 2 ^ r.toNat ∧ a * 2 ^ r.toNat = 18446744073709551616 * h + u ∧ IntKind.u64.wrap (a * 2 ^ r.toNat) = u ∧ a / 2 ^ (64 - r).toNat = h ∧
    ∀ y, 0 ≤ y → y < 2 ^ r.toNat → bits .or .u64 u y = u + y := by
  obtain ⟨R, hR⟩ : ∃ R : Nat, R = r.toNat := ⟨_, rfl⟩
  rw [← hR, show (64 - r).toNat = 64 - R by omega]
  have hR2 : R ≤ 64 := by omega
  obtain ⟨k1, k2, k3, k4, k5⟩ := parts ha hR2
  have hp := p_pos R
  have hpq := pq hR2
  generalize hQ : (2 : Int) ^ (64 - R) = Q at *
  have hm := mul_lt' hp k4
  refine ⟨2 ^ R * (a % Q), a / Q, Int.mul_nonneg (Int.le_of_lt hp) k3, by omega, k1, k2, ?_, ?_, rfl, fun y hy hy2 => ?_⟩
  · have e : a * 2 ^ R = 2 ^ R * (Q * (a / Q) + a % Q) := by rw [← k5, Int.mul_comm]
    rw [e, Int.mul_add, ← Int.mul_assoc, hpq]
  · rw [left_word hR2, hQ]
  · exact (or_disj k3 hy hy2 (by omega) hR2).1
/-- Right's word. -/
theorem rw1 {a : Int} (ha : Wd a) {r : Int} (h0 : 0 < r) (h1 : r < 64) : ∃ u h : Int, 0 ≤ u ∧ 0 ≤ h ∧ u < 2 ^ r.toNat ∧ a = 2 ^ r.toNat * h + u ∧ a / 2 ^ r.toNat = h ∧ h < 2 ^ (64 - r).toNat ∧ IntKind.u64.wrap (a * 2 ^ (64 - r).toNat) = 2 ^ (64 - r).toNat * u ∧ 2 ^ (64 - r).toNat * u + 2 ^ (64 - r).toNat ≤ 18446744073709551616 := by
  obtain ⟨R, hR⟩ : ∃ R : Nat, R = (64 - r).toNat := ⟨_, rfl⟩
  rw [← hR, show r.toNat = 64 - R by omega]
  have hR2 : R ≤ 64 := by omega
  obtain ⟨k1, k2, k3, k4, k5⟩ := parts ha hR2
  have hp := p_pos R
  have hpq := pq hR2
  have hl := left_word (a := a) hR2
  generalize (2 : Int) ^ (64 - R) = Q at *
  have hm := mul_lt' hp k4
  exact ⟨a % Q, a / Q, k3, k1, k4, k5, rfl, k2, hl, by omega⟩

theorem emod_top {x s D : Int} (h0 : 0 ≤ s) (h1 : s < TOP) (h : x = s + TOP * D) : x % TOP = s := by
  rw [h, Int.add_mul_emod_self_left, Int.emod_eq_of_lt h0 h1]
end Go.Proofs.YtackdgbcmeafhaaGreat

/- The plain law of the targets: what stands behind an encoding, in order; what a decoding gave is exact. -/
import Derived.Test.YtbagkfeodjkdmaaTarget
namespace Go.Proofs.Ytbagkfeodjkdmaa

def trN (n : Nat) : Nat := n / 256 ^ ((blen n - 16) / 8) * 256 ^ ((blen n - 16) / 8)
theorem trN_le (n : Nat) : trN n ≤ n := Nat.div_mul_le_self _ _

theorem enc_parts {n : Nat} (h0 : 0 < n) (hn : n < TOP) : ∃ e m, encN n = m + e * 16777216 ∧ m < 8388608 ∧ e ≤ 33 ∧ tgtE e m = trN n := by
  have hb := blen_le.1 (Nat.le_refl (blen n))
  have hL : blen n ≤ 256 := blen_le.2 (by unfold TOP at hn; exact hn)
  have hml := manN_lt (n := n)
  have hex : exN n = (blen n + 7) / 8 := rfl
  have hb0 : 0 < blen n := by
    rcases Nat.eq_zero_or_pos (blen n) with h | h
    · rw [h] at hb; simp at hb; omega
    · exact h
  by_cases h3 : 3 ≤ exN n
  · have hm : manN n = n / 256 ^ (exN n - 3) := by unfold manN; rw [if_pos h3]
    have hk : 8388608 ≤ manN n ↔ blen n = 8 * exN n := by
      rw [hm, Nat.le_div_iff_mul_le (Nat.pow_pos (by omega)), p256, show (8388608 : Nat) = 2 ^ 23 from rfl, ← Nat.pow_add]
      have h2 : ¬ n < 2 ^ (23 + 8 * (exN n - 3)) ↔ 2 ^ (23 + 8 * (exN n - 3)) ≤ n := Nat.not_lt
      rw [← h2, ← blen_le]
      omega
    by_cases hc : 8388608 ≤ manN n
    · refine ⟨exN n + 1, manN n / 256, by unfold encN; rw [if_pos hc], by omega, by omega, ?_⟩
      have hs : (blen n - 16) / 8 = exN n + 1 - 3 := by have := hk.1 hc; omega
      unfold tgtE trN
      rw [if_pos (by omega), hs, hm, div256, show exN n - 3 + 1 = exN n + 1 - 3 by omega]
    · refine ⟨exN n, manN n, by unfold encN; rw [if_neg hc], by omega, by omega, ?_⟩
      have hs : (blen n - 16) / 8 = exN n - 3 := by
        have : blen n ≠ 8 * exN n := fun h => hc (hk.2 h)
        omega
      unfold tgtE trN
      rw [if_pos h3, hs, hm]
  · have hs : (blen n - 16) / 8 = 0 := by omega
    have ht : trN n = n := by unfold trN; rw [hs]; simp
    rw [ht]
    have hm : manN n = n * 256 ^ (3 - exN n) := by unfold manN; rw [if_neg h3]
    have h12 : exN n = 1 ∨ exN n = 2 := by omega
    rcases h12 with h | h
    · rw [h] at hm
      have hn2 : n < 256 := by
        have := blen_le.1 (show blen n ≤ 8 by omega)
        simpa using this
      simp only [Nat.reduceSub, Nat.reducePow] at hm
      by_cases hc : 8388608 ≤ manN n
      · refine ⟨2, manN n / 256, by unfold encN; rw [if_pos hc, h], by omega, by omega, ?_⟩
        unfold tgtE; simp; omega
      · refine ⟨1, manN n, by unfold encN; rw [if_neg hc, h], by omega, by omega, ?_⟩
        unfold tgtE; simp; omega
    · rw [h] at hm
      have hn2 : n < 65536 := by
        have := blen_le.1 (show blen n ≤ 16 by omega)
        simpa using this
      simp only [Nat.reduceSub, Nat.reducePow] at hm
      by_cases hc : 8388608 ≤ manN n
      · refine ⟨3, manN n / 256, by unfold encN; rw [if_pos hc, h], by omega, by omega, ?_⟩
        unfold tgtE; simp; omega
      · refine ⟨2, manN n, by unfold encN; rw [if_neg hc, h], by omega, by omega, ?_⟩
        unfold tgtE; simp; omega

theorem pow_lt_of {a b : Nat} (h : 2 ^ a ≤ b) : b < 2 ^ a → False := fun h2 => by omega

theorem trN_ge {n k : Nat} (hk : 2 ^ k ≤ n) (hb : blen n = k + 1) : 2 ^ k ≤ trN n := by
  unfold trN
  rw [hb, p256]
  by_cases h : 16 ≤ k + 1
  · have e : 2 ^ k = 2 ^ (k - 8 * ((k + 1 - 16) / 8)) * 2 ^ (8 * ((k + 1 - 16) / 8)) := by rw [← Nat.pow_add]; congr 1; omega
    rw [e] at hk ⊢
    exact Nat.mul_le_mul_right _ ((Nat.le_div_iff_mul_le (Nat.pow_pos (by omega))).2 hk)
  · rw [show (k + 1 - 16) / 8 = 0 by omega]; simpa using hk

theorem trN_pos {n : Nat} (h0 : 0 < n) : 0 < trN n := by
  have hb := blen_le.1 (Nat.le_refl (blen n))
  obtain ⟨k, hk⟩ : ∃ k, blen n = k + 1 := by
    rcases Nat.eq_zero_or_pos (blen n) with h | h
    · rw [h] at hb; simp at hb; omega
    · exact ⟨blen n - 1, by omega⟩
  have h2 : 2 ^ k ≤ n := Nat.not_lt.1 fun h => by have := blen_le.2 h; omega
  exact Nat.lt_of_lt_of_le (Nat.pow_pos (by omega)) (trN_ge h2 hk)

theorem trN_mono {n p : Nat} (h : n ≤ p) : trN n ≤ trN p := by
  have hbm := blen_mono h
  by_cases hb : blen n = blen p
  · unfold trN; rw [hb]; exact Nat.mul_le_mul_right _ (Nat.div_le_div_right h)
  · obtain ⟨k, hk⟩ : ∃ k, blen p = k + 1 := ⟨blen p - 1, by omega⟩
    have h2 : 2 ^ k ≤ p := Nat.not_lt.1 fun h => by have := blen_le.2 h; omega
    have h3 := trN_ge h2 hk
    have h4 := blen_le.1 (show blen n ≤ k by omega)
    have := trN_le n
    omega

theorem okD_enc {n : Nat} (h0 : 0 < n) (hn : n < TOP) : okD (encN n) = true ∧ tgt (encN n) = trN n ∧ encN n < 4294967296 := by
  obtain ⟨e, m, he, hm, he33, ht⟩ := enc_parts h0 hn
  have h1 : encN n / 16777216 = e := by omega
  have h2 : encN n % 8388608 = m := by omega
  have h3 : encN n / 8388608 % 2 = 0 := by omega
  have h4 : tgt (encN n) = trN n := by unfold tgt; rw [h1, h2, ht]
  have := trN_pos h0
  have := trN_le n
  refine ⟨?_, h4, by omega⟩
  unfold okD
  rw [h4, h3]
  simp
  omega

theorem enc_zero : encN 0 = 0 := by decide +kernel
theorem okD_zero : okD 0 = false := by decide +kernel

theorem trN_tgt {b : Nat} (h : okD b = true) : trN (tgt b) = tgt b := by
  have hm : b % 8388608 < 8388608 := Nat.mod_lt _ (by omega)
  unfold tgt tgtE
  generalize b % 8388608 = m at *
  generalize b / 16777216 = e
  split
  · obtain ⟨k, rfl⟩ : ∃ k, e = k + 3 := ⟨e - 3, by omega⟩
    simp only [Nat.add_sub_cancel]
    have hL : blen (m * 256 ^ k) ≤ 23 + 8 * k := blen_le.2 (by
      rw [Nat.pow_add, p256]; exact Nat.mul_lt_mul_of_pos_right (by simpa using hm) (Nat.pow_pos (by omega)))
    have hs : (blen (m * 256 ^ k) - 16) / 8 ≤ k := by omega
    unfold trN
    refine Nat.div_mul_cancel ?_
    exact Nat.dvd_trans (Nat.pow_dvd_pow 256 hs) (Nat.dvd_mul_left _ _)
  · have hlt : m / 256 ^ (3 - e) < 8388608 := Nat.lt_of_le_of_lt (Nat.div_le_self _ _) hm
    generalize m / 256 ^ (3 - e) = x at *
    have hL : blen x ≤ 23 := blen_le.2 (by simpa using hlt)
    unfold trN
    rw [show (blen x - 16) / 8 = 0 by omega]; simp
end Go.Proofs.Ytbagkfeodjkdmaa

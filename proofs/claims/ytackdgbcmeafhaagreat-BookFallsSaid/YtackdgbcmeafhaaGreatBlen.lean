/- How many bits a number needs (plain). -/
import Derived.Test.YtackdgbcmeafhaaGreatLib
import Derived.Lib.ItoaNum
namespace Go.Proofs.YtackdgbcmeafhaaGreat

def blen (n : Nat) : Nat := if n = 0 then 0 else n.log2 + 1
theorem blen_zero : blen 0 = 0 := rfl
theorem blen_le {n k : Nat} : blen n ≤ k ↔ n < 2 ^ k := by
  unfold blen
  by_cases h : n = 0
  · subst h; rw [if_pos rfl]; exact ⟨fun _ => Nat.two_pow_pos k, fun _ => Nat.zero_le _⟩
  · rw [if_neg h, ← Nat.log2_lt h]; omega
theorem lt_blen (n : Nat) : n < 2 ^ blen n := blen_le.1 (Nat.le_refl _)
theorem blen_ge {n : Nat} (h : n ≠ 0) : 2 ^ (blen n - 1) ≤ n := by
  have h1 : ¬ blen n ≤ blen n - 1 := by
    have : blen n ≠ 0 := by unfold blen; rw [if_neg h]; omega
    omega
  rw [blen_le] at h1; omega
theorem blen_pos {n : Nat} (h : n ≠ 0) : 0 < blen n := by unfold blen; rw [if_neg h]; omega
theorem blen_mono {n m : Nat} (h : n ≤ m) : blen n ≤ blen m := blen_le.2 (Nat.lt_of_le_of_lt h (lt_blen m))
theorem blen_add {x k y : Nat} (hx : x < 2 ^ k) (hy : y ≠ 0) : blen (x + 2 ^ k * y) = k + blen y := by
  have h1 : x + 2 ^ k * y < 2 ^ (k + blen y) := by
    have h2 := lt_blen y
    have h3 : 2 ^ k * (y + 1) ≤ 2 ^ k * 2 ^ blen y := Nat.mul_le_mul_left _ h2
    rw [Nat.mul_add, Nat.mul_one] at h3
    rw [Nat.pow_add]; omega
  have h4 := blen_le.2 h1
  have h5 : ¬ blen (x + 2 ^ k * y) ≤ k + blen y - 1 := by
    rw [blen_le]
    have h6 := blen_ge hy
    have h7 := blen_pos hy
    have h8 : 2 ^ k * 2 ^ (blen y - 1) ≤ 2 ^ k * y := Nat.mul_le_mul_left _ h6
    rw [← Nat.pow_add] at h8
    rw [show k + blen y - 1 = k + (blen y - 1) by omega]
    omega
  omega
theorem bitLen_eq {x : Nat} (h : x < 18446744073709551616) : Go.Lib.bitLen x = blen x := by
  by_cases h0 : x = 0
  · subst h0; rfl
  · obtain ⟨h1, h2, h3⟩ := Go.Lib.bitLenAux_bounds 64 x (by simpa using h) h0
    have a : blen x ≤ Go.Lib.bitLen x := blen_le.2 h3
    have b : ¬ blen x ≤ Go.Lib.bitLen x - 1 := by rw [blen_le]; unfold Go.Lib.bitLen; omega
    have c : 1 ≤ Go.Lib.bitLen x := h1
    omega
end Go.Proofs.YtackdgbcmeafhaaGreat

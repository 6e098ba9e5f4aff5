/- Bits and targets (plain): tgt, okD, encN, scaleN. -/
import Derived.Test.YtmkgbinmilcojaaGreatWideAB
namespace Go.Proofs.YtmkgbinmilcojaaGreat

/-- the target of bits: m times 256 to the power of e - 3. -/
def tgtE (e m : Nat) : Nat := if 3 ≤ e then m * 256 ^ (e - 3) else m / 256 ^ (3 - e)
def tgt (bits : Nat) : Nat := tgtE (bits / 16777216) (bits % 8388608)
def okD (bits : Nat) : Bool := !(decide (bits / 8388608 % 2 = 1) && decide (0 < bits % 8388608)) && (decide (0 < tgt bits) && decide (tgt bits < TOP))
def exN (n : Nat) : Nat := (blen n + 7) / 8
def manN (n : Nat) : Nat := if 3 ≤ exN n then n / 256 ^ (exN n - 3) else n * 256 ^ (3 - exN n)
def encN (n : Nat) : Nat := if 8388608 ≤ manN n then manN n / 256 + (exN n + 1) * 16777216 else manN n + exN n * 16777216
def scaleN (t up by_ most : Nat) : Nat := if most < t * up / by_ then most else if t * up / by_ = 0 then 1 else t * up / by_

theorem blen_of {x a k : Nat} (h : x < 2 ^ a) (hk : a ≤ k) : blen x ≤ k := Nat.le_trans (blen_le.2 h) hk
theorem p256 (k : Nat) : 256 ^ k = 2 ^ (8 * k) := by rw [Nat.pow_mul]
theorem manN_lt {n : Nat} : manN n < 16777216 := by
  have h1 := lt_blen n
  unfold manN
  have h2 : blen n ≤ 8 * exN n := by unfold exN; omega
  generalize exN n = e at *
  split
  · rw [p256]
    refine (Nat.div_lt_iff_lt_mul (Nat.two_pow_pos _)).2 ?_
    have : 16777216 * 2 ^ (8 * (e - 3)) = 2 ^ (24 + 8 * (e - 3)) := by rw [Nat.pow_add]
    rw [this]
    exact Nat.lt_of_lt_of_le h1 (Nat.pow_le_pow_right (by decide) (by omega))
  · rw [p256]
    have h3 : n * 2 ^ (8 * (3 - e)) < 2 ^ blen n * 2 ^ (8 * (3 - e)) := Nat.mul_lt_mul_of_pos_right h1 (Nat.two_pow_pos _)
    rw [← Nat.pow_add] at h3
    have h4 : 2 ^ (blen n + 8 * (3 - e)) ≤ 2 ^ 24 := Nat.pow_le_pow_right (by decide) (by omega)
    omega
theorem exN_le {n : Nat} (h : n < TOP) : exN n ≤ 32 := by
  have : blen n ≤ 256 := blen_le.2 (by unfold TOP at h; exact h)
  unfold exN; omega
theorem tgtE_blen {e m : Nat} (_ : e ≤ 255) (hm : m < 8388608) : ∀ k, k ≤ 252 → blen (m * 256 ^ k) ≤ 2100 := fun k hk => by
  rw [p256]
  have h1 : m * 2 ^ (8 * k) < 2 ^ 23 * 2 ^ (8 * k) := Nat.mul_lt_mul_of_pos_right (by omega) (Nat.two_pow_pos _)
  rw [← Nat.pow_add] at h1
  exact blen_of h1 (by omega)
theorem div256 (x k : Nat) : x / 256 ^ k / 256 = x / 256 ^ (k + 1) := by rw [Nat.div_div_eq_div_mul, Nat.pow_succ]
theorem blen_div (x k : Nat) : blen (x / k) ≤ blen x := blen_mono (Nat.div_le_self _ _)
end Go.Proofs.YtmkgbinmilcojaaGreat

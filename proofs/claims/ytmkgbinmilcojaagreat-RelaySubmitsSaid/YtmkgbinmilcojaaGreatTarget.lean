/- Package target: Decode. -/
import Derived.Test.YtmkgbinmilcojaaGreatDec
import Derived.Test.YtmkgbinmilcojaaGreatWideK
import Derived.Test.YtmkgbinmilcojaaGreatWideJ
namespace Go.Proofs.YtmkgbinmilcojaaGreat
open Go.RowKit Go.Maps Go.Shelf

theorem and_u32 (a b : Nat) (ha : a < 4294967296) (hb : b < 4294967296) : bits .and .u32 (a : Int) (b : Int) = ((a &&& b : Nat) : Int) := by
  have hx : a &&& b < 2 ^ 32 := Nat.and_lt_two_pow _ (by omega)
  have h1 : (BitVec.ofInt 32 (a : Int)).toNat = a := by
    rw [BitVec.ofInt_natCast, BitVec.toNat_ofNat]; exact Nat.mod_eq_of_lt (by omega)
  have h2 : (BitVec.ofInt 32 (b : Int)).toNat = b := by
    rw [BitVec.ofInt_natCast, BitVec.toNat_ofNat]; exact Nat.mod_eq_of_lt (by omega)
  show IntKind.u32.wrap ((BitVec.ofInt 32 (a : Int) &&& BitVec.ofInt 32 (b : Int)).toNat : Int) = _
  rw [BitVec.toNat_and, h1, h2]
  simp [IntKind.wrap, IntKind.bits, IntKind.signed]
  omega
theorem and_bit23 (a : Nat) : a &&& 8388608 = a / 8388608 % 2 * 8388608 := by
  apply Nat.eq_of_testBit_eq
  intro i
  have e : (8388608 : Nat) = 2 ^ 23 := rfl
  have h : a / 8388608 % 2 < 2 := Nat.mod_lt _ (by omega)
  rw [Nat.testBit_and]
  have h2 : (8388608 : Nat).testBit i = decide (23 = i) := by rw [e, Nat.testBit_two_pow]
  rw [h2]
  by_cases hi : i = 23
  · subst hi
    simp only [decide_true, Bool.and_true]
    rw [Nat.testBit_eq_decide_div_mod_eq, ← e]
    by_cases h3 : a / 8388608 % 2 = 1
    · rw [h3]; rfl
    · rw [show a / 8388608 % 2 = 0 by omega]; rfl
  · have h4 : ¬ 23 = i := fun h => hi h.symm
    simp only [h4, decide_false, Bool.and_false]
    by_cases h3 : a / 8388608 % 2 = 1
    · rw [h3, Nat.one_mul, h2]; simp [h4]
    · rw [show a / 8388608 % 2 = 0 by omega]; simp
theorem mask_m {a : Nat} (ha : a < 4294967296) : bits .and .u32 (a : Int) 8388607 = ((a % 8388608 : Nat) : Int) := by
  have := and_u32 a 8388607 ha (by omega)
  rwa [show a &&& 8388607 = a % 8388608 from Nat.and_two_pow_sub_one_eq_mod a 23] at this
theorem mask_s {a : Nat} (ha : a < 4294967296) : bits .and .u32 (a : Int) 8388608 = ((a / 8388608 % 2 * 8388608 : Nat) : Int) := by
  have := and_u32 a 8388608 ha (by omega)
  rwa [and_bit23] at this

theorem tgtE_left {e m : Nat} (he : e ≤ 255) (hm : m < 8388608) (h : e ≤ 3 ∨ blen m + 8 * (e - 3) ≤ 256) : tgtE e m < TOP ∧
    ∀ w, Calls Tryz.prog 89 #[wv m, .int .i64 (8 * ((e : Int) - 3))] w fun e' w' => e' = .returned (wv (tgtE e m)) ∧ Chg [] w w' := by
  have hmT : m < TOP := by unfold TOP; omega
  have hTp : TOP = 2 ^ 256 := rfl
  unfold tgtE
  by_cases h3 : 3 ≤ e
  · rw [if_pos h3]
    by_cases hn : 8 * (e - 3) < 256
    · have hlt : m * 256 ^ (e - 3) < TOP := by
        rw [p256, hTp]
        have h1 : m * 2 ^ (8 * (e - 3)) < 2 ^ blen m * 2 ^ (8 * (e - 3)) := Nat.mul_lt_mul_of_pos_right (lt_blen m) (Nat.two_pow_pos _)
        rw [← Nat.pow_add] at h1
        refine Nat.lt_of_lt_of_le h1 (Nat.pow_le_pow_right (by decide) ?_)
        have : blen m ≤ 23 := blen_le.2 hm
        omega
      refine ⟨hlt, fun w => ?_⟩
      have := wide_Left m (8 * (e - 3)) hmT hn w
      rw [← p256, Nat.mod_eq_of_lt hlt] at this
      rwa [show ((8 * (e - 3) : Nat) : Int) = 8 * ((e : Int) - 3) by omega] at this
    · have h0 : m = 0 := by
        by_cases hz : m = 0
        · exact hz
        · have := blen_pos hz; omega
      subst h0
      rw [Nat.zero_mul]
      exact ⟨hmT, fun w => wide_Left_big 0 _ hmT (by omega) (by omega) w⟩
  · rw [if_neg h3]
    refine ⟨Nat.lt_of_le_of_lt (Nat.div_le_self _ _) hmT, fun w => ?_⟩
    have := wide_Left_neg m (8 * (3 - e)) hmT (by omega) (by omega) w
    rw [← p256] at this
    rwa [show (-((8 * (3 - e) : Nat) : Int)) = 8 * ((e : Int) - 3) by omega] at this
theorem tgtE_big {e m : Nat} (h3 : 3 < e) (h : 256 < blen m + 8 * (e - 3)) : ¬ (0 < tgtE e m ∧ tgtE e m < TOP) := by
  unfold tgtE
  rw [if_pos (by omega), p256]
  by_cases h0 : m = 0
  · subst h0; simp
  · rintro ⟨_, h1⟩
    have h2 := blen_ge h0
    have h4 := blen_pos h0
    have h5 : 2 ^ (blen m - 1) * 2 ^ (8 * (e - 3)) ≤ m * 2 ^ (8 * (e - 3)) := Nat.mul_le_mul_right _ h2
    rw [← Nat.pow_add] at h5
    have h6 : 2 ^ 256 ≤ 2 ^ (blen m - 1 + 8 * (e - 3)) := Nat.pow_le_pow_right (by decide) (by omega)
    have hTp : TOP = 2 ^ 256 := rfl
    omega

/-- what Decode tells -/
def decT (bits : Nat) : Nat := if okD bits then tgt bits else 0
def decE (bits : Nat) : Int := if okD bits then 0 else 6

end Go.Proofs.YtmkgbinmilcojaaGreat

/- Package wide: Product. -/
import Derived.Test.YtackdgbcmeafhaaGreatWideG
namespace Go.Proofs.YtackdgbcmeafhaaGreat
open Go.RowKit Go.Maps Go.Shelf

theorem prod_lt {a b : Nat} (ha : a < 18446744073709551616) (hb : b < 18446744073709551616) : a * b < 340282366920938463463374607431768211456 := by
  have h : a * b ≤ 18446744073709551615 * 18446744073709551615 := Nat.mul_le_mul (by omega) (by omega)
  omega
set_option maxHeartbeats 1000000 in
theorem wide_Product (a b : Nat) (ha : a < 18446744073709551616) (hb : b < 18446744073709551616) (w : World) :
    Calls Tryz.prog 60 #[.int .u64 a, .int .u64 b] w fun e w' => e = .returned (wv (a * b)) ∧ Chg [] w w' := by
  have hp := prod_lt ha hb
  have e : wv (a * b) = V4 ((a * b % 18446744073709551616 : Nat) : Int) ((a * b / 18446744073709551616 : Nat) : Int) 0 0 :=
    (wv_of (wd_nat (by omega)) (wd_nat (by omega)) wd0 wd0 (by unfold n4; omega)).symm
  rw [e]
  have hm := bits_Mul64 a b ha hb
  generalize ((a * b % 18446744073709551616 : Nat) : Int) = lo at hm ⊢
  generalize ((a * b / 18446744073709551616 : Nat) : Int) = hi at hm ⊢
  clear e hp
  go_enter Tryz.func60, Tryz.ntmps60
  go_wp2_with (go_at_call 106; refine (hm _).mono ?_; rintro e w' ⟨rfl, rfl⟩)
  exact bodyPost_ret (v := V4 lo hi 0 0) (by simp [results, Tryz.results60, go_sem, V4]) rfl ⟨rfl, (by repeat (first | exact Chg.refl _ _ | refine Chg.alloc ?_ _ | refine Chg.drew ?_ | refine Chg.drewN ?_ _ | refine Chg.setCell ?_ (.inr (by simp)) _))⟩
end Go.Proofs.YtackdgbcmeafhaaGreat

/- Package wide: Cmp, Bits, Uint. -/
import Derived.Test.YtackdgbcmeafhaaGreatWideA
import Derived.Test.YtackdgbcmeafhaaGreatBlen
import Derived.Test.YtackdgbcmeafhaaGreatSrtL
namespace Go.Proofs.YtackdgbcmeafhaaGreat
open Go.RowKit Go.Maps Go.Shelf

def cmpI (a b : Int) : Int := if a < b then -1 else if b < a then 1 else 0
theorem cmpI_lt {a b : Int} (h : a < b) : cmpI a b = -1 := by unfold cmpI; rw [if_pos h]
theorem cmpI_gt {a b : Int} (h : b < a) : cmpI a b = 1 := by unfold cmpI; rw [if_neg (by omega), if_pos h]
theorem cmpI_eq (a : Int) : cmpI a a = 0 := by unfold cmpI; rw [if_neg (by omega), if_neg (by omega)]

set_option maxRecDepth 100000 in
set_option maxHeartbeats 8000000 in
theorem wide_CmpW (a0 a1 a2 a3 b0 b1 b2 b3 : Int) (w : World) (ha0 : Wd a0) (ha1 : Wd a1) (ha2 : Wd a2) (ha3 : Wd a3) (hb0 : Wd b0) (hb1 : Wd b1) (hb2 : Wd b2) (hb3 : Wd b3) :
    Calls Tryz.prog 109 #[V4 a0 a1 a2 a3, V4 b0 b1 b2 b3] w fun e w' => e = .returned (.int .i64 (cmpI (n4 a0 a1 a2 a3) (n4 b0 b1 b2 b3))) ∧ Chg [] w w' := by
  obtain ⟨p0, q0⟩ := ha0
  obtain ⟨p1, q1⟩ := ha1
  obtain ⟨p2, q2⟩ := ha2
  obtain ⟨p3, q3⟩ := ha3
  obtain ⟨r0, s0⟩ := hb0
  obtain ⟨r1, s1⟩ := hb1
  obtain ⟨r2, s2⟩ := hb2
  obtain ⟨r3, s3⟩ := hb3
  rcases Int.lt_trichotomy a3 b3 with h3 | h3 | h3
  · rw [cmpI_lt (by unfold n4; omega)]
    unfold V4
    go_enter Tryz.func109, Tryz.ntmps109
    go_wp2
    refine wp_loop_rounds 5 ?_
    rw [rounds_succ]
    go_wp2
    go_region
    go_wp2
    go_ret
    exact ⟨rfl, (by repeat (first | exact Chg.refl _ _ | refine Chg.alloc ?_ _ | refine Chg.drew ?_ | refine Chg.drewN ?_ _ | refine Chg.setCell ?_ (.inr (by simp)) _))⟩
  · subst h3
    rcases Int.lt_trichotomy a2 b2 with h2 | h2 | h2
    · rw [cmpI_lt (by unfold n4; omega)]
      unfold V4
      go_enter Tryz.func109, Tryz.ntmps109
      go_wp2
      refine wp_loop_rounds 5 ?_
      rw [rounds_succ]
      go_wp2
      go_region
      go_wp2
      go_region
      go_wp2
      rw [rounds_succ]
      go_wp2
      go_region
      go_wp2
      go_ret
      exact ⟨rfl, (by repeat (first | exact Chg.refl _ _ | refine Chg.alloc ?_ _ | refine Chg.drew ?_ | refine Chg.drewN ?_ _ | refine Chg.setCell ?_ (.inr (by simp)) _))⟩
    · subst h2
      rcases Int.lt_trichotomy a1 b1 with h1 | h1 | h1
      · rw [cmpI_lt (by unfold n4; omega)]
        unfold V4
        go_enter Tryz.func109, Tryz.ntmps109
        go_wp2
        refine wp_loop_rounds 5 ?_
        rw [rounds_succ]
        go_wp2
        go_region
        go_wp2
        go_region
        go_wp2
        rw [rounds_succ]
        go_wp2
        go_region
        go_wp2
        go_region
        go_wp2
        rw [rounds_succ]
        go_wp2
        go_region
        go_wp2
        go_ret
        exact ⟨rfl, (by repeat (first | exact Chg.refl _ _ | refine Chg.alloc ?_ _ | refine Chg.drew ?_ | refine Chg.drewN ?_ _ | refine Chg.setCell ?_ (.inr (by simp)) _))⟩
      · subst h1
        rcases Int.lt_trichotomy a0 b0 with h0 | h0 | h0
        · rw [cmpI_lt (by unfold n4; omega)]
          unfold V4
          go_enter Tryz.func109, Tryz.ntmps109
          go_wp2
          refine wp_loop_rounds 5 ?_
          rw [rounds_succ]
          go_wp2
          go_region
          go_wp2
          go_region
          go_wp2
          rw [rounds_succ]
          go_wp2
          go_region
          go_wp2
          go_region
          go_wp2
          rw [rounds_succ]
          go_wp2
          go_region
          go_wp2
          go_region
          go_wp2
          rw [rounds_succ]
          go_wp2
          go_region
          go_wp2
          go_ret
          exact ⟨rfl, (by repeat (first | exact Chg.refl _ _ | refine Chg.alloc ?_ _ | refine Chg.drew ?_ | refine Chg.drewN ?_ _ | refine Chg.setCell ?_ (.inr (by simp)) _))⟩
        · subst h0
          rw [cmpI_eq]
          unfold V4
          go_enter Tryz.func109, Tryz.ntmps109
          go_wp2
          refine wp_loop_rounds 5 ?_
          rw [rounds_succ]
          go_wp2
          go_region
          go_wp2
          go_region
          go_wp2
          rw [rounds_succ]
          go_wp2
          go_region
          go_wp2
          go_region
          go_wp2
          rw [rounds_succ]
          go_wp2
          go_region
          go_wp2
          go_region
          go_wp2
          rw [rounds_succ]
          go_wp2
          go_region
          go_wp2
          go_region
          go_wp2
          rw [rounds_succ]
          go_wp2
          go_ret
          exact ⟨rfl, (by repeat (first | exact Chg.refl _ _ | refine Chg.alloc ?_ _ | refine Chg.drew ?_ | refine Chg.drewN ?_ _ | refine Chg.setCell ?_ (.inr (by simp)) _))⟩
        · rw [cmpI_gt (by unfold n4; omega)]
          unfold V4
          go_enter Tryz.func109, Tryz.ntmps109
          go_wp2
          refine wp_loop_rounds 5 ?_
          rw [rounds_succ]
          go_wp2
          go_region
          go_wp2
          go_region
          go_wp2
          rw [rounds_succ]
          go_wp2
          go_region
          go_wp2
          go_region
          go_wp2
          rw [rounds_succ]
          go_wp2
          go_region
          go_wp2
          go_region
          go_wp2
          rw [rounds_succ]
          go_wp2
          go_region
          go_wp2
          go_region
          go_wp2
          go_ret
          exact ⟨rfl, (by repeat (first | exact Chg.refl _ _ | refine Chg.alloc ?_ _ | refine Chg.drew ?_ | refine Chg.drewN ?_ _ | refine Chg.setCell ?_ (.inr (by simp)) _))⟩
      · rw [cmpI_gt (by unfold n4; omega)]
        unfold V4
        go_enter Tryz.func109, Tryz.ntmps109
        go_wp2
        refine wp_loop_rounds 5 ?_
        rw [rounds_succ]
        go_wp2
        go_region
        go_wp2
        go_region
        go_wp2
        rw [rounds_succ]
        go_wp2
        go_region
        go_wp2
        go_region
        go_wp2
        rw [rounds_succ]
        go_wp2
        go_region
        go_wp2
        go_region
        go_wp2
        go_ret
        exact ⟨rfl, (by repeat (first | exact Chg.refl _ _ | refine Chg.alloc ?_ _ | refine Chg.drew ?_ | refine Chg.drewN ?_ _ | refine Chg.setCell ?_ (.inr (by simp)) _))⟩
    · rw [cmpI_gt (by unfold n4; omega)]
      unfold V4
      go_enter Tryz.func109, Tryz.ntmps109
      go_wp2
      refine wp_loop_rounds 5 ?_
      rw [rounds_succ]
      go_wp2
      go_region
      go_wp2
      go_region
      go_wp2
      rw [rounds_succ]
      go_wp2
      go_region
      go_wp2
      go_region
      go_wp2
      go_ret
      exact ⟨rfl, (by repeat (first | exact Chg.refl _ _ | refine Chg.alloc ?_ _ | refine Chg.drew ?_ | refine Chg.drewN ?_ _ | refine Chg.setCell ?_ (.inr (by simp)) _))⟩
  · rw [cmpI_gt (by unfold n4; omega)]
    unfold V4
    go_enter Tryz.func109, Tryz.ntmps109
    go_wp2
    refine wp_loop_rounds 5 ?_
    rw [rounds_succ]
    go_wp2
    go_region
    go_wp2
    go_region
    go_wp2
    go_ret
    exact ⟨rfl, (by repeat (first | exact Chg.refl _ _ | refine Chg.alloc ?_ _ | refine Chg.drew ?_ | refine Chg.drewN ?_ _ | refine Chg.setCell ?_ (.inr (by simp)) _))⟩

set_option maxRecDepth 100000 in
set_option maxHeartbeats 4000000 in
theorem wide_BitsW (a0 a1 a2 a3 : Int) (w : World) (ha0 : Wd a0) (ha1 : Wd a1) (ha2 : Wd a2) (ha3 : Wd a3) :
    Calls Tryz.prog 107 #[V4 a0 a1 a2 a3] w fun e w' => e = .returned (.int .i64 (blen (n4 a0 a1 a2 a3).toNat)) ∧ Chg [] w w' := by
  have hb : ∀ x, Wd x → ∀ w, Calls Tryz.prog 127 #[.int .u64 x] w fun e w' => e = .returned (.int .i64 (blen x.toNat)) ∧ w = w' := fun x hx w => by
    have := hx.1; have := hx.2
    refine (Tryz.srt_bits_Len64 x w (by omega) (by omega)).mono fun e w' ⟨he, hw⟩ => ⟨?_, hw.symm⟩
    rw [he, bitLen_eq (by omega)]
  have hbl : ∀ x, Wd x → blen x.toNat ≤ 64 := fun x hx => blen_le.2 (by have := hx.1; have := hx.2; omega)
  have e0 : ∀ x y : Nat, x < 18446744073709551616 → y ≠ 0 → blen (x + 18446744073709551616 * y) = 64 + blen y := fun x y hx hy => blen_add (k := 64) hx hy
  obtain ⟨p0, q0⟩ := ha0
  obtain ⟨p1, q1⟩ := ha1
  obtain ⟨p2, q2⟩ := ha2
  obtain ⟨p3, q3⟩ := ha3
  by_cases h3 : 0 < a3
  · have hr : (blen (n4 a0 a1 a2 a3).toNat : Int) = 192 + blen a3.toNat := by
      have := blen_add (x := (a0 + 18446744073709551616 * a1 + 340282366920938463463374607431768211456 * a2).toNat) (k := 192) (y := a3.toNat) (by omega) (by omega)
      rw [show (n4 a0 a1 a2 a3).toNat = (a0 + 18446744073709551616 * a1 + 340282366920938463463374607431768211456 * a2).toNat + 2 ^ 192 * a3.toNat by unfold n4; omega, this]; omega
    have hl := hb a3 ⟨p3, q3⟩
    have hll := hbl a3 ⟨p3, q3⟩
    rw [hr]
    clear hr hb hbl e0
    generalize blen a3.toNat = L at hl hll ⊢
    unfold V4
    go_enter Tryz.func107, Tryz.ntmps107
    go_wp2
    refine wp_loop_rounds 5 ?_
    rw [rounds_succ]
    go_wp2_with fail
    refine (hl _).mono ?_
    rintro e w' ⟨rfl, rfl⟩
    go_wp2
    go_ret
    exact ⟨rfl, (by repeat (first | exact Chg.refl _ _ | refine Chg.alloc ?_ _ | refine Chg.drew ?_ | refine Chg.drewN ?_ _ | refine Chg.setCell ?_ (.inr (by simp)) _))⟩
  · obtain rfl : a3 = 0 := by omega
    by_cases h2 : 0 < a2
    · have hr : (blen (n4 a0 a1 a2 0).toNat : Int) = 128 + blen a2.toNat := by
        have := blen_add (x := (a0 + 18446744073709551616 * a1).toNat) (k := 128) (y := a2.toNat) (by omega) (by omega)
        rw [show (n4 a0 a1 a2 0).toNat = (a0 + 18446744073709551616 * a1).toNat + 2 ^ 128 * a2.toNat by unfold n4; omega, this]; omega
      have hl := hb a2 ⟨p2, q2⟩
      have hll := hbl a2 ⟨p2, q2⟩
      rw [hr]
      clear hr hb hbl e0
      generalize blen a2.toNat = L at hl hll ⊢
      unfold V4
      go_enter Tryz.func107, Tryz.ntmps107
      go_wp2
      refine wp_loop_rounds 5 ?_
      rw [rounds_succ]
      go_wp2
      rw [rounds_succ]
      go_wp2_with fail
      refine (hl _).mono ?_
      rintro e w' ⟨rfl, rfl⟩
      go_wp2
      go_ret
      exact ⟨rfl, (by repeat (first | exact Chg.refl _ _ | refine Chg.alloc ?_ _ | refine Chg.drew ?_ | refine Chg.drewN ?_ _ | refine Chg.setCell ?_ (.inr (by simp)) _))⟩
    · obtain rfl : a2 = 0 := by omega
      by_cases h1 : 0 < a1
      · have hr : (blen (n4 a0 a1 0 0).toNat : Int) = 64 + blen a1.toNat := by
          have := blen_add (x := a0.toNat) (k := 64) (y := a1.toNat) (by omega) (by omega)
          rw [show (n4 a0 a1 0 0).toNat = a0.toNat + 2 ^ 64 * a1.toNat by unfold n4; omega, this]; omega
        have hl := hb a1 ⟨p1, q1⟩
        have hll := hbl a1 ⟨p1, q1⟩
        rw [hr]
        clear hr hb hbl e0
        generalize blen a1.toNat = L at hl hll ⊢
        unfold V4
        go_enter Tryz.func107, Tryz.ntmps107
        go_wp2
        refine wp_loop_rounds 5 ?_
        rw [rounds_succ]
        go_wp2
        rw [rounds_succ]
        go_wp2
        rw [rounds_succ]
        go_wp2_with fail
        refine (hl _).mono ?_
        rintro e w' ⟨rfl, rfl⟩
        go_wp2
        go_ret
        exact ⟨rfl, (by repeat (first | exact Chg.refl _ _ | refine Chg.alloc ?_ _ | refine Chg.drew ?_ | refine Chg.drewN ?_ _ | refine Chg.setCell ?_ (.inr (by simp)) _))⟩
      · obtain rfl : a1 = 0 := by omega
        by_cases h0 : 0 < a0
        · have hr : (blen (n4 a0 0 0 0).toNat : Int) = blen a0.toNat := by
            rw [show (n4 a0 0 0 0).toNat = a0.toNat by unfold n4; omega]
          have hl := hb a0 ⟨p0, q0⟩
          have hll := hbl a0 ⟨p0, q0⟩
          rw [hr]
          clear hr hb hbl e0
          generalize blen a0.toNat = L at hl hll ⊢
          unfold V4
          go_enter Tryz.func107, Tryz.ntmps107
          go_wp2
          refine wp_loop_rounds 5 ?_
          rw [rounds_succ]
          go_wp2
          rw [rounds_succ]
          go_wp2
          rw [rounds_succ]
          go_wp2
          rw [rounds_succ]
          go_wp2_with fail
          refine (hl _).mono ?_
          rintro e w' ⟨rfl, rfl⟩
          go_wp2
          go_ret
          exact ⟨rfl, (by repeat (first | exact Chg.refl _ _ | refine Chg.alloc ?_ _ | refine Chg.drew ?_ | refine Chg.drewN ?_ _ | refine Chg.setCell ?_ (.inr (by simp)) _))⟩
        · obtain rfl : a0 = 0 := by omega
          clear hb hbl e0
          unfold V4
          rw [show ((blen (n4 0 0 0 0).toNat : Nat) : Int) = 0 from rfl]
          go_enter Tryz.func107, Tryz.ntmps107
          go_wp2
          refine wp_loop_rounds 5 ?_
          iterate 4
            rw [rounds_succ]
            go_wp2
          rw [rounds_succ]
          go_wp2
          go_ret
          exact ⟨rfl, (by repeat (first | exact Chg.refl _ _ | refine Chg.alloc ?_ _ | refine Chg.drew ?_ | refine Chg.drewN ?_ _ | refine Chg.setCell ?_ (.inr (by simp)) _))⟩
end Go.Proofs.YtackdgbcmeafhaaGreat

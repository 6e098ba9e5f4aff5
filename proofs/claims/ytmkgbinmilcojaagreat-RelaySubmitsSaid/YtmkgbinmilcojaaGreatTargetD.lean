/- Package target: Encode. -/
import Derived.Test.YtmkgbinmilcojaaGreatTargetC
namespace Go.Proofs.YtmkgbinmilcojaaGreat
open Go.RowKit Go.Maps Go.Shelf

set_option maxRecDepth 100000 in
set_option maxHeartbeats 4000000 in
theorem wide_Right_neg (N n : Nat) (hN : N < TOP) (hn : 0 < n) (hn2 : n < 256) (w : World) : Calls Tryz.prog 113 #[wv N, .int .i64 (-(n : Int))] w fun e w' => e = .returned (wv (N * 2 ^ n % TOP)) ∧ Chg [] w w' := by
  have hr := wide_Left N n hN hn2
  have hlt : N * 2 ^ n % TOP < TOP := Nat.mod_lt _ (by unfold TOP; omega)
  generalize N * 2 ^ n % TOP = X at hr hlt ⊢
  obtain ⟨a0, a1, a2, a3, ha0, ha1, ha2, ha3, hNe, hwv⟩ := words N hN
  obtain ⟨x0, x1, x2, x3, hx0, hx1, hx2, hx3, hXe, hwx⟩ := words X hlt
  rw [hwv, hwx] at hr
  rw [hwv, hwx]
  clear hNe hXe hwv hwx
  unfold V4 at hr ⊢
  go_enter Tryz.func113, Tryz.ntmps113
  go_wp2_with fail
  refine (hr _).mono ?_
  rintro e w1 ⟨rfl, hc⟩
  have hk := (Blk.new (w.alloc (.cells #[.int .u64 a0, .int .u64 a1, .int .u64 a2, .int .u64 a3] 51)) #[.int .u64 0, .int .u64 0, .int .u64 0, .int .u64 0] 51).chg hc (by simp)
  simp only [World.size_alloc] at hk
  have c0 := hk.cell 0 rfl
  have c1 := hk.cell 1 rfl
  have c2 := hk.cell 2 rfl
  have c3 := hk.cell 3 rfl
  have f0 := hk.free 0
  have f1 := hk.free 1
  have f2 := hk.free 2
  have f3 := hk.free 3
  go_wp2
  have hk2 := (((hk.set 0 (.int .u64 x0)).set 1 (.int .u64 x1)).set 2 (.int .u64 x2)).set 3 (.int .u64 x3)
  have d0 := hk2.cell 0 rfl
  have d1 := hk2.cell 1 rfl
  have d2 := hk2.cell 2 rfl
  have d3 := hk2.cell 3 rfl
  have hcc := (((Chg.refl [] w).alloc (.cells #[.int .u64 a0, .int .u64 a1, .int .u64 a2, .int .u64 a3] 51)).alloc (.cells #[.int .u64 0, .int .u64 0, .int .u64 0, .int .u64 0] 51)).trans hc (by simp)
  exact bodyPost_ret (v := V4 x0 x1 x2 x3) (by simp [results, Tryz.results113, go_sem, V4, d0, d1, d2, d3]) rfl ⟨by unfold V4; rfl, (((hcc.setCell (.inr (by simp)) _).setCell (.inr (by simp)) _).setCell (.inr (by simp)) _).setCell (.inr (by simp)) _⟩

theorem right_man (N : Nat) (hN : N < TOP) (w : World) : Calls Tryz.prog 113 #[wv N, .int .i64 (8 * ((exN N : Int) - 3))] w fun e w' => e = .returned (wv (manN N)) ∧ Chg [] w w' := by
  have hex := exN_le hN
  have hml := manN_lt (n := N)
  by_cases h3 : 3 ≤ exN N
  · have h := wide_Right N (8 * (exN N - 3)) hN (by omega) w
    have e : manN N = N / 2 ^ (8 * (exN N - 3)) := by unfold manN; rw [if_pos h3, p256]
    rw [← e] at h
    rwa [show ((8 * (exN N - 3) : Nat) : Int) = 8 * ((exN N : Int) - 3) by omega] at h
  · have h := wide_Right_neg N (8 * (3 - exN N)) hN (by omega) (by omega) w
    have e : manN N = N * 2 ^ (8 * (3 - exN N)) := by unfold manN; rw [if_neg h3, p256]
    rw [← e, Nat.mod_eq_of_lt (by unfold TOP; omega)] at h
    rwa [show (-((8 * (3 - exN N) : Nat) : Int)) = 8 * ((exN N : Int) - 3) by omega] at h

theorem mask64 {a : Nat} (ha : a < 16777216) : Go.bits .and .u64 (a : Int) 8388608 = ((if 8388608 ≤ a then 8388608 else 0 : Nat) : Int) := by
  have := bits_and_u64_nat a 8388608 (by omega) (by omega)
  rw [and_bit23] at this
  refine this.trans ?_
  congr 1
  split
  · rw [show a / 8388608 % 2 = 1 by omega]
  · rw [show a / 8388608 % 2 = 0 by omega]
theorem or_u32 (a b : Nat) (ha : a < 4294967296) (hb : b < 4294967296) : Go.bits .or .u32 (a : Int) (b : Int) = ((a ||| b : Nat) : Int) := by
  have hx : a ||| b < 2 ^ 32 := Nat.or_lt_two_pow (by omega) (by omega)
  have h1 : (BitVec.ofInt 32 (a : Int)).toNat = a := by
    rw [BitVec.ofInt_natCast, BitVec.toNat_ofNat]; exact Nat.mod_eq_of_lt (by omega)
  have h2 : (BitVec.ofInt 32 (b : Int)).toNat = b := by
    rw [BitVec.ofInt_natCast, BitVec.toNat_ofNat]; exact Nat.mod_eq_of_lt (by omega)
  show IntKind.u32.wrap ((BitVec.ofInt 32 (a : Int) ||| BitVec.ofInt 32 (b : Int)).toNat : Int) = _
  rw [BitVec.toNat_or, h1, h2]
  simp [IntKind.wrap, IntKind.bits, IntKind.signed]
  omega
theorem or24 {a e : Nat} (ha : a < 16777216) (he : e < 256) : Go.bits .or .u32 (a : Int) ((e : Int) * 16777216) = ((a + e * 16777216 : Nat) : Int) := by
  have h := or_u32 a (e * 16777216) (by omega) (by omega)
  have h2 := Nat.two_pow_add_eq_or_of_lt (i := 24) (b := a) (by omega) e
  rw [show (2 : Nat) ^ 24 = 16777216 from rfl] at h2
  rw [show ((e : Int) * 16777216) = ((e * 16777216 : Nat) : Int) by omega, h, Nat.or_comm, Nat.mul_comm e, ← h2, Nat.add_comm]

set_option maxRecDepth 100000 in
set_option maxHeartbeats 8000000 in
theorem target_Encode (N : Nat) (hN : N < TOP) (w : World) :
    Calls Tryz.prog 121 #[wv N] w fun e w' => e = .returned (.int .u32 (encN N)) ∧ Chg [] w w' := by
  have hbits := wide_Bits N hN
  have hright := right_man N hN
  have hml := manN_lt (n := N)
  have hex := exN_le hN
  have huint := wide_Uint (manN N) (by unfold TOP; omega)
  have hb24 : blen (manN N) ≤ 64 := blen_le.2 (by omega)
  rw [if_pos hb24, decide_eq_true hb24] at huint
  have hexd : ((blen N : Int) + 7) / 8 = (exN N : Int) := by unfold exN; omega
  have hL := blen_top hN
  have hend : encN N = if 8388608 ≤ manN N then manN N / 256 + (exN N + 1) * 16777216 else manN N + exN N * 16777216 := rfl
  have hmask := mask64 hml
  have hor1 := or24 (a := manN N / 256) (e := exN N + 1) (by omega) (by omega)
  have hor2 := or24 (a := manN N) (e := exN N) hml (by omega)
  obtain ⟨a0, a1, a2, a3, ha0, ha1, ha2, ha3, hNe, hwv⟩ := words N hN
  have hMw := wv_small (show manN N < 18446744073709551616 by omega)
  rw [hMw] at hright huint
  rw [hwv] at hbits hright ⊢
  generalize encN N = R at hend ⊢
  generalize manN N = M at *
  generalize exN N = E at *
  generalize blen N = L at *
  clear hNe hwv hMw hb24
  have hMi : (M : Int) < 16777216 := by omega
  have hEi : (E : Int) ≤ 32 := by omega
  have hLi : (L : Int) ≤ 256 := by omega
  unfold V4 at hbits hright huint ⊢
  by_cases hbig : 8388608 ≤ M
  · rw [if_pos hbig] at hmask hend
    have HR := Lib.hid hend
    have hm8 : ((8388608 : Nat) : Int) = 8388608 := rfl
    rw [hm8] at hmask
    have hor : Go.bits .or .u32 ((M : Int) / 256) (((E : Int) + 1) * 16777216) = (R : Int) := by
      have h1 : ((M / 256 : Nat) : Int) = (M : Int) / 256 := by omega
      have h2 : ((E + 1 : Nat) : Int) = (E : Int) + 1 := by omega
      rw [h1, h2] at hor1
      rw [hor1, HR.out]
    clear hend hor1 hor2 hm8 hbig hml hex hL
    go_enter Tryz.func121, Tryz.ntmps121
    go_wp2_with fail
    refine (hbits _).mono ?_
    rintro e' w1 ⟨rfl, hc1⟩
    have k1 := (Blk.new w #[.int .u64 a0, .int .u64 a1, .int .u64 a2, .int .u64 a3] 51).chg hc1 (by simp)
    have c0 := k1.cell 0 (v := .int .u64 a0) rfl
    have c1 := k1.cell 1 (v := .int .u64 a1) rfl
    have c2 := k1.cell 2 (v := .int .u64 a2) rfl
    have c3 := k1.cell 3 (v := .int .u64 a3) rfl
    have kc := ((Chg.refl [] w).alloc (.cells #[.int .u64 a0, .int .u64 a1, .int .u64 a2, .int .u64 a3] 51)).trans hc1 (by simp)
    go_wp2_with fail
    refine (hright _).mono ?_
    rintro e' w2 ⟨rfl, hc2⟩
    go_wp2_with fail
    refine (huint _).mono ?_
    rintro e' w3 ⟨rfl, hc3⟩
    go_wp2
    go_ret
    exact ⟨rfl, (kc.trans hc2 (by simp)).trans hc3 (by simp)⟩
  · rw [if_neg hbig] at hmask hend
    have HR := Lib.hid hend
    have hm8 : ((0 : Nat) : Int) = 0 := rfl
    rw [hm8] at hmask
    have hor : Go.bits .or .u32 (M : Int) ((E : Int) * 16777216) = (R : Int) := by
      rw [hor2, HR.out]
    clear hend hor1 hor2 hm8 hbig hml hex hL
    go_enter Tryz.func121, Tryz.ntmps121
    go_wp2_with fail
    refine (hbits _).mono ?_
    rintro e' w1 ⟨rfl, hc1⟩
    have k1 := (Blk.new w #[.int .u64 a0, .int .u64 a1, .int .u64 a2, .int .u64 a3] 51).chg hc1 (by simp)
    have c0 := k1.cell 0 (v := .int .u64 a0) rfl
    have c1 := k1.cell 1 (v := .int .u64 a1) rfl
    have c2 := k1.cell 2 (v := .int .u64 a2) rfl
    have c3 := k1.cell 3 (v := .int .u64 a3) rfl
    have kc := ((Chg.refl [] w).alloc (.cells #[.int .u64 a0, .int .u64 a1, .int .u64 a2, .int .u64 a3] 51)).trans hc1 (by simp)
    go_wp2_with fail
    refine (hright _).mono ?_
    rintro e' w2 ⟨rfl, hc2⟩
    go_wp2_with fail
    refine (huint _).mono ?_
    rintro e' w3 ⟨rfl, hc3⟩
    go_wp2
    go_ret
    exact ⟨rfl, (kc.trans hc2 (by simp)).trans hc3 (by simp)⟩
end Go.Proofs.YtmkgbinmilcojaaGreat

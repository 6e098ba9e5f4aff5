import Derived.Test.YtmkgbinmilcojaaGreatLib
import Derived.Lib.Mul64
import Derived.Laws.Bits64b
import Derived.Shelf.Spec.BitsCarry
import Derived.Shelf.Bits.Mul64
import Derived.LoopN
import Derived.Lib.ItoaNum
import Derived.Test.YtmkgbinmilcojaaGreatSrtL

/- Package wide: numbers of 256 bits as four words; what it asks of math/bits. -/
namespace Go.Proofs.YtmkgbinmilcojaaGreat
open Go.RowKit Go.Maps Go.Shelf

/-! ### words -/
/-- four words' number. -/
def num4 (a b c d : Nat) : Nat := a + 18446744073709551616 * b + 340282366920938463463374607431768211456 * c + 6277101735386680763835789423207666416102355444464034512896 * d
def W4 (a b c d : Nat) : Value := .agg #[.int .u64 (a : Int), .int .u64 (b : Int), .int .u64 (c : Int), .int .u64 (d : Int)]
/-- a number below 2^256, as four words. -/
def wv (n : Nat) : Value := W4 (n % 18446744073709551616) (n / 18446744073709551616 % 18446744073709551616) (n / 340282366920938463463374607431768211456 % 18446744073709551616) (n / 6277101735386680763835789423207666416102355444464034512896 % 18446744073709551616)
def TOP : Nat := 115792089237316195423570985008687907853269984665640564039457584007913129639936
theorem wv_num {a b c d : Nat} (ha : a < 18446744073709551616) (hb : b < 18446744073709551616) (hc : c < 18446744073709551616) (hd : d < 18446744073709551616) : wv (num4 a b c d) = W4 a b c d := by
  unfold wv num4
  have e0 : (a + 18446744073709551616 * b + 340282366920938463463374607431768211456 * c + 6277101735386680763835789423207666416102355444464034512896 * d) % 18446744073709551616 = a := by omega
  have e1 : (a + 18446744073709551616 * b + 340282366920938463463374607431768211456 * c + 6277101735386680763835789423207666416102355444464034512896 * d) / 18446744073709551616 % 18446744073709551616 = b := by omega
  have e2 : (a + 18446744073709551616 * b + 340282366920938463463374607431768211456 * c + 6277101735386680763835789423207666416102355444464034512896 * d) / 340282366920938463463374607431768211456 % 18446744073709551616 = c := by omega
  have e3 : (a + 18446744073709551616 * b + 340282366920938463463374607431768211456 * c + 6277101735386680763835789423207666416102355444464034512896 * d) / 6277101735386680763835789423207666416102355444464034512896 % 18446744073709551616 = d := by omega
  rw [e0, e1, e2, e3]
theorem num_lt {a b c d : Nat} (ha : a < 18446744073709551616) (hb : b < 18446744073709551616) (hc : c < 18446744073709551616) (hd : d < 18446744073709551616) : num4 a b c d < TOP := by
  unfold num4 TOP; omega
/-- each number below 2^256 is its words'. -/
theorem num_of (n : Nat) (h : n < TOP) : ∃ a b c d : Nat, a < 18446744073709551616 ∧ b < 18446744073709551616 ∧ c < 18446744073709551616 ∧ d < 18446744073709551616 ∧ n = num4 a b c d := by
  refine ⟨n % 18446744073709551616, n / 18446744073709551616 % 18446744073709551616, n / 340282366920938463463374607431768211456 % 18446744073709551616, n / 6277101735386680763835789423207666416102355444464034512896 % 18446744073709551616, by omega, by omega, by omega, by omega, ?_⟩
  unfold TOP at h
  unfold num4
  omega

/-! ### math/bits -/
theorem run_Add64 (x y c : Nat) (hc : c ≤ 1) (w : World) :
    (callFunc 74 #[.int .u64 x, .int .u64 y, .int .u64 c]).run Tryz.prog w = .ok (.value (.tuple #[.int .u64 (((x + y + c) % 18446744073709551616 : Nat) : Int), .int .u64 (((x + y + c) / 18446744073709551616 : Nat) : Int)])) w := by
  rw [run_callFunc_extern Tryz.func74 (by kernel_rfl) (by kernel_rfl) (by kernel_rfl) (e := add64Entry) (by kernel_rfl), run_add64 x y c (by omega) (by omega) (by omega) (by omega)]
  simp only [Result.andThen]
  congr 5 <;> omega
theorem run_Sub64 (x y b : Nat) (hb : b ≤ 1) (w : World) :
    (callFunc 132 #[.int .u64 x, .int .u64 y, .int .u64 b]).run Tryz.prog w = .ok (.value (.tuple #[.int .u64 (((x + 18446744073709551616 - y - b) % 18446744073709551616 : Nat) : Int), .int .u64 ((if x < y + b then 1 else 0 : Nat) : Int)])) w := by
  rw [run_callFunc_extern Tryz.func132 (by kernel_rfl) (by kernel_rfl) (by kernel_rfl) (e := Go.Proofs.sub64Entry) (by kernel_rfl), Go.Proofs.run_sub64 x y b hb]
  rfl
set_option maxHeartbeats 1000000 in
theorem bits_Mul64 (x y : Nat) (hx : x < 18446744073709551616) (hy : y < 18446744073709551616) (w : World) :
    Calls Tryz.prog 141 #[.int .u64 x, .int .u64 y] w fun e w' => e = .returned (.tuple #[.int .u64 ((x * y / 18446744073709551616 : Nat) : Int), .int .u64 ((x * y % 18446744073709551616 : Nat) : Int)]) ∧ w = w' := by
  obtain ⟨bd, bt, bw, hhi⟩ := Go.Lib.mul64_hi x y hx hy
  have ba := Go.Lib.half_mul_le (a := x / 4294967296) (b := y / 4294967296) (by omega) (by omega)
  have bb := Go.Lib.half_mul_le (a := x / 4294967296) (b := y % 4294967296) (by omega) (by omega)
  have bc := Go.Lib.half_mul_le (a := x % 4294967296) (b := y / 4294967296) (by omega) (by omega)
  have ba' : x / 4294967296 * (y / 4294967296) < 18446744073709551616 := by omega
  have bb' : x / 4294967296 * (y % 4294967296) < 18446744073709551616 := by omega
  have bc' : x % 4294967296 * (y / 4294967296) < 18446744073709551616 := by omega
  have bh1 : x / 4294967296 * (y / 4294967296) + (x / 4294967296 * (y % 4294967296) + x % 4294967296 * (y % 4294967296) / 4294967296) / 4294967296 < 18446744073709551616 := by omega
  have bh : x / 4294967296 * (y / 4294967296) + (x / 4294967296 * (y % 4294967296) + x % 4294967296 * (y % 4294967296) / 4294967296) / 4294967296 + ((x / 4294967296 * (y % 4294967296) + x % 4294967296 * (y % 4294967296) / 4294967296) % 4294967296 + x % 4294967296 * (y / 4294967296)) / 4294967296 < 18446744073709551616 := by omega
  go_enter Tryz.func141, Tryz.ntmps141
  go_wp2
  simp only [Mul64.maskN x hx, Mul64.maskN y hy, Mul64.divN, Mul64.mulN, Mul64.addN, Mul64.wrapN _ bd, Mul64.wrapN _ bb', Mul64.wrapN _ bt, Mul64.maskN _ bt, Mul64.wrapN _ bc', Mul64.wrapN _ bw, Mul64.wrapN _ ba', Mul64.wrapN _ bh1, Mul64.wrapN _ bh, Mul64.wrapM (x * y)]
  rw [hhi]
  go_ret2
  exact ⟨rfl, rfl⟩
end Go.Proofs.YtmkgbinmilcojaaGreat

/- Package wide: Of, Add, Sub, Mul. -/
namespace Go.Proofs.YtmkgbinmilcojaaGreat
open Go.RowKit Go.Maps Go.Shelf

/-- a word. -/
def Wd (x : Int) : Prop := 0 ≤ x ∧ x < 18446744073709551616
def V4 (a b c d : Int) : Value := .agg #[.int .u64 a, .int .u64 b, .int .u64 c, .int .u64 d]
def n4 (a b c d : Int) : Int := a + 18446744073709551616 * b + 340282366920938463463374607431768211456 * c + 6277101735386680763835789423207666416102355444464034512896 * d
theorem wv_n4 {a b c d : Int} (ha : Wd a) (hb : Wd b) (hc : Wd c) (hd : Wd d) : wv (n4 a b c d).toNat = V4 a b c d := by
  have h := wv_num (a := a.toNat) (b := b.toNat) (c := c.toNat) (d := d.toNat) (by have := ha.1; have := ha.2; omega) (by have := hb.1; have := hb.2; omega) (by have := hc.1; have := hc.2; omega) (by have := hd.1; have := hd.2; omega)
  have e : (n4 a b c d).toNat = num4 a.toNat b.toNat c.toNat d.toNat := by
    have := ha.1; have := hb.1; have := hc.1; have := hd.1
    unfold n4 num4; omega
  rw [e, h, W4, V4, Int.toNat_of_nonneg ha.1, Int.toNat_of_nonneg hb.1, Int.toNat_of_nonneg hc.1, Int.toNat_of_nonneg hd.1]
theorem n4_lt {a b c d : Int} (ha : Wd a) (hb : Wd b) (hc : Wd c) (hd : Wd d) : 0 ≤ n4 a b c d ∧ n4 a b c d < TOP := by
  have := ha.1; have := hb.1; have := hc.1; have := hd.1; have := ha.2; have := hb.2; have := hc.2; have := hd.2
  unfold n4 TOP; omega
/-- each number below 2^256, by its words. -/
theorem words (n : Nat) (h : n < TOP) : ∃ a b c d : Int, Wd a ∧ Wd b ∧ Wd c ∧ Wd d ∧ (n : Int) = n4 a b c d ∧ wv n = V4 a b c d := by
  obtain ⟨a, b, c, d, ha, hb, hc, hd, e⟩ := num_of n h
  refine ⟨a, b, c, d, ⟨by omega, by omega⟩, ⟨by omega, by omega⟩, ⟨by omega, by omega⟩, ⟨by omega, by omega⟩, ?_, ?_⟩
  · rw [e]; unfold n4 num4; omega
  · rw [e, wv_num ha hb hc hd, W4, V4]
theorem wv_of {n : Nat} {a b c d : Int} (ha : Wd a) (hb : Wd b) (hc : Wd c) (hd : Wd d) (e : (n : Int) = n4 a b c d) : V4 a b c d = wv n := by
  rw [← wv_n4 ha hb hc hd, ← e]; simp

theorem add64 (x y c : Int) (hx : Wd x) (hy : Wd y) (hc0 : 0 ≤ c) (hc : c ≤ 1) : ∃ s d : Int, Wd s ∧ 0 ≤ d ∧ d ≤ 1 ∧ x + y + c = s + 18446744073709551616 * d ∧
    ∀ w, (callFunc 74 #[.int .u64 x, .int .u64 y, .int .u64 c]).run Tryz.prog w = .ok (.value (.tuple #[.int .u64 s, .int .u64 d])) w := by
  obtain ⟨hx0, hx1⟩ := hx
  obtain ⟨hy0, hy1⟩ := hy
  refine ⟨(x + y + c) % 18446744073709551616, (x + y + c) / 18446744073709551616, ⟨by omega, by omega⟩, by omega, by omega, by omega, fun w => ?_⟩
  have h := run_Add64 x.toNat y.toNat c.toNat (by omega) w
  rw [Int.toNat_of_nonneg hx0, Int.toNat_of_nonneg hy0, Int.toNat_of_nonneg hc0] at h
  rw [h]
  have e1 : (((x.toNat + y.toNat + c.toNat) % 18446744073709551616 : Nat) : Int) = (x + y + c) % 18446744073709551616 := by omega
  have e2 : (((x.toNat + y.toNat + c.toNat) / 18446744073709551616 : Nat) : Int) = (x + y + c) / 18446744073709551616 := by omega
  rw [e1, e2]
theorem sub64 (x y c : Int) (hx : Wd x) (hy : Wd y) (hc0 : 0 ≤ c) (hc : c ≤ 1) : ∃ s d : Int, Wd s ∧ 0 ≤ d ∧ d ≤ 1 ∧ x - y - c = s - 18446744073709551616 * d ∧
    ∀ w, (callFunc 132 #[.int .u64 x, .int .u64 y, .int .u64 c]).run Tryz.prog w = .ok (.value (.tuple #[.int .u64 s, .int .u64 d])) w := by
  obtain ⟨hx0, hx1⟩ := hx
  obtain ⟨hy0, hy1⟩ := hy
  refine ⟨(x + 18446744073709551616 - y - c) % 18446744073709551616, if x < y + c then 1 else 0, ⟨by omega, by omega⟩, by split <;> omega, by split <;> omega, by split <;> omega, fun w => ?_⟩
  have h := run_Sub64 x.toNat y.toNat c.toNat (by omega) w
  rw [Int.toNat_of_nonneg hx0, Int.toNat_of_nonneg hy0, Int.toNat_of_nonneg hc0] at h
  rw [h]
  have e1 : (((x.toNat + 18446744073709551616 - y.toNat - c.toNat) % 18446744073709551616 : Nat) : Int) = (x + 18446744073709551616 - y - c) % 18446744073709551616 := by omega
  have e2 : (((if x.toNat < y.toNat + c.toNat then 1 else 0) : Nat) : Int) = if x < y + c then 1 else 0 := by split <;> split <;> omega
  rw [e1, e2]
theorem mul64 (x y : Int) (hx : Wd x) (hy : Wd y) : ∃ h l : Int, Wd l ∧ 0 ≤ h ∧ h ≤ 18446744073709551614 ∧ x * y = l + 18446744073709551616 * h ∧
    ∀ w, Calls Tryz.prog 141 #[.int .u64 x, .int .u64 y] w fun e w' => e = .returned (.tuple #[.int .u64 h, .int .u64 l]) ∧ w = w' := by
  obtain ⟨hx0, hx1⟩ := hx
  obtain ⟨hy0, hy1⟩ := hy
  obtain ⟨X, rfl⟩ := Int.eq_ofNat_of_zero_le hx0
  obtain ⟨Y, rfl⟩ := Int.eq_ofNat_of_zero_le hy0
  have hp : X * Y ≤ 18446744073709551615 * 18446744073709551615 := Nat.mul_le_mul (by omega) (by omega)
  refine ⟨((X * Y / 18446744073709551616 : Nat) : Int), ((X * Y % 18446744073709551616 : Nat) : Int), ⟨by omega, by omega⟩, by omega, by omega, ?_, fun w => bits_Mul64 X Y (by omega) (by omega) w⟩
  rw [← Int.natCast_mul]
  generalize X * Y = p at *
  omega

set_option maxRecDepth 100000 in
set_option maxHeartbeats 1000000 in
theorem wide_Of (x : Int) (w : World) :
    Calls Tryz.prog 87 #[.int .u64 x] w fun e w' => e = .returned (V4 x 0 0 0) ∧ Chg [] w w' := by
  go_enter Tryz.func87, Tryz.ntmps87
  go_wp2
  exact bodyPost_ret (v := V4 x 0 0 0) (by simp [results, Tryz.results87, go_sem, V4]) rfl ⟨rfl, (Chg.refl _ _).alloc _⟩

set_option maxRecDepth 100000 in
set_option maxHeartbeats 4000000 in
theorem wide_AddW (a0 a1 a2 a3 b0 b1 b2 b3 : Int) (w : World) (ha0 : Wd a0) (ha1 : Wd a1) (ha2 : Wd a2) (ha3 : Wd a3) (hb0 : Wd b0) (hb1 : Wd b1) (hb2 : Wd b2) (hb3 : Wd b3) :
    ∃ s0 s1 s2 s3 c : Int, Wd s0 ∧ Wd s1 ∧ Wd s2 ∧ Wd s3 ∧ 0 ≤ c ∧ c ≤ 1 ∧ n4 a0 a1 a2 a3 + n4 b0 b1 b2 b3 = n4 s0 s1 s2 s3 + TOP * c ∧
    Calls Tryz.prog 43 #[V4 a0 a1 a2 a3, V4 b0 b1 b2 b3] w fun e w' => e = .returned (.tuple #[V4 s0 s1 s2 s3, .bool (c == 1)]) ∧ Chg [] w w' := by
  obtain ⟨s0, c0, h0, p0, q0, e0, r0⟩ := add64 a0 b0 0 ha0 hb0 (by omega) (by omega)
  obtain ⟨s1, c1, h1, p1, q1, e1, r1⟩ := add64 a1 b1 c0 ha1 hb1 p0 q0
  obtain ⟨s2, c2, h2, p2, q2, e2, r2⟩ := add64 a2 b2 c1 ha2 hb2 p1 q1
  obtain ⟨s3, c3, h3, p3, q3, e3, r3⟩ := add64 a3 b3 c2 ha3 hb3 p2 q2
  refine ⟨s0, s1, s2, s3, c3, h0, h1, h2, h3, p3, q3, by unfold n4 TOP; omega, ?_⟩
  clear e0 e1 e2 e3 h0 h1 h2 h3 p0 p1 p2 p3 q0 q1 q2 q3
  unfold V4
  go_enter Tryz.func43, Tryz.ntmps43
  go_wp2
  refine wp_loop_rounds 5 ?_
  rw [rounds_succ]
  iterate 4
    go_wp2
    go_region
    go_wp2
    rw [rounds_succ]
  go_wp2
  exact bodyPost_ret (v := .tuple #[V4 s0 s1 s2 s3, .bool (c3 == 1)]) (by simp [results, Tryz.results43, go_sem, V4]) rfl ⟨rfl, (by repeat (first | exact Chg.refl _ _ | refine Chg.alloc ?_ _ | refine Chg.drew ?_ | refine Chg.drewN ?_ _ | refine Chg.setCell ?_ (.inr (by simp)) _))⟩
set_option maxRecDepth 100000 in
set_option maxHeartbeats 4000000 in
theorem wide_SubW (a0 a1 a2 a3 b0 b1 b2 b3 : Int) (w : World) (ha0 : Wd a0) (ha1 : Wd a1) (ha2 : Wd a2) (ha3 : Wd a3) (hb0 : Wd b0) (hb1 : Wd b1) (hb2 : Wd b2) (hb3 : Wd b3) :
    ∃ s0 s1 s2 s3 c : Int, Wd s0 ∧ Wd s1 ∧ Wd s2 ∧ Wd s3 ∧ 0 ≤ c ∧ c ≤ 1 ∧ n4 a0 a1 a2 a3 - n4 b0 b1 b2 b3 = n4 s0 s1 s2 s3 - TOP * c ∧
    Calls Tryz.prog 119 #[V4 a0 a1 a2 a3, V4 b0 b1 b2 b3] w fun e w' => e = .returned (.tuple #[V4 s0 s1 s2 s3, .bool (c == 1)]) ∧ Chg [] w w' := by
  obtain ⟨s0, c0, h0, p0, q0, e0, r0⟩ := sub64 a0 b0 0 ha0 hb0 (by omega) (by omega)
  obtain ⟨s1, c1, h1, p1, q1, e1, r1⟩ := sub64 a1 b1 c0 ha1 hb1 p0 q0
  obtain ⟨s2, c2, h2, p2, q2, e2, r2⟩ := sub64 a2 b2 c1 ha2 hb2 p1 q1
  obtain ⟨s3, c3, h3, p3, q3, e3, r3⟩ := sub64 a3 b3 c2 ha3 hb3 p2 q2
  refine ⟨s0, s1, s2, s3, c3, h0, h1, h2, h3, p3, q3, by unfold n4 TOP; omega, ?_⟩
  clear e0 e1 e2 e3 h0 h1 h2 h3 p0 p1 p2 p3 q0 q1 q2 q3
  unfold V4
  go_enter Tryz.func119, Tryz.ntmps119
  go_wp2
  refine wp_loop_rounds 5 ?_
  rw [rounds_succ]
  iterate 4
    go_wp2
    go_region
    go_wp2
    rw [rounds_succ]
  go_wp2
  exact bodyPost_ret (v := .tuple #[V4 s0 s1 s2 s3, .bool (c3 == 1)]) (by simp [results, Tryz.results119, go_sem, V4]) rfl ⟨rfl, (by repeat (first | exact Chg.refl _ _ | refine Chg.alloc ?_ _ | refine Chg.drew ?_ | refine Chg.drewN ?_ _ | refine Chg.setCell ?_ (.inr (by simp)) _))⟩
set_option maxRecDepth 100000 in
set_option maxHeartbeats 4000000 in
theorem wide_MulW (a0 a1 a2 a3 x : Int) (w : World) (ha0 : Wd a0) (ha1 : Wd a1) (ha2 : Wd a2) (ha3 : Wd a3) (hx : Wd x) :
    ∃ s0 s1 s2 s3 c : Int, Wd s0 ∧ Wd s1 ∧ Wd s2 ∧ Wd s3 ∧ 0 ≤ c ∧ n4 a0 a1 a2 a3 * x = n4 s0 s1 s2 s3 + TOP * c ∧
    Calls Tryz.prog 133 #[V4 a0 a1 a2 a3, .int .u64 x] w fun e w' => e = .returned (.tuple #[V4 s0 s1 s2 s3, .bool (decide (0 < c))]) ∧ Chg [] w w' := by
  obtain ⟨h0, l0, k0, u0, v0, f0, m0⟩ := mul64 a0 x ha0 hx
  obtain ⟨h1, l1, k1, u1, v1, f1, m1⟩ := mul64 a1 x ha1 hx
  obtain ⟨h2, l2, k2, u2, v2, f2, m2⟩ := mul64 a2 x ha2 hx
  obtain ⟨h3, l3, k3, u3, v3, f3, m3⟩ := mul64 a3 x ha3 hx
  obtain ⟨s0, c0, g0, p0, q0, e0, r0⟩ := add64 l0 0 0 k0 ⟨by omega, by omega⟩ (by omega) (by omega)
  obtain ⟨s1, c1, g1, p1, q1, e1, r1⟩ := add64 l1 (h0 + c0) 0 k1 ⟨by omega, by omega⟩ (by omega) (by omega)
  obtain ⟨s2, c2, g2, p2, q2, e2, r2⟩ := add64 l2 (h1 + c1) 0 k2 ⟨by omega, by omega⟩ (by omega) (by omega)
  obtain ⟨s3, c3, g3, p3, q3, e3, r3⟩ := add64 l3 (h2 + c2) 0 k3 ⟨by omega, by omega⟩ (by omega) (by omega)
  refine ⟨s0, s1, s2, s3, h3 + c3, g0, g1, g2, g3, by omega, ?_, ?_⟩
  · unfold n4 TOP
    have d : (a0 + 18446744073709551616 * a1 + 340282366920938463463374607431768211456 * a2 + 6277101735386680763835789423207666416102355444464034512896 * a3) * x = a0 * x + 18446744073709551616 * (a1 * x) + 340282366920938463463374607431768211456 * (a2 * x) + 6277101735386680763835789423207666416102355444464034512896 * (a3 * x) := by
      simp only [Int.add_mul, Int.mul_assoc]
    rw [d, f0, f1, f2, f3]
    omega
  · have w0 : 0 ≤ h0 + c0 ∧ h0 + c0 ≤ 18446744073709551615 := by omega
    have w1 : 0 ≤ h1 + c1 ∧ h1 + c1 ≤ 18446744073709551615 := by omega
    have w2 : 0 ≤ h2 + c2 ∧ h2 + c2 ≤ 18446744073709551615 := by omega
    have w3 : 0 ≤ h3 + c3 ∧ h3 + c3 ≤ 18446744073709551615 := by omega
    clear e0 e1 e2 e3 g0 g1 g2 g3 f0 f1 f2 f3 k0 k1 k2 k3
    unfold V4
    go_enter Tryz.func133, Tryz.ntmps133
    go_wp2
    refine wp_loop_rounds 5 ?_
    rw [rounds_succ]
    go_wp2_with fail
    refine (m0 _).mono ?_
    rintro e w' ⟨rfl, rfl⟩
    go_wp2
    rw [rounds_succ]
    go_wp2_with fail
    refine (m1 _).mono ?_
    rintro e w' ⟨rfl, rfl⟩
    go_wp2
    rw [rounds_succ]
    go_wp2_with fail
    refine (m2 _).mono ?_
    rintro e w' ⟨rfl, rfl⟩
    go_wp2
    rw [rounds_succ]
    go_wp2_with fail
    refine (m3 _).mono ?_
    rintro e w' ⟨rfl, rfl⟩
    go_wp2
    rw [rounds_succ]
    go_wp2
    exact bodyPost_ret (v := .tuple #[V4 s0 s1 s2 s3, .bool (decide (0 < h3 + c3))]) (by simp [results, Tryz.results133, go_sem, V4]) rfl ⟨rfl, (by repeat (first | exact Chg.refl _ _ | refine Chg.alloc ?_ _ | refine Chg.drew ?_ | refine Chg.drewN ?_ _ | refine Chg.setCell ?_ (.inr (by simp)) _))⟩
end Go.Proofs.YtmkgbinmilcojaaGreat

/- How many bits a number needs (plain). -/
namespace Go.Proofs.YtmkgbinmilcojaaGreat

def blen (n : Nat) : Nat := if n = 0 then 0 else n.log2 + 1
theorem blen_zero : blen 0 = 0 := rfl
theorem blen_le {n k : Nat} : blen n ≤ k ↔ n < 2 ^ k := by
  unfold blen
  by_cases h : n = 0
  · subst h; rw [if_pos rfl]; exact ⟨fun _ => Nat.two_pow_pos k, fun _ => Nat.zero_le _⟩
  · rw [if_neg h, ← Nat.log2_lt h]; omega
theorem lt_blen (n : Nat) : n < 2 ^ blen n := blen_le.1 (Nat.le_refl _)
theorem blen_ge {n : Nat} (h : n ≠ 0) : 2 ^ (blen n - 1) ≤ n := by
  have h1 : ¬ blen n ≤ blen n - 1 := by
    have : blen n ≠ 0 := by unfold blen; rw [if_neg h]; omega
    omega
  rw [blen_le] at h1; omega
theorem blen_pos {n : Nat} (h : n ≠ 0) : 0 < blen n := by unfold blen; rw [if_neg h]; omega
theorem blen_mono {n m : Nat} (h : n ≤ m) : blen n ≤ blen m := blen_le.2 (Nat.lt_of_le_of_lt h (lt_blen m))
theorem blen_add {x k y : Nat} (hx : x < 2 ^ k) (hy : y ≠ 0) : blen (x + 2 ^ k * y) = k + blen y := by
  have h1 : x + 2 ^ k * y < 2 ^ (k + blen y) := by
    have h2 := lt_blen y
    have h3 : 2 ^ k * (y + 1) ≤ 2 ^ k * 2 ^ blen y := Nat.mul_le_mul_left _ h2
    rw [Nat.mul_add, Nat.mul_one] at h3
    rw [Nat.pow_add]; omega
  have h4 := blen_le.2 h1
  have h5 : ¬ blen (x + 2 ^ k * y) ≤ k + blen y - 1 := by
    rw [blen_le]
    have h6 := blen_ge hy
    have h7 := blen_pos hy
    have h8 : 2 ^ k * 2 ^ (blen y - 1) ≤ 2 ^ k * y := Nat.mul_le_mul_left _ h6
    rw [← Nat.pow_add] at h8
    rw [show k + blen y - 1 = k + (blen y - 1) by omega]
    omega
  omega
theorem bitLen_eq {x : Nat} (h : x < 18446744073709551616) : Go.Lib.bitLen x = blen x := by
  by_cases h0 : x = 0
  · subst h0; rfl
  · obtain ⟨h1, h2, h3⟩ := Go.Lib.bitLenAux_bounds 64 x (by simpa using h) h0
    have a : blen x ≤ Go.Lib.bitLen x := blen_le.2 h3
    have b : ¬ blen x ≤ Go.Lib.bitLen x - 1 := by rw [blen_le]; unfold Go.Lib.bitLen; omega
    have c : 1 ≤ Go.Lib.bitLen x := h1
    omega
end Go.Proofs.YtmkgbinmilcojaaGreat

/- Package wide: Cmp, Bits, Uint. -/
namespace Go.Proofs.YtmkgbinmilcojaaGreat
open Go.RowKit Go.Maps Go.Shelf

def cmpI (a b : Int) : Int := if a < b then -1 else if b < a then 1 else 0
theorem cmpI_lt {a b : Int} (h : a < b) : cmpI a b = -1 := by unfold cmpI; rw [if_pos h]
theorem cmpI_gt {a b : Int} (h : b < a) : cmpI a b = 1 := by unfold cmpI; rw [if_neg (by omega), if_pos h]
theorem cmpI_eq (a : Int) : cmpI a a = 0 := by unfold cmpI; rw [if_neg (by omega), if_neg (by omega)]

set_option maxRecDepth 100000 in
set_option maxHeartbeats 8000000 in
theorem wide_CmpW (a0 a1 a2 a3 b0 b1 b2 b3 : Int) (w : World) (ha0 : Wd a0) (ha1 : Wd a1) (ha2 : Wd a2) (ha3 : Wd a3) (hb0 : Wd b0) (hb1 : Wd b1) (hb2 : Wd b2) (hb3 : Wd b3) :
    Calls Tryz.prog 17 #[V4 a0 a1 a2 a3, V4 b0 b1 b2 b3] w fun e w' => e = .returned (.int .i64 (cmpI (n4 a0 a1 a2 a3) (n4 b0 b1 b2 b3))) ∧ Chg [] w w' := by
  obtain ⟨p0, q0⟩ := ha0
  obtain ⟨p1, q1⟩ := ha1
  obtain ⟨p2, q2⟩ := ha2
  obtain ⟨p3, q3⟩ := ha3
  obtain ⟨r0, s0⟩ := hb0
  obtain ⟨r1, s1⟩ := hb1
  obtain ⟨r2, s2⟩ := hb2
  obtain ⟨r3, s3⟩ := hb3
  rcases Int.lt_trichotomy a3 b3 with h3 | h3 | h3
  · rw [cmpI_lt (by unfold n4; omega)]
    unfold V4
    go_enter Tryz.func17, Tryz.ntmps17
    go_wp2
    refine wp_loop_rounds 5 ?_
    rw [rounds_succ]
    go_wp2
    go_region
    go_wp2
    go_ret
    exact ⟨rfl, (by repeat (first | exact Chg.refl _ _ | refine Chg.alloc ?_ _ | refine Chg.drew ?_ | refine Chg.drewN ?_ _ | refine Chg.setCell ?_ (.inr (by simp)) _))⟩
  · subst h3
    rcases Int.lt_trichotomy a2 b2 with h2 | h2 | h2
    · rw [cmpI_lt (by unfold n4; omega)]
      unfold V4
      go_enter Tryz.func17, Tryz.ntmps17
      go_wp2
      refine wp_loop_rounds 5 ?_
      rw [rounds_succ]
      go_wp2
      go_region
      go_wp2
      go_region
      go_wp2
      rw [rounds_succ]
      go_wp2
      go_region
      go_wp2
      go_ret
      exact ⟨rfl, (by repeat (first | exact Chg.refl _ _ | refine Chg.alloc ?_ _ | refine Chg.drew ?_ | refine Chg.drewN ?_ _ | refine Chg.setCell ?_ (.inr (by simp)) _))⟩
    · subst h2
      rcases Int.lt_trichotomy a1 b1 with h1 | h1 | h1
      · rw [cmpI_lt (by unfold n4; omega)]
        unfold V4
        go_enter Tryz.func17, Tryz.ntmps17
        go_wp2
        refine wp_loop_rounds 5 ?_
        rw [rounds_succ]
        go_wp2
        go_region
        go_wp2
        go_region
        go_wp2
        rw [rounds_succ]
        go_wp2
        go_region
        go_wp2
        go_region
        go_wp2
        rw [rounds_succ]
        go_wp2
        go_region
        go_wp2
        go_ret
        exact ⟨rfl, (by repeat (first | exact Chg.refl _ _ | refine Chg.alloc ?_ _ | refine Chg.drew ?_ | refine Chg.drewN ?_ _ | refine Chg.setCell ?_ (.inr (by simp)) _))⟩
      · subst h1
        rcases Int.lt_trichotomy a0 b0 with h0 | h0 | h0
        · rw [cmpI_lt (by unfold n4; omega)]
          unfold V4
          go_enter Tryz.func17, Tryz.ntmps17
          go_wp2
          refine wp_loop_rounds 5 ?_
          rw [rounds_succ]
          go_wp2
          go_region
          go_wp2
          go_region
          go_wp2
          rw [rounds_succ]
          go_wp2
          go_region
          go_wp2
          go_region
          go_wp2
          rw [rounds_succ]
          go_wp2
          go_region
          go_wp2
          go_region
          go_wp2
          rw [rounds_succ]
          go_wp2
          go_region
          go_wp2
          go_ret
          exact ⟨rfl, (by repeat (first | exact Chg.refl _ _ | refine Chg.alloc ?_ _ | refine Chg.drew ?_ | refine Chg.drewN ?_ _ | refine Chg.setCell ?_ (.inr (by simp)) _))⟩
        · subst h0
          rw [cmpI_eq]
          unfold V4
          go_enter Tryz.func17, Tryz.ntmps17
          go_wp2
          refine wp_loop_rounds 5 ?_
          rw [rounds_succ]
          go_wp2
          go_region
          go_wp2
          go_region
          go_wp2
          rw [rounds_succ]
          go_wp2
          go_region
          go_wp2
          go_region
          go_wp2
          rw [rounds_succ]
          go_wp2
          go_region
          go_wp2
          go_region
          go_wp2
          rw [rounds_succ]
          go_wp2
          go_region
          go_wp2
          go_region
          go_wp2
          rw [rounds_succ]
          go_wp2
          go_ret
          exact ⟨rfl, (by repeat (first | exact Chg.refl _ _ | refine Chg.alloc ?_ _ | refine Chg.drew ?_ | refine Chg.drewN ?_ _ | refine Chg.setCell ?_ (.inr (by simp)) _))⟩
        · rw [cmpI_gt (by unfold n4; omega)]
          unfold V4
          go_enter Tryz.func17, Tryz.ntmps17
          go_wp2
          refine wp_loop_rounds 5 ?_
          rw [rounds_succ]
          go_wp2
          go_region
          go_wp2
          go_region
          go_wp2
          rw [rounds_succ]
          go_wp2
          go_region
          go_wp2
          go_region
          go_wp2
          rw [rounds_succ]
          go_wp2
          go_region
          go_wp2
          go_region
          go_wp2
          rw [rounds_succ]
          go_wp2
          go_region
          go_wp2
          go_region
          go_wp2
          go_ret
          exact ⟨rfl, (by repeat (first | exact Chg.refl _ _ | refine Chg.alloc ?_ _ | refine Chg.drew ?_ | refine Chg.drewN ?_ _ | refine Chg.setCell ?_ (.inr (by simp)) _))⟩
      · rw [cmpI_gt (by unfold n4; omega)]
        unfold V4
        go_enter Tryz.func17, Tryz.ntmps17
        go_wp2
        refine wp_loop_rounds 5 ?_
        rw [rounds_succ]
        go_wp2
        go_region
        go_wp2
        go_region
        go_wp2
        rw [rounds_succ]
        go_wp2
        go_region
        go_wp2
        go_region
        go_wp2
        rw [rounds_succ]
        go_wp2
        go_region
        go_wp2
        go_region
        go_wp2
        go_ret
        exact ⟨rfl, (by repeat (first | exact Chg.refl _ _ | refine Chg.alloc ?_ _ | refine Chg.drew ?_ | refine Chg.drewN ?_ _ | refine Chg.setCell ?_ (.inr (by simp)) _))⟩
    · rw [cmpI_gt (by unfold n4; omega)]
      unfold V4
      go_enter Tryz.func17, Tryz.ntmps17
      go_wp2
      refine wp_loop_rounds 5 ?_
      rw [rounds_succ]
      go_wp2
      go_region
      go_wp2
      go_region
      go_wp2
      rw [rounds_succ]
      go_wp2
      go_region
      go_wp2
      go_region
      go_wp2
      go_ret
      exact ⟨rfl, (by repeat (first | exact Chg.refl _ _ | refine Chg.alloc ?_ _ | refine Chg.drew ?_ | refine Chg.drewN ?_ _ | refine Chg.setCell ?_ (.inr (by simp)) _))⟩
  · rw [cmpI_gt (by unfold n4; omega)]
    unfold V4
    go_enter Tryz.func17, Tryz.ntmps17
    go_wp2
    refine wp_loop_rounds 5 ?_
    rw [rounds_succ]
    go_wp2
    go_region
    go_wp2
    go_region
    go_wp2
    go_ret
    exact ⟨rfl, (by repeat (first | exact Chg.refl _ _ | refine Chg.alloc ?_ _ | refine Chg.drew ?_ | refine Chg.drewN ?_ _ | refine Chg.setCell ?_ (.inr (by simp)) _))⟩

set_option maxRecDepth 100000 in
set_option maxHeartbeats 4000000 in
theorem wide_BitsW (a0 a1 a2 a3 : Int) (w : World) (ha0 : Wd a0) (ha1 : Wd a1) (ha2 : Wd a2) (ha3 : Wd a3) :
    Calls Tryz.prog 88 #[V4 a0 a1 a2 a3] w fun e w' => e = .returned (.int .i64 (blen (n4 a0 a1 a2 a3).toNat)) ∧ Chg [] w w' := by
  have hb : ∀ x, Wd x → ∀ w, Calls Tryz.prog 112 #[.int .u64 x] w fun e w' => e = .returned (.int .i64 (blen x.toNat)) ∧ w = w' := fun x hx w => by
    have := hx.1; have := hx.2
    refine (Tryz.srt_bits_Len64 x w (by omega) (by omega)).mono fun e w' ⟨he, hw⟩ => ⟨?_, hw.symm⟩
    rw [he, bitLen_eq (by omega)]
  have hbl : ∀ x, Wd x → blen x.toNat ≤ 64 := fun x hx => blen_le.2 (by have := hx.1; have := hx.2; omega)
  have e0 : ∀ x y : Nat, x < 18446744073709551616 → y ≠ 0 → blen (x + 18446744073709551616 * y) = 64 + blen y := fun x y hx hy => blen_add (k := 64) hx hy
  obtain ⟨p0, q0⟩ := ha0
  obtain ⟨p1, q1⟩ := ha1
  obtain ⟨p2, q2⟩ := ha2
  obtain ⟨p3, q3⟩ := ha3
  by_cases h3 : 0 < a3
  · have hr : (blen (n4 a0 a1 a2 a3).toNat : Int) = 192 + blen a3.toNat := by
      have := blen_add (x := (a0 + 18446744073709551616 * a1 + 340282366920938463463374607431768211456 * a2).toNat) (k := 192) (y := a3.toNat) (by omega) (by omega)
      rw [show (n4 a0 a1 a2 a3).toNat = (a0 + 18446744073709551616 * a1 + 340282366920938463463374607431768211456 * a2).toNat + 2 ^ 192 * a3.toNat by unfold n4; omega, this]; omega
    have hl := hb a3 ⟨p3, q3⟩
    have hll := hbl a3 ⟨p3, q3⟩
    rw [hr]
    clear hr hb hbl e0
    generalize blen a3.toNat = L at hl hll ⊢
    unfold V4
    go_enter Tryz.func88, Tryz.ntmps88
    go_wp2
    refine wp_loop_rounds 5 ?_
    rw [rounds_succ]
    go_wp2_with fail
    refine (hl _).mono ?_
    rintro e w' ⟨rfl, rfl⟩
    go_wp2
    go_ret
    exact ⟨rfl, (by repeat (first | exact Chg.refl _ _ | refine Chg.alloc ?_ _ | refine Chg.drew ?_ | refine Chg.drewN ?_ _ | refine Chg.setCell ?_ (.inr (by simp)) _))⟩
  · obtain rfl : a3 = 0 := by omega
    by_cases h2 : 0 < a2
    · have hr : (blen (n4 a0 a1 a2 0).toNat : Int) = 128 + blen a2.toNat := by
        have := blen_add (x := (a0 + 18446744073709551616 * a1).toNat) (k := 128) (y := a2.toNat) (by omega) (by omega)
        rw [show (n4 a0 a1 a2 0).toNat = (a0 + 18446744073709551616 * a1).toNat + 2 ^ 128 * a2.toNat by unfold n4; omega, this]; omega
      have hl := hb a2 ⟨p2, q2⟩
      have hll := hbl a2 ⟨p2, q2⟩
      rw [hr]
      clear hr hb hbl e0
      generalize blen a2.toNat = L at hl hll ⊢
      unfold V4
      go_enter Tryz.func88, Tryz.ntmps88
      go_wp2
      refine wp_loop_rounds 5 ?_
      rw [rounds_succ]
      go_wp2
      rw [rounds_succ]
      go_wp2_with fail
      refine (hl _).mono ?_
      rintro e w' ⟨rfl, rfl⟩
      go_wp2
      go_ret
      exact ⟨rfl, (by repeat (first | exact Chg.refl _ _ | refine Chg.alloc ?_ _ | refine Chg.drew ?_ | refine Chg.drewN ?_ _ | refine Chg.setCell ?_ (.inr (by simp)) _))⟩
    · obtain rfl : a2 = 0 := by omega
      by_cases h1 : 0 < a1
      · have hr : (blen (n4 a0 a1 0 0).toNat : Int) = 64 + blen a1.toNat := by
          have := blen_add (x := a0.toNat) (k := 64) (y := a1.toNat) (by omega) (by omega)
          rw [show (n4 a0 a1 0 0).toNat = a0.toNat + 2 ^ 64 * a1.toNat by unfold n4; omega, this]; omega
        have hl := hb a1 ⟨p1, q1⟩
        have hll := hbl a1 ⟨p1, q1⟩
        rw [hr]
        clear hr hb hbl e0
        generalize blen a1.toNat = L at hl hll ⊢
        unfold V4
        go_enter Tryz.func88, Tryz.ntmps88
        go_wp2
        refine wp_loop_rounds 5 ?_
        rw [rounds_succ]
        go_wp2
        rw [rounds_succ]
        go_wp2
        rw [rounds_succ]
        go_wp2_with fail
        refine (hl _).mono ?_
        rintro e w' ⟨rfl, rfl⟩
        go_wp2
        go_ret
        exact ⟨rfl, (by repeat (first | exact Chg.refl _ _ | refine Chg.alloc ?_ _ | refine Chg.drew ?_ | refine Chg.drewN ?_ _ | refine Chg.setCell ?_ (.inr (by simp)) _))⟩
      · obtain rfl : a1 = 0 := by omega
        by_cases h0 : 0 < a0
        · have hr : (blen (n4 a0 0 0 0).toNat : Int) = blen a0.toNat := by
            rw [show (n4 a0 0 0 0).toNat = a0.toNat by unfold n4; omega]
          have hl := hb a0 ⟨p0, q0⟩
          have hll := hbl a0 ⟨p0, q0⟩
          rw [hr]
          clear hr hb hbl e0
          generalize blen a0.toNat = L at hl hll ⊢
          unfold V4
          go_enter Tryz.func88, Tryz.ntmps88
          go_wp2
          refine wp_loop_rounds 5 ?_
          rw [rounds_succ]
          go_wp2
          rw [rounds_succ]
          go_wp2
          rw [rounds_succ]
          go_wp2
          rw [rounds_succ]
          go_wp2_with fail
          refine (hl _).mono ?_
          rintro e w' ⟨rfl, rfl⟩
          go_wp2
          go_ret
          exact ⟨rfl, (by repeat (first | exact Chg.refl _ _ | refine Chg.alloc ?_ _ | refine Chg.drew ?_ | refine Chg.drewN ?_ _ | refine Chg.setCell ?_ (.inr (by simp)) _))⟩
        · obtain rfl : a0 = 0 := by omega
          clear hb hbl e0
          unfold V4
          rw [show ((blen (n4 0 0 0 0).toNat : Nat) : Int) = 0 from rfl]
          go_enter Tryz.func88, Tryz.ntmps88
          go_wp2
          refine wp_loop_rounds 5 ?_
          iterate 4
            rw [rounds_succ]
            go_wp2
          rw [rounds_succ]
          go_wp2
          go_ret
          exact ⟨rfl, (by repeat (first | exact Chg.refl _ _ | refine Chg.alloc ?_ _ | refine Chg.drew ?_ | refine Chg.drewN ?_ _ | refine Chg.setCell ?_ (.inr (by simp)) _))⟩
end Go.Proofs.YtmkgbinmilcojaaGreat

/- Shifts of words and of four words (plain). -/
namespace Go.Proofs.YtmkgbinmilcojaaGreat
open Go.RowKit Go.Maps Go.Shelf

theorem pq {R : Nat} (h : R ≤ 64) : (2 : Int) ^ R * 2 ^ (64 - R) = 18446744073709551616 := by
  rw [← Int.pow_add, show R + (64 - R) = 64 by omega]; rfl
theorem p_pos (R : Nat) : (0 : Int) < 2 ^ R := Int.pow_pos (by decide)
theorem left_word {a : Int} {R : Nat} (h : R ≤ 64) : IntKind.u64.wrap (a * 2 ^ R) = 2 ^ R * (a % 2 ^ (64 - R)) := by
  rw [IntKind.wrap_u64, ← pq h, Int.mul_comm a, Int.mul_emod_mul_of_pos _ _ (p_pos R)]
theorem or_disj {q y : Int} {R : Nat} (hq : 0 ≤ q) (hy : 0 ≤ y) (hy2 : y < 2 ^ R) (hl : 2 ^ R * q < 18446744073709551616) (hR : R ≤ 64) : bits .or .u64 (2 ^ R * q) y = 2 ^ R * q + y ∧ bits .or .u64 y (2 ^ R * q) = 2 ^ R * q + y := by
  obtain ⟨Q, rfl⟩ := Int.eq_ofNat_of_zero_le hq
  obtain ⟨Y, rfl⟩ := Int.eq_ofNat_of_zero_le hy
  have e : (2 : Int) ^ R * (Q : Int) = ((2 ^ R * Q : Nat) : Int) := by simp
  have hy3 : Y < 2 ^ R := by
    have e2 : ((2 ^ R : Nat) : Int) = (2 : Int) ^ R := by simp
    omega
  have hp : (2 : Nat) ^ R ≤ 2 ^ 64 := Nat.pow_le_pow_right (by decide) hR
  rw [e] at hl ⊢
  have h1 : 2 ^ R * Q < 18446744073709551616 := by omega
  have h2 : Y < 18446744073709551616 := by omega
  rw [bits_or_u64_nat _ _ h1 h2, bits_or_u64_nat _ _ h2 h1, Nat.or_comm Y, ← Nat.two_pow_add_eq_or_of_lt hy3 Q]
  exact ⟨by simp, by simp⟩
/-- a word's parts: a = 2^(64-R) h + m. -/
theorem parts {a : Int} (ha : Wd a) {R : Nat} (h : R ≤ 64) : 0 ≤ a / 2 ^ (64 - R) ∧ a / 2 ^ (64 - R) < 2 ^ R ∧ 0 ≤ a % 2 ^ (64 - R) ∧ a % 2 ^ (64 - R) < 2 ^ (64 - R) ∧ a = 2 ^ (64 - R) * (a / 2 ^ (64 - R)) + a % 2 ^ (64 - R) := by
  have hq := p_pos (64 - R)
  refine ⟨Int.ediv_nonneg ha.1 (Int.le_of_lt hq), ?_, Int.emod_nonneg _ (by omega), Int.emod_lt_of_pos _ hq, (Int.mul_ediv_add_emod a _).symm⟩
  exact Int.ediv_lt_of_lt_mul hq (by rw [pq h]; exact ha.2)
theorem mul_lt' {P Q m : Int} (hP : 0 < P) (hm : m < Q) : P * m + P ≤ P * Q := by
  have := Int.mul_le_mul_of_nonneg_left (show m + 1 ≤ Q by omega) (Int.le_of_lt hP)
  rw [Int.mul_add, Int.mul_one] at this; exact this

/-- Left's word. -/
theorem lw1 {a : Int} (ha : Wd a) {r : Int} (h0 : 0 < r) (h1 : r < 64) : ∃ u h : Int, 0 ≤ u ∧ u + 2 ^ r.toNat ≤ 18446744073709551616 ∧ 0 ≤ h ∧ h < 2 ^ r.toNat ∧ a * 2 ^ r.toNat = 18446744073709551616 * h + u ∧ IntKind.u64.wrap (a * 2 ^ r.toNat) = u ∧ a / 2 ^ (64 - r).toNat = h ∧
    ∀ y, 0 ≤ y → y < 2 ^ r.toNat → bits .or .u64 u y = u + y := by
  obtain ⟨R, hR⟩ : ∃ R : Nat, R = r.toNat := ⟨_, rfl⟩
  rw [← hR, show (64 - r).toNat = 64 - R by omega]
  have hR2 : R ≤ 64 := by omega
  obtain ⟨k1, k2, k3, k4, k5⟩ := parts ha hR2
  have hp := p_pos R
  have hpq := pq hR2
  generalize hQ : (2 : Int) ^ (64 - R) = Q at *
  have hm := mul_lt' hp k4
  refine ⟨2 ^ R * (a % Q), a / Q, Int.mul_nonneg (Int.le_of_lt hp) k3, by omega, k1, k2, ?_, ?_, rfl, fun y hy hy2 => ?_⟩
  · have e : a * 2 ^ R = 2 ^ R * (Q * (a / Q) + a % Q) := by rw [← k5, Int.mul_comm]
    rw [e, Int.mul_add, ← Int.mul_assoc, hpq]
  · rw [left_word hR2, hQ]
  · exact (or_disj k3 hy hy2 (by omega) hR2).1
/-- Right's word. -/
theorem rw1 {a : Int} (ha : Wd a) {r : Int} (h0 : 0 < r) (h1 : r < 64) : ∃ u h : Int, 0 ≤ u ∧ 0 ≤ h ∧ u < 2 ^ r.toNat ∧ a = 2 ^ r.toNat * h + u ∧ a / 2 ^ r.toNat = h ∧ h < 2 ^ (64 - r).toNat ∧ IntKind.u64.wrap (a * 2 ^ (64 - r).toNat) = 2 ^ (64 - r).toNat * u ∧ 2 ^ (64 - r).toNat * u + 2 ^ (64 - r).toNat ≤ 18446744073709551616 := by
  obtain ⟨R, hR⟩ : ∃ R : Nat, R = (64 - r).toNat := ⟨_, rfl⟩
  rw [← hR, show r.toNat = 64 - R by omega]
  have hR2 : R ≤ 64 := by omega
  obtain ⟨k1, k2, k3, k4, k5⟩ := parts ha hR2
  have hp := p_pos R
  have hpq := pq hR2
  have hl := left_word (a := a) hR2
  generalize (2 : Int) ^ (64 - R) = Q at *
  have hm := mul_lt' hp k4
  exact ⟨a % Q, a / Q, k3, k1, k4, k5, rfl, k2, hl, by omega⟩

theorem emod_top {x s D : Int} (h0 : 0 ≤ s) (h1 : s < TOP) (h : x = s + TOP * D) : x % TOP = s := by
  rw [h, Int.add_mul_emod_self_left, Int.emod_eq_of_lt h0 h1]
end Go.Proofs.YtmkgbinmilcojaaGreat

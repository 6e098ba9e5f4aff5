/- Package target: Decode: the walks. Printed by decgen.py. -/
import Derived.Test.YtmkgbinmilcojaaGreatTarget
namespace Go.Proofs.YtmkgbinmilcojaaGreat
open Go.RowKit Go.Maps Go.Shelf

set_option maxRecDepth 100000 in
set_option maxHeartbeats 8000000 in
theorem dec_A (bits e m : Nat) (_ _ _ _ : Int) (w : World) (he1 : e ≤ 255) (hm1 : m < 8388608) (hE : (bits : Int) / 16777216 = (e : Int)) (hM : Go.bits .and .u32 (bits : Int) 8388607 = (m : Int)) (_ : (bits : Int) < 4294967296)
    (hS : Go.bits .and .u32 (bits : Int) 8388608 = 8388608)
    (heq : ∀ w, (Op.equalIn 10000 51 (V4 m 0 0 0) (V4 0 0 0 0)).run Tryz.prog w = .ok false w)
    : Calls Tryz.prog 62 #[.int .u32 bits] w fun e w' => e = .returned (.tuple #[V4 0 0 0 0, .int .i64 6]) ∧ Chg [] w w' := by
  have hmi : (m : Int) < 8388608 := by omega
  have hei : (e : Int) ≤ 255 := by omega
  unfold V4 at *
  go_enter Tryz.func62, Tryz.ntmps62
  go_wp2_with fail
  refine (wide_Of _ _).mono ?_
  rintro e' w1 ⟨rfl, hc1⟩
  unfold V4
  have k1 := (Blk.new w #[.int .u64 0, .int .u64 0, .int .u64 0, .int .u64 0] 51).chg hc1 (by simp)
  have kc1 := ((Chg.refl [] w).alloc (.cells #[.int .u64 0, .int .u64 0, .int .u64 0, .int .u64 0] 51)).trans hc1 (by simp)
  have k2 := k1.alloc (.cells #[.int .u64 (m : Int), .int .u64 0, .int .u64 0, .int .u64 0] 51)
  have kc2 := kc1.alloc (.cells #[.int .u64 (m : Int), .int .u64 0, .int .u64 0, .int .u64 0] 51)
  have j2 := Blk.new w1 #[.int .u64 (m : Int), .int .u64 0, .int .u64 0, .int .u64 0] 51
  clear hc1
  have b0 := k1.cell 0 (v := .int .u64 0) rfl
  have bf0 := k1.free 0
  have b1 := k1.cell 1 (v := .int .u64 0) rfl
  have bf1 := k1.free 1
  have b2 := k1.cell 2 (v := .int .u64 0) rfl
  have bf2 := k1.free 2
  have b3 := k1.cell 3 (v := .int .u64 0) rfl
  have bf3 := k1.free 3
  have c0 := k2.cell 0 (v := .int .u64 0) rfl
  have cf0 := k2.free 0
  have c1 := k2.cell 1 (v := .int .u64 0) rfl
  have cf1 := k2.free 1
  have c2 := k2.cell 2 (v := .int .u64 0) rfl
  have cf2 := k2.free 2
  have c3 := k2.cell 3 (v := .int .u64 0) rfl
  have cf3 := k2.free 3
  have hlt2 := k1.lt
  go_wp2
  have hz := (((((k1.set 0 (.int .u64 0)).set 1 (.int .u64 0)).set 2 (.int .u64 0)).set 3 (.int .u64 0)).alloc (.cells #[.int .u64 (m : Int), .int .u64 0, .int .u64 0, .int .u64 0] 51))
  have e0 := hz.cell 0 (v := .int .u64 0) rfl
  have e1 := hz.cell 1 (v := .int .u64 0) rfl
  have e2 := hz.cell 2 (v := .int .u64 0) rfl
  have e3 := hz.cell 3 (v := .int .u64 0) rfl
  exact bodyPost_ret (v := .tuple #[V4 0 0 0 0, .int .i64 6]) (by simp [results, Tryz.results62, go_sem, V4, e0, e1, e2, e3]) rfl ⟨rfl, (((((kc1.setCell (.inr (by simp)) _).setCell (.inr (by simp)) _).setCell (.inr (by simp)) _).setCell (.inr (by simp)) _).alloc _)⟩

set_option maxRecDepth 100000 in
set_option maxHeartbeats 8000000 in
theorem dec_nbig (bits e m : Nat) (_ _ _ _ : Int) (w : World) (he1 : e ≤ 255) (hm1 : m < 8388608) (hE : (bits : Int) / 16777216 = (e : Int)) (hM : Go.bits .and .u32 (bits : Int) 8388607 = (m : Int)) (hb : (bits : Int) < 4294967296)
    (hS : Go.bits .and .u32 (bits : Int) 8388608 = 0)
    (hg : (3 : Int) < e)
    (L : Nat) (hL : L ≤ 23) (hbits : ∀ w, Calls Tryz.prog 88 #[V4 m 0 0 0] w fun e w' => e = .returned (.int .i64 L) ∧ Chg [] w w')
    (hbg : 256 < (L : Int) + 8 * ((e : Int) - 3))
    : Calls Tryz.prog 62 #[.int .u32 bits] w fun e w' => e = .returned (.tuple #[V4 0 0 0 0, .int .i64 6]) ∧ Chg [] w w' := by
  have hmi : (m : Int) < 8388608 := by omega
  have hei : (e : Int) ≤ 255 := by omega
  unfold V4 at *
  go_enter Tryz.func62, Tryz.ntmps62
  go_wp2_with fail
  refine (wide_Of _ _).mono ?_
  rintro e' w1 ⟨rfl, hc1⟩
  unfold V4
  have k1 := (Blk.new w #[.int .u64 0, .int .u64 0, .int .u64 0, .int .u64 0] 51).chg hc1 (by simp)
  have kc1 := ((Chg.refl [] w).alloc (.cells #[.int .u64 0, .int .u64 0, .int .u64 0, .int .u64 0] 51)).trans hc1 (by simp)
  have k2 := k1.alloc (.cells #[.int .u64 (m : Int), .int .u64 0, .int .u64 0, .int .u64 0] 51)
  have kc2 := kc1.alloc (.cells #[.int .u64 (m : Int), .int .u64 0, .int .u64 0, .int .u64 0] 51)
  have j2 := Blk.new w1 #[.int .u64 (m : Int), .int .u64 0, .int .u64 0, .int .u64 0] 51
  clear hc1
  have b0 := k1.cell 0 (v := .int .u64 0) rfl
  have bf0 := k1.free 0
  have b1 := k1.cell 1 (v := .int .u64 0) rfl
  have bf1 := k1.free 1
  have b2 := k1.cell 2 (v := .int .u64 0) rfl
  have bf2 := k1.free 2
  have b3 := k1.cell 3 (v := .int .u64 0) rfl
  have bf3 := k1.free 3
  have c0 := k2.cell 0 (v := .int .u64 0) rfl
  have cf0 := k2.free 0
  have c1 := k2.cell 1 (v := .int .u64 0) rfl
  have cf1 := k2.free 1
  have c2 := k2.cell 2 (v := .int .u64 0) rfl
  have cf2 := k2.free 2
  have c3 := k2.cell 3 (v := .int .u64 0) rfl
  have cf3 := k2.free 3
  have hlt2 := k1.lt
  go_wp2_with fail
  refine (hbits _).mono ?_
  rintro e' w3 ⟨rfl, hc3⟩
  have k3 := k2.chg hc3 (by simp)
  have j3 := j2.chg hc3 (by simp)
  have kc3 := kc2.trans hc3 (by simp)
  have hlt3 := k3.lt
  clear c0 c1 c2 c3 cf0 cf1 cf2 cf3 hc3
  have c0 := k3.cell 0 (v := .int .u64 0) rfl
  have cf0 := k3.free 0
  have c1 := k3.cell 1 (v := .int .u64 0) rfl
  have cf1 := k3.free 1
  have c2 := k3.cell 2 (v := .int .u64 0) rfl
  have cf2 := k3.free 2
  have c3 := k3.cell 3 (v := .int .u64 0) rfl
  have cf3 := k3.free 3
  have d0 := j3.cell 0 (v := .int .u64 (m : Int)) rfl
  have d1 := j3.cell 1 (v := .int .u64 0) rfl
  have d2 := j3.cell 2 (v := .int .u64 0) rfl
  have d3 := j3.cell 3 (v := .int .u64 0) rfl
  go_wp2
  have hz := ((((k3.set 0 (.int .u64 0)).set 1 (.int .u64 0)).set 2 (.int .u64 0)).set 3 (.int .u64 0))
  have e0 := hz.cell 0 (v := .int .u64 0) rfl
  have e1 := hz.cell 1 (v := .int .u64 0) rfl
  have e2 := hz.cell 2 (v := .int .u64 0) rfl
  have e3 := hz.cell 3 (v := .int .u64 0) rfl
  exact bodyPost_ret (v := .tuple #[V4 0 0 0 0, .int .i64 6]) (by simp [results, Tryz.results62, go_sem, V4, e0, e1, e2, e3]) rfl ⟨rfl, ((((kc3.setCell (.inr (by simp)) _).setCell (.inr (by simp)) _).setCell (.inr (by simp)) _).setCell (.inr (by simp)) _)⟩

set_option maxRecDepth 100000 in
set_option maxHeartbeats 8000000 in
theorem dec_nL0 (bits e m : Nat) (t0 t1 t2 t3 : Int) (w : World) (he1 : e ≤ 255) (hm1 : m < 8388608) (hE : (bits : Int) / 16777216 = (e : Int)) (hM : Go.bits .and .u32 (bits : Int) 8388607 = (m : Int)) (hb : (bits : Int) < 4294967296)
    (hS : Go.bits .and .u32 (bits : Int) 8388608 = 0)
    (hg : (3 : Int) < e)
    (L : Nat) (hL : L ≤ 23) (hbits : ∀ w, Calls Tryz.prog 88 #[V4 m 0 0 0] w fun e w' => e = .returned (.int .i64 L) ∧ Chg [] w w')
    (hbg : decide (256 < (L : Int) + 8 * ((e : Int) - 3)) = false)
    (hleft : ∀ w, Calls Tryz.prog 89 #[V4 m 0 0 0, .int .i64 (8 * ((e : Int) - 3))] w fun e' w' => e' = .returned (V4 t0 t1 t2 t3) ∧ Chg [] w w')
    (htq : ∀ w, (Op.equalIn 10000 51 (V4 t0 t1 t2 t3) (V4 0 0 0 0)).run Tryz.prog w = .ok false w)
    : Calls Tryz.prog 62 #[.int .u32 bits] w fun e w' => e = .returned (.tuple #[V4 t0 t1 t2 t3, .int .i64 0]) ∧ Chg [] w w' := by
  have hmi : (m : Int) < 8388608 := by omega
  have hei : (e : Int) ≤ 255 := by omega
  unfold V4 at *
  go_enter Tryz.func62, Tryz.ntmps62
  go_wp2_with fail
  refine (wide_Of _ _).mono ?_
  rintro e' w1 ⟨rfl, hc1⟩
  unfold V4
  have k1 := (Blk.new w #[.int .u64 0, .int .u64 0, .int .u64 0, .int .u64 0] 51).chg hc1 (by simp)
  have kc1 := ((Chg.refl [] w).alloc (.cells #[.int .u64 0, .int .u64 0, .int .u64 0, .int .u64 0] 51)).trans hc1 (by simp)
  have k2 := k1.alloc (.cells #[.int .u64 (m : Int), .int .u64 0, .int .u64 0, .int .u64 0] 51)
  have kc2 := kc1.alloc (.cells #[.int .u64 (m : Int), .int .u64 0, .int .u64 0, .int .u64 0] 51)
  have j2 := Blk.new w1 #[.int .u64 (m : Int), .int .u64 0, .int .u64 0, .int .u64 0] 51
  clear hc1
  have b0 := k1.cell 0 (v := .int .u64 0) rfl
  have bf0 := k1.free 0
  have b1 := k1.cell 1 (v := .int .u64 0) rfl
  have bf1 := k1.free 1
  have b2 := k1.cell 2 (v := .int .u64 0) rfl
  have bf2 := k1.free 2
  have b3 := k1.cell 3 (v := .int .u64 0) rfl
  have bf3 := k1.free 3
  have c0 := k2.cell 0 (v := .int .u64 0) rfl
  have cf0 := k2.free 0
  have c1 := k2.cell 1 (v := .int .u64 0) rfl
  have cf1 := k2.free 1
  have c2 := k2.cell 2 (v := .int .u64 0) rfl
  have cf2 := k2.free 2
  have c3 := k2.cell 3 (v := .int .u64 0) rfl
  have cf3 := k2.free 3
  have hlt2 := k1.lt
  go_wp2_with fail
  refine (hbits _).mono ?_
  rintro e' w3 ⟨rfl, hc3⟩
  have k3 := k2.chg hc3 (by simp)
  have j3 := j2.chg hc3 (by simp)
  have kc3 := kc2.trans hc3 (by simp)
  have hlt3 := k3.lt
  clear c0 c1 c2 c3 cf0 cf1 cf2 cf3 hc3
  have c0 := k3.cell 0 (v := .int .u64 0) rfl
  have cf0 := k3.free 0
  have c1 := k3.cell 1 (v := .int .u64 0) rfl
  have cf1 := k3.free 1
  have c2 := k3.cell 2 (v := .int .u64 0) rfl
  have cf2 := k3.free 2
  have c3 := k3.cell 3 (v := .int .u64 0) rfl
  have cf3 := k3.free 3
  have d0 := j3.cell 0 (v := .int .u64 (m : Int)) rfl
  have d1 := j3.cell 1 (v := .int .u64 0) rfl
  have d2 := j3.cell 2 (v := .int .u64 0) rfl
  have d3 := j3.cell 3 (v := .int .u64 0) rfl
  go_wp2_with fail
  refine (hleft _).mono ?_
  rintro e' w4 ⟨rfl, hc4⟩
  have kx4 := k3.chg hc4 (by simp)
  have k4 := kx4.alloc (.cells #[.int .u64 t0, .int .u64 t1, .int .u64 t2, .int .u64 t3] 51)
  have kc4 := kc3.trans hc4 (by simp)
  have hlt4 := (k3.chg hc4 (by simp)).lt
  clear c0 c1 c2 c3 cf0 cf1 cf2 cf3 hc4 d0 d1 d2 d3
  clear b0 b1 b2 b3 bf0 bf1 bf2 bf3
  have b0 := kx4.cell 0 (v := .int .u64 0) rfl
  have bf0 := kx4.free 0
  have b1 := kx4.cell 1 (v := .int .u64 0) rfl
  have bf1 := kx4.free 1
  have b2 := kx4.cell 2 (v := .int .u64 0) rfl
  have bf2 := kx4.free 2
  have b3 := kx4.cell 3 (v := .int .u64 0) rfl
  have bf3 := kx4.free 3
  have c0 := k4.cell 0 (v := .int .u64 0) rfl
  have cf0 := k4.free 0
  have c1 := k4.cell 1 (v := .int .u64 0) rfl
  have cf1 := k4.free 1
  have c2 := k4.cell 2 (v := .int .u64 0) rfl
  have cf2 := k4.free 2
  have c3 := k4.cell 3 (v := .int .u64 0) rfl
  have cf3 := k4.free 3
  go_wp2
  have hz := (((((kx4.set 0 (.int .u64 t0)).set 1 (.int .u64 t1)).set 2 (.int .u64 t2)).set 3 (.int .u64 t3)).alloc (.cells #[.int .u64 t0, .int .u64 t1, .int .u64 t2, .int .u64 t3] 51))
  have e0 := hz.cell 0 (v := .int .u64 t0) rfl
  have e1 := hz.cell 1 (v := .int .u64 t1) rfl
  have e2 := hz.cell 2 (v := .int .u64 t2) rfl
  have e3 := hz.cell 3 (v := .int .u64 t3) rfl
  exact bodyPost_ret (v := .tuple #[V4 t0 t1 t2 t3, .int .i64 0]) (by simp [results, Tryz.results62, go_sem, V4, e0, e1, e2, e3]) rfl ⟨rfl, (((((kc4.setCell (.inr (by simp)) _).setCell (.inr (by simp)) _).setCell (.inr (by simp)) _).setCell (.inr (by simp)) _).alloc _)⟩

set_option maxRecDepth 100000 in
set_option maxHeartbeats 8000000 in
theorem dec_nl0 (bits e m : Nat) (t0 t1 t2 t3 : Int) (w : World) (he1 : e ≤ 255) (hm1 : m < 8388608) (hE : (bits : Int) / 16777216 = (e : Int)) (hM : Go.bits .and .u32 (bits : Int) 8388607 = (m : Int)) (_ : (bits : Int) < 4294967296)
    (hS : Go.bits .and .u32 (bits : Int) 8388608 = 0)
    (hg : decide ((3 : Int) < e) = false)
    (hleft : ∀ w, Calls Tryz.prog 89 #[V4 m 0 0 0, .int .i64 (8 * ((e : Int) - 3))] w fun e' w' => e' = .returned (V4 t0 t1 t2 t3) ∧ Chg [] w w')
    (htq : ∀ w, (Op.equalIn 10000 51 (V4 t0 t1 t2 t3) (V4 0 0 0 0)).run Tryz.prog w = .ok false w)
    : Calls Tryz.prog 62 #[.int .u32 bits] w fun e w' => e = .returned (.tuple #[V4 t0 t1 t2 t3, .int .i64 0]) ∧ Chg [] w w' := by
  have hmi : (m : Int) < 8388608 := by omega
  have hei : (e : Int) ≤ 255 := by omega
  unfold V4 at *
  go_enter Tryz.func62, Tryz.ntmps62
  go_wp2_with fail
  refine (wide_Of _ _).mono ?_
  rintro e' w1 ⟨rfl, hc1⟩
  unfold V4
  have k1 := (Blk.new w #[.int .u64 0, .int .u64 0, .int .u64 0, .int .u64 0] 51).chg hc1 (by simp)
  have kc1 := ((Chg.refl [] w).alloc (.cells #[.int .u64 0, .int .u64 0, .int .u64 0, .int .u64 0] 51)).trans hc1 (by simp)
  have k2 := k1.alloc (.cells #[.int .u64 (m : Int), .int .u64 0, .int .u64 0, .int .u64 0] 51)
  have kc2 := kc1.alloc (.cells #[.int .u64 (m : Int), .int .u64 0, .int .u64 0, .int .u64 0] 51)
  have j2 := Blk.new w1 #[.int .u64 (m : Int), .int .u64 0, .int .u64 0, .int .u64 0] 51
  clear hc1
  have b0 := k1.cell 0 (v := .int .u64 0) rfl
  have bf0 := k1.free 0
  have b1 := k1.cell 1 (v := .int .u64 0) rfl
  have bf1 := k1.free 1
  have b2 := k1.cell 2 (v := .int .u64 0) rfl
  have bf2 := k1.free 2
  have b3 := k1.cell 3 (v := .int .u64 0) rfl
  have bf3 := k1.free 3
  have c0 := k2.cell 0 (v := .int .u64 0) rfl
  have cf0 := k2.free 0
  have c1 := k2.cell 1 (v := .int .u64 0) rfl
  have cf1 := k2.free 1
  have c2 := k2.cell 2 (v := .int .u64 0) rfl
  have cf2 := k2.free 2
  have c3 := k2.cell 3 (v := .int .u64 0) rfl
  have cf3 := k2.free 3
  have hlt2 := k1.lt
  go_wp2_with fail
  refine (hleft _).mono ?_
  rintro e' w3 ⟨rfl, hc3⟩
  have kx3 := k2.chg hc3 (by simp)
  have k3 := kx3.alloc (.cells #[.int .u64 t0, .int .u64 t1, .int .u64 t2, .int .u64 t3] 51)
  have kc3 := kc2.trans hc3 (by simp)
  have hlt3 := (k2.chg hc3 (by simp)).lt
  clear c0 c1 c2 c3 cf0 cf1 cf2 cf3 hc3
  clear b0 b1 b2 b3 bf0 bf1 bf2 bf3
  have b0 := kx3.cell 0 (v := .int .u64 0) rfl
  have bf0 := kx3.free 0
  have b1 := kx3.cell 1 (v := .int .u64 0) rfl
  have bf1 := kx3.free 1
  have b2 := kx3.cell 2 (v := .int .u64 0) rfl
  have bf2 := kx3.free 2
  have b3 := kx3.cell 3 (v := .int .u64 0) rfl
  have bf3 := kx3.free 3
  have c0 := k3.cell 0 (v := .int .u64 0) rfl
  have cf0 := k3.free 0
  have c1 := k3.cell 1 (v := .int .u64 0) rfl
  have cf1 := k3.free 1
  have c2 := k3.cell 2 (v := .int .u64 0) rfl
  have cf2 := k3.free 2
  have c3 := k3.cell 3 (v := .int .u64 0) rfl
  have cf3 := k3.free 3
  go_wp2
  have hz := (((((kx3.set 0 (.int .u64 t0)).set 1 (.int .u64 t1)).set 2 (.int .u64 t2)).set 3 (.int .u64 t3)).alloc (.cells #[.int .u64 t0, .int .u64 t1, .int .u64 t2, .int .u64 t3] 51))
  have e0 := hz.cell 0 (v := .int .u64 t0) rfl
  have e1 := hz.cell 1 (v := .int .u64 t1) rfl
  have e2 := hz.cell 2 (v := .int .u64 t2) rfl
  have e3 := hz.cell 3 (v := .int .u64 t3) rfl
  exact bodyPost_ret (v := .tuple #[V4 t0 t1 t2 t3, .int .i64 0]) (by simp [results, Tryz.results62, go_sem, V4, e0, e1, e2, e3]) rfl ⟨rfl, (((((kc3.setCell (.inr (by simp)) _).setCell (.inr (by simp)) _).setCell (.inr (by simp)) _).setCell (.inr (by simp)) _).alloc _)⟩

set_option maxRecDepth 100000 in
set_option maxHeartbeats 8000000 in
theorem dec_nL1 (bits e m : Nat) (t0 t1 t2 t3 : Int) (w : World) (he1 : e ≤ 255) (hm1 : m < 8388608) (hE : (bits : Int) / 16777216 = (e : Int)) (hM : Go.bits .and .u32 (bits : Int) 8388607 = (m : Int)) (hb : (bits : Int) < 4294967296)
    (hS : Go.bits .and .u32 (bits : Int) 8388608 = 0)
    (hg : (3 : Int) < e)
    (L : Nat) (hL : L ≤ 23) (hbits : ∀ w, Calls Tryz.prog 88 #[V4 m 0 0 0] w fun e w' => e = .returned (.int .i64 L) ∧ Chg [] w w')
    (hbg : decide (256 < (L : Int) + 8 * ((e : Int) - 3)) = false)
    (hleft : ∀ w, Calls Tryz.prog 89 #[V4 m 0 0 0, .int .i64 (8 * ((e : Int) - 3))] w fun e' w' => e' = .returned (V4 t0 t1 t2 t3) ∧ Chg [] w w')
    (htq : ∀ w, (Op.equalIn 10000 51 (V4 t0 t1 t2 t3) (V4 0 0 0 0)).run Tryz.prog w = .ok true w)
    : Calls Tryz.prog 62 #[.int .u32 bits] w fun e w' => e = .returned (.tuple #[V4 t0 t1 t2 t3, .int .i64 6]) ∧ Chg [] w w' := by
  have hmi : (m : Int) < 8388608 := by omega
  have hei : (e : Int) ≤ 255 := by omega
  unfold V4 at *
  go_enter Tryz.func62, Tryz.ntmps62
  go_wp2_with fail
  refine (wide_Of _ _).mono ?_
  rintro e' w1 ⟨rfl, hc1⟩
  unfold V4
  have k1 := (Blk.new w #[.int .u64 0, .int .u64 0, .int .u64 0, .int .u64 0] 51).chg hc1 (by simp)
  have kc1 := ((Chg.refl [] w).alloc (.cells #[.int .u64 0, .int .u64 0, .int .u64 0, .int .u64 0] 51)).trans hc1 (by simp)
  have k2 := k1.alloc (.cells #[.int .u64 (m : Int), .int .u64 0, .int .u64 0, .int .u64 0] 51)
  have kc2 := kc1.alloc (.cells #[.int .u64 (m : Int), .int .u64 0, .int .u64 0, .int .u64 0] 51)
  have j2 := Blk.new w1 #[.int .u64 (m : Int), .int .u64 0, .int .u64 0, .int .u64 0] 51
  clear hc1
  have b0 := k1.cell 0 (v := .int .u64 0) rfl
  have bf0 := k1.free 0
  have b1 := k1.cell 1 (v := .int .u64 0) rfl
  have bf1 := k1.free 1
  have b2 := k1.cell 2 (v := .int .u64 0) rfl
  have bf2 := k1.free 2
  have b3 := k1.cell 3 (v := .int .u64 0) rfl
  have bf3 := k1.free 3
  have c0 := k2.cell 0 (v := .int .u64 0) rfl
  have cf0 := k2.free 0
  have c1 := k2.cell 1 (v := .int .u64 0) rfl
  have cf1 := k2.free 1
  have c2 := k2.cell 2 (v := .int .u64 0) rfl
  have cf2 := k2.free 2
  have c3 := k2.cell 3 (v := .int .u64 0) rfl
  have cf3 := k2.free 3
  have hlt2 := k1.lt
  go_wp2_with fail
  refine (hbits _).mono ?_
  rintro e' w3 ⟨rfl, hc3⟩
  have k3 := k2.chg hc3 (by simp)
  have j3 := j2.chg hc3 (by simp)
  have kc3 := kc2.trans hc3 (by simp)
  have hlt3 := k3.lt
  clear c0 c1 c2 c3 cf0 cf1 cf2 cf3 hc3
  have c0 := k3.cell 0 (v := .int .u64 0) rfl
  have cf0 := k3.free 0
  have c1 := k3.cell 1 (v := .int .u64 0) rfl
  have cf1 := k3.free 1
  have c2 := k3.cell 2 (v := .int .u64 0) rfl
  have cf2 := k3.free 2
  have c3 := k3.cell 3 (v := .int .u64 0) rfl
  have cf3 := k3.free 3
  have d0 := j3.cell 0 (v := .int .u64 (m : Int)) rfl
  have d1 := j3.cell 1 (v := .int .u64 0) rfl
  have d2 := j3.cell 2 (v := .int .u64 0) rfl
  have d3 := j3.cell 3 (v := .int .u64 0) rfl
  go_wp2_with fail
  refine (hleft _).mono ?_
  rintro e' w4 ⟨rfl, hc4⟩
  have kx4 := k3.chg hc4 (by simp)
  have k4 := kx4.alloc (.cells #[.int .u64 t0, .int .u64 t1, .int .u64 t2, .int .u64 t3] 51)
  have kc4 := kc3.trans hc4 (by simp)
  have hlt4 := (k3.chg hc4 (by simp)).lt
  clear c0 c1 c2 c3 cf0 cf1 cf2 cf3 hc4 d0 d1 d2 d3
  clear b0 b1 b2 b3 bf0 bf1 bf2 bf3
  have b0 := kx4.cell 0 (v := .int .u64 0) rfl
  have bf0 := kx4.free 0
  have b1 := kx4.cell 1 (v := .int .u64 0) rfl
  have bf1 := kx4.free 1
  have b2 := kx4.cell 2 (v := .int .u64 0) rfl
  have bf2 := kx4.free 2
  have b3 := kx4.cell 3 (v := .int .u64 0) rfl
  have bf3 := kx4.free 3
  have c0 := k4.cell 0 (v := .int .u64 0) rfl
  have cf0 := k4.free 0
  have c1 := k4.cell 1 (v := .int .u64 0) rfl
  have cf1 := k4.free 1
  have c2 := k4.cell 2 (v := .int .u64 0) rfl
  have cf2 := k4.free 2
  have c3 := k4.cell 3 (v := .int .u64 0) rfl
  have cf3 := k4.free 3
  go_wp2
  have hz := (((((kx4.set 0 (.int .u64 t0)).set 1 (.int .u64 t1)).set 2 (.int .u64 t2)).set 3 (.int .u64 t3)).alloc (.cells #[.int .u64 t0, .int .u64 t1, .int .u64 t2, .int .u64 t3] 51))
  have e0 := hz.cell 0 (v := .int .u64 t0) rfl
  have e1 := hz.cell 1 (v := .int .u64 t1) rfl
  have e2 := hz.cell 2 (v := .int .u64 t2) rfl
  have e3 := hz.cell 3 (v := .int .u64 t3) rfl
  exact bodyPost_ret (v := .tuple #[V4 t0 t1 t2 t3, .int .i64 6]) (by simp [results, Tryz.results62, go_sem, V4, e0, e1, e2, e3]) rfl ⟨rfl, (((((kc4.setCell (.inr (by simp)) _).setCell (.inr (by simp)) _).setCell (.inr (by simp)) _).setCell (.inr (by simp)) _).alloc _)⟩

set_option maxRecDepth 100000 in
set_option maxHeartbeats 8000000 in
theorem dec_nl1 (bits e m : Nat) (t0 t1 t2 t3 : Int) (w : World) (he1 : e ≤ 255) (hm1 : m < 8388608) (hE : (bits : Int) / 16777216 = (e : Int)) (hM : Go.bits .and .u32 (bits : Int) 8388607 = (m : Int)) (_ : (bits : Int) < 4294967296)
    (hS : Go.bits .and .u32 (bits : Int) 8388608 = 0)
    (hg : decide ((3 : Int) < e) = false)
    (hleft : ∀ w, Calls Tryz.prog 89 #[V4 m 0 0 0, .int .i64 (8 * ((e : Int) - 3))] w fun e' w' => e' = .returned (V4 t0 t1 t2 t3) ∧ Chg [] w w')
    (htq : ∀ w, (Op.equalIn 10000 51 (V4 t0 t1 t2 t3) (V4 0 0 0 0)).run Tryz.prog w = .ok true w)
    : Calls Tryz.prog 62 #[.int .u32 bits] w fun e w' => e = .returned (.tuple #[V4 t0 t1 t2 t3, .int .i64 6]) ∧ Chg [] w w' := by
  have hmi : (m : Int) < 8388608 := by omega
  have hei : (e : Int) ≤ 255 := by omega
  unfold V4 at *
  go_enter Tryz.func62, Tryz.ntmps62
  go_wp2_with fail
  refine (wide_Of _ _).mono ?_
  rintro e' w1 ⟨rfl, hc1⟩
  unfold V4
  have k1 := (Blk.new w #[.int .u64 0, .int .u64 0, .int .u64 0, .int .u64 0] 51).chg hc1 (by simp)
  have kc1 := ((Chg.refl [] w).alloc (.cells #[.int .u64 0, .int .u64 0, .int .u64 0, .int .u64 0] 51)).trans hc1 (by simp)
  have k2 := k1.alloc (.cells #[.int .u64 (m : Int), .int .u64 0, .int .u64 0, .int .u64 0] 51)
  have kc2 := kc1.alloc (.cells #[.int .u64 (m : Int), .int .u64 0, .int .u64 0, .int .u64 0] 51)
  have j2 := Blk.new w1 #[.int .u64 (m : Int), .int .u64 0, .int .u64 0, .int .u64 0] 51
  clear hc1
  have b0 := k1.cell 0 (v := .int .u64 0) rfl
  have bf0 := k1.free 0
  have b1 := k1.cell 1 (v := .int .u64 0) rfl
  have bf1 := k1.free 1
  have b2 := k1.cell 2 (v := .int .u64 0) rfl
  have bf2 := k1.free 2
  have b3 := k1.cell 3 (v := .int .u64 0) rfl
  have bf3 := k1.free 3
  have c0 := k2.cell 0 (v := .int .u64 0) rfl
  have cf0 := k2.free 0
  have c1 := k2.cell 1 (v := .int .u64 0) rfl
  have cf1 := k2.free 1
  have c2 := k2.cell 2 (v := .int .u64 0) rfl
  have cf2 := k2.free 2
  have c3 := k2.cell 3 (v := .int .u64 0) rfl
  have cf3 := k2.free 3
  have hlt2 := k1.lt
  go_wp2_with fail
  refine (hleft _).mono ?_
  rintro e' w3 ⟨rfl, hc3⟩
  have kx3 := k2.chg hc3 (by simp)
  have k3 := kx3.alloc (.cells #[.int .u64 t0, .int .u64 t1, .int .u64 t2, .int .u64 t3] 51)
  have kc3 := kc2.trans hc3 (by simp)
  have hlt3 := (k2.chg hc3 (by simp)).lt
  clear c0 c1 c2 c3 cf0 cf1 cf2 cf3 hc3
  clear b0 b1 b2 b3 bf0 bf1 bf2 bf3
  have b0 := kx3.cell 0 (v := .int .u64 0) rfl
  have bf0 := kx3.free 0
  have b1 := kx3.cell 1 (v := .int .u64 0) rfl
  have bf1 := kx3.free 1
  have b2 := kx3.cell 2 (v := .int .u64 0) rfl
  have bf2 := kx3.free 2
  have b3 := kx3.cell 3 (v := .int .u64 0) rfl
  have bf3 := kx3.free 3
  have c0 := k3.cell 0 (v := .int .u64 0) rfl
  have cf0 := k3.free 0
  have c1 := k3.cell 1 (v := .int .u64 0) rfl
  have cf1 := k3.free 1
  have c2 := k3.cell 2 (v := .int .u64 0) rfl
  have cf2 := k3.free 2
  have c3 := k3.cell 3 (v := .int .u64 0) rfl
  have cf3 := k3.free 3
  go_wp2
  have hz := (((((kx3.set 0 (.int .u64 t0)).set 1 (.int .u64 t1)).set 2 (.int .u64 t2)).set 3 (.int .u64 t3)).alloc (.cells #[.int .u64 t0, .int .u64 t1, .int .u64 t2, .int .u64 t3] 51))
  have e0 := hz.cell 0 (v := .int .u64 t0) rfl
  have e1 := hz.cell 1 (v := .int .u64 t1) rfl
  have e2 := hz.cell 2 (v := .int .u64 t2) rfl
  have e3 := hz.cell 3 (v := .int .u64 t3) rfl
  exact bodyPost_ret (v := .tuple #[V4 t0 t1 t2 t3, .int .i64 6]) (by simp [results, Tryz.results62, go_sem, V4, e0, e1, e2, e3]) rfl ⟨rfl, (((((kc3.setCell (.inr (by simp)) _).setCell (.inr (by simp)) _).setCell (.inr (by simp)) _).setCell (.inr (by simp)) _).alloc _)⟩

set_option maxRecDepth 100000 in
set_option maxHeartbeats 8000000 in
theorem dec_zbig (bits e m : Nat) (_ _ _ _ : Int) (w : World) (he1 : e ≤ 255) (hm1 : m < 8388608) (hE : (bits : Int) / 16777216 = (e : Int)) (hM : Go.bits .and .u32 (bits : Int) 8388607 = (m : Int)) (hb : (bits : Int) < 4294967296)
    (hS : Go.bits .and .u32 (bits : Int) 8388608 = 8388608)
    (heq : ∀ w, (Op.equalIn 10000 51 (V4 m 0 0 0) (V4 0 0 0 0)).run Tryz.prog w = .ok true w)
    (hg : (3 : Int) < e)
    (L : Nat) (hL : L ≤ 23) (hbits : ∀ w, Calls Tryz.prog 88 #[V4 m 0 0 0] w fun e w' => e = .returned (.int .i64 L) ∧ Chg [] w w')
    (hbg : 256 < (L : Int) + 8 * ((e : Int) - 3))
    : Calls Tryz.prog 62 #[.int .u32 bits] w fun e w' => e = .returned (.tuple #[V4 0 0 0 0, .int .i64 6]) ∧ Chg [] w w' := by
  have hmi : (m : Int) < 8388608 := by omega
  have hei : (e : Int) ≤ 255 := by omega
  unfold V4 at *
  go_enter Tryz.func62, Tryz.ntmps62
  go_wp2_with fail
  refine (wide_Of _ _).mono ?_
  rintro e' w1 ⟨rfl, hc1⟩
  unfold V4
  have k1 := (Blk.new w #[.int .u64 0, .int .u64 0, .int .u64 0, .int .u64 0] 51).chg hc1 (by simp)
  have kc1 := ((Chg.refl [] w).alloc (.cells #[.int .u64 0, .int .u64 0, .int .u64 0, .int .u64 0] 51)).trans hc1 (by simp)
  have k2 := k1.alloc (.cells #[.int .u64 (m : Int), .int .u64 0, .int .u64 0, .int .u64 0] 51)
  have kc2 := kc1.alloc (.cells #[.int .u64 (m : Int), .int .u64 0, .int .u64 0, .int .u64 0] 51)
  have j2 := Blk.new w1 #[.int .u64 (m : Int), .int .u64 0, .int .u64 0, .int .u64 0] 51
  clear hc1
  have b0 := k1.cell 0 (v := .int .u64 0) rfl
  have bf0 := k1.free 0
  have b1 := k1.cell 1 (v := .int .u64 0) rfl
  have bf1 := k1.free 1
  have b2 := k1.cell 2 (v := .int .u64 0) rfl
  have bf2 := k1.free 2
  have b3 := k1.cell 3 (v := .int .u64 0) rfl
  have bf3 := k1.free 3
  have c0 := k2.cell 0 (v := .int .u64 0) rfl
  have cf0 := k2.free 0
  have c1 := k2.cell 1 (v := .int .u64 0) rfl
  have cf1 := k2.free 1
  have c2 := k2.cell 2 (v := .int .u64 0) rfl
  have cf2 := k2.free 2
  have c3 := k2.cell 3 (v := .int .u64 0) rfl
  have cf3 := k2.free 3
  have hlt2 := k1.lt
  go_wp2_with fail
  refine (hbits _).mono ?_
  rintro e' w3 ⟨rfl, hc3⟩
  have k3 := k2.chg hc3 (by simp)
  have j3 := j2.chg hc3 (by simp)
  have kc3 := kc2.trans hc3 (by simp)
  have hlt3 := k3.lt
  clear c0 c1 c2 c3 cf0 cf1 cf2 cf3 hc3
  have c0 := k3.cell 0 (v := .int .u64 0) rfl
  have cf0 := k3.free 0
  have c1 := k3.cell 1 (v := .int .u64 0) rfl
  have cf1 := k3.free 1
  have c2 := k3.cell 2 (v := .int .u64 0) rfl
  have cf2 := k3.free 2
  have c3 := k3.cell 3 (v := .int .u64 0) rfl
  have cf3 := k3.free 3
  have d0 := j3.cell 0 (v := .int .u64 (m : Int)) rfl
  have d1 := j3.cell 1 (v := .int .u64 0) rfl
  have d2 := j3.cell 2 (v := .int .u64 0) rfl
  have d3 := j3.cell 3 (v := .int .u64 0) rfl
  go_wp2
  have hz := ((((k3.set 0 (.int .u64 0)).set 1 (.int .u64 0)).set 2 (.int .u64 0)).set 3 (.int .u64 0))
  have e0 := hz.cell 0 (v := .int .u64 0) rfl
  have e1 := hz.cell 1 (v := .int .u64 0) rfl
  have e2 := hz.cell 2 (v := .int .u64 0) rfl
  have e3 := hz.cell 3 (v := .int .u64 0) rfl
  exact bodyPost_ret (v := .tuple #[V4 0 0 0 0, .int .i64 6]) (by simp [results, Tryz.results62, go_sem, V4, e0, e1, e2, e3]) rfl ⟨rfl, ((((kc3.setCell (.inr (by simp)) _).setCell (.inr (by simp)) _).setCell (.inr (by simp)) _).setCell (.inr (by simp)) _)⟩

set_option maxRecDepth 100000 in
set_option maxHeartbeats 8000000 in
theorem dec_zL0 (bits e m : Nat) (t0 t1 t2 t3 : Int) (w : World) (he1 : e ≤ 255) (hm1 : m < 8388608) (hE : (bits : Int) / 16777216 = (e : Int)) (hM : Go.bits .and .u32 (bits : Int) 8388607 = (m : Int)) (hb : (bits : Int) < 4294967296)
    (hS : Go.bits .and .u32 (bits : Int) 8388608 = 8388608)
    (heq : ∀ w, (Op.equalIn 10000 51 (V4 m 0 0 0) (V4 0 0 0 0)).run Tryz.prog w = .ok true w)
    (hg : (3 : Int) < e)
    (L : Nat) (hL : L ≤ 23) (hbits : ∀ w, Calls Tryz.prog 88 #[V4 m 0 0 0] w fun e w' => e = .returned (.int .i64 L) ∧ Chg [] w w')
    (hbg : decide (256 < (L : Int) + 8 * ((e : Int) - 3)) = false)
    (hleft : ∀ w, Calls Tryz.prog 89 #[V4 m 0 0 0, .int .i64 (8 * ((e : Int) - 3))] w fun e' w' => e' = .returned (V4 t0 t1 t2 t3) ∧ Chg [] w w')
    (htq : ∀ w, (Op.equalIn 10000 51 (V4 t0 t1 t2 t3) (V4 0 0 0 0)).run Tryz.prog w = .ok false w)
    : Calls Tryz.prog 62 #[.int .u32 bits] w fun e w' => e = .returned (.tuple #[V4 t0 t1 t2 t3, .int .i64 0]) ∧ Chg [] w w' := by
  have hmi : (m : Int) < 8388608 := by omega
  have hei : (e : Int) ≤ 255 := by omega
  unfold V4 at *
  go_enter Tryz.func62, Tryz.ntmps62
  go_wp2_with fail
  refine (wide_Of _ _).mono ?_
  rintro e' w1 ⟨rfl, hc1⟩
  unfold V4
  have k1 := (Blk.new w #[.int .u64 0, .int .u64 0, .int .u64 0, .int .u64 0] 51).chg hc1 (by simp)
  have kc1 := ((Chg.refl [] w).alloc (.cells #[.int .u64 0, .int .u64 0, .int .u64 0, .int .u64 0] 51)).trans hc1 (by simp)
  have k2 := k1.alloc (.cells #[.int .u64 (m : Int), .int .u64 0, .int .u64 0, .int .u64 0] 51)
  have kc2 := kc1.alloc (.cells #[.int .u64 (m : Int), .int .u64 0, .int .u64 0, .int .u64 0] 51)
  have j2 := Blk.new w1 #[.int .u64 (m : Int), .int .u64 0, .int .u64 0, .int .u64 0] 51
  clear hc1
  have b0 := k1.cell 0 (v := .int .u64 0) rfl
  have bf0 := k1.free 0
  have b1 := k1.cell 1 (v := .int .u64 0) rfl
  have bf1 := k1.free 1
  have b2 := k1.cell 2 (v := .int .u64 0) rfl
  have bf2 := k1.free 2
  have b3 := k1.cell 3 (v := .int .u64 0) rfl
  have bf3 := k1.free 3
  have c0 := k2.cell 0 (v := .int .u64 0) rfl
  have cf0 := k2.free 0
  have c1 := k2.cell 1 (v := .int .u64 0) rfl
  have cf1 := k2.free 1
  have c2 := k2.cell 2 (v := .int .u64 0) rfl
  have cf2 := k2.free 2
  have c3 := k2.cell 3 (v := .int .u64 0) rfl
  have cf3 := k2.free 3
  have hlt2 := k1.lt
  go_wp2_with fail
  refine (hbits _).mono ?_
  rintro e' w3 ⟨rfl, hc3⟩
  have k3 := k2.chg hc3 (by simp)
  have j3 := j2.chg hc3 (by simp)
  have kc3 := kc2.trans hc3 (by simp)
  have hlt3 := k3.lt
  clear c0 c1 c2 c3 cf0 cf1 cf2 cf3 hc3
  have c0 := k3.cell 0 (v := .int .u64 0) rfl
  have cf0 := k3.free 0
  have c1 := k3.cell 1 (v := .int .u64 0) rfl
  have cf1 := k3.free 1
  have c2 := k3.cell 2 (v := .int .u64 0) rfl
  have cf2 := k3.free 2
  have c3 := k3.cell 3 (v := .int .u64 0) rfl
  have cf3 := k3.free 3
  have d0 := j3.cell 0 (v := .int .u64 (m : Int)) rfl
  have d1 := j3.cell 1 (v := .int .u64 0) rfl
  have d2 := j3.cell 2 (v := .int .u64 0) rfl
  have d3 := j3.cell 3 (v := .int .u64 0) rfl
  go_wp2_with fail
  refine (hleft _).mono ?_
  rintro e' w4 ⟨rfl, hc4⟩
  have kx4 := k3.chg hc4 (by simp)
  have k4 := kx4.alloc (.cells #[.int .u64 t0, .int .u64 t1, .int .u64 t2, .int .u64 t3] 51)
  have kc4 := kc3.trans hc4 (by simp)
  have hlt4 := (k3.chg hc4 (by simp)).lt
  clear c0 c1 c2 c3 cf0 cf1 cf2 cf3 hc4 d0 d1 d2 d3
  clear b0 b1 b2 b3 bf0 bf1 bf2 bf3
  have b0 := kx4.cell 0 (v := .int .u64 0) rfl
  have bf0 := kx4.free 0
  have b1 := kx4.cell 1 (v := .int .u64 0) rfl
  have bf1 := kx4.free 1
  have b2 := kx4.cell 2 (v := .int .u64 0) rfl
  have bf2 := kx4.free 2
  have b3 := kx4.cell 3 (v := .int .u64 0) rfl
  have bf3 := kx4.free 3
  have c0 := k4.cell 0 (v := .int .u64 0) rfl
  have cf0 := k4.free 0
  have c1 := k4.cell 1 (v := .int .u64 0) rfl
  have cf1 := k4.free 1
  have c2 := k4.cell 2 (v := .int .u64 0) rfl
  have cf2 := k4.free 2
  have c3 := k4.cell 3 (v := .int .u64 0) rfl
  have cf3 := k4.free 3
  go_wp2
  have hz := (((((kx4.set 0 (.int .u64 t0)).set 1 (.int .u64 t1)).set 2 (.int .u64 t2)).set 3 (.int .u64 t3)).alloc (.cells #[.int .u64 t0, .int .u64 t1, .int .u64 t2, .int .u64 t3] 51))
  have e0 := hz.cell 0 (v := .int .u64 t0) rfl
  have e1 := hz.cell 1 (v := .int .u64 t1) rfl
  have e2 := hz.cell 2 (v := .int .u64 t2) rfl
  have e3 := hz.cell 3 (v := .int .u64 t3) rfl
  exact bodyPost_ret (v := .tuple #[V4 t0 t1 t2 t3, .int .i64 0]) (by simp [results, Tryz.results62, go_sem, V4, e0, e1, e2, e3]) rfl ⟨rfl, (((((kc4.setCell (.inr (by simp)) _).setCell (.inr (by simp)) _).setCell (.inr (by simp)) _).setCell (.inr (by simp)) _).alloc _)⟩

set_option maxRecDepth 100000 in
set_option maxHeartbeats 8000000 in
theorem dec_zl0 (bits e m : Nat) (t0 t1 t2 t3 : Int) (w : World) (he1 : e ≤ 255) (hm1 : m < 8388608) (hE : (bits : Int) / 16777216 = (e : Int)) (hM : Go.bits .and .u32 (bits : Int) 8388607 = (m : Int)) (_ : (bits : Int) < 4294967296)
    (hS : Go.bits .and .u32 (bits : Int) 8388608 = 8388608)
    (heq : ∀ w, (Op.equalIn 10000 51 (V4 m 0 0 0) (V4 0 0 0 0)).run Tryz.prog w = .ok true w)
    (hg : decide ((3 : Int) < e) = false)
    (hleft : ∀ w, Calls Tryz.prog 89 #[V4 m 0 0 0, .int .i64 (8 * ((e : Int) - 3))] w fun e' w' => e' = .returned (V4 t0 t1 t2 t3) ∧ Chg [] w w')
    (htq : ∀ w, (Op.equalIn 10000 51 (V4 t0 t1 t2 t3) (V4 0 0 0 0)).run Tryz.prog w = .ok false w)
    : Calls Tryz.prog 62 #[.int .u32 bits] w fun e w' => e = .returned (.tuple #[V4 t0 t1 t2 t3, .int .i64 0]) ∧ Chg [] w w' := by
  have hmi : (m : Int) < 8388608 := by omega
  have hei : (e : Int) ≤ 255 := by omega
  unfold V4 at *
  go_enter Tryz.func62, Tryz.ntmps62
  go_wp2_with fail
  refine (wide_Of _ _).mono ?_
  rintro e' w1 ⟨rfl, hc1⟩
  unfold V4
  have k1 := (Blk.new w #[.int .u64 0, .int .u64 0, .int .u64 0, .int .u64 0] 51).chg hc1 (by simp)
  have kc1 := ((Chg.refl [] w).alloc (.cells #[.int .u64 0, .int .u64 0, .int .u64 0, .int .u64 0] 51)).trans hc1 (by simp)
  have k2 := k1.alloc (.cells #[.int .u64 (m : Int), .int .u64 0, .int .u64 0, .int .u64 0] 51)
  have kc2 := kc1.alloc (.cells #[.int .u64 (m : Int), .int .u64 0, .int .u64 0, .int .u64 0] 51)
  have j2 := Blk.new w1 #[.int .u64 (m : Int), .int .u64 0, .int .u64 0, .int .u64 0] 51
  clear hc1
  have b0 := k1.cell 0 (v := .int .u64 0) rfl
  have bf0 := k1.free 0
  have b1 := k1.cell 1 (v := .int .u64 0) rfl
  have bf1 := k1.free 1
  have b2 := k1.cell 2 (v := .int .u64 0) rfl
  have bf2 := k1.free 2
  have b3 := k1.cell 3 (v := .int .u64 0) rfl
  have bf3 := k1.free 3
  have c0 := k2.cell 0 (v := .int .u64 0) rfl
  have cf0 := k2.free 0
  have c1 := k2.cell 1 (v := .int .u64 0) rfl
  have cf1 := k2.free 1
  have c2 := k2.cell 2 (v := .int .u64 0) rfl
  have cf2 := k2.free 2
  have c3 := k2.cell 3 (v := .int .u64 0) rfl
  have cf3 := k2.free 3
  have hlt2 := k1.lt
  go_wp2_with fail
  refine (hleft _).mono ?_
  rintro e' w3 ⟨rfl, hc3⟩
  have kx3 := k2.chg hc3 (by simp)
  have k3 := kx3.alloc (.cells #[.int .u64 t0, .int .u64 t1, .int .u64 t2, .int .u64 t3] 51)
  have kc3 := kc2.trans hc3 (by simp)
  have hlt3 := (k2.chg hc3 (by simp)).lt
  clear c0 c1 c2 c3 cf0 cf1 cf2 cf3 hc3
  clear b0 b1 b2 b3 bf0 bf1 bf2 bf3
  have b0 := kx3.cell 0 (v := .int .u64 0) rfl
  have bf0 := kx3.free 0
  have b1 := kx3.cell 1 (v := .int .u64 0) rfl
  have bf1 := kx3.free 1
  have b2 := kx3.cell 2 (v := .int .u64 0) rfl
  have bf2 := kx3.free 2
  have b3 := kx3.cell 3 (v := .int .u64 0) rfl
  have bf3 := kx3.free 3
  have c0 := k3.cell 0 (v := .int .u64 0) rfl
  have cf0 := k3.free 0
  have c1 := k3.cell 1 (v := .int .u64 0) rfl
  have cf1 := k3.free 1
  have c2 := k3.cell 2 (v := .int .u64 0) rfl
  have cf2 := k3.free 2
  have c3 := k3.cell 3 (v := .int .u64 0) rfl
  have cf3 := k3.free 3
  go_wp2
  have hz := (((((kx3.set 0 (.int .u64 t0)).set 1 (.int .u64 t1)).set 2 (.int .u64 t2)).set 3 (.int .u64 t3)).alloc (.cells #[.int .u64 t0, .int .u64 t1, .int .u64 t2, .int .u64 t3] 51))
  have e0 := hz.cell 0 (v := .int .u64 t0) rfl
  have e1 := hz.cell 1 (v := .int .u64 t1) rfl
  have e2 := hz.cell 2 (v := .int .u64 t2) rfl
  have e3 := hz.cell 3 (v := .int .u64 t3) rfl
  exact bodyPost_ret (v := .tuple #[V4 t0 t1 t2 t3, .int .i64 0]) (by simp [results, Tryz.results62, go_sem, V4, e0, e1, e2, e3]) rfl ⟨rfl, (((((kc3.setCell (.inr (by simp)) _).setCell (.inr (by simp)) _).setCell (.inr (by simp)) _).setCell (.inr (by simp)) _).alloc _)⟩

set_option maxRecDepth 100000 in
set_option maxHeartbeats 8000000 in
theorem dec_zL1 (bits e m : Nat) (t0 t1 t2 t3 : Int) (w : World) (he1 : e ≤ 255) (hm1 : m < 8388608) (hE : (bits : Int) / 16777216 = (e : Int)) (hM : Go.bits .and .u32 (bits : Int) 8388607 = (m : Int)) (hb : (bits : Int) < 4294967296)
    (hS : Go.bits .and .u32 (bits : Int) 8388608 = 8388608)
    (heq : ∀ w, (Op.equalIn 10000 51 (V4 m 0 0 0) (V4 0 0 0 0)).run Tryz.prog w = .ok true w)
    (hg : (3 : Int) < e)
    (L : Nat) (hL : L ≤ 23) (hbits : ∀ w, Calls Tryz.prog 88 #[V4 m 0 0 0] w fun e w' => e = .returned (.int .i64 L) ∧ Chg [] w w')
    (hbg : decide (256 < (L : Int) + 8 * ((e : Int) - 3)) = false)
    (hleft : ∀ w, Calls Tryz.prog 89 #[V4 m 0 0 0, .int .i64 (8 * ((e : Int) - 3))] w fun e' w' => e' = .returned (V4 t0 t1 t2 t3) ∧ Chg [] w w')
    (htq : ∀ w, (Op.equalIn 10000 51 (V4 t0 t1 t2 t3) (V4 0 0 0 0)).run Tryz.prog w = .ok true w)
    : Calls Tryz.prog 62 #[.int .u32 bits] w fun e w' => e = .returned (.tuple #[V4 t0 t1 t2 t3, .int .i64 6]) ∧ Chg [] w w' := by
  have hmi : (m : Int) < 8388608 := by omega
  have hei : (e : Int) ≤ 255 := by omega
  unfold V4 at *
  go_enter Tryz.func62, Tryz.ntmps62
  go_wp2_with fail
  refine (wide_Of _ _).mono ?_
  rintro e' w1 ⟨rfl, hc1⟩
  unfold V4
  have k1 := (Blk.new w #[.int .u64 0, .int .u64 0, .int .u64 0, .int .u64 0] 51).chg hc1 (by simp)
  have kc1 := ((Chg.refl [] w).alloc (.cells #[.int .u64 0, .int .u64 0, .int .u64 0, .int .u64 0] 51)).trans hc1 (by simp)
  have k2 := k1.alloc (.cells #[.int .u64 (m : Int), .int .u64 0, .int .u64 0, .int .u64 0] 51)
  have kc2 := kc1.alloc (.cells #[.int .u64 (m : Int), .int .u64 0, .int .u64 0, .int .u64 0] 51)
  have j2 := Blk.new w1 #[.int .u64 (m : Int), .int .u64 0, .int .u64 0, .int .u64 0] 51
  clear hc1
  have b0 := k1.cell 0 (v := .int .u64 0) rfl
  have bf0 := k1.free 0
  have b1 := k1.cell 1 (v := .int .u64 0) rfl
  have bf1 := k1.free 1
  have b2 := k1.cell 2 (v := .int .u64 0) rfl
  have bf2 := k1.free 2
  have b3 := k1.cell 3 (v := .int .u64 0) rfl
  have bf3 := k1.free 3
  have c0 := k2.cell 0 (v := .int .u64 0) rfl
  have cf0 := k2.free 0
  have c1 := k2.cell 1 (v := .int .u64 0) rfl
  have cf1 := k2.free 1
  have c2 := k2.cell 2 (v := .int .u64 0) rfl
  have cf2 := k2.free 2
  have c3 := k2.cell 3 (v := .int .u64 0) rfl
  have cf3 := k2.free 3
  have hlt2 := k1.lt
  go_wp2_with fail
  refine (hbits _).mono ?_
  rintro e' w3 ⟨rfl, hc3⟩
  have k3 := k2.chg hc3 (by simp)
  have j3 := j2.chg hc3 (by simp)
  have kc3 := kc2.trans hc3 (by simp)
  have hlt3 := k3.lt
  clear c0 c1 c2 c3 cf0 cf1 cf2 cf3 hc3
  have c0 := k3.cell 0 (v := .int .u64 0) rfl
  have cf0 := k3.free 0
  have c1 := k3.cell 1 (v := .int .u64 0) rfl
  have cf1 := k3.free 1
  have c2 := k3.cell 2 (v := .int .u64 0) rfl
  have cf2 := k3.free 2
  have c3 := k3.cell 3 (v := .int .u64 0) rfl
  have cf3 := k3.free 3
  have d0 := j3.cell 0 (v := .int .u64 (m : Int)) rfl
  have d1 := j3.cell 1 (v := .int .u64 0) rfl
  have d2 := j3.cell 2 (v := .int .u64 0) rfl
  have d3 := j3.cell 3 (v := .int .u64 0) rfl
  go_wp2_with fail
  refine (hleft _).mono ?_
  rintro e' w4 ⟨rfl, hc4⟩
  have kx4 := k3.chg hc4 (by simp)
  have k4 := kx4.alloc (.cells #[.int .u64 t0, .int .u64 t1, .int .u64 t2, .int .u64 t3] 51)
  have kc4 := kc3.trans hc4 (by simp)
  have hlt4 := (k3.chg hc4 (by simp)).lt
  clear c0 c1 c2 c3 cf0 cf1 cf2 cf3 hc4 d0 d1 d2 d3
  clear b0 b1 b2 b3 bf0 bf1 bf2 bf3
  have b0 := kx4.cell 0 (v := .int .u64 0) rfl
  have bf0 := kx4.free 0
  have b1 := kx4.cell 1 (v := .int .u64 0) rfl
  have bf1 := kx4.free 1
  have b2 := kx4.cell 2 (v := .int .u64 0) rfl
  have bf2 := kx4.free 2
  have b3 := kx4.cell 3 (v := .int .u64 0) rfl
  have bf3 := kx4.free 3
  have c0 := k4.cell 0 (v := .int .u64 0) rfl
  have cf0 := k4.free 0
  have c1 := k4.cell 1 (v := .int .u64 0) rfl
  have cf1 := k4.free 1
  have c2 := k4.cell 2 (v := .int .u64 0) rfl
  have cf2 := k4.free 2
  have c3 := k4.cell 3 (v := .int .u64 0) rfl
  have cf3 := k4.free 3
  go_wp2
  have hz := (((((kx4.set 0 (.int .u64 t0)).set 1 (.int .u64 t1)).set 2 (.int .u64 t2)).set 3 (.int .u64 t3)).alloc (.cells #[.int .u64 t0, .int .u64 t1, .int .u64 t2, .int .u64 t3] 51))
  have e0 := hz.cell 0 (v := .int .u64 t0) rfl
  have e1 := hz.cell 1 (v := .int .u64 t1) rfl
  have e2 := hz.cell 2 (v := .int .u64 t2) rfl
  have e3 := hz.cell 3 (v := .int .u64 t3) rfl
  exact bodyPost_ret (v := .tuple #[V4 t0 t1 t2 t3, .int .i64 6]) (by simp [results, Tryz.results62, go_sem, V4, e0, e1, e2, e3]) rfl ⟨rfl, (((((kc4.setCell (.inr (by simp)) _).setCell (.inr (by simp)) _).setCell (.inr (by simp)) _).setCell (.inr (by simp)) _).alloc _)⟩

set_option maxRecDepth 100000 in
set_option maxHeartbeats 8000000 in
theorem dec_zl1 (bits e m : Nat) (t0 t1 t2 t3 : Int) (w : World) (he1 : e ≤ 255) (hm1 : m < 8388608) (hE : (bits : Int) / 16777216 = (e : Int)) (hM : Go.bits .and .u32 (bits : Int) 8388607 = (m : Int)) (_ : (bits : Int) < 4294967296)
    (hS : Go.bits .and .u32 (bits : Int) 8388608 = 8388608)
    (heq : ∀ w, (Op.equalIn 10000 51 (V4 m 0 0 0) (V4 0 0 0 0)).run Tryz.prog w = .ok true w)
    (hg : decide ((3 : Int) < e) = false)
    (hleft : ∀ w, Calls Tryz.prog 89 #[V4 m 0 0 0, .int .i64 (8 * ((e : Int) - 3))] w fun e' w' => e' = .returned (V4 t0 t1 t2 t3) ∧ Chg [] w w')
    (htq : ∀ w, (Op.equalIn 10000 51 (V4 t0 t1 t2 t3) (V4 0 0 0 0)).run Tryz.prog w = .ok true w)
    : Calls Tryz.prog 62 #[.int .u32 bits] w fun e w' => e = .returned (.tuple #[V4 t0 t1 t2 t3, .int .i64 6]) ∧ Chg [] w w' := by
  have hmi : (m : Int) < 8388608 := by omega
  have hei : (e : Int) ≤ 255 := by omega
  unfold V4 at *
  go_enter Tryz.func62, Tryz.ntmps62
  go_wp2_with fail
  refine (wide_Of _ _).mono ?_
  rintro e' w1 ⟨rfl, hc1⟩
  unfold V4
  have k1 := (Blk.new w #[.int .u64 0, .int .u64 0, .int .u64 0, .int .u64 0] 51).chg hc1 (by simp)
  have kc1 := ((Chg.refl [] w).alloc (.cells #[.int .u64 0, .int .u64 0, .int .u64 0, .int .u64 0] 51)).trans hc1 (by simp)
  have k2 := k1.alloc (.cells #[.int .u64 (m : Int), .int .u64 0, .int .u64 0, .int .u64 0] 51)
  have kc2 := kc1.alloc (.cells #[.int .u64 (m : Int), .int .u64 0, .int .u64 0, .int .u64 0] 51)
  have j2 := Blk.new w1 #[.int .u64 (m : Int), .int .u64 0, .int .u64 0, .int .u64 0] 51
  clear hc1
  have b0 := k1.cell 0 (v := .int .u64 0) rfl
  have bf0 := k1.free 0
  have b1 := k1.cell 1 (v := .int .u64 0) rfl
  have bf1 := k1.free 1
  have b2 := k1.cell 2 (v := .int .u64 0) rfl
  have bf2 := k1.free 2
  have b3 := k1.cell 3 (v := .int .u64 0) rfl
  have bf3 := k1.free 3
  have c0 := k2.cell 0 (v := .int .u64 0) rfl
  have cf0 := k2.free 0
  have c1 := k2.cell 1 (v := .int .u64 0) rfl
  have cf1 := k2.free 1
  have c2 := k2.cell 2 (v := .int .u64 0) rfl
  have cf2 := k2.free 2
  have c3 := k2.cell 3 (v := .int .u64 0) rfl
  have cf3 := k2.free 3
  have hlt2 := k1.lt
  go_wp2_with fail
  refine (hleft _).mono ?_
  rintro e' w3 ⟨rfl, hc3⟩
  have kx3 := k2.chg hc3 (by simp)
  have k3 := kx3.alloc (.cells #[.int .u64 t0, .int .u64 t1, .int .u64 t2, .int .u64 t3] 51)
  have kc3 := kc2.trans hc3 (by simp)
  have hlt3 := (k2.chg hc3 (by simp)).lt
  clear c0 c1 c2 c3 cf0 cf1 cf2 cf3 hc3
  clear b0 b1 b2 b3 bf0 bf1 bf2 bf3
  have b0 := kx3.cell 0 (v := .int .u64 0) rfl
  have bf0 := kx3.free 0
  have b1 := kx3.cell 1 (v := .int .u64 0) rfl
  have bf1 := kx3.free 1
  have b2 := kx3.cell 2 (v := .int .u64 0) rfl
  have bf2 := kx3.free 2
  have b3 := kx3.cell 3 (v := .int .u64 0) rfl
  have bf3 := kx3.free 3
  have c0 := k3.cell 0 (v := .int .u64 0) rfl
  have cf0 := k3.free 0
  have c1 := k3.cell 1 (v := .int .u64 0) rfl
  have cf1 := k3.free 1
  have c2 := k3.cell 2 (v := .int .u64 0) rfl
  have cf2 := k3.free 2
  have c3 := k3.cell 3 (v := .int .u64 0) rfl
  have cf3 := k3.free 3
  go_wp2
  have hz := (((((kx3.set 0 (.int .u64 t0)).set 1 (.int .u64 t1)).set 2 (.int .u64 t2)).set 3 (.int .u64 t3)).alloc (.cells #[.int .u64 t0, .int .u64 t1, .int .u64 t2, .int .u64 t3] 51))
  have e0 := hz.cell 0 (v := .int .u64 t0) rfl
  have e1 := hz.cell 1 (v := .int .u64 t1) rfl
  have e2 := hz.cell 2 (v := .int .u64 t2) rfl
  have e3 := hz.cell 3 (v := .int .u64 t3) rfl
  exact bodyPost_ret (v := .tuple #[V4 t0 t1 t2 t3, .int .i64 6]) (by simp [results, Tryz.results62, go_sem, V4, e0, e1, e2, e3]) rfl ⟨rfl, (((((kc3.setCell (.inr (by simp)) _).setCell (.inr (by simp)) _).setCell (.inr (by simp)) _).setCell (.inr (by simp)) _).alloc _)⟩

end Go.Proofs.YtmkgbinmilcojaaGreat

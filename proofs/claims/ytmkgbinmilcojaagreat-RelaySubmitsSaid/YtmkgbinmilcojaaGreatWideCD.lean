import Derived.Test.YtmkgbinmilcojaaGreatWideAB

/- Package wide: Left, by words. Printed by shifts.py. -/
namespace Go.Proofs.YtmkgbinmilcojaaGreat
open Go.RowKit Go.Maps Go.Shelf

set_option maxRecDepth 100000 in
set_option maxHeartbeats 8000000 in
theorem WideC_0z (a0 a1 a2 a3 : Int) (n : Int) (w : World) (ha0 : Wd a0) (ha1 : Wd a1) (ha2 : Wd a2) (ha3 : Wd a3) (hn0 : 0 ≤ n) (hn1 : n < 64) (hm : n % 64 = 0) (hq : n / 64 = 0) :
    Calls Tryz.prog 89 #[V4 a0 a1 a2 a3, .int .i64 n] w fun e w' => e = .returned (V4 a0 a1 a2 a3) ∧ Chg [] w w' := by
  obtain ⟨p0, q0⟩ := ha0
  obtain ⟨p1, q1⟩ := ha1
  obtain ⟨p2, q2⟩ := ha2
  obtain ⟨p3, q3⟩ := ha3
  unfold V4
  go_enter Tryz.func89, Tryz.ntmps89
  go_wp2
  refine wp_loop_rounds 5 ?_
  rw [rounds_succ]
  go_wp2
  rw [rounds_succ]
  go_wp2
  rw [rounds_succ]
  go_wp2
  rw [rounds_succ]
  go_wp2
  rw [rounds_succ]
  go_wp2
  exact bodyPost_ret (v := V4 a0 a1 a2 a3) (by simp [results, Tryz.results89, go_sem, V4]) rfl ⟨by unfold V4; rfl, (by repeat (first | exact Chg.refl _ _ | refine Chg.alloc ?_ _ | refine Chg.drew ?_ | refine Chg.drewN ?_ _ | refine Chg.setCell ?_ (.inr (by simp)) _))⟩

set_option maxRecDepth 100000 in
set_option maxHeartbeats 8000000 in
theorem WideC_0r (a0 a1 a2 a3 : Int) (n r : Int) (w : World) (ha0 : Wd a0) (ha1 : Wd a1) (ha2 : Wd a2) (ha3 : Wd a3) (hn0 : 0 ≤ n) (hn1 : n < 64) (hr0 : 0 < r) (hr1 : r < 64) (hm : n % 64 = r) (hq : n / 64 = 0) :
    Calls Tryz.prog 89 #[V4 a0 a1 a2 a3, .int .i64 n] w fun e w' => e = .returned (V4 (IntKind.u64.wrap (a0 * 2 ^ r.toNat)) (bits .or .u64 (IntKind.u64.wrap (a1 * 2 ^ r.toNat)) (a0 / 2 ^ (64 - r).toNat)) (bits .or .u64 (IntKind.u64.wrap (a2 * 2 ^ r.toNat)) (a1 / 2 ^ (64 - r).toNat)) (bits .or .u64 (IntKind.u64.wrap (a3 * 2 ^ r.toNat)) (a2 / 2 ^ (64 - r).toNat))) ∧ Chg [] w w' := by
  obtain ⟨p0, q0⟩ := ha0
  obtain ⟨p1, q1⟩ := ha1
  obtain ⟨p2, q2⟩ := ha2
  obtain ⟨p3, q3⟩ := ha3
  unfold V4
  go_enter Tryz.func89, Tryz.ntmps89
  go_wp2
  refine wp_loop_rounds 5 ?_
  rw [rounds_succ]
  go_wp2
  rw [rounds_succ]
  go_wp2
  go_region
  go_wp2
  rw [rounds_succ]
  go_wp2
  go_region
  go_wp2
  rw [rounds_succ]
  go_wp2
  go_region
  go_wp2
  rw [rounds_succ]
  go_wp2
  exact bodyPost_ret (v := V4 (IntKind.u64.wrap (a0 * 2 ^ r.toNat)) (bits .or .u64 (IntKind.u64.wrap (a1 * 2 ^ r.toNat)) (a0 / 2 ^ (64 - r).toNat)) (bits .or .u64 (IntKind.u64.wrap (a2 * 2 ^ r.toNat)) (a1 / 2 ^ (64 - r).toNat)) (bits .or .u64 (IntKind.u64.wrap (a3 * 2 ^ r.toNat)) (a2 / 2 ^ (64 - r).toNat))) (by simp [results, Tryz.results89, go_sem, V4]) rfl ⟨by unfold V4; rfl, (by repeat (first | exact Chg.refl _ _ | refine Chg.alloc ?_ _ | refine Chg.drew ?_ | refine Chg.drewN ?_ _ | refine Chg.setCell ?_ (.inr (by simp)) _))⟩

set_option maxRecDepth 100000 in
set_option maxHeartbeats 8000000 in
theorem WideC_1z (a0 a1 a2 a3 : Int) (n : Int) (w : World) (ha0 : Wd a0) (ha1 : Wd a1) (ha2 : Wd a2) (ha3 : Wd a3) (hn0 : 64 ≤ n) (hn1 : n < 128) (hm : n % 64 = 0) (hq : n / 64 = 1) :
    Calls Tryz.prog 89 #[V4 a0 a1 a2 a3, .int .i64 n] w fun e w' => e = .returned (V4 0 a0 a1 a2) ∧ Chg [] w w' := by
  obtain ⟨p0, q0⟩ := ha0
  obtain ⟨p1, q1⟩ := ha1
  obtain ⟨p2, q2⟩ := ha2
  obtain ⟨p3, q3⟩ := ha3
  unfold V4
  go_enter Tryz.func89, Tryz.ntmps89
  go_wp2
  refine wp_loop_rounds 5 ?_
  rw [rounds_succ]
  go_wp2
  rw [rounds_succ]
  go_wp2
  rw [rounds_succ]
  go_wp2
  rw [rounds_succ]
  go_wp2
  exact bodyPost_ret (v := V4 0 a0 a1 a2) (by simp [results, Tryz.results89, go_sem, V4]) rfl ⟨by unfold V4; rfl, (by repeat (first | exact Chg.refl _ _ | refine Chg.alloc ?_ _ | refine Chg.drew ?_ | refine Chg.drewN ?_ _ | refine Chg.setCell ?_ (.inr (by simp)) _))⟩

set_option maxRecDepth 100000 in
set_option maxHeartbeats 8000000 in
theorem WideC_1r (a0 a1 a2 a3 : Int) (n r : Int) (w : World) (ha0 : Wd a0) (ha1 : Wd a1) (ha2 : Wd a2) (ha3 : Wd a3) (hn0 : 64 ≤ n) (hn1 : n < 128) (hr0 : 0 < r) (hr1 : r < 64) (hm : n % 64 = r) (hq : n / 64 = 1) :
    Calls Tryz.prog 89 #[V4 a0 a1 a2 a3, .int .i64 n] w fun e w' => e = .returned (V4 0 (IntKind.u64.wrap (a0 * 2 ^ r.toNat)) (bits .or .u64 (IntKind.u64.wrap (a1 * 2 ^ r.toNat)) (a0 / 2 ^ (64 - r).toNat)) (bits .or .u64 (IntKind.u64.wrap (a2 * 2 ^ r.toNat)) (a1 / 2 ^ (64 - r).toNat))) ∧ Chg [] w w' := by
  obtain ⟨p0, q0⟩ := ha0
  obtain ⟨p1, q1⟩ := ha1
  obtain ⟨p2, q2⟩ := ha2
  obtain ⟨p3, q3⟩ := ha3
  unfold V4
  go_enter Tryz.func89, Tryz.ntmps89
  go_wp2
  refine wp_loop_rounds 5 ?_
  rw [rounds_succ]
  go_wp2
  rw [rounds_succ]
  go_wp2
  go_region
  go_wp2
  rw [rounds_succ]
  go_wp2
  go_region
  go_wp2
  rw [rounds_succ]
  go_wp2
  exact bodyPost_ret (v := V4 0 (IntKind.u64.wrap (a0 * 2 ^ r.toNat)) (bits .or .u64 (IntKind.u64.wrap (a1 * 2 ^ r.toNat)) (a0 / 2 ^ (64 - r).toNat)) (bits .or .u64 (IntKind.u64.wrap (a2 * 2 ^ r.toNat)) (a1 / 2 ^ (64 - r).toNat))) (by simp [results, Tryz.results89, go_sem, V4]) rfl ⟨by unfold V4; rfl, (by repeat (first | exact Chg.refl _ _ | refine Chg.alloc ?_ _ | refine Chg.drew ?_ | refine Chg.drewN ?_ _ | refine Chg.setCell ?_ (.inr (by simp)) _))⟩

set_option maxRecDepth 100000 in
set_option maxHeartbeats 8000000 in
theorem WideC_2z (a0 a1 a2 a3 : Int) (n : Int) (w : World) (ha0 : Wd a0) (ha1 : Wd a1) (ha2 : Wd a2) (ha3 : Wd a3) (hn0 : 128 ≤ n) (hn1 : n < 192) (hm : n % 64 = 0) (hq : n / 64 = 2) :
    Calls Tryz.prog 89 #[V4 a0 a1 a2 a3, .int .i64 n] w fun e w' => e = .returned (V4 0 0 a0 a1) ∧ Chg [] w w' := by
  obtain ⟨p0, q0⟩ := ha0
  obtain ⟨p1, q1⟩ := ha1
  obtain ⟨p2, q2⟩ := ha2
  obtain ⟨p3, q3⟩ := ha3
  unfold V4
  go_enter Tryz.func89, Tryz.ntmps89
  go_wp2
  refine wp_loop_rounds 5 ?_
  rw [rounds_succ]
  go_wp2
  rw [rounds_succ]
  go_wp2
  rw [rounds_succ]
  go_wp2
  exact bodyPost_ret (v := V4 0 0 a0 a1) (by simp [results, Tryz.results89, go_sem, V4]) rfl ⟨by unfold V4; rfl, (by repeat (first | exact Chg.refl _ _ | refine Chg.alloc ?_ _ | refine Chg.drew ?_ | refine Chg.drewN ?_ _ | refine Chg.setCell ?_ (.inr (by simp)) _))⟩

set_option maxRecDepth 100000 in
set_option maxHeartbeats 8000000 in
theorem WideC_2r (a0 a1 a2 a3 : Int) (n r : Int) (w : World) (ha0 : Wd a0) (ha1 : Wd a1) (ha2 : Wd a2) (ha3 : Wd a3) (hn0 : 128 ≤ n) (hn1 : n < 192) (hr0 : 0 < r) (hr1 : r < 64) (hm : n % 64 = r) (hq : n / 64 = 2) :
    Calls Tryz.prog 89 #[V4 a0 a1 a2 a3, .int .i64 n] w fun e w' => e = .returned (V4 0 0 (IntKind.u64.wrap (a0 * 2 ^ r.toNat)) (bits .or .u64 (IntKind.u64.wrap (a1 * 2 ^ r.toNat)) (a0 / 2 ^ (64 - r).toNat))) ∧ Chg [] w w' := by
  obtain ⟨p0, q0⟩ := ha0
  obtain ⟨p1, q1⟩ := ha1
  obtain ⟨p2, q2⟩ := ha2
  obtain ⟨p3, q3⟩ := ha3
  unfold V4
  go_enter Tryz.func89, Tryz.ntmps89
  go_wp2
  refine wp_loop_rounds 5 ?_
  rw [rounds_succ]
  go_wp2
  rw [rounds_succ]
  go_wp2
  go_region
  go_wp2
  rw [rounds_succ]
  go_wp2
  exact bodyPost_ret (v := V4 0 0 (IntKind.u64.wrap (a0 * 2 ^ r.toNat)) (bits .or .u64 (IntKind.u64.wrap (a1 * 2 ^ r.toNat)) (a0 / 2 ^ (64 - r).toNat))) (by simp [results, Tryz.results89, go_sem, V4]) rfl ⟨by unfold V4; rfl, (by repeat (first | exact Chg.refl _ _ | refine Chg.alloc ?_ _ | refine Chg.drew ?_ | refine Chg.drewN ?_ _ | refine Chg.setCell ?_ (.inr (by simp)) _))⟩

set_option maxRecDepth 100000 in
set_option maxHeartbeats 8000000 in
theorem WideC_3z (a0 a1 a2 a3 : Int) (n : Int) (w : World) (ha0 : Wd a0) (ha1 : Wd a1) (ha2 : Wd a2) (ha3 : Wd a3) (hn0 : 192 ≤ n) (hn1 : n < 256) (hm : n % 64 = 0) (hq : n / 64 = 3) :
    Calls Tryz.prog 89 #[V4 a0 a1 a2 a3, .int .i64 n] w fun e w' => e = .returned (V4 0 0 0 a0) ∧ Chg [] w w' := by
  obtain ⟨p0, q0⟩ := ha0
  obtain ⟨p1, q1⟩ := ha1
  obtain ⟨p2, q2⟩ := ha2
  obtain ⟨p3, q3⟩ := ha3
  unfold V4
  go_enter Tryz.func89, Tryz.ntmps89
  go_wp2
  refine wp_loop_rounds 5 ?_
  rw [rounds_succ]
  go_wp2
  rw [rounds_succ]
  go_wp2
  exact bodyPost_ret (v := V4 0 0 0 a0) (by simp [results, Tryz.results89, go_sem, V4]) rfl ⟨by unfold V4; rfl, (by repeat (first | exact Chg.refl _ _ | refine Chg.alloc ?_ _ | refine Chg.drew ?_ | refine Chg.drewN ?_ _ | refine Chg.setCell ?_ (.inr (by simp)) _))⟩

set_option maxRecDepth 100000 in
set_option maxHeartbeats 8000000 in
theorem WideC_3r (a0 a1 a2 a3 : Int) (n r : Int) (w : World) (ha0 : Wd a0) (ha1 : Wd a1) (ha2 : Wd a2) (ha3 : Wd a3) (hn0 : 192 ≤ n) (hn1 : n < 256) (hr0 : 0 < r) (hr1 : r < 64) (hm : n % 64 = r) (hq : n / 64 = 3) :
    Calls Tryz.prog 89 #[V4 a0 a1 a2 a3, .int .i64 n] w fun e w' => e = .returned (V4 0 0 0 (IntKind.u64.wrap (a0 * 2 ^ r.toNat))) ∧ Chg [] w w' := by
  obtain ⟨p0, q0⟩ := ha0
  obtain ⟨p1, q1⟩ := ha1
  obtain ⟨p2, q2⟩ := ha2
  obtain ⟨p3, q3⟩ := ha3
  unfold V4
  go_enter Tryz.func89, Tryz.ntmps89
  go_wp2
  refine wp_loop_rounds 5 ?_
  rw [rounds_succ]
  go_wp2
  rw [rounds_succ]
  go_wp2
  exact bodyPost_ret (v := V4 0 0 0 (IntKind.u64.wrap (a0 * 2 ^ r.toNat))) (by simp [results, Tryz.results89, go_sem, V4]) rfl ⟨by unfold V4; rfl, (by repeat (first | exact Chg.refl _ _ | refine Chg.alloc ?_ _ | refine Chg.drew ?_ | refine Chg.drewN ?_ _ | refine Chg.setCell ?_ (.inr (by simp)) _))⟩

end Go.Proofs.YtmkgbinmilcojaaGreat

/- Package wide: Right, by words. Printed by shifts.py. -/
namespace Go.Proofs.YtmkgbinmilcojaaGreat
open Go.RowKit Go.Maps Go.Shelf

set_option maxRecDepth 100000 in
set_option maxHeartbeats 8000000 in
theorem WideD_0z (a0 a1 a2 a3 : Int) (n : Int) (w : World) (ha0 : Wd a0) (ha1 : Wd a1) (ha2 : Wd a2) (ha3 : Wd a3) (hn0 : 0 ≤ n) (hn1 : n < 64) (hm : n % 64 = 0) (hq : n / 64 = 0) :
    Calls Tryz.prog 113 #[V4 a0 a1 a2 a3, .int .i64 n] w fun e w' => e = .returned (V4 a0 a1 a2 a3) ∧ Chg [] w w' := by
  obtain ⟨p0, q0⟩ := ha0
  obtain ⟨p1, q1⟩ := ha1
  obtain ⟨p2, q2⟩ := ha2
  obtain ⟨p3, q3⟩ := ha3
  unfold V4
  go_enter Tryz.func113, Tryz.ntmps113
  go_wp2
  refine wp_loop_rounds 5 ?_
  rw [rounds_succ]
  go_wp2
  rw [rounds_succ]
  go_wp2
  rw [rounds_succ]
  go_wp2
  rw [rounds_succ]
  go_wp2
  rw [rounds_succ]
  go_wp2
  exact bodyPost_ret (v := V4 a0 a1 a2 a3) (by simp [results, Tryz.results113, go_sem, V4]) rfl ⟨by unfold V4; rfl, (by repeat (first | exact Chg.refl _ _ | refine Chg.alloc ?_ _ | refine Chg.drew ?_ | refine Chg.drewN ?_ _ | refine Chg.setCell ?_ (.inr (by simp)) _))⟩

set_option maxRecDepth 100000 in
set_option maxHeartbeats 8000000 in
theorem WideD_0r (a0 a1 a2 a3 : Int) (n r : Int) (w : World) (ha0 : Wd a0) (ha1 : Wd a1) (ha2 : Wd a2) (ha3 : Wd a3) (hn0 : 0 ≤ n) (hn1 : n < 64) (hr0 : 0 < r) (hr1 : r < 64) (hm : n % 64 = r) (hq : n / 64 = 0) :
    Calls Tryz.prog 113 #[V4 a0 a1 a2 a3, .int .i64 n] w fun e w' => e = .returned (V4 (bits .or .u64 (a0 / 2 ^ r.toNat) (IntKind.u64.wrap (a1 * 2 ^ (64 - r).toNat))) (bits .or .u64 (a1 / 2 ^ r.toNat) (IntKind.u64.wrap (a2 * 2 ^ (64 - r).toNat))) (bits .or .u64 (a2 / 2 ^ r.toNat) (IntKind.u64.wrap (a3 * 2 ^ (64 - r).toNat))) (a3 / 2 ^ r.toNat)) ∧ Chg [] w w' := by
  obtain ⟨p0, q0⟩ := ha0
  obtain ⟨p1, q1⟩ := ha1
  obtain ⟨p2, q2⟩ := ha2
  obtain ⟨p3, q3⟩ := ha3
  unfold V4
  go_enter Tryz.func113, Tryz.ntmps113
  go_wp2
  refine wp_loop_rounds 5 ?_
  rw [rounds_succ]
  go_wp2
  go_region
  go_wp2
  rw [rounds_succ]
  go_wp2
  go_region
  go_wp2
  rw [rounds_succ]
  go_wp2
  go_region
  go_wp2
  rw [rounds_succ]
  go_wp2
  rw [rounds_succ]
  go_wp2
  exact bodyPost_ret (v := V4 (bits .or .u64 (a0 / 2 ^ r.toNat) (IntKind.u64.wrap (a1 * 2 ^ (64 - r).toNat))) (bits .or .u64 (a1 / 2 ^ r.toNat) (IntKind.u64.wrap (a2 * 2 ^ (64 - r).toNat))) (bits .or .u64 (a2 / 2 ^ r.toNat) (IntKind.u64.wrap (a3 * 2 ^ (64 - r).toNat))) (a3 / 2 ^ r.toNat)) (by simp [results, Tryz.results113, go_sem, V4]) rfl ⟨by unfold V4; rfl, (by repeat (first | exact Chg.refl _ _ | refine Chg.alloc ?_ _ | refine Chg.drew ?_ | refine Chg.drewN ?_ _ | refine Chg.setCell ?_ (.inr (by simp)) _))⟩

set_option maxRecDepth 100000 in
set_option maxHeartbeats 8000000 in
theorem WideD_1z (a0 a1 a2 a3 : Int) (n : Int) (w : World) (ha0 : Wd a0) (ha1 : Wd a1) (ha2 : Wd a2) (ha3 : Wd a3) (hn0 : 64 ≤ n) (hn1 : n < 128) (hm : n % 64 = 0) (hq : n / 64 = 1) :
    Calls Tryz.prog 113 #[V4 a0 a1 a2 a3, .int .i64 n] w fun e w' => e = .returned (V4 a1 a2 a3 0) ∧ Chg [] w w' := by
  obtain ⟨p0, q0⟩ := ha0
  obtain ⟨p1, q1⟩ := ha1
  obtain ⟨p2, q2⟩ := ha2
  obtain ⟨p3, q3⟩ := ha3
  unfold V4
  go_enter Tryz.func113, Tryz.ntmps113
  go_wp2
  refine wp_loop_rounds 5 ?_
  rw [rounds_succ]
  go_wp2
  rw [rounds_succ]
  go_wp2
  rw [rounds_succ]
  go_wp2
  rw [rounds_succ]
  go_wp2
  exact bodyPost_ret (v := V4 a1 a2 a3 0) (by simp [results, Tryz.results113, go_sem, V4]) rfl ⟨by unfold V4; rfl, (by repeat (first | exact Chg.refl _ _ | refine Chg.alloc ?_ _ | refine Chg.drew ?_ | refine Chg.drewN ?_ _ | refine Chg.setCell ?_ (.inr (by simp)) _))⟩

set_option maxRecDepth 100000 in
set_option maxHeartbeats 8000000 in
theorem WideD_1r (a0 a1 a2 a3 : Int) (n r : Int) (w : World) (ha0 : Wd a0) (ha1 : Wd a1) (ha2 : Wd a2) (ha3 : Wd a3) (hn0 : 64 ≤ n) (hn1 : n < 128) (hr0 : 0 < r) (hr1 : r < 64) (hm : n % 64 = r) (hq : n / 64 = 1) :
    Calls Tryz.prog 113 #[V4 a0 a1 a2 a3, .int .i64 n] w fun e w' => e = .returned (V4 (bits .or .u64 (a1 / 2 ^ r.toNat) (IntKind.u64.wrap (a2 * 2 ^ (64 - r).toNat))) (bits .or .u64 (a2 / 2 ^ r.toNat) (IntKind.u64.wrap (a3 * 2 ^ (64 - r).toNat))) (a3 / 2 ^ r.toNat) 0) ∧ Chg [] w w' := by
  obtain ⟨p0, q0⟩ := ha0
  obtain ⟨p1, q1⟩ := ha1
  obtain ⟨p2, q2⟩ := ha2
  obtain ⟨p3, q3⟩ := ha3
  unfold V4
  go_enter Tryz.func113, Tryz.ntmps113
  go_wp2
  refine wp_loop_rounds 5 ?_
  rw [rounds_succ]
  go_wp2
  go_region
  go_wp2
  rw [rounds_succ]
  go_wp2
  go_region
  go_wp2
  rw [rounds_succ]
  go_wp2
  rw [rounds_succ]
  go_wp2
  exact bodyPost_ret (v := V4 (bits .or .u64 (a1 / 2 ^ r.toNat) (IntKind.u64.wrap (a2 * 2 ^ (64 - r).toNat))) (bits .or .u64 (a2 / 2 ^ r.toNat) (IntKind.u64.wrap (a3 * 2 ^ (64 - r).toNat))) (a3 / 2 ^ r.toNat) 0) (by simp [results, Tryz.results113, go_sem, V4]) rfl ⟨by unfold V4; rfl, (by repeat (first | exact Chg.refl _ _ | refine Chg.alloc ?_ _ | refine Chg.drew ?_ | refine Chg.drewN ?_ _ | refine Chg.setCell ?_ (.inr (by simp)) _))⟩

set_option maxRecDepth 100000 in
set_option maxHeartbeats 8000000 in
theorem WideD_2z (a0 a1 a2 a3 : Int) (n : Int) (w : World) (ha0 : Wd a0) (ha1 : Wd a1) (ha2 : Wd a2) (ha3 : Wd a3) (hn0 : 128 ≤ n) (hn1 : n < 192) (hm : n % 64 = 0) (hq : n / 64 = 2) :
    Calls Tryz.prog 113 #[V4 a0 a1 a2 a3, .int .i64 n] w fun e w' => e = .returned (V4 a2 a3 0 0) ∧ Chg [] w w' := by
  obtain ⟨p0, q0⟩ := ha0
  obtain ⟨p1, q1⟩ := ha1
  obtain ⟨p2, q2⟩ := ha2
  obtain ⟨p3, q3⟩ := ha3
  unfold V4
  go_enter Tryz.func113, Tryz.ntmps113
  go_wp2
  refine wp_loop_rounds 5 ?_
  rw [rounds_succ]
  go_wp2
  rw [rounds_succ]
  go_wp2
  rw [rounds_succ]
  go_wp2
  exact bodyPost_ret (v := V4 a2 a3 0 0) (by simp [results, Tryz.results113, go_sem, V4]) rfl ⟨by unfold V4; rfl, (by repeat (first | exact Chg.refl _ _ | refine Chg.alloc ?_ _ | refine Chg.drew ?_ | refine Chg.drewN ?_ _ | refine Chg.setCell ?_ (.inr (by simp)) _))⟩

set_option maxRecDepth 100000 in
set_option maxHeartbeats 8000000 in
theorem WideD_2r (a0 a1 a2 a3 : Int) (n r : Int) (w : World) (ha0 : Wd a0) (ha1 : Wd a1) (ha2 : Wd a2) (ha3 : Wd a3) (hn0 : 128 ≤ n) (hn1 : n < 192) (hr0 : 0 < r) (hr1 : r < 64) (hm : n % 64 = r) (hq : n / 64 = 2) :
    Calls Tryz.prog 113 #[V4 a0 a1 a2 a3, .int .i64 n] w fun e w' => e = .returned (V4 (bits .or .u64 (a2 / 2 ^ r.toNat) (IntKind.u64.wrap (a3 * 2 ^ (64 - r).toNat))) (a3 / 2 ^ r.toNat) 0 0) ∧ Chg [] w w' := by
  obtain ⟨p0, q0⟩ := ha0
  obtain ⟨p1, q1⟩ := ha1
  obtain ⟨p2, q2⟩ := ha2
  obtain ⟨p3, q3⟩ := ha3
  unfold V4
  go_enter Tryz.func113, Tryz.ntmps113
  go_wp2
  refine wp_loop_rounds 5 ?_
  rw [rounds_succ]
  go_wp2
  go_region
  go_wp2
  rw [rounds_succ]
  go_wp2
  rw [rounds_succ]
  go_wp2
  exact bodyPost_ret (v := V4 (bits .or .u64 (a2 / 2 ^ r.toNat) (IntKind.u64.wrap (a3 * 2 ^ (64 - r).toNat))) (a3 / 2 ^ r.toNat) 0 0) (by simp [results, Tryz.results113, go_sem, V4]) rfl ⟨by unfold V4; rfl, (by repeat (first | exact Chg.refl _ _ | refine Chg.alloc ?_ _ | refine Chg.drew ?_ | refine Chg.drewN ?_ _ | refine Chg.setCell ?_ (.inr (by simp)) _))⟩

set_option maxRecDepth 100000 in
set_option maxHeartbeats 8000000 in
theorem WideD_3z (a0 a1 a2 a3 : Int) (n : Int) (w : World) (ha0 : Wd a0) (ha1 : Wd a1) (ha2 : Wd a2) (ha3 : Wd a3) (hn0 : 192 ≤ n) (hn1 : n < 256) (hm : n % 64 = 0) (hq : n / 64 = 3) :
    Calls Tryz.prog 113 #[V4 a0 a1 a2 a3, .int .i64 n] w fun e w' => e = .returned (V4 a3 0 0 0) ∧ Chg [] w w' := by
  obtain ⟨p0, q0⟩ := ha0
  obtain ⟨p1, q1⟩ := ha1
  obtain ⟨p2, q2⟩ := ha2
  obtain ⟨p3, q3⟩ := ha3
  unfold V4
  go_enter Tryz.func113, Tryz.ntmps113
  go_wp2
  refine wp_loop_rounds 5 ?_
  rw [rounds_succ]
  go_wp2
  rw [rounds_succ]
  go_wp2
  exact bodyPost_ret (v := V4 a3 0 0 0) (by simp [results, Tryz.results113, go_sem, V4]) rfl ⟨by unfold V4; rfl, (by repeat (first | exact Chg.refl _ _ | refine Chg.alloc ?_ _ | refine Chg.drew ?_ | refine Chg.drewN ?_ _ | refine Chg.setCell ?_ (.inr (by simp)) _))⟩

set_option maxRecDepth 100000 in
set_option maxHeartbeats 8000000 in
theorem WideD_3r (a0 a1 a2 a3 : Int) (n r : Int) (w : World) (ha0 : Wd a0) (ha1 : Wd a1) (ha2 : Wd a2) (ha3 : Wd a3) (hn0 : 192 ≤ n) (hn1 : n < 256) (hr0 : 0 < r) (hr1 : r < 64) (hm : n % 64 = r) (hq : n / 64 = 3) :
    Calls Tryz.prog 113 #[V4 a0 a1 a2 a3, .int .i64 n] w fun e w' => e = .returned (V4 (a3 / 2 ^ r.toNat) 0 0 0) ∧ Chg [] w w' := by
  obtain ⟨p0, q0⟩ := ha0
  obtain ⟨p1, q1⟩ := ha1
  obtain ⟨p2, q2⟩ := ha2
  obtain ⟨p3, q3⟩ := ha3
  unfold V4
  go_enter Tryz.func113, Tryz.ntmps113
  go_wp2
  refine wp_loop_rounds 5 ?_
  rw [rounds_succ]
  go_wp2
  rw [rounds_succ]
  go_wp2
  exact bodyPost_ret (v := V4 (a3 / 2 ^ r.toNat) 0 0 0) (by simp [results, Tryz.results113, go_sem, V4]) rfl ⟨by unfold V4; rfl, (by repeat (first | exact Chg.refl _ _ | refine Chg.alloc ?_ _ | refine Chg.drew ?_ | refine Chg.drewN ?_ _ | refine Chg.setCell ?_ (.inr (by simp)) _))⟩

end Go.Proofs.YtmkgbinmilcojaaGreat

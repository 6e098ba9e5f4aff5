/- adjust.Rules: Top. -/
import Derived.Test.YtbagkfeodjkdmaaRules
namespace Go.Proofs.Ytbagkfeodjkdmaa
open Go.RowKit Go.Maps Go.Shelf
set_option maxRecDepth 100000 in
set_option maxHeartbeats 1000000 in
theorem adjust_Top (v : Value) (s l : Nat) (hv : RulesV v s l) (w : World) :
    Calls Try.prog 54 #[v] w fun e w' => e = .returned (wv (decT l)) ∧ Chg [] w w' := by
  obtain ⟨cs, rfl, hcs, c1, c2, hs, hl⟩ := hv
  have d2 := target_Decode l hl
  obtain ⟨b0, b1, b2, b3, _, _, _, _, _, eB⟩ := words _ (decT_lt l)
  rw [eB] at d2
  rw [eB]
  unfold V4 at *
  have r2 := ((Blk.new w cs 83).alloc (.cells #[.int .u64 0, .int .u64 0, .int .u64 0, .int .u64 0] 93)).cell 2 c2
  go_enter Try.func54, Try.ntmps54
  go_wp2_with fail
  refine (d2 _).mono ?_
  rintro e w1 ⟨rfl, hc1⟩
  have bZ := (Blk.new (w.alloc (.cells cs 83)) #[.int .u64 0, .int .u64 0, .int .u64 0, .int .u64 0] 93).chg hc1 (by simp)
  simp only [World.size_alloc] at bZ
  have hcc := (((Chg.refl [] w).alloc (.cells cs 83)).alloc (.cells #[.int .u64 0, .int .u64 0, .int .u64 0, .int .u64 0] 93)).trans hc1 (by simp)
  have hlt := bZ.lt
  dsimp only
  go_upto_region 2 with fail
  replace bZ := bZ.alloc (.cells #[.int .u64 b0, .int .u64 b1, .int .u64 b2, .int .u64 b3] 93)
  have bN := Blk.new w1 #[.int .u64 b0, .int .u64 b1, .int .u64 b2, .int .u64 b3] 93
  replace hcc := hcc.alloc (.cells #[.int .u64 b0, .int .u64 b1, .int .u64 b2, .int .u64 b3] 93)
  generalize w1.alloc (.cells #[.int .u64 b0, .int .u64 b1, .int .u64 b2, .int .u64 b3] 93) = w2 at *
  have n0 := bN.cell 0 rfl; have n1 := bN.cell 1 rfl; have n2 := bN.cell 2 rfl; have n3 := bN.cell 3 rfl
  have z0 := bZ.cell 0 rfl; have z1 := bZ.cell 1 rfl; have z2 := bZ.cell 2 rfl; have z3 := bZ.cell 3 rfl
  have f0 := bZ.free 0; have f1 := bZ.free 1; have f2 := bZ.free 2; have f3 := bZ.free 3
  go_wp2
  have hk2 := (((bZ.set 0 (.int .u64 b0)).set 1 (.int .u64 b1)).set 2 (.int .u64 b2)).set 3 (.int .u64 b3)
  have d0 := hk2.cell 0 rfl
  have d1 := hk2.cell 1 rfl
  have d2 := hk2.cell 2 rfl
  have d3 := hk2.cell 3 rfl
  exact bodyPost_ret (v := V4 b0 b1 b2 b3) (by simp [results, Try.results54, go_sem, V4, d0, d1, d2, d3]) rfl ⟨by unfold V4; rfl, (((hcc.setCell (.inr (by simp)) _).setCell (.inr (by simp)) _).setCell (.inr (by simp)) _).setCell (.inr (by simp)) _⟩
end Go.Proofs.Ytbagkfeodjkdmaa

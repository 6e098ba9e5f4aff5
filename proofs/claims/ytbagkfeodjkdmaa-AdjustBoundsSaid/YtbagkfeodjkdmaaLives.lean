/- pontagelaw11.lives. -/
import Derived.Test.YtbagkfeodjkdmaaMedian
namespace Go.Proofs.Ytbagkfeodjkdmaa
open Go.RowKit Go.Maps Go.Shelf
attribute [local go_sem] Oper.semAt_some
attribute [-go_sem] loadCellsFrom

theorem lives_num : nextN 100 545259519 486604544 50 = 478117888 ∧ nextE 100 545259519 486604544 = 0 := by
  constructor <;> decide +kernel
theorem lives_med : (srt [3, 1, 2]).getD 1 0 = 2 := by
  have h : srt [3, 1, 2] = [1, 2, 3] := by simp [srt, List.mergeSort, List.MergeSort.Internal.splitInTwo, List.merge]
  rw [h]; rfl

noncomputable def livesC : Array Value := (Try.zeroCells83.setIfInBounds 1 (.int .u32 100)).setIfInBounds 2 (.int .u32 545259519)
theorem livesC_all : livesC.all (·.oneCell') = true := by kernel_rfl
theorem livesC_size : livesC.size = 72 := by kernel_rfl
theorem livesC_rules : RulesV (.agg livesC) 100 545259519 := ⟨_, rfl, by kernel_rfl, by kernel_rfl, by kernel_rfl, by omega, by omega⟩

set_option maxRecDepth 100000 in
set_option maxHeartbeats 1000000 in
theorem law11_lives (w : World) : Calls Try.prog 47 #[] w fun e w' => e = .returned (.bool true) ∧ Chg [] w w' := by
  have hst : ∀ w : World, (storeCells ⟨w.heap.size, 0, none⟩ ((Try.zeroCells83.toList.set 1 (.int .u32 100)).set 2 (.int .u32 545259519)) 0).run Try.prog (w.alloc (.cells Try.zeroCells83 83)) = .ok () (w.alloc (.cells livesC 83)) := fun w => by
    have := run_storeCells_new (P := Try.prog) w 83 Try.zeroCells83 livesC (by rw [infoRules, livesC_size]) (by kernel_rfl) livesC_all
    simpa [livesC] using this
  have hnx : ∀ w, Calls Try.prog 48 #[.agg livesC, .int .u32 486604544, .int .i64 50] w fun e w' => e = .returned (.tuple #[.int .u32 478117888, .int .i64 0]) ∧ Chg [] w w' := fun w => by
    have h := adjust_Next _ 100 545259519 486604544 50 livesC_rules (by omega) (by omega) (by omega) w
    rw [lives_num.1, lives_num.2] at h
    exact h
  go_enter Try.func47, Try.ntmps47
  have hb := Blk.new w livesC 83
  have hld := load_rules hb livesC_size
  go_wp2_with fail
  refine (hnx _).mono ?_
  rintro e w1 ⟨rfl, hc1⟩
  have hcc := ((Chg.refl [] w).alloc (.cells livesC 83)).trans hc1 (by simp)
  go_wp2_with fail
  have hsl : SlI (w1.alloc (.cells #[.int .u32 3, .int .u32 1, .int .u32 2] 77)) .u32 (.slice (some ⟨w1.heap.size, 0, none⟩) 3 3) [3, 1, 2] :=
    .inr ⟨_, 0, 3, _, _, rfl, Blk.new w1 #[.int .u32 3, .int .u32 1, .int .u32 2] 77, fun i hi => by
      match i, hi with
      | 0, _ => rfl
      | 1, _ => rfl
      | 2, _ => rfl⟩
  have hmed := adjust_Median _ _ _ hsl (by simp) (by simp)
  rw [show (([3, 1, 2] : List Int).length / 2) = 1 from rfl, lives_med] at hmed
  refine hmed.mono ?_
  rintro e w2 ⟨rfl, hc2⟩
  go_wp2
  go_ret
  exact ⟨rfl, (hcc.alloc _).trans hc2 (by simp)⟩
end Go.Proofs.Ytbagkfeodjkdmaa

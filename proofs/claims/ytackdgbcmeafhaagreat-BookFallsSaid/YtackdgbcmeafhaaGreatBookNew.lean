/- Package book: New, by the usual rules. -/
import Derived.Test.YtackdgbcmeafhaaGreatBookNil
namespace Go.Proofs.YtackdgbcmeafhaaGreat
open Go.RowKit Go.Maps Go.Shelf

def usual : Array Value := #[.int .u64 2000, .int .u64 1500, .int .u64 1200, .int .u64 100, .int .u64 50, .int .u64 10, .int .u64 10, .int .u64 10, .int .u64 50, .int .u64 100, .int .u64 10]
set_option maxRecDepth 100000 in
set_option maxHeartbeats 2000000 in
theorem bands_Right (w : World) : Calls Tryz.prog 97 #[.agg #[.int .u64 2000, .int .u64 1500, .int .u64 1200]] w fun e w' => e = .returned (.bool true) ∧ Chg [] w w' := by
  have h1 := fun w => rate_threshold 2000 w
  have h2 := fun w => rate_threshold 1200 w
  rw [show thB 2000 = true by decide] at h1
  rw [show thB 1200 = true by decide] at h2
  go_enter Tryz.func97, Tryz.ntmps97
  go_wp2_with (first
    | (go_at_call 98; refine (h1 _).mono ?_; rintro e w' ⟨rfl, rfl⟩)
    | (go_at_call 98; refine (h2 _).mono ?_; rintro e w' ⟨rfl, rfl⟩))
  go_ret
  exact ⟨rfl, (by repeat (first | exact Chg.refl _ _ | refine Chg.alloc ?_ _ | refine Chg.drew ?_ | refine Chg.drewN ?_ _ | refine Chg.setCell ?_ (.inr (by simp)) _))⟩
set_option maxRecDepth 100000 in
set_option maxHeartbeats 4000000 in
theorem book_Check (w : World) : Calls Tryz.prog 37 #[.agg usual] w fun e w' => e = .returned (.int .i64 0) ∧ Chg [] w w' := by
  have h0 := bands_Right
  have h1 := fun w => Amount_Right 10 w
  rw [show decide ((10 : Int) ≤ 4611686018427387904) = true by decide] at h1
  have h2 : ∀ w, Calls Tryz.prog 38 #[.agg #[.int .u64 100, .int .u64 50]] w fun e w' => ∃ p, e = .returned (.tuple #[.pointer (some ⟨p, 0, none⟩), .int .i64 0]) ∧ FdAt w' p ⟨100, 50, 0, 0⟩ ∧ Chg [] w w' ∧ w.heap.size ≤ p := fun w => oracle_New 100 50 (by decide) (by decide) w
  have x0 : ∀ w, (Instr.index 148 (.agg #[.int .u64 10, .int .u64 10, .int .u64 10]) (.int .i64 0)).run Tryz.prog w = .ok (.int .u64 10) w := fun w => by kernel_rfl
  have x1 : ∀ w, (Instr.index 148 (.agg #[.int .u64 10, .int .u64 10, .int .u64 10]) (.int .i64 1)).run Tryz.prog w = .ok (.int .u64 10) w := fun w => by kernel_rfl
  have x2 : ∀ w, (Instr.index 148 (.agg #[.int .u64 10, .int .u64 10, .int .u64 10]) (.int .i64 2)).run Tryz.prog w = .ok (.int .u64 10) w := fun w => by kernel_rfl
  have hb0 := Blk.new w usual 30
  unfold usual at hb0 ⊢
  go_enter Tryz.func37, Tryz.ntmps37
  go_wp2_with (first
    | (go_at_call 97; refine (h0 _).mono ?_; rintro e w1 ⟨rfl, k1⟩; have hb1 := hb0.chg k1 (by simp); have ca0 := hb1.cell 0 (v := .int .u64 2000) rfl; have ca1 := hb1.cell 1 (v := .int .u64 1500) rfl; have ca2 := hb1.cell 2 (v := .int .u64 1200) rfl; have ca3 := hb1.cell 3 (v := .int .u64 100) rfl; have ca4 := hb1.cell 4 (v := .int .u64 50) rfl; have ca5 := hb1.cell 5 (v := .int .u64 10) rfl; have ca6 := hb1.cell 6 (v := .int .u64 10) rfl; have ca7 := hb1.cell 7 (v := .int .u64 10) rfl; have ca8 := hb1.cell 8 (v := .int .u64 50) rfl; have ca9 := hb1.cell 9 (v := .int .u64 100) rfl; have ca10 := hb1.cell 10 (v := .int .u64 10) rfl)
    | (go_at_call 51; refine (h1 _).mono ?_; rintro e w' ⟨rfl, rfl⟩))
  refine wp_loop_rounds 4 ?_
  rw [rounds_succ]
  iterate 3
    go_wp2
    rw [rounds_succ]
  go_wp2_with (go_at_call 38; refine (h2 _).mono ?_; rintro e w2 ⟨p, rfl, hp, k2, _⟩)
  go_ret
  exact ⟨rfl, (((Chg.refl [] w).alloc _).trans k1 (by simp)).trans k2 (by simp)⟩
end Go.Proofs.YtackdgbcmeafhaaGreat

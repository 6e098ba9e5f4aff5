/- Package book: of a book that isn't there. -/
import Derived.Test.YtackdgbcmeafhaaGreatOracle
import Derived.Test.YtackdgbcmeafhaaGreatPurse3
import Derived.Laws.Rows
import Derived.Deep.WholeRow
namespace Go.Proofs.YtackdgbcmeafhaaGreat
open Go.RowKit Go.Maps Go.Shelf
attribute [-go_sem] loadCellsFrom

theorem load_blk {W : World} {g : Nat} {cs : Array Value} {T : TypeId} (h : Blk W g cs T) (n : Nat) (hn : cs.size = n) : (loadCellsFrom ⟨g, 0, none⟩ 0 n #[]).run Tryz.prog W = .ok cs W := by
  have := run_loadCells_list (P := Tryz.prog) W ⟨g, 0, none⟩ cs.toList (fun j v hv => by
    have hadd : (⟨g, 0, none⟩ : Addr).add j = ⟨g, j, none⟩ := by unfold Addr.add; split <;> simp_all
    rw [hadd]
    exact h.cell j (by simpa using hv))
  rw [← hn]
  simpa [loadCells] using this

set_option maxHeartbeats 1000000 in
theorem book_amount_nil (a : Int) (w : World) : Calls Tryz.prog 103 #[.pointer none, .int .u64 a] w fun e w' => e = .returned (.int .i64 1) ∧ w = w' := by
  go_enter Tryz.func103, Tryz.ntmps103
  go_wp2
  go_ret
  exact ⟨rfl, rfl⟩
def zVt : Array Value := #[.int .u8 0] ++ Array.replicate 20 (.int .u8 0) ++ Array.replicate 5 (.int .u64 0) ++ #[.bool false]
theorem zVault (w : World) : (zeroValue 52).run Tryz.prog w = .ok (.agg zVt) w := by kernel_rfl
set_option maxRecDepth 100000 in
set_option maxHeartbeats 2000000 in
theorem book_open_nil (k a : Int) (f : Bool) (w : World) : Calls Tryz.prog 54 #[.pointer none, .int .u8 k, .int .u64 a, .bool f] w fun e w' => e = .returned (.tuple #[.agg zVt, .int .i64 1]) ∧ Chg [] w w' := by
  have hz := zVault
  have hst := run_storeCells_new (P := Tryz.prog) w 52 zVt zVt (by kernel_rfl) rfl (by kernel_rfl)
  have hld := load_blk (Blk.new w zVt 52) 27 (by kernel_rfl)
  go_enter Tryz.func54, Tryz.ntmps54
  go_wp2_with (go_at_call 103; refine (book_amount_nil _ _).mono ?_; rintro e w' ⟨rfl, rfl⟩)
  exact bodyPost_ret (v := .tuple #[.agg zVt, .int .i64 1]) (by simp [results, Tryz.results54, go_sem, hld]) rfl ⟨rfl, (by repeat (first | exact Chg.refl _ _ | refine Chg.alloc ?_ _ | refine Chg.drew ?_ | refine Chg.drewN ?_ _ | refine Chg.setCell ?_ (.inr (by simp)) _))⟩
set_option maxRecDepth 100000 in
set_option maxHeartbeats 1000000 in
theorem book_More_nil (k a : Int) (w : World) : Calls Tryz.prog 71 #[.pointer none, .int .u8 k, .int .u64 a] w fun e w' => e = .returned (.int .i64 1) ∧ Chg [] w w' := by
  have hz := zVault
  go_enter Tryz.func71, Tryz.ntmps71
  go_wp2_with fail
  refine (book_open_nil _ _ _ _).mono ?_
  rintro e w1 ⟨rfl, k1⟩
  have hst := run_storeCells_new (P := Tryz.prog) w1 52 zVt zVt (by kernel_rfl) rfl (by kernel_rfl)
  go_wp2
  go_ret
  exact ⟨rfl, k1.alloc _⟩

set_option maxRecDepth 100000 in
set_option maxHeartbeats 1000000 in
theorem book_Less_nil (k a : Int) (w : World) : Calls Tryz.prog 72 #[.pointer none, .int .u8 k, .int .u64 a] w fun e w' => e = .returned (.int .i64 1) ∧ Chg [] w w' := by
  have hz := zVault
  go_enter Tryz.func72, Tryz.ntmps72
  go_wp2_with fail
  refine (book_open_nil _ _ _ _).mono ?_
  rintro e w1 ⟨rfl, k1⟩
  have hst := run_storeCells_new (P := Tryz.prog) w1 52 zVt zVt (by kernel_rfl) rfl (by kernel_rfl)
  go_wp2
  go_ret
  exact ⟨rfl, k1.alloc _⟩

set_option maxRecDepth 100000 in
set_option maxHeartbeats 1000000 in
theorem book_Reserve_nil (k a : Int) (w : World) : Calls Tryz.prog 16 #[.pointer none, .int .u8 k, .int .u64 a] w fun e w' => e = .returned (.int .i64 1) ∧ Chg [] w w' := by
  have hz := zVault
  go_enter Tryz.func16, Tryz.ntmps16
  go_wp2_with fail
  refine (book_open_nil _ _ _ _).mono ?_
  rintro e w1 ⟨rfl, k1⟩
  have hst := run_storeCells_new (P := Tryz.prog) w1 52 zVt zVt (by kernel_rfl) rfl (by kernel_rfl)
  go_wp2
  go_ret
  exact ⟨rfl, k1.alloc _⟩

set_option maxRecDepth 100000 in
set_option maxHeartbeats 1000000 in
theorem book_Release_nil (k a : Int) (w : World) : Calls Tryz.prog 73 #[.pointer none, .int .u8 k, .int .u64 a] w fun e w' => e = .returned (.int .i64 1) ∧ Chg [] w w' := by
  have hz := zVault
  go_enter Tryz.func73, Tryz.ntmps73
  go_wp2_with fail
  refine (book_open_nil _ _ _ _).mono ?_
  rintro e w1 ⟨rfl, k1⟩
  have hst := run_storeCells_new (P := Tryz.prog) w1 52 zVt zVt (by kernel_rfl) rfl (by kernel_rfl)
  go_wp2
  go_ret
  exact ⟨rfl, k1.alloc _⟩

set_option maxRecDepth 100000 in
set_option maxHeartbeats 1000000 in
theorem book_Mint_nil (k j a : Int) (w : World) : Calls Tryz.prog 17 #[.pointer none, .int .u8 k, .int .u8 j, .int .u64 a] w fun e w' => e = .returned (.int .i64 1) ∧ Chg [] w w' := by
  have hz := zVault
  go_enter Tryz.func17, Tryz.ntmps17
  go_wp2_with fail
  refine (book_open_nil _ _ _ _).mono ?_
  rintro e w1 ⟨rfl, k1⟩
  have hst := run_storeCells_new (P := Tryz.prog) w1 52 zVt zVt (by kernel_rfl) rfl (by kernel_rfl)
  go_wp2
  go_ret
  exact ⟨rfl, k1.alloc _⟩

set_option maxRecDepth 100000 in
set_option maxHeartbeats 1000000 in
theorem book_Burn_nil (k j a : Int) (w : World) : Calls Tryz.prog 18 #[.pointer none, .int .u8 k, .int .u8 j, .int .u64 a] w fun e w' => e = .returned (.int .i64 1) ∧ Chg [] w w' := by
  have hz := zVault
  go_enter Tryz.func18, Tryz.ntmps18
  go_wp2_with fail
  refine (book_open_nil _ _ _ _).mono ?_
  rintro e w1 ⟨rfl, k1⟩
  have hst := run_storeCells_new (P := Tryz.prog) w1 52 zVt zVt (by kernel_rfl) rfl (by kernel_rfl)
  go_wp2
  go_ret
  exact ⟨rfl, k1.alloc _⟩

set_option maxRecDepth 100000 in
set_option maxHeartbeats 1000000 in
theorem book_Paid_nil (k a : Int) (w : World) : Calls Tryz.prog 74 #[.pointer none, .int .u8 k, .int .u64 a] w fun e w' => e = .returned (.int .i64 1) ∧ Chg [] w w' := by
  have hz := zVault
  go_enter Tryz.func74, Tryz.ntmps74
  go_wp2_with fail
  refine (book_open_nil _ _ _ _).mono ?_
  rintro e w1 ⟨rfl, k1⟩
  have hst := run_storeCells_new (P := Tryz.prog) w1 52 zVt zVt (by kernel_rfl) rfl (by kernel_rfl)
  go_wp2
  go_ret
  exact ⟨rfl, k1.alloc _⟩

set_option maxRecDepth 100000 in
set_option maxHeartbeats 1000000 in
theorem book_Remint_nil (k j a : Int) (w : World) : Calls Tryz.prog 75 #[.pointer none, .int .u8 k, .int .u8 j, .int .u64 a] w fun e w' => e = .returned (.int .i64 1) ∧ Chg [] w w' := by
  have hz := zVault
  go_enter Tryz.func75, Tryz.ntmps75
  go_wp2_with fail
  refine (book_open_nil _ _ _ _).mono ?_
  rintro e w1 ⟨rfl, k1⟩
  have hst := run_storeCells_new (P := Tryz.prog) w1 52 zVt zVt (by kernel_rfl) rfl (by kernel_rfl)
  go_wp2
  go_ret
  exact ⟨rfl, k1.alloc _⟩

set_option maxRecDepth 100000 in
set_option maxHeartbeats 1000000 in
theorem book_Slash_nil (k j a : Int) (w : World) : Calls Tryz.prog 76 #[.pointer none, .int .u8 k, .int .u8 j, .int .u64 a] w fun e w' => e = .returned (.tuple #[.int .u64 0, .int .i64 1]) ∧ Chg [] w w' := by
  have hz := zVault
  go_enter Tryz.func76, Tryz.ntmps76
  go_wp2_with fail
  refine (book_open_nil _ _ _ _).mono ?_
  rintro e w1 ⟨rfl, k1⟩
  have hst := run_storeCells_new (P := Tryz.prog) w1 52 zVt zVt (by kernel_rfl) rfl (by kernel_rfl)
  go_wp2
  go_ret2
  exact ⟨rfl, k1.alloc _⟩

set_option maxRecDepth 100000 in
set_option maxHeartbeats 1000000 in
theorem book_Leave_nil (k a : Int) (w : World) : Calls Tryz.prog 77 #[.pointer none, .int .u8 k, .int .u64 a] w fun e w' => e = .returned (.int .i64 1) ∧ Chg [] w w' := by
  have hz := zVault
  go_enter Tryz.func77, Tryz.ntmps77
  go_wp2_with fail
  refine (book_open_nil _ _ _ _).mono ?_
  rintro e w1 ⟨rfl, k1⟩
  have hst := run_storeCells_new (P := Tryz.prog) w1 52 zVt zVt (by kernel_rfl) rfl (by kernel_rfl)
  go_wp2
  go_ret
  exact ⟨rfl, k1.alloc _⟩

set_option maxRecDepth 100000 in
set_option maxHeartbeats 1000000 in
theorem book_Stay_nil (k a : Int) (w : World) : Calls Tryz.prog 78 #[.pointer none, .int .u8 k, .int .u64 a] w fun e w' => e = .returned (.int .i64 1) ∧ Chg [] w w' := by
  have hz := zVault
  go_enter Tryz.func78, Tryz.ntmps78
  go_wp2_with fail
  refine (book_open_nil _ _ _ _).mono ?_
  rintro e w1 ⟨rfl, k1⟩
  have hst := run_storeCells_new (P := Tryz.prog) w1 52 zVt zVt (by kernel_rfl) rfl (by kernel_rfl)
  go_wp2
  go_ret
  exact ⟨rfl, k1.alloc _⟩

set_option maxRecDepth 100000 in
set_option maxHeartbeats 1000000 in
theorem book_Hand_nil (k j a : Int) (w : World) : Calls Tryz.prog 79 #[.pointer none, .int .u8 k, .int .u8 j, .int .u64 a] w fun e w' => e = .returned (.int .i64 1) ∧ Chg [] w w' := by
  have hz := zVault
  go_enter Tryz.func79, Tryz.ntmps79
  go_wp2_with fail
  refine (book_open_nil _ _ _ _).mono ?_
  rintro e w1 ⟨rfl, k1⟩
  have hst := run_storeCells_new (P := Tryz.prog) w1 52 zVt zVt (by kernel_rfl) rfl (by kernel_rfl)
  go_wp2
  go_ret
  exact ⟨rfl, k1.alloc _⟩

set_option maxRecDepth 100000 in
set_option maxHeartbeats 1000000 in
theorem book_Fall_nil (k : Int) (w : World) : Calls Tryz.prog 19 #[.pointer none, .int .u8 k] w fun e w' => e = .returned (.int .i64 1) ∧ Chg [] w w' := by
  have hz := zVault
  go_enter Tryz.func19, Tryz.ntmps19
  go_wp2_with fail
  refine (book_open_nil _ _ _ _).mono ?_
  rintro e w1 ⟨rfl, k1⟩
  have hst := run_storeCells_new (P := Tryz.prog) w1 52 zVt zVt (by kernel_rfl) rfl (by kernel_rfl)
  go_wp2
  go_ret
  exact ⟨rfl, k1.alloc _⟩

set_option maxHeartbeats 400000 in
theorem book_Tick_nil (a : Int) (w : World) : Calls Tryz.prog 68 #[.pointer none, .int .u64 a] w fun e w' => e = .returned (.int .i64 1) ∧ w = w' := by
  go_enter Tryz.func68, Tryz.ntmps68
  go_wp2
  go_ret
  exact ⟨rfl, rfl⟩

set_option maxHeartbeats 400000 in
theorem book_Feed_nil (w : World) : Calls Tryz.prog 10 #[.pointer none] w fun e w' => e = .returned (.pointer none) ∧ w = w' := by
  go_enter Tryz.func10, Tryz.ntmps10
  go_wp2
  go_ret
  exact ⟨rfl, rfl⟩

set_option maxHeartbeats 400000 in
theorem book_Purse_nil (w : World) : Calls Tryz.prog 13 #[.pointer none] w fun e w' => e = .returned (.pointer none) ∧ w = w' := by
  go_enter Tryz.func13, Tryz.ntmps13
  go_wp2
  go_ret
  exact ⟨rfl, rfl⟩

set_option maxHeartbeats 400000 in
theorem book_Tokens_nil (w : World) : Calls Tryz.prog 35 #[.pointer none] w fun e w' => e = .returned (.pointer none) ∧ w = w' := by
  go_enter Tryz.func35, Tryz.ntmps35
  go_wp2
  go_ret
  exact ⟨rfl, rfl⟩

set_option maxHeartbeats 400000 in
theorem book_Deposits_nil (w : World) : Calls Tryz.prog 31 #[.pointer none] w fun e w' => e = .returned (.int .u64 0) ∧ w = w' := by
  go_enter Tryz.func31, Tryz.ntmps31
  go_wp2
  go_ret
  exact ⟨rfl, rfl⟩

set_option maxHeartbeats 400000 in
theorem book_Now_nil (w : World) : Calls Tryz.prog 30 #[.pointer none] w fun e w' => e = .returned (.int .u64 0) ∧ w = w' := by
  go_enter Tryz.func30, Tryz.ntmps30
  go_wp2
  go_ret
  exact ⟨rfl, rfl⟩

set_option maxHeartbeats 400000 in
theorem book_Price_nil (w : World) : Calls Tryz.prog 29 #[.pointer none] w fun e w' => e = .returned (.tuple #[.int .u64 0, .int .i64 1]) ∧ w = w' := by
  go_enter Tryz.func29, Tryz.ntmps29
  go_wp2
  go_ret2
  exact ⟨rfl, rfl⟩

set_option maxHeartbeats 400000 in
theorem book_Copy_nil (w : World) : Calls Tryz.prog 34 #[.pointer none] w fun e w' => e = .returned (.pointer none) ∧ w = w' := by
  go_enter Tryz.func34, Tryz.ntmps34
  go_wp2
  go_ret
  exact ⟨rfl, rfl⟩

set_option maxHeartbeats 400000 in
theorem book_Redeem_nil (k a : Int) (w : World) : Calls Tryz.prog 80 #[.pointer none, .int .u8 k, .int .u64 a] w fun e w' => e = .returned (.tuple #[.int .u64 0, .int .i64 1]) ∧ w = w' := by
  go_enter Tryz.func80, Tryz.ntmps80
  go_wp2_with (go_at_call 103; refine (book_amount_nil _ _).mono ?_; rintro e w' ⟨rfl, rfl⟩)
  go_ret2
  exact ⟨rfl, rfl⟩

set_option maxHeartbeats 400000 in
theorem book_Deposit_nil (k a : Int) (w : World) : Calls Tryz.prog 81 #[.pointer none, .int .u8 k, .int .u64 a] w fun e w' => e = .returned (.int .i64 1) ∧ w = w' := by
  go_enter Tryz.func81, Tryz.ntmps81
  go_wp2_with (go_at_call 103; refine (book_amount_nil _ _).mono ?_; rintro e w' ⟨rfl, rfl⟩)
  go_ret
  exact ⟨rfl, rfl⟩

set_option maxHeartbeats 400000 in
theorem book_Return_nil (k a : Int) (w : World) : Calls Tryz.prog 82 #[.pointer none, .int .u8 k, .int .u64 a] w fun e w' => e = .returned (.int .i64 1) ∧ w = w' := by
  go_enter Tryz.func82, Tryz.ntmps82
  go_wp2_with (go_at_call 103; refine (book_amount_nil _ _).mono ?_; rintro e w' ⟨rfl, rfl⟩)
  go_ret
  exact ⟨rfl, rfl⟩
end Go.Proofs.YtackdgbcmeafhaaGreat

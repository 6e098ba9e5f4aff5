/- Layer 20: do, of a book that isn't there. -/
import Derived.Test.YtackdgbcmeafhaaGreatNilDo
namespace Go.Proofs.YtackdgbcmeafhaaGreat
open Go.RowKit Go.Maps Go.Shelf
attribute [-go_sem] loadCellsFrom

theorem load_blk_at {W : World} {g : Nat} {cs : Array Value} {T : TypeId} (h : Blk W g cs T) (o n : Nat) (l : List Value) (hl : l.length = n) (hc : ∀ j v, l[j]? = some v → cs[o + j]? = some v) : (loadCellsFrom ⟨g, o, none⟩ 0 n #[]).run Tryz.prog W = .ok l.toArray W := by
  have := run_loadCells_list (P := Tryz.prog) W ⟨g, o, none⟩ l (fun j v hv => by
    have hadd : (⟨g, o, none⟩ : Addr).add j = ⟨g, o + j, none⟩ := by unfold Addr.add; split <;> simp_all
    rw [hadd]
    exact h.cell (o + j) (hc j v hv))
  rw [← hl]
  simpa [loadCells] using this

set_option maxRecDepth 100000 in
set_option maxHeartbeats 2000000 in
theorem do_nil0 (x y a : Int) (ad : Array Value) (had : ad.size = 20) (_hone : ad.all (·.oneCell') = true) (w : World) :
    Calls Tryz.prog 27 #[.pointer none, .agg (deed 0 x y a ad)] w fun e w' => e = .returned (.tuple #[.int .u64 0, .int .i64 1]) ∧ Chg [] w w' := by
  have hsz : (deed 0 x y a ad).size = 24 := by simp [deed, had]
  have b0 := Blk.new w (deed 0 x y a ad) 63
  have c0 := b0.cell 0 (v := .int .i64 0) (by simp [deed, Array.getElem?_append])
  have c1 := b0.cell 1 (v := .int .i64 x) (by simp [deed, Array.getElem?_append])
  have c2 := b0.cell 2 (v := .int .i64 y) (by simp [deed, Array.getElem?_append])
  have c3 := b0.cell 3 (v := .int .u64 a) (by simp [deed, Array.getElem?_append])
  generalize deed 0 x y a ad = cs at *
  go_enter Tryz.func27, Tryz.ntmps27
  go_wp2
  go_quiet (fail)
  go_wp2_with (first | (go_at_call 68; refine (book_Tick_nil _ _).mono ?_; rintro e w1 ⟨rfl, rfl⟩))
  go_ret2
  exact ⟨rfl, (by repeat (first | exact Chg.refl _ _ | refine Chg.alloc ?_ _ | refine Chg.drew ?_ | refine Chg.drewN ?_ _ | refine Chg.setCell ?_ (.inr (by simp)) _))⟩
set_option maxRecDepth 100000 in
set_option maxHeartbeats 2000000 in
theorem do_nil1 (x y a : Int) (ad : Array Value) (had : ad.size = 20) (_hone : ad.all (·.oneCell') = true) (w : World) :
    Calls Tryz.prog 27 #[.pointer none, .agg (deed 1 x y a ad)] w fun e w' => e = .returned (.tuple #[.int .u64 0, .int .i64 1]) ∧ Chg [] w w' := by
  have hsz : (deed 1 x y a ad).size = 24 := by simp [deed, had]
  have b0 := Blk.new w (deed 1 x y a ad) 63
  have c0 := b0.cell 0 (v := .int .i64 1) (by simp [deed, Array.getElem?_append])
  have c1 := b0.cell 1 (v := .int .i64 x) (by simp [deed, Array.getElem?_append])
  have c2 := b0.cell 2 (v := .int .i64 y) (by simp [deed, Array.getElem?_append])
  have c3 := b0.cell 3 (v := .int .u64 a) (by simp [deed, Array.getElem?_append])
  generalize deed 1 x y a ad = cs at *
  go_enter Tryz.func27, Tryz.ntmps27
  go_wp2
  go_quiet (fail)
  have kW : Chg [] w ((w.alloc (.cells cs 63)).drewN nq) := (by repeat (first | exact Chg.refl _ _ | refine Chg.alloc ?_ _ | refine Chg.drew ?_ | refine Chg.drewN ?_ _ | refine Chg.setCell ?_ (.inr (by simp)) _))
  have e0 : ((w.alloc (.cells cs 63)).drewN nq).cell? ⟨w.heap.size, 0, none⟩ = some (.int .i64 1) := c0
  have e3 : ((w.alloc (.cells cs 63)).drewN nq).cell? ⟨w.heap.size, 3, none⟩ = some (.int .u64 a) := c3
  generalize (w.alloc (.cells cs 63)).drewN nq = W at kW e0 e3 ⊢
  clear c0 c1 c2 c3 b0
  go_wp2
  go_quiet ((first | (go_at_call 10; exact quiet (book_Feed_nil _)) | (go_at_call 30; exact quiet (book_Now_nil _)) | (go_at_call 11; exact quiet (oracle_Set_nil _ _ _))))
  go_wp2
  go_ret2
  exact ⟨rfl, kW.drewN _⟩
set_option maxRecDepth 100000 in
set_option maxHeartbeats 2000000 in
theorem do_nil2 (x y a : Int) (ad : Array Value) (had : ad.size = 20) (_hone : ad.all (·.oneCell') = true) (w : World) :
    Calls Tryz.prog 27 #[.pointer none, .agg (deed 2 x y a ad)] w fun e w' => e = .returned (.tuple #[.int .u64 0, .int .i64 1]) ∧ Chg [] w w' := by
  have hsz : (deed 2 x y a ad).size = 24 := by simp [deed, had]
  have b0 := Blk.new w (deed 2 x y a ad) 63
  have c0 := b0.cell 0 (v := .int .i64 2) (by simp [deed, Array.getElem?_append])
  have c1 := b0.cell 1 (v := .int .i64 x) (by simp [deed, Array.getElem?_append])
  have c2 := b0.cell 2 (v := .int .i64 y) (by simp [deed, Array.getElem?_append])
  have c3 := b0.cell 3 (v := .int .u64 a) (by simp [deed, Array.getElem?_append])
  generalize deed 2 x y a ad = cs at *
  go_enter Tryz.func27, Tryz.ntmps27
  go_wp2
  go_quiet (fail)
  go_wp2_with (first | (go_at_call 13; refine (book_Purse_nil _).mono ?_; rintro e w1 ⟨rfl, rfl⟩) | (go_at_call 14; refine ((purse_ops_nil _ _ _).1).mono ?_; rintro e w1 ⟨rfl, k1⟩))
  go_ret2
  exact ⟨rfl, (Chg.trans (T := []) (by repeat (first | exact Chg.refl _ _ | refine Chg.alloc ?_ _ | refine Chg.drew ?_ | refine Chg.drewN ?_ _ | refine Chg.setCell ?_ (.inr (by simp)) _)) k1 (by simp))⟩
set_option maxRecDepth 100000 in
set_option maxHeartbeats 2000000 in
theorem do_nil3 (x y a : Int) (ad : Array Value) (had : ad.size = 20) (_hone : ad.all (·.oneCell') = true) (w : World) :
    Calls Tryz.prog 27 #[.pointer none, .agg (deed 3 x y a ad)] w fun e w' => e = .returned (.tuple #[.int .u64 0, .int .i64 1]) ∧ Chg [] w w' := by
  have hsz : (deed 3 x y a ad).size = 24 := by simp [deed, had]
  have b0 := Blk.new w (deed 3 x y a ad) 63
  have c0 := b0.cell 0 (v := .int .i64 3) (by simp [deed, Array.getElem?_append])
  have c1 := b0.cell 1 (v := .int .i64 x) (by simp [deed, Array.getElem?_append])
  have c2 := b0.cell 2 (v := .int .i64 y) (by simp [deed, Array.getElem?_append])
  have c3 := b0.cell 3 (v := .int .u64 a) (by simp [deed, Array.getElem?_append])
  generalize deed 3 x y a ad = cs at *
  go_enter Tryz.func27, Tryz.ntmps27
  go_wp2
  go_quiet (fail)
  go_wp2_with (first | (go_at_call 13; refine (book_Purse_nil _).mono ?_; rintro e w1 ⟨rfl, rfl⟩) | (go_at_call 69; refine ((purse_ops_nil _ _ _).2.1).mono ?_; rintro e w1 ⟨rfl, k1⟩))
  go_ret2
  exact ⟨rfl, (Chg.trans (T := []) (by repeat (first | exact Chg.refl _ _ | refine Chg.alloc ?_ _ | refine Chg.drew ?_ | refine Chg.drewN ?_ _ | refine Chg.setCell ?_ (.inr (by simp)) _)) k1 (by simp))⟩
set_option maxRecDepth 100000 in
set_option maxHeartbeats 2000000 in
theorem do_nil4 (x y a : Int) (ad : Array Value) (had : ad.size = 20) (_hone : ad.all (·.oneCell') = true) (w : World) :
    Calls Tryz.prog 27 #[.pointer none, .agg (deed 4 x y a ad)] w fun e w' => e = .returned (.tuple #[.int .u64 0, .int .i64 1]) ∧ Chg [] w w' := by
  have hsz : (deed 4 x y a ad).size = 24 := by simp [deed, had]
  have b0 := Blk.new w (deed 4 x y a ad) 63
  have c0 := b0.cell 0 (v := .int .i64 4) (by simp [deed, Array.getElem?_append])
  have c1 := b0.cell 1 (v := .int .i64 x) (by simp [deed, Array.getElem?_append])
  have c2 := b0.cell 2 (v := .int .i64 y) (by simp [deed, Array.getElem?_append])
  have c3 := b0.cell 3 (v := .int .u64 a) (by simp [deed, Array.getElem?_append])
  generalize deed 4 x y a ad = cs at *
  go_enter Tryz.func27, Tryz.ntmps27
  go_wp2
  go_quiet (fail)
  go_wp2_with (first | (go_at_call 35; refine (book_Tokens_nil _).mono ?_; rintro e w1 ⟨rfl, rfl⟩) | (go_at_call 70; refine (token_Move_nil _ _ _ _).mono ?_; rintro e w1 ⟨rfl, rfl⟩))
  go_ret2
  exact ⟨rfl, (by repeat (first | exact Chg.refl _ _ | refine Chg.alloc ?_ _ | refine Chg.drew ?_ | refine Chg.drewN ?_ _ | refine Chg.setCell ?_ (.inr (by simp)) _))⟩
set_option maxRecDepth 100000 in
set_option maxHeartbeats 2000000 in
theorem do_nil5 (x y a : Int) (ad : Array Value) (had : ad.size = 20) (_hone : ad.all (·.oneCell') = true) (w : World) :
    Calls Tryz.prog 27 #[.pointer none, .agg (deed 5 x y a ad)] w fun e w' => e = .returned (.tuple #[.int .u64 0, .int .i64 1]) ∧ Chg [] w w' := by
  have hsz : (deed 5 x y a ad).size = 24 := by simp [deed, had]
  have b0 := Blk.new w (deed 5 x y a ad) 63
  have c0 := b0.cell 0 (v := .int .i64 5) (by simp [deed, Array.getElem?_append])
  have c1 := b0.cell 1 (v := .int .i64 x) (by simp [deed, Array.getElem?_append])
  have c2 := b0.cell 2 (v := .int .i64 y) (by simp [deed, Array.getElem?_append])
  have c3 := b0.cell 3 (v := .int .u64 a) (by simp [deed, Array.getElem?_append])
  have hld := fun n => load_blk_at (b0.drewN n) 4 20 ad.toList (by simpa using had) (fun j v hv => by simp at hv; simp [deed, Array.getElem?_append, hv])
  simp only [Array.toArray_toList] at hld
  generalize deed 5 x y a ad = cs at *
  go_enter Tryz.func27, Tryz.ntmps27
  go_wp2
  go_quiet (fail)
  go_wp2_with (go_at_call 15; refine (book_Register_nil _ ad _ had _hone _).mono ?_; rintro e w1 ⟨rfl, k1⟩)
  go_ret2
  exact ⟨rfl, (Chg.trans (T := []) (by repeat (first | exact Chg.refl _ _ | refine Chg.alloc ?_ _ | refine Chg.drew ?_ | refine Chg.drewN ?_ _ | refine Chg.setCell ?_ (.inr (by simp)) _)) k1 (by simp))⟩
set_option maxRecDepth 100000 in
set_option maxHeartbeats 2000000 in
theorem do_nil6 (x y a : Int) (ad : Array Value) (had : ad.size = 20) (_hone : ad.all (·.oneCell') = true) (w : World) :
    Calls Tryz.prog 27 #[.pointer none, .agg (deed 6 x y a ad)] w fun e w' => e = .returned (.tuple #[.int .u64 0, .int .i64 1]) ∧ Chg [] w w' := by
  have hsz : (deed 6 x y a ad).size = 24 := by simp [deed, had]
  have b0 := Blk.new w (deed 6 x y a ad) 63
  have c0 := b0.cell 0 (v := .int .i64 6) (by simp [deed, Array.getElem?_append])
  have c1 := b0.cell 1 (v := .int .i64 x) (by simp [deed, Array.getElem?_append])
  have c2 := b0.cell 2 (v := .int .i64 y) (by simp [deed, Array.getElem?_append])
  have c3 := b0.cell 3 (v := .int .u64 a) (by simp [deed, Array.getElem?_append])
  generalize deed 6 x y a ad = cs at *
  go_enter Tryz.func27, Tryz.ntmps27
  go_wp2
  go_quiet (fail)
  go_wp2_with (first | (go_at_call 71; refine (book_More_nil _ _ _).mono ?_; rintro e w1 ⟨rfl, k1⟩))
  go_ret2
  exact ⟨rfl, (Chg.trans (T := []) (by repeat (first | exact Chg.refl _ _ | refine Chg.alloc ?_ _ | refine Chg.drew ?_ | refine Chg.drewN ?_ _ | refine Chg.setCell ?_ (.inr (by simp)) _)) k1 (by simp))⟩
set_option maxRecDepth 100000 in
set_option maxHeartbeats 2000000 in
theorem do_nil7 (x y a : Int) (ad : Array Value) (had : ad.size = 20) (_hone : ad.all (·.oneCell') = true) (w : World) :
    Calls Tryz.prog 27 #[.pointer none, .agg (deed 7 x y a ad)] w fun e w' => e = .returned (.tuple #[.int .u64 0, .int .i64 1]) ∧ Chg [] w w' := by
  have hsz : (deed 7 x y a ad).size = 24 := by simp [deed, had]
  have b0 := Blk.new w (deed 7 x y a ad) 63
  have c0 := b0.cell 0 (v := .int .i64 7) (by simp [deed, Array.getElem?_append])
  have c1 := b0.cell 1 (v := .int .i64 x) (by simp [deed, Array.getElem?_append])
  have c2 := b0.cell 2 (v := .int .i64 y) (by simp [deed, Array.getElem?_append])
  have c3 := b0.cell 3 (v := .int .u64 a) (by simp [deed, Array.getElem?_append])
  generalize deed 7 x y a ad = cs at *
  go_enter Tryz.func27, Tryz.ntmps27
  go_wp2
  go_quiet (fail)
  go_wp2_with (first | (go_at_call 72; refine (book_Less_nil _ _ _).mono ?_; rintro e w1 ⟨rfl, k1⟩))
  go_ret2
  exact ⟨rfl, (Chg.trans (T := []) (by repeat (first | exact Chg.refl _ _ | refine Chg.alloc ?_ _ | refine Chg.drew ?_ | refine Chg.drewN ?_ _ | refine Chg.setCell ?_ (.inr (by simp)) _)) k1 (by simp))⟩
set_option maxRecDepth 100000 in
set_option maxHeartbeats 2000000 in
theorem do_nil8 (x y a : Int) (ad : Array Value) (had : ad.size = 20) (_hone : ad.all (·.oneCell') = true) (w : World) :
    Calls Tryz.prog 27 #[.pointer none, .agg (deed 8 x y a ad)] w fun e w' => e = .returned (.tuple #[.int .u64 0, .int .i64 1]) ∧ Chg [] w w' := by
  have hsz : (deed 8 x y a ad).size = 24 := by simp [deed, had]
  have b0 := Blk.new w (deed 8 x y a ad) 63
  have c0 := b0.cell 0 (v := .int .i64 8) (by simp [deed, Array.getElem?_append])
  have c1 := b0.cell 1 (v := .int .i64 x) (by simp [deed, Array.getElem?_append])
  have c2 := b0.cell 2 (v := .int .i64 y) (by simp [deed, Array.getElem?_append])
  have c3 := b0.cell 3 (v := .int .u64 a) (by simp [deed, Array.getElem?_append])
  generalize deed 8 x y a ad = cs at *
  go_enter Tryz.func27, Tryz.ntmps27
  go_wp2
  go_quiet (fail)
  go_wp2_with (first | (go_at_call 16; refine (book_Reserve_nil _ _ _).mono ?_; rintro e w1 ⟨rfl, k1⟩))
  go_ret2
  exact ⟨rfl, (Chg.trans (T := []) (by repeat (first | exact Chg.refl _ _ | refine Chg.alloc ?_ _ | refine Chg.drew ?_ | refine Chg.drewN ?_ _ | refine Chg.setCell ?_ (.inr (by simp)) _)) k1 (by simp))⟩
set_option maxRecDepth 100000 in
set_option maxHeartbeats 2000000 in
theorem do_nil9 (x y a : Int) (ad : Array Value) (had : ad.size = 20) (_hone : ad.all (·.oneCell') = true) (w : World) :
    Calls Tryz.prog 27 #[.pointer none, .agg (deed 9 x y a ad)] w fun e w' => e = .returned (.tuple #[.int .u64 0, .int .i64 1]) ∧ Chg [] w w' := by
  have hsz : (deed 9 x y a ad).size = 24 := by simp [deed, had]
  have b0 := Blk.new w (deed 9 x y a ad) 63
  have c0 := b0.cell 0 (v := .int .i64 9) (by simp [deed, Array.getElem?_append])
  have c1 := b0.cell 1 (v := .int .i64 x) (by simp [deed, Array.getElem?_append])
  have c2 := b0.cell 2 (v := .int .i64 y) (by simp [deed, Array.getElem?_append])
  have c3 := b0.cell 3 (v := .int .u64 a) (by simp [deed, Array.getElem?_append])
  generalize deed 9 x y a ad = cs at *
  go_enter Tryz.func27, Tryz.ntmps27
  go_wp2
  go_quiet (fail)
  go_wp2_with (first | (go_at_call 73; refine (book_Release_nil _ _ _).mono ?_; rintro e w1 ⟨rfl, k1⟩))
  go_ret2
  exact ⟨rfl, (Chg.trans (T := []) (by repeat (first | exact Chg.refl _ _ | refine Chg.alloc ?_ _ | refine Chg.drew ?_ | refine Chg.drewN ?_ _ | refine Chg.setCell ?_ (.inr (by simp)) _)) k1 (by simp))⟩
set_option maxRecDepth 100000 in
set_option maxHeartbeats 2000000 in
theorem do_nil10 (x y a : Int) (ad : Array Value) (had : ad.size = 20) (_hone : ad.all (·.oneCell') = true) (w : World) :
    Calls Tryz.prog 27 #[.pointer none, .agg (deed 10 x y a ad)] w fun e w' => e = .returned (.tuple #[.int .u64 0, .int .i64 1]) ∧ Chg [] w w' := by
  have hsz : (deed 10 x y a ad).size = 24 := by simp [deed, had]
  have b0 := Blk.new w (deed 10 x y a ad) 63
  have c0 := b0.cell 0 (v := .int .i64 10) (by simp [deed, Array.getElem?_append])
  have c1 := b0.cell 1 (v := .int .i64 x) (by simp [deed, Array.getElem?_append])
  have c2 := b0.cell 2 (v := .int .i64 y) (by simp [deed, Array.getElem?_append])
  have c3 := b0.cell 3 (v := .int .u64 a) (by simp [deed, Array.getElem?_append])
  generalize deed 10 x y a ad = cs at *
  go_enter Tryz.func27, Tryz.ntmps27
  go_wp2
  go_quiet (fail)
  go_wp2_with (first | (go_at_call 17; refine (book_Mint_nil _ _ _ _).mono ?_; rintro e w1 ⟨rfl, k1⟩))
  go_ret2
  exact ⟨rfl, (Chg.trans (T := []) (by repeat (first | exact Chg.refl _ _ | refine Chg.alloc ?_ _ | refine Chg.drew ?_ | refine Chg.drewN ?_ _ | refine Chg.setCell ?_ (.inr (by simp)) _)) k1 (by simp))⟩
set_option maxRecDepth 100000 in
set_option maxHeartbeats 2000000 in
theorem do_nil11 (x y a : Int) (ad : Array Value) (had : ad.size = 20) (_hone : ad.all (·.oneCell') = true) (w : World) :
    Calls Tryz.prog 27 #[.pointer none, .agg (deed 11 x y a ad)] w fun e w' => e = .returned (.tuple #[.int .u64 0, .int .i64 1]) ∧ Chg [] w w' := by
  have hsz : (deed 11 x y a ad).size = 24 := by simp [deed, had]
  have b0 := Blk.new w (deed 11 x y a ad) 63
  have c0 := b0.cell 0 (v := .int .i64 11) (by simp [deed, Array.getElem?_append])
  have c1 := b0.cell 1 (v := .int .i64 x) (by simp [deed, Array.getElem?_append])
  have c2 := b0.cell 2 (v := .int .i64 y) (by simp [deed, Array.getElem?_append])
  have c3 := b0.cell 3 (v := .int .u64 a) (by simp [deed, Array.getElem?_append])
  generalize deed 11 x y a ad = cs at *
  go_enter Tryz.func27, Tryz.ntmps27
  go_wp2
  go_quiet (fail)
  go_wp2_with (first | (go_at_call 18; refine (book_Burn_nil _ _ _ _).mono ?_; rintro e w1 ⟨rfl, k1⟩))
  go_ret2
  exact ⟨rfl, (Chg.trans (T := []) (by repeat (first | exact Chg.refl _ _ | refine Chg.alloc ?_ _ | refine Chg.drew ?_ | refine Chg.drewN ?_ _ | refine Chg.setCell ?_ (.inr (by simp)) _)) k1 (by simp))⟩
set_option maxRecDepth 100000 in
set_option maxHeartbeats 2000000 in
theorem do_nil12 (x y a : Int) (ad : Array Value) (had : ad.size = 20) (_hone : ad.all (·.oneCell') = true) (w : World) :
    Calls Tryz.prog 27 #[.pointer none, .agg (deed 12 x y a ad)] w fun e w' => e = .returned (.tuple #[.int .u64 0, .int .i64 1]) ∧ Chg [] w w' := by
  have hsz : (deed 12 x y a ad).size = 24 := by simp [deed, had]
  have b0 := Blk.new w (deed 12 x y a ad) 63
  have c0 := b0.cell 0 (v := .int .i64 12) (by simp [deed, Array.getElem?_append])
  have c1 := b0.cell 1 (v := .int .i64 x) (by simp [deed, Array.getElem?_append])
  have c2 := b0.cell 2 (v := .int .i64 y) (by simp [deed, Array.getElem?_append])
  have c3 := b0.cell 3 (v := .int .u64 a) (by simp [deed, Array.getElem?_append])
  generalize deed 12 x y a ad = cs at *
  go_enter Tryz.func27, Tryz.ntmps27
  go_wp2
  go_quiet (fail)
  go_wp2_with (first | (go_at_call 74; refine (book_Paid_nil _ _ _).mono ?_; rintro e w1 ⟨rfl, k1⟩))
  go_ret2
  exact ⟨rfl, (Chg.trans (T := []) (by repeat (first | exact Chg.refl _ _ | refine Chg.alloc ?_ _ | refine Chg.drew ?_ | refine Chg.drewN ?_ _ | refine Chg.setCell ?_ (.inr (by simp)) _)) k1 (by simp))⟩
set_option maxRecDepth 100000 in
set_option maxHeartbeats 2000000 in
theorem do_nil13 (x y a : Int) (ad : Array Value) (had : ad.size = 20) (_hone : ad.all (·.oneCell') = true) (w : World) :
    Calls Tryz.prog 27 #[.pointer none, .agg (deed 13 x y a ad)] w fun e w' => e = .returned (.tuple #[.int .u64 0, .int .i64 1]) ∧ Chg [] w w' := by
  have hsz : (deed 13 x y a ad).size = 24 := by simp [deed, had]
  have b0 := Blk.new w (deed 13 x y a ad) 63
  have c0 := b0.cell 0 (v := .int .i64 13) (by simp [deed, Array.getElem?_append])
  have c1 := b0.cell 1 (v := .int .i64 x) (by simp [deed, Array.getElem?_append])
  have c2 := b0.cell 2 (v := .int .i64 y) (by simp [deed, Array.getElem?_append])
  have c3 := b0.cell 3 (v := .int .u64 a) (by simp [deed, Array.getElem?_append])
  generalize deed 13 x y a ad = cs at *
  go_enter Tryz.func27, Tryz.ntmps27
  go_wp2
  go_quiet (fail)
  go_wp2_with (first | (go_at_call 75; refine (book_Remint_nil _ _ _ _).mono ?_; rintro e w1 ⟨rfl, k1⟩))
  go_ret2
  exact ⟨rfl, (Chg.trans (T := []) (by repeat (first | exact Chg.refl _ _ | refine Chg.alloc ?_ _ | refine Chg.drew ?_ | refine Chg.drewN ?_ _ | refine Chg.setCell ?_ (.inr (by simp)) _)) k1 (by simp))⟩
set_option maxRecDepth 100000 in
set_option maxHeartbeats 2000000 in
theorem do_nil14 (x y a : Int) (ad : Array Value) (had : ad.size = 20) (_hone : ad.all (·.oneCell') = true) (w : World) :
    Calls Tryz.prog 27 #[.pointer none, .agg (deed 14 x y a ad)] w fun e w' => e = .returned (.tuple #[.int .u64 0, .int .i64 1]) ∧ Chg [] w w' := by
  have hsz : (deed 14 x y a ad).size = 24 := by simp [deed, had]
  have b0 := Blk.new w (deed 14 x y a ad) 63
  have c0 := b0.cell 0 (v := .int .i64 14) (by simp [deed, Array.getElem?_append])
  have c1 := b0.cell 1 (v := .int .i64 x) (by simp [deed, Array.getElem?_append])
  have c2 := b0.cell 2 (v := .int .i64 y) (by simp [deed, Array.getElem?_append])
  have c3 := b0.cell 3 (v := .int .u64 a) (by simp [deed, Array.getElem?_append])
  generalize deed 14 x y a ad = cs at *
  go_enter Tryz.func27, Tryz.ntmps27
  go_wp2
  go_quiet (fail)
  go_wp2_with (first | (go_at_call 76; refine (book_Slash_nil _ _ _ _).mono ?_; rintro e w1 ⟨rfl, k1⟩))
  go_ret2
  exact ⟨rfl, (Chg.trans (T := []) (by repeat (first | exact Chg.refl _ _ | refine Chg.alloc ?_ _ | refine Chg.drew ?_ | refine Chg.drewN ?_ _ | refine Chg.setCell ?_ (.inr (by simp)) _)) k1 (by simp))⟩
set_option maxRecDepth 100000 in
set_option maxHeartbeats 2000000 in
theorem do_nil15 (x y a : Int) (ad : Array Value) (had : ad.size = 20) (_hone : ad.all (·.oneCell') = true) (w : World) :
    Calls Tryz.prog 27 #[.pointer none, .agg (deed 15 x y a ad)] w fun e w' => e = .returned (.tuple #[.int .u64 0, .int .i64 1]) ∧ Chg [] w w' := by
  have hsz : (deed 15 x y a ad).size = 24 := by simp [deed, had]
  have b0 := Blk.new w (deed 15 x y a ad) 63
  have c0 := b0.cell 0 (v := .int .i64 15) (by simp [deed, Array.getElem?_append])
  have c1 := b0.cell 1 (v := .int .i64 x) (by simp [deed, Array.getElem?_append])
  have c2 := b0.cell 2 (v := .int .i64 y) (by simp [deed, Array.getElem?_append])
  have c3 := b0.cell 3 (v := .int .u64 a) (by simp [deed, Array.getElem?_append])
  generalize deed 15 x y a ad = cs at *
  go_enter Tryz.func27, Tryz.ntmps27
  go_wp2
  go_quiet (fail)
  go_wp2_with (first | (go_at_call 77; refine (book_Leave_nil _ _ _).mono ?_; rintro e w1 ⟨rfl, k1⟩))
  go_ret2
  exact ⟨rfl, (Chg.trans (T := []) (by repeat (first | exact Chg.refl _ _ | refine Chg.alloc ?_ _ | refine Chg.drew ?_ | refine Chg.drewN ?_ _ | refine Chg.setCell ?_ (.inr (by simp)) _)) k1 (by simp))⟩
set_option maxRecDepth 100000 in
set_option maxHeartbeats 2000000 in
theorem do_nil16 (x y a : Int) (ad : Array Value) (had : ad.size = 20) (_hone : ad.all (·.oneCell') = true) (w : World) :
    Calls Tryz.prog 27 #[.pointer none, .agg (deed 16 x y a ad)] w fun e w' => e = .returned (.tuple #[.int .u64 0, .int .i64 1]) ∧ Chg [] w w' := by
  have hsz : (deed 16 x y a ad).size = 24 := by simp [deed, had]
  have b0 := Blk.new w (deed 16 x y a ad) 63
  have c0 := b0.cell 0 (v := .int .i64 16) (by simp [deed, Array.getElem?_append])
  have c1 := b0.cell 1 (v := .int .i64 x) (by simp [deed, Array.getElem?_append])
  have c2 := b0.cell 2 (v := .int .i64 y) (by simp [deed, Array.getElem?_append])
  have c3 := b0.cell 3 (v := .int .u64 a) (by simp [deed, Array.getElem?_append])
  generalize deed 16 x y a ad = cs at *
  go_enter Tryz.func27, Tryz.ntmps27
  go_wp2
  go_quiet (fail)
  go_wp2_with (first | (go_at_call 78; refine (book_Stay_nil _ _ _).mono ?_; rintro e w1 ⟨rfl, k1⟩))
  go_ret2
  exact ⟨rfl, (Chg.trans (T := []) (by repeat (first | exact Chg.refl _ _ | refine Chg.alloc ?_ _ | refine Chg.drew ?_ | refine Chg.drewN ?_ _ | refine Chg.setCell ?_ (.inr (by simp)) _)) k1 (by simp))⟩
set_option maxRecDepth 100000 in
set_option maxHeartbeats 2000000 in
theorem do_nil17 (x y a : Int) (ad : Array Value) (had : ad.size = 20) (_hone : ad.all (·.oneCell') = true) (w : World) :
    Calls Tryz.prog 27 #[.pointer none, .agg (deed 17 x y a ad)] w fun e w' => e = .returned (.tuple #[.int .u64 0, .int .i64 1]) ∧ Chg [] w w' := by
  have hsz : (deed 17 x y a ad).size = 24 := by simp [deed, had]
  have b0 := Blk.new w (deed 17 x y a ad) 63
  have c0 := b0.cell 0 (v := .int .i64 17) (by simp [deed, Array.getElem?_append])
  have c1 := b0.cell 1 (v := .int .i64 x) (by simp [deed, Array.getElem?_append])
  have c2 := b0.cell 2 (v := .int .i64 y) (by simp [deed, Array.getElem?_append])
  have c3 := b0.cell 3 (v := .int .u64 a) (by simp [deed, Array.getElem?_append])
  generalize deed 17 x y a ad = cs at *
  go_enter Tryz.func27, Tryz.ntmps27
  go_wp2
  go_quiet (fail)
  go_wp2_with (first | (go_at_call 79; refine (book_Hand_nil _ _ _ _).mono ?_; rintro e w1 ⟨rfl, k1⟩))
  go_ret2
  exact ⟨rfl, (Chg.trans (T := []) (by repeat (first | exact Chg.refl _ _ | refine Chg.alloc ?_ _ | refine Chg.drew ?_ | refine Chg.drewN ?_ _ | refine Chg.setCell ?_ (.inr (by simp)) _)) k1 (by simp))⟩
set_option maxRecDepth 100000 in
set_option maxHeartbeats 2000000 in
theorem do_nil18 (x y a : Int) (ad : Array Value) (had : ad.size = 20) (_hone : ad.all (·.oneCell') = true) (w : World) :
    Calls Tryz.prog 27 #[.pointer none, .agg (deed 18 x y a ad)] w fun e w' => e = .returned (.tuple #[.int .u64 0, .int .i64 1]) ∧ Chg [] w w' := by
  have hsz : (deed 18 x y a ad).size = 24 := by simp [deed, had]
  have b0 := Blk.new w (deed 18 x y a ad) 63
  have c0 := b0.cell 0 (v := .int .i64 18) (by simp [deed, Array.getElem?_append])
  have c1 := b0.cell 1 (v := .int .i64 x) (by simp [deed, Array.getElem?_append])
  have c2 := b0.cell 2 (v := .int .i64 y) (by simp [deed, Array.getElem?_append])
  have c3 := b0.cell 3 (v := .int .u64 a) (by simp [deed, Array.getElem?_append])
  generalize deed 18 x y a ad = cs at *
  go_enter Tryz.func27, Tryz.ntmps27
  go_wp2
  go_quiet (fail)
  go_wp2_with (first | (go_at_call 19; refine (book_Fall_nil _ _).mono ?_; rintro e w1 ⟨rfl, k1⟩))
  go_ret2
  exact ⟨rfl, (Chg.trans (T := []) (by repeat (first | exact Chg.refl _ _ | refine Chg.alloc ?_ _ | refine Chg.drew ?_ | refine Chg.drewN ?_ _ | refine Chg.setCell ?_ (.inr (by simp)) _)) k1 (by simp))⟩
set_option maxRecDepth 100000 in
set_option maxHeartbeats 2000000 in
theorem do_nil19 (x y a : Int) (ad : Array Value) (had : ad.size = 20) (_hone : ad.all (·.oneCell') = true) (w : World) :
    Calls Tryz.prog 27 #[.pointer none, .agg (deed 19 x y a ad)] w fun e w' => e = .returned (.tuple #[.int .u64 0, .int .i64 1]) ∧ Chg [] w w' := by
  have hsz : (deed 19 x y a ad).size = 24 := by simp [deed, had]
  have b0 := Blk.new w (deed 19 x y a ad) 63
  have c0 := b0.cell 0 (v := .int .i64 19) (by simp [deed, Array.getElem?_append])
  have c1 := b0.cell 1 (v := .int .i64 x) (by simp [deed, Array.getElem?_append])
  have c2 := b0.cell 2 (v := .int .i64 y) (by simp [deed, Array.getElem?_append])
  have c3 := b0.cell 3 (v := .int .u64 a) (by simp [deed, Array.getElem?_append])
  generalize deed 19 x y a ad = cs at *
  go_enter Tryz.func27, Tryz.ntmps27
  go_wp2
  go_quiet (fail)
  go_wp2_with (first | (go_at_call 80; refine (book_Redeem_nil _ _ _).mono ?_; rintro e w1 ⟨rfl, rfl⟩))
  go_ret2
  exact ⟨rfl, (by repeat (first | exact Chg.refl _ _ | refine Chg.alloc ?_ _ | refine Chg.drew ?_ | refine Chg.drewN ?_ _ | refine Chg.setCell ?_ (.inr (by simp)) _))⟩
set_option maxRecDepth 100000 in
set_option maxHeartbeats 2000000 in
theorem do_nil20 (x y a : Int) (ad : Array Value) (had : ad.size = 20) (_hone : ad.all (·.oneCell') = true) (w : World) :
    Calls Tryz.prog 27 #[.pointer none, .agg (deed 20 x y a ad)] w fun e w' => e = .returned (.tuple #[.int .u64 0, .int .i64 1]) ∧ Chg [] w w' := by
  have hsz : (deed 20 x y a ad).size = 24 := by simp [deed, had]
  have b0 := Blk.new w (deed 20 x y a ad) 63
  have c0 := b0.cell 0 (v := .int .i64 20) (by simp [deed, Array.getElem?_append])
  have c1 := b0.cell 1 (v := .int .i64 x) (by simp [deed, Array.getElem?_append])
  have c2 := b0.cell 2 (v := .int .i64 y) (by simp [deed, Array.getElem?_append])
  have c3 := b0.cell 3 (v := .int .u64 a) (by simp [deed, Array.getElem?_append])
  generalize deed 20 x y a ad = cs at *
  go_enter Tryz.func27, Tryz.ntmps27
  go_wp2
  go_quiet (fail)
  go_wp2_with (first | (go_at_call 81; refine (book_Deposit_nil _ _ _).mono ?_; rintro e w1 ⟨rfl, rfl⟩))
  go_ret2
  exact ⟨rfl, (by repeat (first | exact Chg.refl _ _ | refine Chg.alloc ?_ _ | refine Chg.drew ?_ | refine Chg.drewN ?_ _ | refine Chg.setCell ?_ (.inr (by simp)) _))⟩
set_option maxRecDepth 100000 in
set_option maxHeartbeats 2000000 in
theorem do_nil21 (x y a : Int) (ad : Array Value) (had : ad.size = 20) (_hone : ad.all (·.oneCell') = true) (w : World) :
    Calls Tryz.prog 27 #[.pointer none, .agg (deed 21 x y a ad)] w fun e w' => e = .returned (.tuple #[.int .u64 0, .int .i64 1]) ∧ Chg [] w w' := by
  have hsz : (deed 21 x y a ad).size = 24 := by simp [deed, had]
  have b0 := Blk.new w (deed 21 x y a ad) 63
  have c0 := b0.cell 0 (v := .int .i64 21) (by simp [deed, Array.getElem?_append])
  have c1 := b0.cell 1 (v := .int .i64 x) (by simp [deed, Array.getElem?_append])
  have c2 := b0.cell 2 (v := .int .i64 y) (by simp [deed, Array.getElem?_append])
  have c3 := b0.cell 3 (v := .int .u64 a) (by simp [deed, Array.getElem?_append])
  generalize deed 21 x y a ad = cs at *
  go_enter Tryz.func27, Tryz.ntmps27
  go_wp2
  go_quiet (fail)
  go_wp2_with (first | (go_at_call 82; refine (book_Return_nil _ _ _).mono ?_; rintro e w1 ⟨rfl, rfl⟩))
  go_ret2
  exact ⟨rfl, (by repeat (first | exact Chg.refl _ _ | refine Chg.alloc ?_ _ | refine Chg.drew ?_ | refine Chg.drewN ?_ _ | refine Chg.setCell ?_ (.inr (by simp)) _))⟩
theorem do_nil (kind : Int) (h0 : 0 ≤ kind) (h22 : kind < 22) (x y a : Int) (ad : Array Value) (had : ad.size = 20) (hone : ad.all (·.oneCell') = true) (w : World) :
    Calls Tryz.prog 27 #[.pointer none, .agg (deed kind x y a ad)] w fun e w' => e = .returned (.tuple #[.int .u64 0, .int .i64 1]) ∧ Chg [] w w' := by
  have hk : kind = 0 ∨ kind = 1 ∨ kind = 2 ∨ kind = 3 ∨ kind = 4 ∨ kind = 5 ∨ kind = 6 ∨ kind = 7 ∨ kind = 8 ∨ kind = 9 ∨ kind = 10 ∨ kind = 11 ∨ kind = 12 ∨ kind = 13 ∨ kind = 14 ∨ kind = 15 ∨ kind = 16 ∨ kind = 17 ∨ kind = 18 ∨ kind = 19 ∨ kind = 20 ∨ kind = 21 := by omega
  rcases hk with rfl | rfl | rfl | rfl | rfl | rfl | rfl | rfl | rfl | rfl | rfl | rfl | rfl | rfl | rfl | rfl | rfl | rfl | rfl | rfl | rfl | rfl
  · exact do_nil0 x y a ad had hone w
  · exact do_nil1 x y a ad had hone w
  · exact do_nil2 x y a ad had hone w
  · exact do_nil3 x y a ad had hone w
  · exact do_nil4 x y a ad had hone w
  · exact do_nil5 x y a ad had hone w
  · exact do_nil6 x y a ad had hone w
  · exact do_nil7 x y a ad had hone w
  · exact do_nil8 x y a ad had hone w
  · exact do_nil9 x y a ad had hone w
  · exact do_nil10 x y a ad had hone w
  · exact do_nil11 x y a ad had hone w
  · exact do_nil12 x y a ad had hone w
  · exact do_nil13 x y a ad had hone w
  · exact do_nil14 x y a ad had hone w
  · exact do_nil15 x y a ad had hone w
  · exact do_nil16 x y a ad had hone w
  · exact do_nil17 x y a ad had hone w
  · exact do_nil18 x y a ad had hone w
  · exact do_nil19 x y a ad had hone w
  · exact do_nil20 x y a ad had hone w
  · exact do_nil21 x y a ad had hone w
end Go.Proofs.YtackdgbcmeafhaaGreat

/- Package book: Vault, and Fall of a fallen one. -/
import Derived.Test.YtackdgbcmeafhaaGreatBook8
namespace Go.Proofs.YtackdgbcmeafhaaGreat
open Go.RowKit Go.Maps Go.Shelf
attribute [-go_sem] loadCellsFrom

set_option maxRecDepth 100000 in
set_option maxHeartbeats 2000000 in
theorem book_Vault (x : Lc) (B : Bk) (k : Int) (v : Vt) (hv : VtOk v) (hk : (Lit.int .u8 k).wf = true) (hf : B.f k = some v) (w : World) (h : BkAt w x B) :
    Calls Tryz.prog 20 #[.pointer (some ⟨x.b, 0, none⟩), .int .u8 k] w fun e w' => e = .returned (.tuple #[.agg v.cs, .bool true]) ∧ Chg [] w w' := by
  have hz := zVault
  have hsz := v.size hv.1
  have hone := hv.one
  have hinfo : (Tryz.prog.info? 52).map (·.size) = some 27 := by kernel_rfl
  have hst := run_storeCells_new (P := Tryz.prog) (w.alloc (.cells zVt 52)) 52 zVt v.cs (by rw [hsz]; exact hinfo) (by rw [hsz]; rfl) hone
  have hA := h.same ((Chg.refl [] w).alloc (.cells zVt 52))
  have hc17 := hA.c17
  have hm := hA.vm
  have hb11 := Blk.new (w.alloc (.cells zVt 52)) v.cs 52
  have hb8 := (Blk.new w zVt 52).alloc (.cells v.cs 52)
  have hld := load_blk hb11 27 hsz
  obtain ⟨W2, hst2, hb2, k2⟩ := store_blk hb8 (cs := v.cs) (by rw [hsz]; rfl) hone
  have hld2 := load_blk hb2 27 hsz
  have kf : Chg [] w W2 := (((Chg.refl [] w).alloc _).alloc _).trans k2 (by simp)
  have s1 : (w.alloc (.cells zVt 52)).heap.size = w.heap.size + 1 := by simp
  rw [s1] at hst hld
  clear hb8 hb11
  go_enter Tryz.func20, Tryz.ntmps20
  go_wp2_with (at_lookup; go_loud (refine wpList_look_ok_v _ rfl _ _ 95 rfl 45 52 .u8 Tryz.underlying45 Tryz.underlying95 _ (zVault _) x.vm B.cnt _ hm rfl k rfl hk ?_); rw [hf]; simp only [Option.map_some, Option.getD_some, Option.isSome_some])
  exact bodyPost_ret (v := .tuple #[.agg v.cs, .bool true]) (by simp [results, Tryz.results20, go_sem, hld2]) rfl ⟨rfl, kf⟩
set_option maxRecDepth 100000 in
set_option maxHeartbeats 2000000 in
theorem book_open_state (x : Lc) (B : Bk) (k a : Int) (v : Vt) (hv : VtOk v) (hk : (Lit.int .u8 k).wf = true) (ha : Bk.chk a = 0) (hf : B.f k = some v) (hfal : v.fal = true) (w : World) (h : BkAt w x B) :
    Calls Tryz.prog 54 #[.pointer (some ⟨x.b, 0, none⟩), .int .u8 k, .int .u64 a, .bool false] w fun e w' => e = .returned (.tuple #[.agg zVt, .int .i64 20]) ∧ Chg [] w w' := by
  have hz := zVault
  have ham := fun w => book_amount x a w
  rw [ha] at ham
  have hsz := v.size hv.1
  have h26 := (v.c21 hv.1).2.2.2.2.2
  rw [hfal] at h26
  have hone := hv.one
  have hinfo : (Tryz.prog.info? 52).map (·.size) = some 27 := by kernel_rfl
  have hst := run_storeCells_new (P := Tryz.prog) (w.alloc (.cells zVt 52)) 52 zVt v.cs (by rw [hsz]; exact hinfo) (by rw [hsz]; rfl) hone
  have hA := h.same ((Chg.refl [] w).alloc (.cells zVt 52))
  have hc17 := hA.c17
  have hm := hA.vm
  have hb11 := Blk.new (w.alloc (.cells zVt 52)) v.cs 52
  have hb8 := (Blk.new w zVt 52).alloc (.cells v.cs 52)
  have hc26 := hb11.cell 26 h26
  obtain ⟨W2, hst2, hb2, k2⟩ := store_blk hb8 (cs := zVt) rfl (by kernel_rfl)
  have hld2 := load_blk hb2 27 rfl
  have kf : Chg [] w W2 := (((Chg.refl [] w).alloc _).alloc _).trans k2 (by simp)
  have s1 : (w.alloc (.cells zVt 52)).heap.size = w.heap.size + 1 := by simp
  rw [s1] at hst hc26
  clear hb8 hb11
  go_enter Tryz.func54, Tryz.ntmps54
  go_wp2_with (first
    | (go_at_call 103; refine (ham _).mono ?_; rintro e w' ⟨rfl, rfl⟩)
    | (at_lookup; go_loud (refine wpList_look_ok_v _ rfl _ _ 95 rfl 45 52 .u8 Tryz.underlying45 Tryz.underlying95 _ (zVault _) x.vm B.cnt _ hm rfl k rfl hk ?_); rw [hf]; simp only [Option.map_some, Option.getD_some, Option.isSome_some]))
  exact bodyPost_ret (v := .tuple #[.agg zVt, .int .i64 20]) (by simp [results, Tryz.results54, go_sem, hld2]) rfl ⟨rfl, kf⟩
set_option maxRecDepth 100000 in
set_option maxHeartbeats 2000000 in
theorem book_Fall_state (x : Lc) (B : Bk) (k : Int) (v : Vt) (hv : VtOk v) (hk : (Lit.int .u8 k).wf = true) (hf : B.f k = some v) (hfal : v.fal = true) (w : World) (h : BkAt w x B) :
    Calls Tryz.prog 19 #[.pointer (some ⟨x.b, 0, none⟩), .int .u8 k] w fun e w' => e = .returned (.int .i64 20) ∧ Chg [] w w' := by
  have hz := zVault
  have hop := book_open_state x B k 1 v hv hk (by decide) hf hfal w h
  go_enter Tryz.func19, Tryz.ntmps19
  go_wp2_with fail
  refine hop.mono ?_
  rintro e w1 ⟨rfl, k1⟩
  have hst := run_storeCells_new (P := Tryz.prog) w1 52 zVt zVt (by kernel_rfl) rfl (by kernel_rfl)
  go_wp2
  go_ret
  exact ⟨rfl, k1.alloc _⟩
end Go.Proofs.YtackdgbcmeafhaaGreat

/- Package token: New, Of, Total, Copy; a ledger that isn't there. -/
import Derived.Test.YtackdgbcmeafhaaGreatToken
import Derived.Shelf.SlMaps.Clone
namespace Go.Proofs.YtackdgbcmeafhaaGreat
open Go.RowKit Go.Maps

/-- a new thing in blocks that are new -/
def Fresh (w : World) (l : List Nat) : Prop := ∀ b ∈ l, w.heap.size ≤ b

def Led.zero : Led := ⟨fun _ => 0, 0⟩
theorem sumM_zero : ∀ n, sumM (fun _ => 0) n = 0
  | 0 => rfl
  | n + 1 => by simp [sumM, sumM_zero n]
theorem LedOk.zero : LedOk Led.zero := ⟨fun _ => Int.le_refl _, sumM_zero 256, by decide⟩

set_option maxHeartbeats 400000 in
theorem token_New (w : World) :
    Calls Tryz.prog 39 #[] w fun e w' => ∃ p mb, e = .returned (.pointer (some ⟨p, 0, none⟩)) ∧ LedAt w' p mb Led.zero ∧ Chg [] w w' ∧ Fresh w [p, mb] := by
  have hmm := @run_makeMap Tryz.prog
  go_enter Tryz.func39, Tryz.ntmps39
  go_wp2
  go_ret
  have hb := Blk.new (w.alloc (.map #[] 0)) #[.map (some w.heap.size), .int .u64 0] 151
  have hm := (MapV.made w 45 .u8).alloc (.cells #[.map (some w.heap.size), .int .u64 0] 151)
  exact ⟨w.heap.size + 1, w.heap.size, rfl, ⟨by simpa [Led.zero] using hb, by omega, 0, hm⟩, ((Chg.refl [] w).alloc _).alloc _, by simp [Fresh]⟩

set_option maxHeartbeats 400000 in
theorem token_Of (p mb : Nat) (L : Led) (k : Int) (w : World) (h : LedAt w p mb L) (hk : (Lit.int .u8 k).wf = true) :
    Calls Tryz.prog 86 #[.pointer (some ⟨p, 0, none⟩), .int .u8 k] w fun e w' => e = .returned (.int .u64 (L.m k)) ∧ w = w' := by
  obtain ⟨hb, hne, cnt, hm⟩ := h
  have c0 := hb.cell 0 (v := .map (some mb)) rfl
  go_enter Tryz.func86, Tryz.ntmps86
  go_wp2_with (first
        | (at_lookup; refine wpList_look_v _ rfl _ _ 149 rfl 45 23 .u8 Tryz.underlying45 Tryz.underlying149 (.int .u64 0) (zAmount _) mb cnt _ hm rfl k rfl hk ?_; rw [getD_led]))
  go_ret
  exact ⟨rfl, rfl⟩
set_option maxHeartbeats 400000 in
theorem token_Of_nil (k : Int) (w : World) :
    Calls Tryz.prog 86 #[.pointer none, .int .u8 k] w fun e w' => e = .returned (.int .u64 0) ∧ w = w' := by
  go_enter Tryz.func86, Tryz.ntmps86
  go_wp2
  go_ret
  exact ⟨rfl, rfl⟩
set_option maxHeartbeats 400000 in
theorem token_Total (p mb : Nat) (L : Led) (w : World) (h : LedAt w p mb L) :
    Calls Tryz.prog 47 #[.pointer (some ⟨p, 0, none⟩)] w fun e w' => e = .returned (.int .u64 L.tot) ∧ w = w' := by
  obtain ⟨hb, hne, cnt, hm⟩ := h
  have c1 := hb.cell 1 (v := .int .u64 L.tot) rfl
  go_enter Tryz.func47, Tryz.ntmps47
  go_wp2
  go_ret
  exact ⟨rfl, rfl⟩
set_option maxHeartbeats 400000 in
theorem token_Total_nil (w : World) :
    Calls Tryz.prog 47 #[.pointer none] w fun e w' => e = .returned (.int .u64 0) ∧ w = w' := by
  go_enter Tryz.func47, Tryz.ntmps47
  go_wp2
  go_ret
  exact ⟨rfl, rfl⟩
set_option maxHeartbeats 400000 in
theorem token_Mint_nil (k a : Int) (w : World) :
    Calls Tryz.prog 50 #[.pointer none, .int .u8 k, .int .u64 a] w fun e w' => e = .returned (.int .i64 1) ∧ w = w' := by
  go_enter Tryz.func50, Tryz.ntmps50
  go_wp2
  go_ret
  exact ⟨rfl, rfl⟩
set_option maxHeartbeats 400000 in
theorem token_Burn_nil (k a : Int) (w : World) :
    Calls Tryz.prog 58 #[.pointer none, .int .u8 k, .int .u64 a] w fun e w' => e = .returned (.int .i64 1) ∧ w = w' := by
  go_enter Tryz.func58, Tryz.ntmps58
  go_wp2
  go_ret
  exact ⟨rfl, rfl⟩
set_option maxHeartbeats 400000 in
theorem token_Move_nil (k j a : Int) (w : World) :
    Calls Tryz.prog 70 #[.pointer none, .int .u8 k, .int .u8 j, .int .u64 a] w fun e w' => e = .returned (.int .i64 1) ∧ w = w' := by
  go_enter Tryz.func70, Tryz.ntmps70
  go_wp2
  go_ret
  exact ⟨rfl, rfl⟩
set_option maxHeartbeats 400000 in
theorem token_Copy_nil (w : World) :
    Calls Tryz.prog 93 #[.pointer none] w fun e w' => e = .returned (.pointer none) ∧ w = w' := by
  go_enter Tryz.func93, Tryz.ntmps93
  go_wp2
  go_ret
  exact ⟨rfl, rfl⟩

set_option maxRecDepth 100000 in
set_option maxHeartbeats 400000 in
theorem maps_Clone_Led (b : Nat) (es : Array MapEntry) (clock : Nat) (w : World) (hb : w.heap[b]? = some (.map es clock)) :
    Calls Tryz.prog 124 #[.map (some b)] w fun e w' => e = .returned (.map (some w.heap.size)) ∧ w' = w.alloc (.map es clock) := by
  have hq := fun w => run_eql_map_nil_sl (P := Tryz.prog) w 149 _ _ (some b) Tryz.underlying149
  go_enter Tryz.func124, Tryz.ntmps124
  go_wp2
  rw [run_callFunc_extern Tryz.func125 (by kernel_rfl) (by kernel_rfl) (by kernel_rfl) (e := Extern.MapsClone.clone) (by kernel_rfl), run_maps_clone_sl w 149 hb]
  simp only [Result.andThen]
  rw [Oper.upon_value]
  go_wp2
  rw [run_typeAssert_map_sl _ 149 20 _ _ _ Tryz.underlying149]
  simp only [Result.andThen]
  rw [Oper.upon_value]
  go_wp2
  go_ret
  exact ⟨rfl, rfl⟩
end Go.Proofs.YtackdgbcmeafhaaGreat

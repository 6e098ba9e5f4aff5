/- Package token: New, Of, Total, Copy; a ledger that isn't there. -/
import Derived.Test.YtbagkfeodjkdmaaToken
import Derived.Shelf.SlMaps.Clone
namespace Go.Proofs.Ytbagkfeodjkdmaa
open Go.RowKit Go.Maps

/-- a new thing in blocks that are new -/
def Fresh (w : World) (l : List Nat) : Prop := ∀ b ∈ l, w.heap.size ≤ b

def Led.zero : Led := ⟨fun _ => 0, 0⟩
theorem sumM_zero : ∀ n, sumM (fun _ => 0) n = 0
  | 0 => rfl
  | n + 1 => by simp [sumM, sumM_zero n]
theorem LedOk.zero : LedOk Led.zero := ⟨fun _ => Int.le_refl _, sumM_zero 256, by decide⟩

set_option maxHeartbeats 400000 in
theorem token_New (w : World) :
    Calls Try.prog 22 #[] w fun e w' => ∃ p mb, e = .returned (.pointer (some ⟨p, 0, none⟩)) ∧ LedAt w' p mb Led.zero ∧ Chg [] w w' ∧ Fresh w [p, mb] := by
  have hmm := @run_makeMap Try.prog
  go_enter Try.func22, Try.ntmps22
  go_wp2
  go_ret
  have hb := Blk.new (w.alloc (.map #[] 0)) #[.map (some w.heap.size), .int .u64 0] 150
  have hm := (MapV.made w 42 .u8).alloc (.cells #[.map (some w.heap.size), .int .u64 0] 150)
  exact ⟨w.heap.size + 1, w.heap.size, rfl, ⟨by simpa [Led.zero] using hb, by omega, 0, hm⟩, ((Chg.refl [] w).alloc _).alloc _, by simp [Fresh]⟩

set_option maxHeartbeats 400000 in
theorem token_Of (p mb : Nat) (L : Led) (k : Int) (w : World) (h : LedAt w p mb L) (hk : (Lit.int .u8 k).wf = true) :
    Calls Try.prog 29 #[.pointer (some ⟨p, 0, none⟩), .int .u8 k] w fun e w' => e = .returned (.int .u64 (L.m k)) ∧ w = w' := by
  obtain ⟨hb, hne, cnt, hm⟩ := h
  have c0 := hb.cell 0 (v := .map (some mb)) rfl
  go_enter Try.func29, Try.ntmps29
  go_wp2_with (first
        | (at_lookup; refine wpList_look_v _ rfl _ _ 40 rfl 42 41 .u8 Try.underlying42 Try.underlying40 (.int .u64 0) (zAmount _) mb cnt _ hm rfl k rfl hk ?_; rw [getD_led]))
  go_ret
  exact ⟨rfl, rfl⟩
set_option maxHeartbeats 400000 in
theorem token_Of_nil (k : Int) (w : World) :
    Calls Try.prog 29 #[.pointer none, .int .u8 k] w fun e w' => e = .returned (.int .u64 0) ∧ w = w' := by
  go_enter Try.func29, Try.ntmps29
  go_wp2
  go_ret
  exact ⟨rfl, rfl⟩
set_option maxHeartbeats 400000 in
theorem token_Total (p mb : Nat) (L : Led) (w : World) (h : LedAt w p mb L) :
    Calls Try.prog 30 #[.pointer (some ⟨p, 0, none⟩)] w fun e w' => e = .returned (.int .u64 L.tot) ∧ w = w' := by
  obtain ⟨hb, hne, cnt, hm⟩ := h
  have c1 := hb.cell 1 (v := .int .u64 L.tot) rfl
  go_enter Try.func30, Try.ntmps30
  go_wp2
  go_ret
  exact ⟨rfl, rfl⟩
set_option maxHeartbeats 400000 in
theorem token_Total_nil (w : World) :
    Calls Try.prog 30 #[.pointer none] w fun e w' => e = .returned (.int .u64 0) ∧ w = w' := by
  go_enter Try.func30, Try.ntmps30
  go_wp2
  go_ret
  exact ⟨rfl, rfl⟩
set_option maxHeartbeats 400000 in
theorem token_Mint_nil (k a : Int) (w : World) :
    Calls Try.prog 26 #[.pointer none, .int .u8 k, .int .u64 a] w fun e w' => e = .returned (.int .i64 1) ∧ w = w' := by
  go_enter Try.func26, Try.ntmps26
  go_wp2
  go_ret
  exact ⟨rfl, rfl⟩
set_option maxHeartbeats 400000 in
theorem token_Burn_nil (k a : Int) (w : World) :
    Calls Try.prog 27 #[.pointer none, .int .u8 k, .int .u64 a] w fun e w' => e = .returned (.int .i64 1) ∧ w = w' := by
  go_enter Try.func27, Try.ntmps27
  go_wp2
  go_ret
  exact ⟨rfl, rfl⟩
set_option maxHeartbeats 400000 in
theorem token_Move_nil (k j a : Int) (w : World) :
    Calls Try.prog 28 #[.pointer none, .int .u8 k, .int .u8 j, .int .u64 a] w fun e w' => e = .returned (.int .i64 1) ∧ w = w' := by
  go_enter Try.func28, Try.ntmps28
  go_wp2
  go_ret
  exact ⟨rfl, rfl⟩
set_option maxHeartbeats 400000 in
theorem token_Copy_nil (w : World) :
    Calls Try.prog 24 #[.pointer none] w fun e w' => e = .returned (.pointer none) ∧ w = w' := by
  go_enter Try.func24, Try.ntmps24
  go_wp2
  go_ret
  exact ⟨rfl, rfl⟩

set_option maxRecDepth 100000 in
set_option maxHeartbeats 400000 in
theorem maps_Clone_Led (b : Nat) (es : Array MapEntry) (clock : Nat) (w : World) (hb : w.heap[b]? = some (.map es clock)) :
    Calls Try.prog 83 #[.map (some b)] w fun e w' => e = .returned (.map (some w.heap.size)) ∧ w' = w.alloc (.map es clock) := by
  have hq := fun w => run_eql_map_nil_sl (P := Try.prog) w 40 _ _ (some b) Try.underlying40
  go_enter Try.func83, Try.ntmps83
  go_wp2
  rw [run_callFunc_extern Try.func137 (by kernel_rfl) (by kernel_rfl) (by kernel_rfl) (e := Extern.MapsClone.clone) (by kernel_rfl), run_maps_clone_sl w 40 hb]
  simp only [Result.andThen]
  rw [Oper.upon_value]
  go_wp2
  rw [run_typeAssert_map_sl _ 40 20 _ _ _ Try.underlying40]
  simp only [Result.andThen]
  rw [Oper.upon_value]
  go_wp2
  go_ret
  exact ⟨rfl, rfl⟩
end Go.Proofs.Ytbagkfeodjkdmaa

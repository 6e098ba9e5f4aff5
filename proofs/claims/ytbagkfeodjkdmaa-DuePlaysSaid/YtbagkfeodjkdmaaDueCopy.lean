/- Package due: Copy. -/
import Derived.Test.YtbagkfeodjkdmaaDueOps
import Derived.Test.YtbagkfeodjkdmaaTokenCopy
namespace Go.Proofs.Ytbagkfeodjkdmaa
open Go.RowKit Go.Maps Go.Shelf

theorem TabAt.drewN {w : World} {p mb : Nat} {T : Tab} (h : TabAt w p mb T) (n : Nat) : TabAt (w.drewN n) p mb T := h.same ((Chg.refl _ _).drewN _)
set_option maxRecDepth 100000 in
set_option maxHeartbeats 400000 in
theorem maps_Clone_Tab (b : Nat) (es : Array MapEntry) (clock : Nat) (w : World) (hb : w.heap[b]? = some (.map es clock)) :
    Calls Try.prog 116 #[.map (some b)] w fun e w' => e = .returned (.map (some w.heap.size)) ∧ w' = w.alloc (.map es clock) := by
  have hq := fun w => run_eql_map_nil_sl (P := Try.prog) w 140 _ _ (some b) Try.underlying140
  go_enter Try.func116, Try.ntmps116
  go_wp2
  rw [run_callFunc_extern Try.func137 (by kernel_rfl) (by kernel_rfl) (by kernel_rfl) (e := Extern.MapsClone.clone) (by kernel_rfl), run_maps_clone_sl w 140 hb]
  simp only [Result.andThen]
  rw [Oper.upon_value]
  go_wp2
  rw [run_typeAssert_map_sl _ 140 20 _ _ _ Try.underlying140]
  simp only [Result.andThen]
  rw [Oper.upon_value]
  go_wp2
  go_ret
  exact ⟨rfl, rfl⟩

set_option maxRecDepth 100000 in
set_option maxHeartbeats 1000000 in
theorem due_Copy (p mb : Nat) (T : Tab) (w : World) (h : TabAt w p mb T) :
    Calls Try.prog 64 #[.pointer (some ⟨p, 0, none⟩)] w fun e w' => ∃ p2 mb2, e = .returned (.pointer (some ⟨p2, 0, none⟩)) ∧ TabAt w' p2 mb2 T ∧ Chg [] w w' ∧ Fresh w [p2, mb2] := by
  have h00 := h
  obtain ⟨hb, hne, hm⟩ := h
  have c0 := hb.cell 0 (v := .int .i64 T.most) rfl
  have c1 := hb.cell 1 (v := .int .u64 T.last) rfl
  have c2 := hb.cell 2 (v := .map (some mb)) rfl
  obtain ⟨es, clock, hes, hcl⟩ := hm.cloned
  obtain ⟨s, hs⟩ : ∃ s, s = w.heap.size := ⟨_, rfl⟩
  have hclone : ∀ W, Chg [] w W → W.heap.size = s → Calls Try.prog 116 #[.map (some mb)] W fun e w' => e = .returned (.map (some s)) ∧ Hid (Chg [] w w' ∧ w'.heap.size = s + 1 ∧ w'.heap[s]? = some (.map es clock)) ∧ w'.cell? ⟨p, 0, none⟩ = some (.int .i64 T.most) ∧ w'.cell? ⟨p, 1, none⟩ = some (.int .u64 T.last) ∧ w'.cell? ⟨p, 2, none⟩ = some (.map (some mb)) := fun W hc hz =>
    (maps_Clone_Tab mb es clock W ((hc.block mb hm.lt (by simp)).trans hes)).mono (fun e w' ⟨he, hw⟩ => by
      have hc2 : Chg [] w w' := by rw [hw]; exact hc.alloc _
      have hb2 := hb.chg hc2 (by simp)
      refine ⟨by rw [he, hz], ⟨hc2, by rw [hw]; simp [hz], by rw [hw, ← hz]; exact World.alloc_heap_new W _⟩, hb2.cell 0 rfl, hb2.cell 1 rfl, hb2.cell 2 rfl⟩)
  have hcl0 : Chg [] w w := Chg.refl _ _
  have hcl1 : ∀ n, Chg [] w (w.drewN n) := fun n => (Chg.refl _ _).drewN n
  clear hb hes hm h00
  go_enter Try.func64, Try.ntmps64
  go_wp2
  go_region_with (go_at_call 116; refine (hclone _ (by first | exact Chg.refl _ _ | exact (Chg.refl _ _).drew | exact (Chg.refl _ _).drewN _) (by first | exact hs.symm | simp [hs])).mono ?_; rintro e w1 ⟨rfl, hw1, d0, d1, d2⟩)
  all_goals go_wp2
  all_goals go_ret
  all_goals
    obtain ⟨hc, hz, hm⟩ := hw1.out
    rw [hs] at hm hz
    have hb := Blk.new w1 #[.int .i64 T.most, .int .u64 T.last, .map (some w.heap.size)] 142
    have hm2 := (hcl w1 _ hm).alloc (.cells #[.int .i64 T.most, .int .u64 T.last, .map (some w.heap.size)] 142)
    have A : TabAt (w1.alloc (.cells #[.int .i64 T.most, .int .u64 T.last, .map (some w.heap.size)] 142)) w1.heap.size w.heap.size T := ⟨hb, by omega, hm2⟩
    have B : Chg [] w (w1.alloc (.cells #[.int .i64 T.most, .int .u64 T.last, .map (some w.heap.size)] 142)) := hc.alloc _
    exact ⟨w1.heap.size, w.heap.size, rfl, by first | exact A | exact A.drewN 1, by first | exact B | exact B.drewN 1, by simp [Fresh]; omega⟩


end Go.Proofs.Ytbagkfeodjkdmaa

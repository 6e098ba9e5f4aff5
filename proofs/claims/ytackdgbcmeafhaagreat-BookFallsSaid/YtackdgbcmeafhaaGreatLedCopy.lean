/- (*Ledger).Copy. -/
import Derived.Test.YtackdgbcmeafhaaGreatToken2
import Derived.Test.YtackdgbcmeafhaaGreatMapIn
import Derived.Deep.RegionWith
namespace Go.Proofs.YtackdgbcmeafhaaGreat
open Go.RowKit Go.Maps Go.Shelf

theorem LedAt.drewN {w : World} {p mb : Nat} {L : Led} (h : LedAt w p mb L) (n : Nat) : LedAt (w.drewN n) p mb L := h.chg ((Chg.refl [] w).drewN n) (by simp) (by simp)
theorem LedAt.lt {w : World} {p mb : Nat} {L : Led} (h : LedAt w p mb L) : p < w.heap.size ∧ mb < w.heap.size := ⟨h.blk.lt, by obtain ⟨cnt, hm⟩ := h.map; exact hm.lt⟩

set_option maxRecDepth 100000 in
set_option maxHeartbeats 1000000 in
theorem token_Copy (p mb : Nat) (L : Led) (w : World) (h : LedAt w p mb L) :
    Calls Tryz.prog 93 #[.pointer (some ⟨p, 0, none⟩)] w fun e w' => ∃ p2 mb2, e = .returned (.pointer (some ⟨p2, 0, none⟩)) ∧ LedAt w' p2 mb2 L ∧ Chg [] w w' ∧ Fresh w [p2, mb2] := by
  have h00 := h
  obtain ⟨hb, hne, cnt, hm⟩ := h
  have c0 := hb.cell 0 (v := .map (some mb)) rfl
  have c1 := hb.cell 1 (v := .int .u64 L.tot) rfl
  obtain ⟨es, clock, hes, hcl⟩ := hm.cloned
  obtain ⟨s, hs⟩ : ∃ s, s = w.heap.size := ⟨_, rfl⟩
  have hclone : ∀ W, Chg [] w W → W.heap.size = s → Calls Tryz.prog 124 #[.map (some mb)] W fun e w' => e = .returned (.map (some s)) ∧ Hid (Chg [] w w' ∧ w'.heap.size = s + 1 ∧ w'.heap[s]? = some (.map es clock)) ∧ w'.cell? ⟨p, 0, none⟩ = some (.map (some mb)) ∧ w'.cell? ⟨p, 1, none⟩ = some (.int .u64 L.tot) := fun W hc hz =>
    (maps_Clone_Led mb es clock W ((hc.block mb hm.lt (by simp)).trans hes)).mono (fun e w' ⟨he, hw⟩ => by
      have hc2 : Chg [] w w' := by rw [hw]; exact hc.alloc _
      have hb2 := hb.chg hc2 (by simp)
      refine ⟨by rw [he, hz], ⟨hc2, by rw [hw]; simp [hz], by rw [hw, ← hz]; exact World.alloc_heap_new W _⟩, hb2.cell 0 rfl, hb2.cell 1 rfl⟩)
  have hcl0 : Chg [] w w := Chg.refl _ _
  have hcl1 : ∀ n, Chg [] w (w.drewN n) := fun n => (Chg.refl _ _).drewN n
  clear hb hes hm h00
  go_enter Tryz.func93, Tryz.ntmps93
  go_wp2
  go_region_with (go_at_call 124; refine (hclone _ (by first | exact Chg.refl _ _ | exact (Chg.refl _ _).drew | exact (Chg.refl _ _).drewN _) (by first | exact hs.symm | simp [hs])).mono ?_; rintro e w1 ⟨rfl, hw1, d0, d1⟩)
  all_goals go_wp2
  all_goals go_ret
  all_goals
    obtain ⟨hc, hz, hm⟩ := hw1.out
    rw [hs] at hm hz
    have hb := Blk.new w1 #[.map (some w.heap.size), .int .u64 L.tot] 151
    have hm2 := (hcl w1 _ hm).alloc (.cells #[.map (some w.heap.size), .int .u64 L.tot] 151)
    have A : LedAt (w1.alloc (.cells #[.map (some w.heap.size), .int .u64 L.tot] 151)) w1.heap.size w.heap.size L := ⟨hb, by omega, cnt, hm2⟩
    have B : Chg [] w (w1.alloc (.cells #[.map (some w.heap.size), .int .u64 L.tot] 151)) := hc.alloc _
    exact ⟨w1.heap.size, w.heap.size, rfl, by first | exact A | exact A.drewN 1, by first | exact B | exact B.drewN 1, by simp [Fresh]; omega⟩
end Go.Proofs.YtackdgbcmeafhaaGreat

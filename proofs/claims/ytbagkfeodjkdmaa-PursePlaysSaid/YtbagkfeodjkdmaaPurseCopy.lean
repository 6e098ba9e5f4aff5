/- (*Purse).Copy. -/
import Derived.Test.YtbagkfeodjkdmaaPurse3
import Derived.Test.YtbagkfeodjkdmaaTokenCopy
import Derived.Deep.RegionHeld3
namespace Go.Proofs.Ytbagkfeodjkdmaa
open Go.RowKit Go.Maps Go.Shelf

set_option maxRecDepth 100000 in
set_option maxHeartbeats 1000000 in
theorem purse_Copy (p fp mb : Nat) (U : Pur) (w : World) (h : PurAt w p fp mb U) :
    Calls Try.prog 39 #[.pointer (some ⟨p, 0, none⟩)] w fun e w' => ∃ p2 fp2 mb2, e = .returned (.pointer (some ⟨p2, 0, none⟩)) ∧ PurAt w' p2 fp2 mb2 U ∧ Chg [] w w' ∧ Fresh w [p2, fp2, mb2] := by
  have hb := h.blk
  have c0 := hb.cell 0 (v := .pointer (some ⟨fp, 0, none⟩)) rfl
  have c1 := hb.cell 1 (v := .int .u64 U.held) rfl
  have c2 := hb.cell 2 (v := .int .u64 U.inn) rfl
  have c3 := hb.cell 3 (v := .int .u64 U.out) rfl
  have hcopy : ∀ W, Chg [] w W → Calls Try.prog 24 #[.pointer (some ⟨fp, 0, none⟩)] W fun e w' => ∃ p2 mb2, e = .returned (.pointer (some ⟨p2, 0, none⟩)) ∧ Hid (LedAt w' p2 mb2 U.L ∧ Chg [] w w' ∧ Fresh w [p2, mb2]) ∧
      w'.cell? ⟨p, 0, none⟩ = some (.pointer (some ⟨fp, 0, none⟩)) ∧ w'.cell? ⟨p, 1, none⟩ = some (.int .u64 U.held) ∧ w'.cell? ⟨p, 2, none⟩ = some (.int .u64 U.inn) ∧ w'.cell? ⟨p, 3, none⟩ = some (.int .u64 U.out) := fun W hc =>
    (token_Copy fp mb U.L W (h.led.chg hc (by simp) (by simp))).mono fun e w' ⟨p2, mb2, he, hl, hc2, hf⟩ => by
      have hcc := hc.trans hc2 (by simp)
      have hb2 := hb.chg hcc (by simp)
      refine ⟨p2, mb2, he, ⟨hl, hcc, fun b hb => ?_⟩, hb2.cell 0 rfl, hb2.cell 1 rfl, hb2.cell 2 rfl, hb2.cell 3 rfl⟩
      have := hf b hb; have := hc.size; omega
  clear hb h
  go_enter Try.func39, Try.ntmps39
  go_wp2
  go_region_held3 (fun w' => w'.cell? ⟨p, 0, none⟩ = some (.pointer (some ⟨fp, 0, none⟩)) ∧ w'.cell? ⟨p, 1, none⟩ = some (.int .u64 U.held) ∧ w'.cell? ⟨p, 2, none⟩ = some (.int .u64 U.inn) ∧ w'.cell? ⟨p, 3, none⟩ = some (.int .u64 U.out)) (go_keep)
    (first | (go_at_call 24; refine (hcopy _ (by first | exact Chg.refl _ _ | exact (Chg.refl _ _).drew | exact (Chg.refl _ _).drewN _)).mono ?_; rintro e w1 ⟨p2, mb2, rfl, hw1, d0, d1, d2, d3⟩))
  all_goals go_wp2
  all_goals go_ret
  all_goals
    obtain ⟨hl, hc, hf⟩ := hw1.out
    have hf1 := hf p2 (by simp)
    have hf2 := hf mb2 (by simp)
    have l1 := hl.lt
    have hs := hc.size
    have hb := Blk.new w1 #[.pointer (some ⟨p2, 0, none⟩), .int .u64 U.held, .int .u64 U.inn, .int .u64 U.out] 164
    have A : PurAt (w1.alloc (.cells #[.pointer (some ⟨p2, 0, none⟩), .int .u64 U.held, .int .u64 U.inn, .int .u64 U.out] 164)) w1.heap.size p2 mb2 U := ⟨hb, hl.chg ((Chg.refl [] _).alloc _) (by simp) (by simp), by omega, by omega⟩
    have B : Chg [] w (w1.alloc (.cells #[.pointer (some ⟨p2, 0, none⟩), .int .u64 U.held, .int .u64 U.inn, .int .u64 U.out] 164)) := hc.alloc _
    exact ⟨w1.heap.size, p2, mb2, rfl, by first | exact A | exact A.same ((Chg.refl [] _).drewN 1), by first | exact B | exact B.drewN 1, by simp [Fresh]; omega⟩
end Go.Proofs.Ytbagkfeodjkdmaa

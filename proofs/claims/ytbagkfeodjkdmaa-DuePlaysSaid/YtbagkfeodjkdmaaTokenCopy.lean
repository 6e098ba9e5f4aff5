/- (*Ledger).Copy; one act of any kind. -/
import Derived.Test.YtbagkfeodjkdmaaTokenDo
import Derived.Test.YtbagkfeodjkdmaaRows0
namespace Go.Proofs.Ytbagkfeodjkdmaa
open Go.RowKit Go.Maps Go.Shelf

theorem LedAt.lt {w : World} {p mb : Nat} {L : Led} (h : LedAt w p mb L) : p < w.heap.size ∧ mb < w.heap.size := ⟨h.blk.lt, by obtain ⟨cnt, hm⟩ := h.map; exact hm.lt⟩

set_option maxRecDepth 100000 in
set_option maxHeartbeats 1000000 in
theorem token_Copy (p mb : Nat) (L : Led) (w : World) (h : LedAt w p mb L) :
    Calls Try.prog 24 #[.pointer (some ⟨p, 0, none⟩)] w fun e w' => ∃ p2 mb2, e = .returned (.pointer (some ⟨p2, 0, none⟩)) ∧ LedAt w' p2 mb2 L ∧ Chg [] w w' ∧ Fresh w [p2, mb2] := by
  have h00 := h
  obtain ⟨hb, hne, cnt, hm⟩ := h
  have c0 := hb.cell 0 (v := .map (some mb)) rfl
  have c1 := hb.cell 1 (v := .int .u64 L.tot) rfl
  obtain ⟨es, clock, hes, hcl⟩ := hm.cloned
  obtain ⟨s, hs⟩ : ∃ s, s = w.heap.size := ⟨_, rfl⟩
  have hclone : ∀ W, Chg [] w W → W.heap.size = s → Calls Try.prog 83 #[.map (some mb)] W fun e w' => e = .returned (.map (some s)) ∧ Hid (Chg [] w w' ∧ w'.heap.size = s + 1 ∧ w'.heap[s]? = some (.map es clock)) ∧ w'.cell? ⟨p, 0, none⟩ = some (.map (some mb)) ∧ w'.cell? ⟨p, 1, none⟩ = some (.int .u64 L.tot) := fun W hc hz =>
    (maps_Clone_Led mb es clock W ((hc.block mb hm.lt (by simp)).trans hes)).mono (fun e w' ⟨he, hw⟩ => by
      have hc2 : Chg [] w w' := by rw [hw]; exact hc.alloc _
      have hb2 := hb.chg hc2 (by simp)
      refine ⟨by rw [he, hz], ⟨hc2, by rw [hw]; simp [hz], by rw [hw, ← hz]; exact World.alloc_heap_new W _⟩, hb2.cell 0 rfl, hb2.cell 1 rfl⟩)
  have hcl0 : Chg [] w w := Chg.refl _ _
  have hcl1 : ∀ n, Chg [] w (w.drewN n) := fun n => (Chg.refl _ _).drewN n
  clear hb hes hm h00
  go_enter Try.func24, Try.ntmps24
  go_wp2
  go_region_with (go_at_call 83; refine (hclone _ (by first | exact Chg.refl _ _ | exact (Chg.refl _ _).drew | exact (Chg.refl _ _).drewN _) (by first | exact hs.symm | simp [hs])).mono ?_; rintro e w1 ⟨rfl, hw1, d0, d1⟩)
  all_goals go_wp2
  all_goals go_ret
  all_goals
    obtain ⟨hc, hz, hm⟩ := hw1.out
    rw [hs] at hm hz
    have hb := Blk.new w1 #[.map (some w.heap.size), .int .u64 L.tot] 150
    have hm2 := (hcl w1 _ hm).alloc (.cells #[.map (some w.heap.size), .int .u64 L.tot] 150)
    have A : LedAt (w1.alloc (.cells #[.map (some w.heap.size), .int .u64 L.tot] 150)) w1.heap.size w.heap.size L := ⟨hb, by omega, cnt, hm2⟩
    have B : Chg [] w (w1.alloc (.cells #[.map (some w.heap.size), .int .u64 L.tot] 150)) := hc.alloc _
    exact ⟨w1.heap.size, w.heap.size, rfl, by first | exact A | exact A.drewN 1, by first | exact B | exact B.drewN 1, by simp [Fresh]; omega⟩

/-- an act done to a ledger. -/
def Led.act (L : Led) (kind A B a : Int) : Led := if kind = 0 then (L.mint A a).2 else if kind = 1 then (L.burn A a).2 else (L.move A B a).2

theorem law15_do (p mb c tb : Nat) (L : Led) (kind A B a : Int) (w : World) (h : St15 w p mb c tb L) (hA : (Lit.int .u8 A).wf = true) (hB : (Lit.int .u8 B).wf = true) (ha : (Lit.int .u64 a).wf = true) :
    Calls Try.prog 23 #[.pointer (some ⟨p, 0, none⟩), .map (some c), .pointer (some ⟨tb, 0, none⟩), .agg #[.int .i64 kind, .int .u8 A, .int .u8 B, .int .u64 a]] w fun e w' => e = .returned (.bool true) ∧ St15 w' p mb c tb (L.act kind A B a) ∧ Chg [p, mb, c, tb] w w' := by
  unfold Led.act
  by_cases h0 : kind = 0
  · subst h0; exact law15_do0 p mb c tb L A B a w h hA hB ha
  · by_cases h1 : kind = 1
    · subst h1; exact law15_do1 p mb c tb L A B a w h hA hB ha
    · rw [if_neg h0, if_neg h1]
      exact law15_do2 p mb c tb L kind A B a (by simpa using h0) (by simpa using h1) w h hA hB ha
end Go.Proofs.Ytbagkfeodjkdmaa

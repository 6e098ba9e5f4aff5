/- A purse that isn't there: the law PurseNone's walk. -/
import Derived.Test.YtbagkfeodjkdmaaPurse3
namespace Go.Proofs.Ytbagkfeodjkdmaa
open Go.RowKit Go.Maps Go.Shelf
attribute [local go_sem] Oper.semAt_some

/-- the six boxes of count -/
structure CntBoxes (s : Nat) (W : World) (r : Int) (sum0 sum : Int) (ok : Bool) (cnt last : Int) : Prop where
  b0 : Blk W s #[.int .i64 r] 3
  b1 : Blk W (s + 1) #[.int .u64 sum0] 41
  b2 : Blk W (s + 2) #[.bool ok] 4
  b3 : Blk W (s + 3) #[.int .i64 cnt] 3
  b4 : Blk W (s + 4) #[.int .i64 last] 3
  b5 : Blk W (s + 5) #[.int .u64 sum] 41

theorem CntBoxes.own {s : Nat} {W W' : World} {r sum0 sum cnt last : Int} {ok : Bool} {row : Option Nat} (h : CntBoxes s W r sum0 sum ok cnt last) (hg : W.grownBy W' row) (hr : ∀ r, row = some r → ∃ o : Obj, W.heap[r]? = some o ∧ o.isCells = false) : CntBoxes s W' r sum0 sum ok cnt last :=
  ⟨h.b0.own hg hr, h.b1.own hg hr, h.b2.own hg hr, h.b3.own hg hr, h.b4.own hg hr, h.b5.own hg hr⟩

set_option maxRecDepth 100000 in
set_option maxHeartbeats 1000000 in
theorem law16_count_nil (b : Nat) (w : World) (hb : Blk w b #[.pointer none] 38) :
    Calls Try.prog 41 #[.func (.func 88) #[] #[.pointer (some ⟨b, 0, none⟩)]] w fun e w' => e = .returned (.tuple #[.int .i64 0, .int .u64 0, .bool true]) ∧ Chg [] w w' := by
  refine (callsIn_wide (n := 3)).1 ?_
  refine callsIn_of_wp_marks Try.func41 rfl trivial ?_ rfl
  simp only [Try.ntmps41, List.size_toArray, List.length_cons, List.length_nil, Nat.reduceAdd, Nat.reduceSub, Array.replicate_succ, Array.replicate_zero, List.push_toArray, List.append_toArray, List.nil_append, List.cons_append]
  gi_wp2
  gi_wp2
  have hc1 : Chg [] w _ := ((((((Chg.refl [] w).alloc (.cells #[.int .i64 0] 3)).alloc (.cells #[.int .u64 0] 41)).alloc (.cells #[.bool false] 4)).alloc (.cells #[.int .i64 0] 3)).alloc (.cells #[.int .i64 (-1)] 3)).alloc (.cells #[.int .u64 0] 41)
  have hB : CntBoxes w.heap.size ((((((w.alloc (.cells #[.int .i64 0] 3)).alloc (.cells #[.int .u64 0] 41)).alloc (.cells #[.bool false] 4)).alloc (.cells #[.int .i64 0] 3)).alloc (.cells #[.int .i64 (-1)] 3)).alloc (.cells #[.int .u64 0] 41)) 0 0 0 false 0 (-1) := by
    constructor <;> repeat (first | (refine Blk.at _ _ _ _ ?_; (simp; done)) | refine Blk.alloc ?_ _)
  have hb1 := hb.chg hc1 (by simp)
  refine wpIn_rangeFunc_ownF rfl (by omega) (gf := 88) (lb := #[.pointer (some ⟨b, 0, none⟩)]) rfl trivial (enters_of Try.func88 (by kernel_rfl) rfl)
    (token_All1_nil Fence.wide _ trivial rfl b _ hb1 (fun x => x.elim) KeepsWalks) walksK_t walksK_b (Below.refl _ _) (fun x => x.elim)
    (fun pre W => Chg [] w W ∧ CntBoxes w.heap.size W 0 0 0 false 0 (-1)) (fun _ _ _ => False) ?hI ?hIx ?h0 (fun _ => { tmps := #[], defers := [] }) ?assign ?body ?done ?stop
  case hI => exact fun s A B row hs hg hr => ⟨hs.1.grown hg (fun k e => .inr (by have := (hr k e).1; simp at this; omega)), hs.2.own hg (fun r e => (hr r e).2)⟩
  case hIx => exact fun _ _ _ _ _ hs _ _ => hs
  case h0 => exact ⟨hc1, hB⟩
  case assign => exact fun _ x => x.elim
  case body => exact fun _ _ x => x.elim
  case stop => exact fun _ _ _ _ _ h => h.elim
  case done =>
    rintro D ys W hD rfl ⟨hC, hB'⟩ hK
    simp at hD
    have c3 := hB'.b3.cell 0 rfl
    have c5 := hB'.b5.cell 0 rfl
    have c0 := hB'.b0.cell 0 rfl
    have c1 := hB'.b1.cell 0 rfl
    have c2 := hB'.b2.cell 0 rfl
    have f0 := hB'.b0.free 0
    have f1 := hB'.b1.free 0
    have f2 := hB'.b2.free 0
    gi_wp2
    gi_region
    all_goals gi_wp2
    have hK2 : ((((W.setCell ⟨w.heap.size, 0, none⟩ (.int .i64 0)).setCell ⟨w.heap.size + 1, 0, none⟩ (.int .u64 0)).setCell ⟨w.heap.size + 1 + 1, 0, none⟩ (.bool true)).drew).heap[D]? = some (.deferred (some [])) :=
      (Below.heap_setCell _ _ _ D (by simp; omega)).trans ((Below.heap_setCell _ _ _ D (by simp; omega)).trans ((Below.heap_setCell _ _ _ D (by simp; omega)).trans hK))
    refine ⟨by simp, .inl ⟨_, _, rfl, run_takeDeferred hK2, ?_⟩⟩
    have hg := grownBy_putObj' ((((W.setCell ⟨w.heap.size, 0, none⟩ (.int .i64 0)).setCell ⟨w.heap.size + 1, 0, none⟩ (.int .u64 0)).setCell ⟨w.heap.size + 1 + 1, 0, none⟩ (.bool true)).drew) D (.deferred none)
    have hr : ∀ r, some D = some r → ∃ o : Obj, ((((W.setCell ⟨w.heap.size, 0, none⟩ (.int .i64 0)).setCell ⟨w.heap.size + 1, 0, none⟩ (.int .u64 0)).setCell ⟨w.heap.size + 1 + 1, 0, none⟩ (.bool true)).drew).heap[r]? = some o ∧ o.isCells = false := fun r e => by cases e; exact ⟨_, hK2, rfl⟩
    have r0 := ((((hB'.b0.set 0 (.int .i64 0)).other (p := ⟨w.heap.size + 1, 0, none⟩) (by simp) (.int .u64 0)).other (p := ⟨w.heap.size + 1 + 1, 0, none⟩) (by simp; omega) (.bool true)).drew.own hg hr).cell 0 rfl
    have r1 := ((((hB'.b1.other (p := ⟨w.heap.size, 0, none⟩) (by simp) (.int .i64 0)).set 0 (.int .u64 0)).other (p := ⟨w.heap.size + 1 + 1, 0, none⟩) (by simp) (.bool true)).drew.own hg hr).cell 0 rfl
    have r2 := ((((hB'.b2.other (p := ⟨w.heap.size, 0, none⟩) (by simp) (.int .i64 0)).other (p := ⟨w.heap.size + 1, 0, none⟩) (by simp) (.int .u64 0)).set 0 (.bool true)).drew.own hg hr).cell 0 rfl
    refine ⟨.tuple #[.int .i64 0, .int .u64 0, .bool true], ?_, rfl, ((((hC.setCell (by simp) _).setCell (by simp) _).setCell (by simp; omega) _).drew).grown hg (fun k e => .inr (by cases e; omega))⟩
    simp [results, Try.results41, go_sem, r0, r1, r2]

set_option maxRecDepth 100000 in
set_option maxHeartbeats 1000000 in
theorem law16_lives (w : World) :
    Calls Try.prog 33 #[] w fun e w' => e = .returned (.bool true) ∧ Chg [] w w' := by
  go_enter Try.func33, Try.ntmps33
  go_wp2_with fail
  refine (purse_New _).mono ?_
  rintro e w1 ⟨p, fp, mb, rfl, hl, hc, hf⟩
  have hf1 := hf p (by simp)
  have hf2 := hf fp (by simp)
  have hf3 := hf mb (by simp)
  go_wp2_with fail
  refine (purse_In p fp mb _ 1 9 w1 hl PurOk.zero (by decide) (by decide)).mono ?_
  rintro e w2 ⟨rfl, hl2, hc2⟩
  have ok2 := PurOk.zero.dIn (k := 1) (a := 9) (by decide) (by decide) (by decide)
  have e1 : (Pur.dIn ⟨Led.zero, 0, 0, 0⟩ 1 9) = (0, ⟨⟨updM Led.zero.m 1 9, 9⟩, 0, 9, 0⟩) := rfl
  rw [e1] at hl2 ok2 ⊢
  clear e1
  go_wp2_with fail
  refine (purse_Hold p fp mb _ 1 4 w2 hl2 ok2 (by decide) (by decide)).mono ?_
  rintro e w3 ⟨rfl, hl3, hc3⟩
  have ok3 := ok2.dHold (k := 1) (a := 4) (by decide) (by decide) (by decide)
  have e1 : (Pur.dHold ⟨⟨updM Led.zero.m 1 9, 9⟩, 0, 9, 0⟩ 1 4) = (0, ⟨⟨updM (updM Led.zero.m 1 9) 1 5, 5⟩, 4, 9, 0⟩) := rfl
  rw [e1] at hl3 ok3 ⊢
  clear e1
  go_wp2_with fail
  refine (purse_Free p fp mb _ 2 1 w3 hl3 ok3 (by decide) (by decide)).mono ?_
  rintro e w4 ⟨rfl, hl4, hc4⟩
  have e1 : (Pur.dFree ⟨⟨updM (updM Led.zero.m 1 9) 1 5, 5⟩, 4, 9, 0⟩ 2 1) = (0, ⟨⟨updM (updM (updM Led.zero.m 1 9) 1 5) 2 1, 6⟩, 3, 9, 0⟩) := rfl
  rw [e1] at hl4 ⊢
  clear e1
  go_wp2_with fail
  refine (purse_Of p fp mb _ 1 w4 hl4 (by decide)).mono ?_
  rintro e w' ⟨rfl, rfl⟩
  go_wp2_with fail
  refine (purse_Of p fp mb _ 2 w4 hl4 (by decide)).mono ?_
  rintro e w' ⟨rfl, rfl⟩
  go_wp2_with fail
  refine (purse_Held p fp mb _ w4 hl4).mono ?_
  rintro e w' ⟨rfl, rfl⟩
  go_wp2
  go_ret
  exact ⟨by simp [updM], ((hc.trans hc2 (by simp [hf1, hf2, hf3])).trans hc3 (by simp [hf1, hf2, hf3])).trans hc4 (by simp [hf1, hf2, hf3])⟩

set_option maxRecDepth 100000 in
set_option maxHeartbeats 1000000 in
theorem law16_PurseNone (a n : Int) (w : World) (_ : (Lit.int .u8 a).wf = true) (_ : (Lit.int .u64 n).wf = true) :
    Calls Try.prog 8 #[.int .u8 a, .int .u64 n] w fun e w' => e = .returned (.bool true) ∧ Chg [] w w' := by
  go_enter Try.func8, Try.ntmps8
  go_wp2_with fail
  refine (law16_lives _).mono ?_
  rintro e w1 ⟨rfl, hc1⟩
  go_wp2_with fail
  refine (purse_Paid_nil w1).mono ?_
  rintro e w' ⟨rfl, rfl⟩
  go_wp2_with fail
  refine (purse_All_nil w1).mono ?_
  rintro e w2 ⟨rfl, hw2⟩
  have hb := Blk.new w1 #[.pointer none] 38
  rw [← hw2] at hb
  have hc2 : Chg [] w1 w2 := by rw [hw2]; exact (Chg.refl _ _).alloc _
  clear hw2
  go_wp2_with fail
  refine (law16_count_nil _ w2 hb).mono ?_
  rintro e w3 ⟨rfl, hc3⟩
  go_wp2_with fail
  refine (purse_ops_nil a n w3).1.mono ?_
  rintro e w4 ⟨rfl, hc4⟩
  go_wp2_with fail
  refine (purse_ops_nil a n w4).2.1.mono ?_
  rintro e w5 ⟨rfl, hc5⟩
  go_wp2_with fail
  refine (purse_ops_nil a n w5).2.2.1.mono ?_
  rintro e w6 ⟨rfl, hc6⟩
  go_wp2_with fail
  refine (purse_ops_nil a n w6).2.2.2.mono ?_
  rintro e w7 ⟨rfl, hc7⟩
  go_wp2_with (first
    | (go_at_call 45; refine (purse_Of_nil _ _).mono ?_; rintro e w' ⟨rfl, rfl⟩)
    | (go_at_call 46; refine (purse_Held_nil _).mono ?_; rintro e w' ⟨rfl, rfl⟩)
    | (go_at_call 39; refine (purse_Copy_nil _).mono ?_; rintro e w' ⟨rfl, rfl⟩))
  go_ret
  exact ⟨rfl, (((((hc1.trans hc2 (by simp)).trans hc3 (by simp)).trans hc4 (by simp)).trans hc5 (by simp)).trans hc6 (by simp)).trans hc7 (by simp)⟩
end Go.Proofs.Ytbagkfeodjkdmaa

/- A ledger that isn't there: its iterator, and the law's own loops over it. -/
import Derived.Test.YtbagkfeodjkdmaaToken2
import Derived.RangeFuncNested
import Derived.RangeFuncBound
import Derived.RangeFuncCalls
import Derived.RangeFuncLeaves
import Derived.Shelf.Abstract
import Derived.Shelf.RegionOpen
import Derived.OwnWalkIn
import Derived.TacticsInMore
import Derived.LoopNIn
import Derived.LoopIn
namespace Go.Proofs.Ytbagkfeodjkdmaa
open Go.RowKit Go.Maps Go.Shelf
attribute [local go_sem] Oper.semAt_some

/-- a row of cells stands while blocks turn that are no cells. -/
theorem Blk.own {W W' : World} {b : Nat} {c : Array Value} {t : TypeId} {row : Option Nat} (h : Blk W b c t) (hg : W.grownBy W' row) (hr : ∀ r, row = some r → ∃ o : Obj, W.heap[r]? = some o ∧ o.isCells = false) : Blk W' b c t :=
  h.grown hg (fun e => by obtain ⟨o, ho, hc⟩ := hr b e.symm; rw [show W.heap[b]? = _ from h] at ho; cases ho; cases hc)

set_option maxHeartbeats 400000 in
theorem token_All (p : Option Addr) (w : World) :
    Calls Try.prog 32 #[.pointer p] w fun e w' => e = .returned (.func (.func 88) #[] #[.pointer (some ⟨w.heap.size, 0, none⟩)]) ∧ w' = w.alloc (.cells #[.pointer p] 38) := by
  go_enter Try.func32, Try.ntmps32
  go_wp2
  go_ret
  exact ⟨rfl, rfl⟩

set_option maxHeartbeats 400000 in
theorem token_All1_nil (F : Fence) (n : Nat) (h6 : F.fn 88) (hro : F.round = none) (b : Nat) (w : World) (hb : Blk w b #[.pointer none] 38) (encs : Empty → Array Value) (Kp : World → World → Prop) :
    SeqStopsK F n Try.prog 88 #[.pointer (some ⟨b, 0, none⟩)] encs Kp (fun xs => xs = []) (fun _ => False) 0 w := fun l J Jx W hW hJ hJx hY h0 => by
  have c0 : W.cell? ⟨b, 0, none⟩ = some (.pointer none) := (hW.cell (p := ⟨b, 0, none⟩) hb.lt).trans (hb.cell 0 rfl)
  refine callsIn_of_wp Try.func88 rfl h6 ?_ hro
  simp only [Try.ntmps88, List.size_toArray, List.length_cons, List.length_nil, Nat.reduceAdd, Nat.reduceSub, Array.replicate_succ, Array.replicate_zero, List.push_toArray, List.append_toArray, List.nil_append, List.cons_append]
  gi_wp2
  refine bodyPost_ret (results_none rfl _ _ _) rfl ?_
  exact ⟨⟨_, rfl⟩, .inl ⟨[], rfl, h0⟩⟩

set_option maxRecDepth 100000 in
set_option maxHeartbeats 1000000 in
theorem law15_all_nil (b : Nat) (w : World) (hb : Blk w b #[.pointer none] 38) :
    Calls Try.prog 31 #[.func (.func 88) #[] #[.pointer (some ⟨b, 0, none⟩)]] w fun e w' => e = .returned (.slice none 0 0) ∧ Chg [] w w' := by
  refine (callsIn_wide (n := 3)).1 ?_
  refine callsIn_of_wp_marks Try.func31 rfl trivial ?_ rfl
  simp only [Try.ntmps31, List.size_toArray, List.length_cons, List.length_nil, Nat.reduceAdd, Nat.reduceSub, Array.replicate_succ, Array.replicate_zero, List.push_toArray, List.append_toArray, List.nil_append, List.cons_append]
  gi_wp2
  have hb1 : Blk (w.alloc (.cells #[.slice none 0 0] 53)) b #[.pointer none] 38 := hb.alloc _
  have hx := Blk.new w #[.slice none 0 0] 53
  refine wpIn_rangeFunc_ownF rfl (by omega) (gf := 88) (lb := #[.pointer (some ⟨b, 0, none⟩)]) rfl trivial (enters_of Try.func88 (by kernel_rfl) rfl)
    (token_All1_nil Fence.wide _ trivial rfl b _ hb1 (fun x => x.elim) KeepsWalks) walksK_t walksK_b (Below.refl _ _) (fun x => x.elim)
    (fun pre W => Chg [] w W ∧ W.cell? ⟨w.heap.size, 0, none⟩ = some (.slice none 0 0)) (fun _ _ _ => False) ?hI ?hIx ?h0 (fun _ => { tmps := #[], defers := [] }) ?assign ?body ?done ?stop
  case hI => exact fun s A B row hs hg hr => ⟨hs.1.grown hg (fun k e => .inr (by have := (hr k e).1; simp at this; omega)), cell_kept hs.2 hg (fun r e => (hr r e).2)⟩
  case hIx => exact fun _ _ _ _ _ hs _ _ => hs
  case h0 => exact ⟨(Chg.refl _ _).alloc _, hx.cell 0 rfl⟩
  case assign => exact fun _ x => x.elim
  case body => exact fun _ _ x => x.elim
  case stop => exact fun _ _ _ _ _ h => h.elim
  case done =>
    rintro D ys W hD rfl ⟨hC, hc⟩ hK
    simp at hD
    gi_wp2
    refine ⟨by simp, .inl ⟨_, _, rfl, run_takeDeferred hK, ?_⟩⟩
    exact ⟨_, results_tmp rfl _ _ _, rfl, hC.grown (grownBy_putObj' _ D _) (fun k e => .inr (by cases e; omega))⟩

set_option maxRecDepth 100000 in
set_option maxHeartbeats 1000000 in
theorem law15_lives (w : World) :
    Calls Try.prog 21 #[] w fun e w' => e = .returned (.bool true) ∧ Chg [] w w' := by
  go_enter Try.func21, Try.ntmps21
  go_wp2_with fail
  refine (token_New _).mono ?_
  rintro e w1 ⟨p, mb, rfl, hl, hc, hf⟩
  go_wp2_with fail
  refine (token_Mint p mb _ 1 5 w1 hl LedOk.zero (by decide) (by decide)).mono ?_
  rintro e w2 ⟨rfl, hl2, hc2⟩
  have e1 : (Led.zero.mint 1 5) = (0, ⟨updM Led.zero.m 1 5, 5⟩) := rfl
  have ok1 := LedOk.zero.mint (k := 1) (a := 5) (by decide) (by decide) (by decide)
  rw [e1] at hl2 ok1 ⊢
  clear e1
  go_wp2_with fail
  refine (token_Move p mb _ 1 2 3 w2 hl2 ok1 (by decide) (by decide) (by decide)).mono ?_
  rintro e w3 ⟨rfl, hl3, hc3⟩
  have e1 : (Led.move (⟨updM Led.zero.m 1 5, 5⟩ : Led) 1 2 3) = (0, ⟨updM (updM (updM Led.zero.m 1 5) 1 2) 2 3, 5⟩) := rfl
  rw [e1] at hl3 ⊢
  clear e1
  go_wp2_with fail
  refine (token_Of p mb _ 1 w3 hl3 (by decide)).mono ?_
  rintro e w' ⟨rfl, rfl⟩
  go_wp2_with fail
  refine (token_Of p mb _ 2 w3 hl3 (by decide)).mono ?_
  rintro e w' ⟨rfl, rfl⟩
  go_wp2_with fail
  refine (token_Total p mb _ w3 hl3).mono ?_
  rintro e w' ⟨rfl, rfl⟩
  go_wp2
  go_ret
  have hf1 := hf p (by simp)
  have hf2 := hf mb (by simp)
  exact ⟨by simp [updM, Led.zero], (hc.trans hc2 (by simp [hf1, hf2])).trans hc3 (by simp [hf1, hf2])⟩

set_option maxRecDepth 100000 in
set_option maxHeartbeats 1000000 in
theorem law15_TokenNone (a b n : Int) (w : World) (_ : (Lit.int .u8 a).wf = true) (_ : (Lit.int .u8 b).wf = true) (_ : (Lit.int .u64 n).wf = true) :
    Calls Try.prog 5 #[.int .u8 a, .int .u8 b, .int .u64 n] w fun e w' => e = .returned (.bool true) ∧ Chg [] w w' := by
  go_enter Try.func5, Try.ntmps5
  go_wp2_with fail
  refine (law15_lives _).mono ?_
  rintro e w1 ⟨rfl, hc1⟩
  go_wp2_with (first
    | (go_at_call 26; refine (token_Mint_nil _ _ _).mono ?_; rintro e w' ⟨rfl, rfl⟩)
    | (go_at_call 27; refine (token_Burn_nil _ _ _).mono ?_; rintro e w' ⟨rfl, rfl⟩)
    | (go_at_call 28; refine (token_Move_nil _ _ _ _).mono ?_; rintro e w' ⟨rfl, rfl⟩)
    | (go_at_call 29; refine (token_Of_nil _ _).mono ?_; rintro e w' ⟨rfl, rfl⟩)
    | (go_at_call 30; refine (token_Total_nil _).mono ?_; rintro e w' ⟨rfl, rfl⟩))
  refine (token_All none w1).mono ?_
  rintro e w2 ⟨rfl, hw2⟩
  have hb := Blk.new w1 #[.pointer none] 38
  rw [← hw2] at hb
  have hc2 : Chg [] w1 w2 := by rw [hw2]; exact (Chg.refl _ _).alloc _
  clear hw2
  go_wp2_with fail
  refine (law15_all_nil _ w2 hb).mono ?_
  rintro e w3 ⟨rfl, hc3⟩
  go_wp2_with fail
  refine (token_Copy_nil w3).mono ?_
  rintro e w' ⟨rfl, rfl⟩
  go_wp2
  go_ret
  exact ⟨rfl, ((hc1.trans hc2 (by simp)).trans hc3 (by simp))⟩
end Go.Proofs.Ytbagkfeodjkdmaa

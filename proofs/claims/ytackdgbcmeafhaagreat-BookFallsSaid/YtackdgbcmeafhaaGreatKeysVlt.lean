/- maps.Keys at tVaultMap. -/
import Derived.Test.YtackdgbcmeafhaaGreatRange
namespace Go.Proofs.YtackdgbcmeafhaaGreat
open Go.RowKit Go.Maps Go.Shelf

set_option maxHeartbeats 400000 in
theorem keys_Vlt (mb : Option Nat) (w : World) :
    Calls Tryz.prog 92 #[.map mb] w fun e w' => e = .returned (.func (.func 123) #[] #[.pointer (some ⟨w.heap.size, 0, none⟩)]) ∧ w' = w.alloc (.cells #[.map mb] 95) := by
  go_enter Tryz.func92, Tryz.ntmps92
  go_wp2
  go_ret
  exact ⟨rfl, rfl⟩

set_option maxRecDepth 100000 in
set_option maxHeartbeats 2000000 in
theorem keys1_Vlt (F : Fence) (n : Nat) (hf : F.fn 123) (hro : F.round = none) (hn : 1 ≤ n) (Fx Bs : List Nat) (Bm b cnt : Nat) (f : Int → Option Value) (w : World) (hb : Blk w Bm #[.map (some b)] 95) (hm : MapV w 45 .u8 b cnt f)
    (it : ItPre Fx Bs w) (t1 : ¬ Tch Fx Bs w Bm) (t2 : ¬ Tch Fx Bs w b) :
    SeqStopsK F n Tryz.prog 123 #[.pointer (some ⟨Bm, 0, none⟩)] (fun x : Int => #[.int .u8 x]) (Kp Fx Bs) (fun xs => xs.Nodup ∧ ∀ x, x ∈ xs ↔ ((Lit.int .u8 x).wf = true ∧ (f x).isSome = true)) (fun _ => True) cnt w := fun lp J Jx W hW hJ hJx hY h0 => by
  have hc : Chg [] w W := .of_below' hW (Nat.le_refl _)
  have it' := it.chg hc (by simp)
  have t1' : ¬ Tch Fx Bs W Bm := fun h => t1 ((it.tch hc (by simp) Bm).1 h)
  have t2' : ¬ Tch Fx Bs W b := fun h => t2 ((it.tch hc (by simp) b).1 h)
  have hb' := hb.chg hc (by simp)
  have hm' := hm.chg hc (by simp)
  have c0 := hb'.cell 0 rfl
  clear hb hm it t1 t2 hc
  refine callsIn_of_wp Tryz.func123 rfl hf ?_ hro
  simp only [Tryz.ntmps123, List.size_toArray, List.length_cons, List.length_nil, Nat.reduceAdd, Nat.reduceSub, Array.replicate_succ, Array.replicate_zero, List.push_toArray, List.append_toArray, List.nil_append, List.cons_append]
  gi_wp2_with (first
    | (gi_at_range; refine wpListIn_range_v _ rfl _ 95 rfl 45 52 .u8 Tryz.underlying45 Tryz.underlying95 b cnt f rfl hm' ?_; intro w0 hrg0 hg0 hs0)
    | gi_in)
  have hchg0 : Chg [] W w0 := (Chg.refl [] W).grown hg0 (fun k e => by cases e)
  have it0 := it'.chg hchg0 (by simp)
  have ht0 : ∀ k, Tch Fx Bs w0 k ↔ Tch Fx Bs W k := fun k => it'.tch hchg0 (by simp) k
  have t20 : ¬ Tch Fx Bs w0 b := fun h => t2' ((ht0 b).1 h)
  have t30 : ¬ Tch Fx Bs w0 W.heap.size := fun h => absurd (it'.low _ ((ht0 _).1 h)) (by omega)
  have hr0 : W.heap.size < w0.heap.size := by omega
  have hJ0 : J [] w0 := hJ [] W w0 none h0 hg0 (fun r e => by cases e)
  gi_loopw [3] (fun _ wr => ∃ (ss : List Int) (c : Nat), RngV wr 45 .u8 b W.heap.size f ss c ∧ ss.length + c ≤ cnt ∧ J ss wr ∧ ItPre Fx Bs wr ∧ ¬ Tch Fx Bs wr b ∧ ¬ Tch Fx Bs wr W.heap.size)
    (fun _ wr => wr.rangeLeft b W.heap.size)
  case atStart =>
    exact ⟨[], cnt, hrg0, by simp, hJ0, it0, t20, t30⟩
  case round =>
    obtain ⟨ss, c, hrg, hcs, hJs, itr, tb, tr⟩ := hrel
    gi_wp2_with (first
      | (gi_at_next; refine wpListIn_next_v _ rfl _ rfl 45 .u8 Tryz.underlying45 b W.heap.size f ss c rfl hrg ?_ ?_)
      | gi_in)
    · intro hc0 hl0
      gi_wp2
      go_end0
      exact ⟨⟨_, rfl⟩, .inl ⟨ss, ⟨by obtain ⟨_, _, _, _, _, h, _⟩ := hrg; exact h, hl0⟩, hJs⟩⟩
    · intro x v w2 c2 hwx hfx hxs hrg2 hlt hg2 hs2 hen
      have hchg2 : Chg [W.heap.size] wr w2 := (Chg.refl _ wr).grown hg2 (fun k e => by cases e; simp)
      have hBs : ∀ B ∈ Bs, B ∉ [W.heap.size] := fun B hB e => tr (.inr (.inl (by simp at e; exact e ▸ hB)))
      have it2 := itr.chg hchg2 hBs
      have ht2 := fun k => itr.tch hchg2 hBs k
      have tb2 : ¬ Tch Fx Bs w2 b := fun h => tb ((ht2 b).1 h)
      have tr2 : ¬ Tch Fx Bs w2 W.heap.size := fun h => tr ((ht2 _).1 h)
      have hJ2 : J ss w2 := hJ ss wr w2 (some W.heap.size) hJs hg2 (fun r e => by cases e; exact ⟨Nat.le_refl _, hrg.walk⟩)
      have hbl : b < w2.heap.size := by obtain ⟨D, left, nn, ⟨es, clock, since, seen, c0, h1, _⟩, _⟩ := hrg2; exact (Array.getElem?_eq_some_iff.1 h1).1
      have hrl : W.heap.size < w2.heap.size := by obtain ⟨o, ho, _⟩ := hrg2.walk; exact (Array.getElem?_eq_some_iff.1 ho).1
      obtain ⟨fn, tmps, assign, body, hy, hR⟩ := hY ss x w2 hJ2 (by omega)
      clear hs2
      gi_wp2
      refine hR.mono ?_
      rintro e W3 (⟨rfl, hJ3, hk3⟩ | ⟨rfl, hJx3⟩)
      · gi_wp2
        have hrg3 := hrg2.kp hk3 tb2 tr2
        go_roundw
        case rel => exact ⟨ss ++ [x], c2, hrg3, by simp; omega, hJ3, it2.kp hk3, fun h => tb2 (hk3.old b hbl h), fun h => tr2 (hk3.old _ hrl h)⟩
        case measure => rw [hrg3.left_eq, hrg.left_eq]; exact hlt
      · gi_wp2
        refine bodyPost_ret (results_none rfl _ _ _) rfl ?_
        exact ⟨⟨_, rfl⟩, .inr ⟨ss ++ [x], trivial, hJx3⟩⟩
end Go.Proofs.YtackdgbcmeafhaaGreat

/- Package adjust: Median; pontagelaw11.lives. -/
import Derived.Test.YtbagkfeodjkdmaaCollu32
import Derived.Test.YtbagkfeodjkdmaaIter
import Derived.Test.YtbagkfeodjkdmaaRules
namespace Go.Proofs.Ytbagkfeodjkdmaa
open Go.RowKit Go.Maps Go.Shelf
attribute [local go_sem] Oper.semAt_some

set_option maxRecDepth 100000 in
set_option maxHeartbeats 2000000 in
theorem values1_u32 (F : Fence) (n : Nat) (hf : F.fn 172) (hro : F.round = none) (hn : 1 ≤ n) (Fx Bs : List Nat) (b : Nat) (v : Value) (l : List Int) (hl : l.length ≤ 1000000) (w : World) (hb : Blk w b #[v] 171) (hs : SlI w .u32 v l)
    (it : ItPre Fx Bs w) (t1 : ¬ Tch Fx Bs w b) (t2 : ∀ k, inBlk v k → ¬ Tch Fx Bs w k) :
    SeqStopsK F n Try.prog 172 #[.pointer (some ⟨b, 0, none⟩)] (fun x : Int => #[.int .u32 x]) (Kp Fx Bs) (fun xs => xs = l) (fun pre => pre <+: l) l.length w := fun lp J Jx W hW hJ hJx hY h0 => by
  have hc : Chg [] w W := .of_below' hW (Nat.le_refl _)
  have it' := it.chg hc (by simp)
  have t1' : ¬ Tch Fx Bs W b := fun h => t1 ((it.tch hc (by simp) b).1 h)
  have t2' : ∀ k, inBlk v k → ¬ Tch Fx Bs W k := fun k hk h => t2 k hk ((it.tch hc (by simp) k).1 h)
  have hb' := hb.chg hc (by simp)
  have hs' := hs.chg hc (by simp)
  have c0 := hb'.cell 0 rfl
  clear hb hs it t1 t2 hc
  obtain ⟨a, cap, rfl⟩ := hs'.len
  refine callsIn_of_wp Try.func172 rfl hf ?_ hro
  simp only [Try.ntmps172, List.size_toArray, List.length_cons, List.length_nil, Nat.reduceAdd, Nat.reduceSub, Array.replicate_succ, Array.replicate_zero, List.push_toArray, List.append_toArray, List.nil_append, List.cons_append]
  gi_wp2
  gi_loopw [7] (fun i wr => ∃ k : Nat, k ≤ l.length ∧ i = .int .i64 k ∧ J (l.take k) wr ∧ Kp Fx Bs W wr) (fun i _ => l.length - (intOf i).toNat)
  case atStart => exact ⟨0, Nat.zero_le _, rfl, by simpa using h0, Kp.refl _ _ _⟩
  case round =>
    obtain ⟨k, hk, rfl, hJs, hkp⟩ := hrel
    by_cases hlt : k < l.length
    · obtain ⟨bb, off, rfl, hcell⟩ := (hs'.kp hkp t2').cell hlt
      obtain ⟨fn, tmps, assign, body, hy, hR⟩ := hY _ l[k] wr hJs (by rw [List.length_take]; omega)
      gi_wp2
      refine hR.mono ?_
      rintro e W3 (⟨rfl, hJ3, hk3⟩ | ⟨rfl, hJx3⟩)
      · gi_wp2
        go_roundw
        case rel => exact ⟨k + 1, by omega, by simp, by rw [take_succ_getD l hlt]; exact hJ3, hkp.trans hk3⟩
        case measure => simp [intOf]; omega
      · gi_wp2
        refine bodyPost_ret (results_none rfl _ _ _) rfl ?_
        exact ⟨⟨_, rfl⟩, .inr ⟨l.take (k + 1), List.take_prefix _ _, by rw [take_succ_getD l hlt]; exact hJx3⟩⟩
    · obtain rfl : k = l.length := by omega
      gi_wp2
      go_end0
      exact ⟨⟨_, rfl⟩, .inl ⟨l, rfl, by simpa using hJs⟩⟩


set_option maxHeartbeats 400000 in
theorem Values_u32 (a : Option Addr) (n c : Nat) (w : World) : Calls Try.prog 145 #[.slice a n c] w fun e w' => e = .returned (.func (.func 172) #[] #[.pointer (some ⟨w.heap.size, 0, none⟩)]) ∧ w' = w.alloc (.cells #[.slice a n c] 171) := by
  go_enter Try.func145, Try.ntmps145
  go_wp2
  go_ret
  exact ⟨rfl, rfl⟩

set_option maxHeartbeats 1000000 in
theorem sorted_vals (B : Nat) (v : Value) (ys : List Int) (w : World) (hB : Blk w B #[v] 171) (hs : SlI w .u32 v ys) (hl : ys.length ≤ 1000000) :
    Calls Try.prog 144 #[.func (.func 172) #[] #[.pointer (some ⟨B, 0, none⟩)]] w fun e w' => ∃ u, e = .returned u ∧ SlI w' .u32 u (srt ys) ∧ Chg [] w w' := by
  have hlt := hB.lt
  have hc : Chg [] w (w.alloc (.cells #[.slice none 0 0] 171)) := (Chg.refl _ _).alloc _
  have hcell : (w.alloc (.cells #[.slice none 0 0] 171)).cell? ⟨w.heap.size, 0, none⟩ = some (.slice none 0 0) := (Blk.new w #[.slice none 0 0] 171).cell 0 rfl
  have ht : ∀ k, Tch [] [w.heap.size] (w.alloc (.cells #[.slice none 0 0] 171)) k → k = w.heap.size := by
    rintro k (h | h | ⟨B, hB, o, n, q, h⟩)
    · cases h
    · simpa using h
    · simp at hB; subst hB; rw [hcell] at h; simp at h
  have hin : ∀ k, inBlk v k → k < w.heap.size := by
    rintro k ⟨o, n, c, rfl⟩
    rcases hs with ⟨e, _⟩ | ⟨b, off, cap, cs, t, e, hb, _⟩
    · cases e
    · cases e; exact hb.lt
  refine (sorted_u32 172 _ (enters_of Try.func172 (by kernel_rfl) rfl) _ _ ys.length hl w
    (values1_u32 Fence.wide 2 trivial rfl (by omega) [] [w.heap.size] B v ys hl _ (hB.alloc _) (hs.chg hc (by simp)) ⟨by simp, fun k hk => by rw [ht k hk]; simp⟩ (fun h => by have := ht _ h; omega) (fun k hk h => by have := hin k hk; have := ht k h; omega))).mono ?_
  rintro e w' ⟨u, xs, he, hxs, hs', hf, hc', hk⟩
  subst hxs
  exact ⟨u, he, hs', hc'⟩

set_option maxRecDepth 100000 in
set_option maxHeartbeats 2000000 in
theorem adjust_Median (v : Value) (l : List Int) (w : World) (hs : SlI w .u32 v l) (hl : l.length ≤ 1000000) (h0 : 0 < l.length) :
    Calls Try.prog 102 #[v] w fun e w' => e = .returned (.int .u32 ((srt l).getD (l.length / 2) 0)) ∧ Chg [] w w' := by
  obtain ⟨a, cap, rfl⟩ := hs.len
  go_enter Try.func102, Try.ntmps102
  have hz : ((l.length : Int) == 0) = false := by simp; intro h; simp [h] at h0
  have hne : l ≠ [] := by rintro rfl; simp at h0
  go_wp2_with (go_at_call 145; refine (Values_u32 _ _ _ _).mono ?_; rintro e w' ⟨rfl, rfl⟩)
  have hB := Blk.new w #[.slice a l.length cap] 171
  have hs1 := hs.chg ((Chg.refl [] w).alloc (.cells #[.slice a l.length cap] 171)) (by simp)
  have hc1 := (Chg.refl [] w).alloc (.cells #[.slice a l.length cap] 171)
  generalize w.alloc (.cells #[.slice a l.length cap] 171) = w1 at *
  refine (sorted_vals _ _ _ _ hB hs1 hl).mono ?_
  rintro e w2 ⟨u, rfl, hs2, hc2⟩
  obtain ⟨a2, cap2, rfl⟩ := hs2.len
  have hi : l.length / 2 < (srt l).length := by rw [srt_length]; omega
  obtain ⟨b, off, rfl, hcell⟩ := hs2.cell hi
  have hg : (srt l).getD (l.length / 2) 0 = (srt l)[l.length / 2] := by simp [List.getD, hi]
  generalize (srt l)[l.length / 2] = r at *
  rw [srt_length] at *
  go_wp2
  go_ret
  exact ⟨by rw [hg]; rfl, hc1.trans hc2 (by simp)⟩
end Go.Proofs.Ytbagkfeodjkdmaa

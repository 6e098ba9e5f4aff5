/- A table that isn't there: the law DueNone's walk. -/
import Derived.Test.YtbagkfeodjkdmaaDue
import Derived.Test.YtbagkfeodjkdmaaDigsOver
namespace Go.Proofs.Ytbagkfeodjkdmaa
open Go.RowKit Go.Maps Go.Shelf
attribute [local go_sem] Oper.semAt_some

set_option maxHeartbeats 400000 in
theorem due_Add_nil (x : ByteArray) (d : Int) (w : World) : Calls Try.prog 17 #[.pointer none, .string x, .int .u64 d] w fun e w' => e = .returned (.tuple #[.int .u64 0, .int .i64 1]) ∧ w = w' := by
  go_enter Try.func17, Try.ntmps17
  go_wp2
  go_ret2
  exact ⟨rfl, rfl⟩
set_option maxHeartbeats 400000 in
theorem due_Get_nil (k : Int) (w : World) : Calls Try.prog 65 #[.pointer none, .int .u64 k] w fun e w' => e = .returned (.tuple #[.string ⟨#[]⟩, .int .u64 0, .bool false]) ∧ w = w' := by
  go_enter Try.func65, Try.ntmps65
  go_wp2
  go_ret3
  exact ⟨rfl, rfl⟩
set_option maxHeartbeats 400000 in
theorem due_Set_nil (k : Int) (x : ByteArray) (w : World) : Calls Try.prog 61 #[.pointer none, .int .u64 k, .string x] w fun e w' => e = .returned (.int .i64 1) ∧ w = w' := by
  go_enter Try.func61, Try.ntmps61
  go_wp2
  go_ret
  exact ⟨rfl, rfl⟩
set_option maxHeartbeats 400000 in
theorem due_Drop_nil (k : Int) (w : World) : Calls Try.prog 60 #[.pointer none, .int .u64 k] w fun e w' => e = .returned (.int .i64 1) ∧ w = w' := by
  go_enter Try.func60, Try.ntmps60
  go_wp2
  go_ret
  exact ⟨rfl, rfl⟩
set_option maxHeartbeats 400000 in
theorem due_Late_nil (k n : Int) (w : World) : Calls Try.prog 63 #[.pointer none, .int .u64 k, .int .u64 n] w fun e w' => e = .returned (.bool false) ∧ w = w' := by
  go_enter Try.func63, Try.ntmps63
  go_wp2
  go_ret
  exact ⟨rfl, rfl⟩
set_option maxHeartbeats 400000 in
theorem due_Len_nil (w : World) : Calls Try.prog 70 #[.pointer none] w fun e w' => e = .returned (.int .i64 0) ∧ w = w' := by
  go_enter Try.func70, Try.ntmps70
  go_wp2
  go_ret
  exact ⟨rfl, rfl⟩
set_option maxHeartbeats 400000 in
theorem due_Last_nil (w : World) : Calls Try.prog 67 #[.pointer none] w fun e w' => e = .returned (.int .u64 0) ∧ w = w' := by
  go_enter Try.func67, Try.ntmps67
  go_wp2
  go_ret
  exact ⟨rfl, rfl⟩
set_option maxHeartbeats 400000 in
theorem due_Copy_nil (w : World) : Calls Try.prog 64 #[.pointer none] w fun e w' => e = .returned (.pointer none) ∧ w = w' := by
  go_enter Try.func64, Try.ntmps64
  go_wp2
  go_ret
  exact ⟨rfl, rfl⟩
set_option maxHeartbeats 400000 in
theorem due_All (p : Option Addr) (w : World) : Calls Try.prog 69 #[.pointer p] w fun e w' => e = .returned (.func (.func 117) #[] #[.pointer (some ⟨w.heap.size, 0, none⟩)]) ∧ w' = w.alloc (.cells #[.pointer p] 25) := by
  go_enter Try.func69, Try.ntmps69
  go_wp2
  go_ret
  exact ⟨rfl, rfl⟩
set_option maxHeartbeats 400000 in
theorem Values_u64 (a : Option Addr) (n c : Nat) (w : World) : Calls Try.prog 82 #[.slice a n c] w fun e w' => e = .returned (.func (.func 136) #[] #[.pointer (some ⟨w.heap.size, 0, none⟩)]) ∧ w' = w.alloc (.cells #[.slice a n c] 22) := by
  go_enter Try.func82, Try.ntmps82
  go_wp2
  go_ret
  exact ⟨rfl, rfl⟩
set_option maxHeartbeats 400000 in
theorem due_Over_nil (n : Int) (w : World) : Calls Try.prog 19 #[.pointer none, .int .u64 n] w fun e w' => e = .returned (.func (.func 136) #[] #[.pointer (some ⟨w.heap.size + 1, 0, none⟩)]) ∧ Blk w' (w.heap.size + 1) #[.slice none 0 0] 22 ∧ Chg [] w w' := by
  go_enter Try.func19, Try.ntmps19
  go_wp2_with (go_at_call 82; refine (Values_u64 _ _ _ _).mono ?_; rintro e w' ⟨rfl, rfl⟩)
  go_ret
  exact ⟨by simp, by simpa using Blk.new (w.alloc (.cells #[.pointer none] 25)) #[.slice none 0 0] 22, ((Chg.refl [] w).alloc _).alloc _⟩

set_option maxHeartbeats 400000 in
theorem due_All1_nil (F : Fence) (n : Nat) (h6 : F.fn 117) (hro : F.round = none) (b : Nat) (w : World) (hb : Blk w b #[.pointer none] 25) (encs : Empty → Array Value) (Kp : World → World → Prop) :
    SeqStopsK F n Try.prog 117 #[.pointer (some ⟨b, 0, none⟩)] encs Kp (fun xs => xs = []) (fun _ => False) 0 w := fun l J Jx W hW hJ hJx hY h0 => by
  have c0 : W.cell? ⟨b, 0, none⟩ = some (.pointer none) := (hW.cell (p := ⟨b, 0, none⟩) hb.lt).trans (hb.cell 0 rfl)
  refine callsIn_of_wp Try.func117 rfl h6 ?_ hro
  simp only [Try.ntmps117, List.size_toArray, List.length_cons, List.length_nil, Nat.reduceAdd, Nat.reduceSub, Array.replicate_succ, Array.replicate_zero, List.push_toArray, List.append_toArray, List.nil_append, List.cons_append]
  gi_wp2
  refine bodyPost_ret (results_none rfl _ _ _) rfl ?_
  exact ⟨⟨_, rfl⟩, .inl ⟨[], rfl, h0⟩⟩

set_option maxRecDepth 100000 in
set_option maxHeartbeats 1000000 in
theorem law18_all_nil (b : Nat) (w : World) (hb : Blk w b #[.pointer none] 25) :
    Calls Try.prog 68 #[.func (.func 117) #[] #[.pointer (some ⟨b, 0, none⟩)]] w fun e w' => e = .returned (.tuple #[.slice none 0 0, .slice none 0 0]) ∧ Chg [] w w' := by
  refine (callsIn_wide (n := 3)).1 ?_
  refine callsIn_of_wp_marks Try.func68 rfl trivial ?_ rfl
  simp only [Try.ntmps68, List.size_toArray, List.length_cons, List.length_nil, Nat.reduceAdd, Nat.reduceSub, Array.replicate_succ, Array.replicate_zero, List.push_toArray, List.append_toArray, List.nil_append, List.cons_append]
  gi_wp2
  have hc1 : Chg [] w ((w.alloc (.cells #[.slice none 0 0] 22)).alloc (.cells #[.slice none 0 0] 122)) := ((Chg.refl [] w).alloc _).alloc _
  have hb1 := hb.chg hc1 (by simp)
  have hx : Blk ((w.alloc (.cells #[.slice none 0 0] 22)).alloc (.cells #[.slice none 0 0] 122)) w.heap.size #[.slice none 0 0] 22 := (Blk.new w #[.slice none 0 0] 22).alloc _
  have hy : Blk ((w.alloc (.cells #[.slice none 0 0] 22)).alloc (.cells #[.slice none 0 0] 122)) (w.heap.size + 1) #[.slice none 0 0] 122 := by simpa using Blk.new (w.alloc (.cells #[.slice none 0 0] 22)) #[.slice none 0 0] 122
  refine wpIn_rangeFunc_ownF rfl (by omega) (gf := 117) (lb := #[.pointer (some ⟨b, 0, none⟩)]) rfl trivial (enters_of Try.func117 (by kernel_rfl) rfl)
    (due_All1_nil Fence.wide _ trivial rfl b _ hb1 (fun x => x.elim) KeepsWalks) walksK_t walksK_b (Below.refl _ _) (fun x => x.elim)
    (fun pre W => Chg [] w W ∧ Blk W w.heap.size #[.slice none 0 0] 22 ∧ Blk W (w.heap.size + 1) #[.slice none 0 0] 122) (fun _ _ _ => False) ?hI ?hIx ?h0 (fun _ => { tmps := #[], defers := [] }) ?assign ?body ?done ?stop
  case hI => exact fun s A B row hs hg hr => ⟨hs.1.grown hg (fun k e => .inr (by have := (hr k e).1; simp at this; omega)), hs.2.1.own hg (fun r e => (hr r e).2), hs.2.2.own hg (fun r e => (hr r e).2)⟩
  case hIx => exact fun _ _ _ _ _ hs _ _ => hs
  case h0 => exact ⟨hc1, hx, hy⟩
  case assign => exact fun _ x => x.elim
  case body => exact fun _ _ x => x.elim
  case stop => exact fun _ _ _ _ _ h => h.elim
  case done =>
    rintro D ys W hD rfl ⟨hC, hb0, hb2⟩ hK
    simp at hD
    have c0 := hb0.cell 0 rfl
    have c2 := hb2.cell 0 rfl
    gi_wp2
    gi_region
    all_goals gi_wp2
    have hK2 : W.drew.heap[D]? = some (.deferred (some [])) := hK
    refine ⟨by simp, .inl ⟨_, _, rfl, run_takeDeferred hK2, ?_⟩⟩
    exact ⟨_, results_tmp2 rfl _ _ _, rfl, hC.drew.grown (grownBy_putObj' _ D _) (fun k e => .inr (by cases e; omega))⟩

set_option maxRecDepth 100000 in
set_option maxHeartbeats 1000000 in
theorem law18_lives (w : World) : Calls Try.prog 15 #[] w fun e w' => e = .returned (.bool true) ∧ Chg [] w w' := by
  go_enter Try.func15, Try.ntmps15
  go_wp2_with fail
  refine (due_New 2 _ (by decide) (by decide)).mono ?_
  rintro e w1 ⟨p, mb, rfl, h1, hc1, hf⟩
  have hf1 := hf p (by simp)
  have hf2 := hf mb (by simp)
  go_wp2_with fail
  refine (due_Add p mb _ ⟨#[97]⟩ 5 w1 h1 (TabOk.new 2 (by decide) (by decide)) (by decide)).mono ?_
  rintro e w2 ⟨rfl, h2, hc2⟩
  have e1 : (Tab.new 2).add ⟨#[97]⟩ 5 = (1, 0, ⟨2, 1, fun k => if k = 1 then some (⟨#[97]⟩, 5) else none, 1⟩) := rfl
  rw [e1] at h2 ⊢
  clear e1
  go_wp2_with fail
  refine (due_Late p mb _ 1 5 w2 h2 (by decide)).mono ?_
  rintro e w3 ⟨rfl, hc3⟩
  go_wp2_with fail
  refine (due_Late p mb _ 1 6 w3 (h2.same hc3) (by decide)).mono ?_
  rintro e w4 ⟨rfl, hc4⟩
  go_wp2
  go_ret
  exact ⟨rfl, ((hc1.trans hc2 (by simp [hf1, hf2])).trans hc3 (by simp)).trans hc4 (by simp)⟩

set_option maxRecDepth 100000 in
set_option maxHeartbeats 1000000 in
theorem law18_DueNone (id now : Int) (x : ByteArray) (w : World) (_ : (Lit.int .u64 id).wf = true) (_ : (Lit.int .u64 now).wf = true) (_ : x.size ≤ maxLen) :
    Calls Try.prog 13 #[.int .u64 id, .int .u64 now, .string x] w fun e w' => e = .returned (.bool true) ∧ Chg [] w w' := by
  go_enter Try.func13, Try.ntmps13
  go_wp2_with fail
  refine (law18_lives _).mono ?_
  rintro e w1 ⟨rfl, hc1⟩
  go_wp2_with (first
    | (go_at_call 17; refine (due_Add_nil _ _ _).mono ?_; rintro e w' ⟨rfl, rfl⟩)
    | (go_at_call 65; refine (due_Get_nil _ _).mono ?_; rintro e w' ⟨rfl, rfl⟩))
  refine (due_All none w1).mono ?_
  rintro e w2 ⟨rfl, hw2⟩
  have hb := Blk.new w1 #[.pointer none] 25
  rw [← hw2] at hb
  have hc2 : Chg [] w1 w2 := by rw [hw2]; exact (Chg.refl _ _).alloc _
  clear hw2
  go_wp2_with fail
  refine (law18_all_nil _ w2 hb).mono ?_
  rintro e w3 ⟨rfl, hc3⟩
  go_wp2_with (first
    | (go_at_call 61; refine (due_Set_nil _ _ _).mono ?_; rintro e w' ⟨rfl, rfl⟩)
    | (go_at_call 60; refine (due_Drop_nil _ _).mono ?_; rintro e w' ⟨rfl, rfl⟩)
    | (go_at_call 63; refine (due_Late_nil _ _ _).mono ?_; rintro e w' ⟨rfl, rfl⟩))
  refine (due_Over_nil _ w3).mono ?_
  rintro e w4 ⟨rfl, hb4, hc4⟩
  have hb4' : Blk (w4.alloc (.cells #[.slice none 0 0] 22)) (w3.heap.size + 1) #[.slice none 0 0] 22 := hb4.alloc _
  have hlt := hb4.lt
  have it : ItPre [] [w4.heap.size] (w4.alloc (.cells #[.slice none 0 0] 22)) := by
    refine ⟨by simp, ?_⟩
    rintro k (h | h | ⟨B, hB, o, n, c, h⟩)
    · cases h
    · obtain rfl : k = w4.heap.size := by simpa using h
      simp
    · obtain rfl : B = w4.heap.size := by simpa using hB
      rw [(Boxed.new w4 22 (.slice none 0 0)).cell] at h
      cases h
  have hnt : ¬ Tch [] [w4.heap.size] (w4.alloc (.cells #[.slice none 0 0] 22)) (w3.heap.size + 1) := by
    rintro (h | h | ⟨B, hB, o, n, c, h⟩)
    · cases h
    · have : w3.heap.size + 1 = w4.heap.size := by simpa using h
      omega
    · obtain rfl : B = w4.heap.size := by simpa using hB
      rw [(Boxed.new w4 22 (.slice none 0 0)).cell] at h
      cases h
  go_wp2_with fail
  refine (law18_over 136 #[.pointer (some ⟨w3.heap.size + 1, 0, none⟩)] (enters_of Try.func136 (by kernel_rfl) rfl) _ _ _ (by decide) w4
    (values1_u64 Fence.wide 2 trivial rfl (by omega) [] [w4.heap.size] (w3.heap.size + 1) (.slice none 0 0) [] (by decide) _ hb4' (.inl ⟨rfl, rfl⟩) it hnt (by rintro k ⟨o, n, c, h⟩; cases h))).mono ?_
  rintro e w5 ⟨v, xs, rfl, rfl, hs, _, hc5⟩
  obtain ⟨a, cap, rfl⟩ := hs.len
  go_wp2_with (first
    | (go_at_call 70; refine (due_Len_nil _).mono ?_; rintro e w' ⟨rfl, rfl⟩)
    | (go_at_call 67; refine (due_Last_nil _).mono ?_; rintro e w' ⟨rfl, rfl⟩)
    | (go_at_call 64; refine (due_Copy_nil _).mono ?_; rintro e w' ⟨rfl, rfl⟩))
  go_ret
  exact ⟨rfl, (((hc1.trans hc2 (by simp)).trans hc3 (by simp)).trans hc4 (by simp)).trans hc5 (by simp)⟩
end Go.Proofs.Ytbagkfeodjkdmaa

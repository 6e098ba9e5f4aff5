/- Package due: Len, Last, Get, Set, Drop. -/
import Derived.Test.YtbagkfeodjkdmaaDueCmp
import Derived.Deep.DeepCutAuto
namespace Go.Proofs.Ytbagkfeodjkdmaa
open Go.RowKit Go.Maps

set_option maxHeartbeats 1000000 in
theorem due_Len (p mb : Nat) (T : Tab) (w : World) (h : TabAt w p mb T) :
    Calls Try.prog 70 #[.pointer (some ⟨p, 0, none⟩)] w fun e w' => e = .returned (.int .i64 T.cnt) ∧ Chg [] w w' := by
  obtain ⟨hb, hne, hm⟩ := h
  have c2 := hb.cell 2 rfl
  have hlen := fun ty => hm.len Try.underlying140 ty
  go_enter Try.func70, Try.ntmps70
  go_wp2
  go_ret
  exact ⟨rfl, Chg.refl _ _⟩
set_option maxHeartbeats 1000000 in
theorem due_Last (p mb : Nat) (T : Tab) (w : World) (h : TabAt w p mb T) :
    Calls Try.prog 67 #[.pointer (some ⟨p, 0, none⟩)] w fun e w' => e = .returned (.int .u64 T.last) ∧ Chg [] w w' := by
  obtain ⟨hb, hne, hm⟩ := h
  have c1 := hb.cell 1 rfl
  go_enter Try.func67, Try.ntmps67
  go_wp2
  go_ret
  exact ⟨rfl, Chg.refl _ _⟩

set_option maxRecDepth 100000 in
set_option maxHeartbeats 1000000 in
theorem due_Get (p mb : Nat) (T : Tab) (k : Int) (w : World) (h : TabAt w p mb T) (hk : (Lit.int .u64 k).wf = true) :
    Calls Try.prog 65 #[.pointer (some ⟨p, 0, none⟩), .int .u64 k] w fun e w' => e = .returned (.tuple #[.string (T.xOf k), .int .u64 (T.dueOf k), .bool (T.f k).isSome]) ∧ Chg [] w w' := by
  obtain ⟨hb, hne, hm⟩ := h
  have c2 := hb.cell 2 rfl
  unfold Tab.xOf Tab.dueOf
  cases hf : T.f k with
  | none =>
    go_enter Try.func65, Try.ntmps65
    go_wp2_with (at_lookup; refine wpList_look_ok_v _ rfl _ _ 140 rfl 23 144 .u64 Try.underlying23 Try.underlying140 _ (zEntry _) mb _ _ hm rfl k rfl hk ?_; rw [hf]; simp only [Option.map_none, Option.getD_none, Option.isSome_none])
    go_quiet (fail)
    go_wp2
    exact bodyPost_ret (v := .tuple #[.string ⟨#[]⟩, .int .u64 0, .bool false]) (by simp [results, Try.results65, go_sem]) rfl ⟨rfl, ((Chg.refl _ _).alloc _).drewN _⟩
  | some x =>
    obtain ⟨x, d⟩ := x
    go_enter Try.func65, Try.ntmps65
    go_wp2_with (at_lookup; refine wpList_look_ok_v _ rfl _ _ 140 rfl 23 144 .u64 Try.underlying23 Try.underlying140 _ (zEntry _) mb _ _ hm rfl k rfl hk ?_; rw [hf]; simp only [Option.map_some, Option.getD_some, Option.isSome_some, encD])
    go_quiet (fail)
    go_wp2
    exact bodyPost_ret (v := .tuple #[.string x, .int .u64 d, .bool true]) (by simp [results, Try.results65, go_sem]) rfl ⟨rfl, ((Chg.refl _ _).alloc _).drewN _⟩

def Tab.drop (T : Tab) (k : Int) : Int × Tab := if (T.f k).isSome then (0, ⟨T.most, T.last, fun y => if y = k then none else T.f y, T.cnt - 1⟩) else (12, T)
def Tab.set (T : Tab) (k : Int) (x : ByteArray) : Int × Tab := if (T.f k).isSome then (0, ⟨T.most, T.last, fun y => if y = k then some (x, T.dueOf k) else T.f y, T.cnt⟩) else (12, T)

set_option maxRecDepth 100000 in
set_option maxHeartbeats 1000000 in
theorem due_Drop (p mb : Nat) (T : Tab) (k : Int) (w : World) (h : TabAt w p mb T) (hk : (Lit.int .u64 k).wf = true) :
    Calls Try.prog 60 #[.pointer (some ⟨p, 0, none⟩), .int .u64 k] w fun e w' => e = .returned (.int .i64 (T.drop k).1) ∧ TabAt w' p mb (T.drop k).2 ∧ Chg [mb] w w' := by
  have h00 := h
  obtain ⟨hb, hne, hm⟩ := h
  have c2 := hb.cell 2 rfl
  unfold Tab.drop
  cases hf : T.f k with
  | none =>
    simp only [Option.isSome_none]
    go_enter Try.func60, Try.ntmps60
    go_wp2_with (at_lookup; refine wpList_look_ok_v _ rfl _ _ 140 rfl 23 144 .u64 Try.underlying23 Try.underlying140 _ (zEntry _) mb _ _ hm rfl k rfl hk ?_; rw [hf]; simp only [Option.map_none, Option.getD_none, Option.isSome_none])
    go_ret
    exact ⟨rfl, h00.same ((Chg.refl _ _).alloc _), (Chg.refl _ _).alloc _⟩
  | some x =>
    simp only [Option.isSome_some, if_true]
    have hm2 := hm.chg ((Chg.refl [] w).alloc (.cells #[.string x.1, .int .u64 x.2] 144)) (by simp)
    have hb2 := hb.alloc (.cells #[.string x.1, .int .u64 x.2] 144)
    have c22 := hb2.cell 2 rfl
    have hd2 := (Chg.refl [mb] w).alloc (.cells #[.string x.1, .int .u64 x.2] 144)
    go_enter Try.func60, Try.ntmps60
    go_wp2_with (first
      | (at_lookup; refine wpList_look_ok_v _ rfl _ _ 140 rfl 23 144 .u64 Try.underlying23 Try.underlying140 _ (zEntry _) mb _ _ hm rfl k rfl hk ?_; rw [hf]; simp only [Option.map_some, Option.getD_some, Option.isSome_some, encD])
      | (at_delete; refine wpList_del_v _ rfl _ _ 140 23 rfl 144 .u64 Try.underlying23 Try.underlying140 mb T.cnt _ hm2 rfl k rfl hk ?_; intro w1 hm1 ht1))
    go_ret
    rw [hf] at hm1
    have hd5 := hd2.turned ht1 (by simp)
    exact ⟨rfl, ⟨hb.chg hd5 (by simp [hne]), hne, (hm1.congr (fun y _ => by by_cases e : y = k <;> simp [e]))⟩, hd5⟩
set_option maxRecDepth 100000 in
set_option maxHeartbeats 1000000 in
theorem due_Set (p mb : Nat) (T : Tab) (k : Int) (z : ByteArray) (w : World) (h : TabAt w p mb T) (hk : (Lit.int .u64 k).wf = true) (hcnt : T.cnt < 1000000) :
    Calls Try.prog 61 #[.pointer (some ⟨p, 0, none⟩), .int .u64 k, .string z] w fun e w' => e = .returned (.int .i64 (T.set k z).1) ∧ TabAt w' p mb (T.set k z).2 ∧ Chg [mb] w w' := by
  have h00 := h
  obtain ⟨hb, hne, hm⟩ := h
  have c2 := hb.cell 2 rfl
  unfold Tab.set
  cases hf : T.f k with
  | none =>
    simp only [Option.isSome_none]
    go_enter Try.func61, Try.ntmps61
    go_wp2_with (at_lookup; refine wpList_look_ok_v _ rfl _ _ 140 rfl 23 144 .u64 Try.underlying23 Try.underlying140 _ (zEntry _) mb _ _ hm rfl k rfl hk ?_; rw [hf]; simp only [Option.map_none, Option.getD_none, Option.isSome_none])
    go_ret
    exact ⟨rfl, h00.same ((Chg.refl _ _).alloc _), (Chg.refl _ _).alloc _⟩
  | some x =>
    simp only [Option.isSome_some, if_true]
    have hdu : T.dueOf k = x.2 := by simp [Tab.dueOf, hf]
    have hm2 := hm.chg ((Chg.refl [] w).alloc (.cells #[.string x.1, .int .u64 x.2] 144)) (by simp)
    have hb2 := hb.alloc (.cells #[.string x.1, .int .u64 x.2] 144)
    have hN := Blk.new w #[.string x.1, .int .u64 x.2] 144
    have hd2 := (Chg.refl [mb] w).alloc (.cells #[.string x.1, .int .u64 x.2] 144)
    go_enter Try.func61, Try.ntmps61
    go_upto_region 6 with (at_lookup; refine wpList_look_ok_v _ rfl _ _ 140 rfl 23 144 .u64 Try.underlying23 Try.underlying140 _ (zEntry _) mb _ _ hm rfl k rfl hk ?_; rw [hf]; simp only [Option.map_some, Option.getD_some, Option.isSome_some, encD])
    generalize w.alloc (.cells #[.string x.1, .int .u64 x.2] 144) = w4 at hm2 hb2 hN hd2 ⊢
    clear c2 hm
    have c2 := hb2.cell 2 rfl
    have n1 := hN.cell 1 rfl
    go_still_tail 9, (by kernel_rfl)
    go_wp2_with (at_mapUpdate; refine wpList_upd_v _ rfl _ _ _ 140 rfl 23 144 .u64 Try.underlying23 Try.underlying140 mb T.cnt _ hm2.drew (by unfold maxLen; omega) rfl k (.agg #[.string z, .int .u64 x.2]) rfl rfl hk ?_; intro w5 hm5 ht5)
    go_ret
    rw [hf] at hm5
    have hd5 := hd2.drew.turned ht5 (by simp)
    exact ⟨rfl, ⟨hb.chg hd5 (by simp [hne]), hne, (hm5.congr (fun y _ => by by_cases e : y = k <;> simp [e, encD, hdu]))⟩, hd5⟩
end Go.Proofs.Ytbagkfeodjkdmaa

/- Package due, at texts: the table's functions, each by a contract. -/
import Derived.Test.YtbagkfeodjkdmaaToken2
namespace Go.Proofs.Ytbagkfeodjkdmaa
open Go.RowKit Go.Maps

def encD (x : ByteArray × Int) : Value := .agg #[.string x.1, .int .u64 x.2]
theorem zEntry (w : World) : (zeroValue 144).run Try.prog w = .ok (.agg #[.string ⟨#[]⟩, .int .u64 0]) w := by kernel_rfl

/-- what a table holds -/
structure Tab where
  most : Int
  last : Int
  f : Int → Option (ByteArray × Int)
  cnt : Nat
structure TabAt (w : World) (p mb : Nat) (T : Tab) : Prop where
  blk : Blk w p #[.int .i64 T.most, .int .u64 T.last, .map (some mb)] 142
  ne : p ≠ mb
  map : MapV w 23 .u64 mb T.cnt (fun k => (T.f k).map encD)
theorem TabAt.chg {w w' : World} {p mb : Nat} {T : Tab} {S : List Nat} (h : TabAt w p mb T) (c : Chg S w w') (hp : p ∉ S) (hm : mb ∉ S) : TabAt w' p mb T :=
  ⟨h.blk.chg c hp, h.ne, h.map.chg c hm⟩
theorem TabAt.same {w w' : World} {p mb : Nat} {T : Tab} (h : TabAt w p mb T) (c : Chg [] w w') : TabAt w' p mb T := h.chg c (by simp) (by simp)

structure TabOk (T : Tab) : Prop where
  m0 : 1 ≤ T.most
  m1 : T.most ≤ 256
  cm : (T.cnt : Int) ≤ T.most
  l0 : 0 ≤ T.last
  l1 : T.last ≤ 1000000
  key : ∀ k x, T.f k = some x → 1 ≤ k ∧ k ≤ T.last
  due : ∀ k x, T.f k = some x → 0 ≤ x.2 ∧ x.2 ≤ 1099511627776

def Tab.new (most : Int) : Tab := ⟨most, 0, fun _ => none, 0⟩

set_option maxHeartbeats 400000 in
theorem due_New (most : Int) (w : World) (h0 : 1 ≤ most) (h1 : most ≤ 256) :
    Calls Try.prog 16 #[.int .i64 most] w fun e w' => ∃ p mb, e = .returned (.tuple #[.pointer (some ⟨p, 0, none⟩), .int .i64 0]) ∧ TabAt w' p mb (Tab.new most) ∧ Chg [] w w' ∧ Fresh w [p, mb] := by
  have hmm := @run_makeMap Try.prog
  go_enter Try.func16, Try.ntmps16
  go_wp2
  go_ret2
  have hb := Blk.new (w.alloc (.map #[] 0)) #[.int .i64 most, .int .u64 0, .map (some w.heap.size)] 142
  have hm := (MapV.made w 23 .u64).alloc (.cells #[.int .i64 most, .int .u64 0, .map (some w.heap.size)] 142)
  exact ⟨w.heap.size + 1, w.heap.size, rfl, ⟨by simpa [Tab.new] using hb, by omega, hm⟩, ((Chg.refl [] w).alloc _).alloc _, by simp [Fresh]⟩

set_option maxHeartbeats 400000 in
theorem due_New_bad (most : Int) (w : World) (h0 : most < 1 ∨ 256 < most) :
    Calls Try.prog 16 #[.int .i64 most] w fun e w' => e = .returned (.tuple #[.pointer none, .int .i64 1]) ∧ w = w' := by
  by_cases h : most < 1
  · go_enter Try.func16, Try.ntmps16
    go_wp2
    go_ret2
    exact ⟨rfl, rfl⟩
  · have h2 : 256 < most := by omega
    have h3 : 1 ≤ most := by omega
    go_enter Try.func16, Try.ntmps16
    go_wp2
    go_ret2
    exact ⟨rfl, rfl⟩

def Tab.add (T : Tab) (x : ByteArray) (due : Int) : Int × Int × Tab :=
  if 1099511627776 < due then (0, 1, T) else if T.most ≤ T.cnt then (0, 10, T) else (T.last + 1, 0, ⟨T.most, T.last + 1, fun k => if k = T.last + 1 then some (x, due) else T.f k, T.cnt + 1⟩)

set_option maxRecDepth 100000 in
set_option maxHeartbeats 1000000 in
theorem due_Add (p mb : Nat) (T : Tab) (x : ByteArray) (due : Int) (w : World) (h : TabAt w p mb T) (ok : TabOk T) (hd : 0 ≤ due) :
    Calls Try.prog 17 #[.pointer (some ⟨p, 0, none⟩), .string x, .int .u64 due] w fun e w' =>
      e = .returned (.tuple #[.int .u64 (T.add x due).1, .int .i64 (T.add x due).2.1]) ∧ TabAt w' p mb (T.add x due).2.2 ∧ Chg [p, mb] w w' := by
  have h00 := h
  obtain ⟨hb, hne, hm⟩ := h
  have c0 := hb.cell 0 rfl
  have c1 := hb.cell 1 rfl
  have c2 := hb.cell 2 rfl
  have f1 := hb.free 1
  have l0 := ok.l0
  have l1 := ok.l1
  have m1 := ok.m1
  have hcm := ok.cm
  have hlen := fun n ty => (hm.drewN n).len Try.underlying140 ty
  unfold Tab.add
  by_cases h1 : 1099511627776 < due
  · rw [if_pos h1]
    go_enter Try.func17, Try.ntmps17
    go_wp2
    go_ret2
    exact ⟨rfl, h00, Chg.refl _ _⟩
  · rw [if_neg h1]
    have h1' : due ≤ 1099511627776 := by omega
    by_cases h2 : T.most ≤ T.cnt
    · rw [if_pos h2]
      go_enter Try.func17, Try.ntmps17
      go_wp2
      go_quiet (fail)
      go_wp2
      go_ret2
      exact ⟨rfl, h00.same ((Chg.refl _ _).drewN _), (Chg.refl _ _).drewN _⟩
    · rw [if_neg h2]
      have h2' : (T.cnt : Int) < T.most := by omega
      go_enter Try.func17, Try.ntmps17
      go_wp2
      go_quiet (fail)
      go_wp2
      have hd4 : Chg [p] w ((w.drewN nq).setCell ⟨p, 1, none⟩ (.int .u64 (T.last + 1))) := ((Chg.refl _ _).drewN _).setCell (by simp) _
      have hb4 := (hb.drewN nq).set 1 (.int .u64 (T.last + 1))
      have hm4 := hm.chg hd4 (by simp [Ne.symm hne])
      generalize (w.drewN nq).setCell ⟨p, 1, none⟩ (.int .u64 (T.last + 1)) = w4 at hd4 hb4 hm4 ⊢
      clear c0 c1 c2 f1 hlen hb hm
      have c1 := hb4.cell 1 rfl
      have c2 := hb4.cell 2 rfl
      have hn : ¬ (Option.map encD (T.f (T.last + 1))).isSome = true := by
        intro h
        cases hf : T.f (T.last + 1) with
        | none => rw [hf] at h; cases h
        | some x => have := ok.key _ _ hf; omega
      go_still_tail 11, (by kernel_rfl)
      go_wp2_with (at_mapUpdate; refine wpList_upd_v _ rfl _ _ _ 140 rfl 23 144 .u64 Try.underlying23 Try.underlying140 mb T.cnt _ hm4.drew (by unfold maxLen; omega) rfl (T.last + 1) (.agg #[.string x, .int .u64 due]) rfl rfl (wf_u64.2 (by omega)) ?_; intro w5 hm5 ht5; rw [if_neg hn] at hm5; have hd5 : Chg [mb] w4 w5 := ((Chg.refl _ _).drew).turned ht5 (by simp); have hb5 := hb4.chg hd5 (by simp [hne]); clear c1 c2 ht5; have c1 := hb5.cell 1 rfl)
      go_ret2
      exact ⟨rfl, ⟨hb5, hne, hm5.congr (fun y _ => by by_cases e : y = T.last + 1 <;> simp [e, encD])⟩, (hd4.mono (by simp)).trans hd5 (by simp)⟩

theorem TabOk.new (most : Int) (h0 : 1 ≤ most) (h1 : most ≤ 256) : TabOk (Tab.new most) :=
  ⟨h0, h1, by simp only [Tab.new]; omega, by simp [Tab.new], by simp [Tab.new], fun k x h => (by cases h), fun k x h => (by cases h)⟩
theorem TabOk.add {T : Tab} (h : TabOk T) {x : ByteArray} {due : Int} (hd : 0 ≤ due) (hl : T.last < 1000000) : TabOk (T.add x due).2.2 := by
  have := h.l0; have := h.m1; have := h.cm
  unfold Tab.add
  split
  · exact h
  · split
    · exact h
    · refine ⟨h.m0, h.m1, by simp only; omega, by simp only; omega, by simp only; omega, fun k y hk => ?_, fun k y hk => ?_⟩
      · simp only at hk ⊢
        split at hk
        · omega
        · have := h.key k y hk; omega
      · simp only at hk
        split at hk
        · cases hk; simp only; omega
        · exact h.due k y hk

/-- is a thing there, and due ahead of now? -/
def Tab.late (T : Tab) (k now : Int) : Bool := match T.f k with | some x => decide (x.2 < now) | none => false

set_option maxRecDepth 100000 in
set_option maxHeartbeats 1000000 in
theorem due_Late (p mb : Nat) (T : Tab) (k now : Int) (w : World) (h : TabAt w p mb T) (hk : (Lit.int .u64 k).wf = true) :
    Calls Try.prog 63 #[.pointer (some ⟨p, 0, none⟩), .int .u64 k, .int .u64 now] w fun e w' => e = .returned (.bool (T.late k now)) ∧ Chg [] w w' := by
  obtain ⟨hb, hne, hm⟩ := h
  have c2 := hb.cell 2 rfl
  unfold Tab.late
  cases hf : T.f k with
  | none =>
    go_enter Try.func63, Try.ntmps63
    go_wp2_with (at_lookup; refine wpList_look_ok_v _ rfl _ _ 140 rfl 23 144 .u64 Try.underlying23 Try.underlying140 _ (zEntry _) mb _ _ hm rfl k rfl hk ?_; rw [hf]; simp only [Option.map_none, Option.getD_none, Option.isSome_none])
    go_ret
    exact ⟨rfl, (Chg.refl _ _).alloc _⟩
  | some x =>
    go_enter Try.func63, Try.ntmps63
    go_wp2_with (at_lookup; refine wpList_look_ok_v _ rfl _ _ 140 rfl 23 144 .u64 Try.underlying23 Try.underlying140 _ (zEntry _) mb _ _ hm rfl k rfl hk ?_; rw [hf]; simp only [Option.map_some, Option.getD_some, Option.isSome_some, encD])
    go_ret
    exact ⟨rfl, (Chg.refl _ _).alloc _⟩
end Go.Proofs.Ytbagkfeodjkdmaa

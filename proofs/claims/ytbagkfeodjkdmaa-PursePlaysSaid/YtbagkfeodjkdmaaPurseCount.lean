/- pontagelaw16.count on a ledger that is there. -/
import Derived.Test.YtbagkfeodjkdmaaPurseNone
import Derived.Test.YtbagkfeodjkdmaaTokenCopy
namespace Go.Proofs.Ytbagkfeodjkdmaa
open Go.RowKit Go.Maps Go.Shelf
attribute [local go_sem] Oper.semAt_some

/-- how many, the last, the sum. -/
structure CSt where
  n : Int
  last : Int
  sum : Int
def cstep (s : CSt) (x : Int × Int) : CSt := ⟨s.n + 1, wrap64 x.1, IntKind.u64.wrap (s.sum + x.2)⟩
def cst (l : List (Int × Int)) : CSt := l.foldl cstep ⟨0, -1, 0⟩
def cok : CSt → List (Int × Int) → Prop
  | _, [] => True
  | s, x :: t => s.last < wrap64 x.1 ∧ x.2 ≠ 0 ∧ cok (cstep s x) t
theorem cok_append : ∀ (a b : List (Int × Int)) (s : CSt), cok s (a ++ b) ↔ cok s a ∧ cok (a.foldl cstep s) b
  | [], b, s => by simp [cok]
  | x :: t, b, s => by simp only [List.cons_append, cok, cok_append t b, List.foldl_cons, and_assoc]
theorem cst_snoc (l : List (Int × Int)) (x : Int × Int) : cst (l ++ [x]) = cstep (cst l) x := by simp [cst]
theorem cst_n : ∀ l : List (Int × Int), (cst l).n = l.length := by
  have : ∀ (l : List (Int × Int)) (s : CSt), (l.foldl cstep s).n = s.n + l.length := by
    intro l
    induction l with
    | nil => intro s; simp
    | cons x t ih => intro s; rw [List.foldl_cons, ih]; simp [cstep]; omega
  intro l; rw [cst, this]; simp
theorem wrap64_u8 {x : Int} (h : 0 ≤ x ∧ x ≤ 255) : wrap64 x = x := by unfold wrap64; omega

theorem cst_keys (m : Int → Int) (h0 : ∀ k, 0 ≤ m k) (hs : sumM m 256 ≤ 4611686018427387904) : ∀ n : Nat, n ≤ 256 → cok ⟨0, -1, 0⟩ (have_ m (keysTo m n)) ∧ (cst (have_ m (keysTo m n))).last < n ∧ (cst (have_ m (keysTo m n))).sum = sumM m n
  | 0, _ => by simp [keysTo, have_, cok, cst, sumM]
  | n + 1, hn => by
    obtain ⟨h1, h2, h3⟩ := cst_keys m h0 hs n (by omega)
    have hm := sumM_mono m h0 (n + 1) 256 hn
    have hn0 := sumM_nonneg m h0 n
    have hk := h0 n
    rw [sumM] at hm
    by_cases h : m n = 0
    · rw [keysTo_skip m n h, sumM, h]
      exact ⟨h1, by omega, by omega⟩
    · have e : have_ m (keysTo m (n + 1)) = have_ m (keysTo m n) ++ [((n : Int), m n)] := by rw [keysTo, if_neg h]; simp [have_]
      have hw : wrap64 (n : Int) = n := wrap64_u8 (by omega)
      rw [e, cok_append, cst_snoc]
      refine ⟨⟨h1, ?_⟩, ?_, ?_⟩
      · exact ⟨by rw [hw]; exact h2, h, trivial⟩
      · simp only [cstep, hw]; omega
      · simp only [cstep, h3]; rw [sumM, IntKind.wrap_u64]; omega

theorem kp_cell {Fx : List Nat} {W : World} {p : Addr} {u : Value} (hp : p.block ∈ Fx) : Kp Fx [] W (W.setCell p u) := by
  have ht : ∀ W' k, Tch Fx [] W' k ↔ k ∈ Fx := fun W' k => by simp [Tch]
  refine ⟨by simp [World.setCell], fun k o hk _ hn => ?_, fun k _ t => by rw [ht] at t ⊢; exact t, fun hl k t => by have := hl k (by rw [ht] at t ⊢; exact t); simpa [World.setCell] using this⟩
  exact (Below.heap_setCell W p u k (fun e => hn ((ht W k).2 (e ▸ hp)))).trans hk

set_option maxRecDepth 100000 in
set_option maxHeartbeats 4000000 in
theorem law16_count (b p mb : Nat) (L : Led) (w : World) (hb : Blk w b #[.pointer (some ⟨p, 0, none⟩)] 38) (h : LedAt w p mb L) (ok : LedOk L) :
    Calls Try.prog 41 #[.func (.func 88) #[] #[.pointer (some ⟨b, 0, none⟩)]] w fun e w' => e = .returned (.tuple #[.int .i64 (keysTo L.m 256).length, .int .u64 L.tot, .bool true]) ∧ Chg [] w w' := by
  have hk := cst_keys L.m ok.nn (by rw [ok.sum]; exact ok.le) 256 (Nat.le_refl _)
  have hlenK := keysTo_length L.m 256
  rw [ok.sum] at hk
  have hK := Lib.hid hk
  clear hk
  have hl := h.lt
  have hbl := hb.lt
  have hseq0 := fun (Fx : List Nat) (W : World) (hbW : Blk W b #[.pointer (some ⟨p, 0, none⟩)] 38) (hW : LedAt W p mb L) (it : ItPre Fx [] W) (t1 : ¬ Tch Fx [] W b) (t2 : ¬ Tch Fx [] W p) (t3 : ¬ Tch Fx [] W mb) => token_All1 2 (by omega) Fx [] b p mb L W hbW hW it t1 t2 t3
  generalize keysTo L.m 256 = ks at hK hlenK hseq0 ⊢
  refine (callsIn_wide (n := 3)).1 ?_
  refine callsIn_of_wp_marks Try.func41 rfl trivial ?_ rfl
  simp only [Try.ntmps41, List.size_toArray, List.length_cons, List.length_nil, Nat.reduceAdd, Nat.reduceSub, Array.replicate_succ, Array.replicate_zero, List.push_toArray, List.append_toArray, List.nil_append, List.cons_append]
  gi_wp2
  gi_wp2
  have hc1 : Chg [] w _ := ((((((Chg.refl [] w).alloc (.cells #[.int .i64 0] 3)).alloc (.cells #[.int .u64 0] 41)).alloc (.cells #[.bool false] 4)).alloc (.cells #[.int .i64 0] 3)).alloc (.cells #[.int .i64 (-1)] 3)).alloc (.cells #[.int .u64 0] 41)
  have hB : CntBoxes w.heap.size ((((((w.alloc (.cells #[.int .i64 0] 3)).alloc (.cells #[.int .u64 0] 41)).alloc (.cells #[.bool false] 4)).alloc (.cells #[.int .i64 0] 3)).alloc (.cells #[.int .i64 (-1)] 3)).alloc (.cells #[.int .u64 0] 41)) 0 0 0 false 0 (-1) := by
    constructor <;> repeat (first | (refine Blk.at _ _ _ _ ?_; (simp; done)) | refine Blk.alloc ?_ _)
  have hb1 := hb.chg hc1 (by simp)
  have h1 := h.chg hc1 (by simp) (by simp)
  have hit : ItPre [w.heap.size, w.heap.size + 1, w.heap.size + 2, w.heap.size + 3, w.heap.size + 4, w.heap.size + 5] [] ((((((w.alloc (.cells #[.int .i64 0] 3)).alloc (.cells #[.int .u64 0] 41)).alloc (.cells #[.bool false] 4)).alloc (.cells #[.int .i64 0] 3)).alloc (.cells #[.int .i64 (-1)] 3)).alloc (.cells #[.int .u64 0] 41)) :=
    ⟨by simp, fun k hk => by simp [Tch] at hk; simp; omega⟩
  refine wpIn_rangeFunc_ownF rfl (by omega) (gf := 88) (lb := #[.pointer (some ⟨b, 0, none⟩)]) rfl trivial (enters_of Try.func88 (by kernel_rfl) rfl)
    (hseq0 _ _ hb1 h1 hit (by simp [Tch]; omega) (by simp [Tch]; omega) (by simp [Tch]; omega)) Kp.trans' (kp_b (by simp)) (Below.refl _ _) (fun _ => rfl)
    (fun pre W => cok ⟨0, -1, 0⟩ pre ∧ CntBoxes w.heap.size W 0 0 (cst pre).sum false pre.length (cst pre).last ∧ Chg [] w W) (fun _ pre _ => ¬ cok ⟨0, -1, 0⟩ pre) ?hI ?hIx ?h0
    (fun x => { tmps := #[.func (.func 88) #[] #[.pointer (some ⟨b, 0, none⟩)], undef, .pointer (some ⟨w.heap.size, 0, none⟩), .pointer (some ⟨w.heap.size + 1, 0, none⟩), .pointer (some ⟨w.heap.size + 2, 0, none⟩), .pointer (some ⟨w.heap.size + 3, 0, none⟩), .pointer (some ⟨w.heap.size + 4, 0, none⟩), .pointer (some ⟨w.heap.size + 5, 0, none⟩), .int .u8 x.1, .int .u64 x.2, .func (.func 88) #[] #[.pointer (some ⟨b, 0, none⟩)], .int .u8 x.1, .int .u64 x.2, undef, undef, undef, undef, undef, undef, undef, undef, undef, undef, undef, undef, undef, undef, undef, undef, undef], defers := [] }) ?assign ?body ?done ?stop
  case hI => exact fun s A B row hs hg hr => ⟨hs.1, hs.2.1.own hg (fun r e => (hr r e).2), hs.2.2.grown hg (fun k e => .inr (by have := (hr k e).1; simp at this; omega))⟩
  case hIx => exact fun _ _ _ _ _ hs _ _ => hs
  case h0 => exact ⟨trivial, hB, hc1⟩
  case assign =>
    intro l x W K hK
    gi_wp2
    exact hK
  case body =>
    rintro l pre x W ⟨hok, hBx, hC⟩ hlen
    have hfin : cok ⟨0, -1, 0⟩ (pre ++ [x]) ↔ ((cst pre).last < wrap64 x.1 ∧ x.2 ≠ 0) := by
      rw [cok_append]
      constructor
      · rintro ⟨_, h1, h2, _⟩; exact ⟨h1, h2⟩
      · rintro ⟨h1, h2⟩; exact ⟨hok, h1, h2, trivial⟩
    have hst := cst_snoc pre x
    have HF := Lib.hid hfin
    have HS := Lib.hid hst
    clear hfin hst
    have d3 := hBx.b3.cell 0 rfl
    have d4 := hBx.b4.cell 0 rfl
    have d5 := hBx.b5.cell 0 rfl
    have e0 := hBx.b0.free 0
    have e1 := hBx.b1.free 0
    have e2 := hBx.b2.free 0
    have e3 := hBx.b3.free 0
    have e4 := hBx.b4.free 0
    have e5 := hBx.b5.free 0
    have c0 := hBx.b0.cell 0 rfl
    have c1 := hBx.b1.cell 0 rfl
    have c2 := hBx.b2.cell 0 rfl
    by_cases hA : (cst pre).last < wrap64 x.1
    · by_cases hB0 : x.2 = 0
      · have hno : ¬ cok ⟨0, -1, 0⟩ (pre ++ [x]) := fun h => (HF.out.1 h).2 hB0
        gi_wp2
        exact ⟨(((KeepsOthers.setCell _ _ _).trans (KeepsOthers.setCell _ _ _)).trans (KeepsOthers.setCell _ _ _)), hno⟩
      · have hB1 : (x.2 == 0) = false := by simpa using hB0
        have hyes := HF.out.2 ⟨hA, hB0⟩
        have HY := Lib.hid hyes
        clear hyes
        gi_wp2
        refine ⟨((KeepsOthers.setCell _ _ _).trans (KeepsOthers.setCell _ _ _)).trans (KeepsOthers.setCell _ _ _), ((kp_cell (by simp)).trans (kp_cell (by simp))).trans (kp_cell (by simp)), HY.out, ?_, ((hC.setCell (.inr (by simp)) _).setCell (.inr (by simp)) _).setCell (.inr (by simp)) _⟩
        rw [HS.out]
        simp only [cstep, List.length_append, List.length_cons, List.length_nil]
        refine ⟨((hBx.b0.other (by simp) _).other (by simp) _).other (by simp) _, ((hBx.b1.other (by simp) _).other (by simp) _).other (by simp) _, ((hBx.b2.other (by simp) _).other (by simp) _).other (by simp) _, ?_, ?_, ?_⟩
        · simpa using ((hBx.b3.other (p := ⟨w.heap.size + 4, 0, none⟩) (by simp) (.int .i64 (wrap64 x.1))).set 0 (.int .i64 ((pre.length : Int) + 1))).other (p := ⟨w.heap.size + 5, 0, none⟩) (by simp) (.int .u64 (IntKind.u64.wrap ((cst pre).sum + x.2)))
        · simpa using ((hBx.b4.set 0 (.int .i64 (wrap64 x.1))).other (p := ⟨w.heap.size + 3, 0, none⟩) (by simp) (.int .i64 ((pre.length : Int) + 1))).other (p := ⟨w.heap.size + 5, 0, none⟩) (by simp) (.int .u64 (IntKind.u64.wrap ((cst pre).sum + x.2)))
        · simpa using ((hBx.b5.other (p := ⟨w.heap.size + 4, 0, none⟩) (by simp) (.int .i64 (wrap64 x.1))).other (p := ⟨w.heap.size + 3, 0, none⟩) (by simp) (.int .i64 ((pre.length : Int) + 1))).set 0 (.int .u64 (IntKind.u64.wrap ((cst pre).sum + x.2)))
    · have hno : ¬ cok ⟨0, -1, 0⟩ (pre ++ [x]) := fun h => hA (HF.out.1 h).1
      have hA2 : wrap64 x.1 ≤ (cst pre).last := by omega
      gi_wp2
      exact ⟨(((KeepsOthers.setCell _ _ _).trans (KeepsOthers.setCell _ _ _)).trans (KeepsOthers.setCell _ _ _)), hno⟩
  case stop =>
    rintro D c pre W hD hpre hno hK2
    obtain ⟨t, ht⟩ := hpre
    have := hK.out.1
    rw [← ht, cok_append] at this
    exact absurd this.1 hno
  case done =>
    rintro D ys W hD hys ⟨hok, hB', hC⟩ hK2
    simp at hD
    subst hys
    have hsum := hK.out.2.2
    rw [hsum] at hB'
    have hlen : ((have_ L.m ks).length : Int) = ks.length := by simp [have_]
    rw [hlen] at hB'
    generalize (cst (have_ L.m ks)).last = lst at hB'
    clear hK hsum hlen hok hseq0
    have c3 := hB'.b3.cell 0 rfl
    have c5 := hB'.b5.cell 0 rfl
    have c0 := hB'.b0.cell 0 rfl
    have c1 := hB'.b1.cell 0 rfl
    have c2 := hB'.b2.cell 0 rfl
    have f0 := hB'.b0.free 0
    have f1 := hB'.b1.free 0
    have f2 := hB'.b2.free 0
    gi_wp2
    gi_region
    all_goals gi_wp2
    have hK3 : ((((W.setCell ⟨w.heap.size, 0, none⟩ (.int .i64 ks.length)).setCell ⟨w.heap.size + 1, 0, none⟩ (.int .u64 L.tot)).setCell ⟨w.heap.size + 1 + 1, 0, none⟩ (.bool true)).drew).heap[D]? = some (.deferred (some [])) :=
      (Below.heap_setCell _ _ _ D (by simp; omega)).trans ((Below.heap_setCell _ _ _ D (by simp; omega)).trans ((Below.heap_setCell _ _ _ D (by simp; omega)).trans hK2))
    refine ⟨by simp, .inl ⟨_, _, rfl, run_takeDeferred hK3, ?_⟩⟩
    have hg := grownBy_putObj' ((((W.setCell ⟨w.heap.size, 0, none⟩ (.int .i64 ks.length)).setCell ⟨w.heap.size + 1, 0, none⟩ (.int .u64 L.tot)).setCell ⟨w.heap.size + 1 + 1, 0, none⟩ (.bool true)).drew) D (.deferred none)
    have hr : ∀ r, some D = some r → ∃ o : Obj, ((((W.setCell ⟨w.heap.size, 0, none⟩ (.int .i64 ks.length)).setCell ⟨w.heap.size + 1, 0, none⟩ (.int .u64 L.tot)).setCell ⟨w.heap.size + 1 + 1, 0, none⟩ (.bool true)).drew).heap[r]? = some o ∧ o.isCells = false := fun r e => by cases e; exact ⟨_, hK3, rfl⟩
    have r0 := ((((hB'.b0.set 0 (.int .i64 ks.length)).other (p := ⟨w.heap.size + 1, 0, none⟩) (by simp) (.int .u64 L.tot)).other (p := ⟨w.heap.size + 1 + 1, 0, none⟩) (by simp; omega) (.bool true)).drew.own hg hr).cell 0 rfl
    have r1 := ((((hB'.b1.other (p := ⟨w.heap.size, 0, none⟩) (by simp) (.int .i64 ks.length)).set 0 (.int .u64 L.tot)).other (p := ⟨w.heap.size + 1 + 1, 0, none⟩) (by simp) (.bool true)).drew.own hg hr).cell 0 rfl
    have r2 := ((((hB'.b2.other (p := ⟨w.heap.size, 0, none⟩) (by simp) (.int .i64 ks.length)).other (p := ⟨w.heap.size + 1, 0, none⟩) (by simp) (.int .u64 L.tot)).set 0 (.bool true)).drew.own hg hr).cell 0 rfl
    refine ⟨.tuple #[.int .i64 ks.length, .int .u64 L.tot, .bool true], ?_, rfl, ((((hC.setCell (by simp) _).setCell (by simp) _).setCell (by simp; omega) _).drew).grown hg (fun k e => .inr (by cases e; omega))⟩
    simp [results, Try.results41, go_sem, r0, r1, r2]
end Go.Proofs.Ytbagkfeodjkdmaa

import Derived.Test.YtmkgbinmilcojaaGreatRange
import Derived.Test.YtmkgbinmilcojaaGreatSrtu32EF
import Derived.Test.YtmkgbinmilcojaaGreatIter
import Derived.Test.YtmkgbinmilcojaaGreatTargetRules

/- slices.AppendSeq, Collect, Sort, Sorted at uint32. -/
namespace Go.Proofs.YtmkgbinmilcojaaGreat
open Go.RowKit Go.Maps Go.Shelf
attribute [local go_sem] Oper.semAt_some

theorem info_u32 : (Tryz.prog.info? 22).map (fun i => (i.zero, i.size, i.bytes)) = some (some (.int .u32 0), 1, 4) := by kernel_rfl

set_option maxRecDepth 100000 in
set_option maxHeartbeats 2000000 in
theorem appendSeq_u32 (gf : Nat) (lb : Array Value) (eg : ∀ args w, (callFunc gf args).run Tryz.prog w = .ok (.enter gf args) w) (S Sp : List Int → Prop) (N : Nat) (hN : N ≤ 1000000) (w : World)
    (hseq : SeqStopsK Fence.wide 2 Tryz.prog gf lb (fun x : Int => #[.int .u32 x]) (Kp [] [w.heap.size]) S Sp N (w.alloc (.cells #[.slice none 0 0] 152))) :
    Calls Tryz.prog 142 #[.slice none 0 0, .func (.func gf) #[] lb] w fun e w' => ∃ v xs, e = .returned v ∧ S xs ∧ SlI w' .u32 v xs ∧ (∀ k, inBlk v k → w.heap.size ≤ k) ∧ Chg [] w w' ∧ xs.length ≤ 1000000 := by
  obtain ⟨i0, hi, hz0, hz1, hz2⟩ := info_parts info_u32
  refine (callsIn_wide (n := 3)).1 ?_
  refine callsIn_of_wp_marks Tryz.func142 rfl trivial ?_ rfl
  simp only [Tryz.ntmps142, List.size_toArray, List.length_cons, List.length_nil, Nat.reduceAdd, Nat.reduceSub, Array.replicate_succ, Array.replicate_zero, List.push_toArray, List.append_toArray, List.nil_append, List.cons_append]
  gi_wp2
  have hx := Boxed.new w 152 (.slice none 0 0)
  refine wpIn_rangeFunc_ownF rfl (by omega) (gf := gf) (lb := lb) rfl trivial eg (stopsK_bounded hseq) Kp.trans' (kp_b (by simp)) (Below.refl _ _) (fun _ => rfl)
    (fun pre W => (∃ v, Boxed W w.heap.size 152 v ∧ W.ownsRow w.heap.size 22 1 v pre.length (pre.map (Value.int .u32)) ∧ (v = .slice none 0 0 ↔ pre = [])) ∧ Below w.heap.size w W)
    (fun _ _ _ => False) ?hI ?hIx ?h0 (fun x => { tmps := #[.slice none 0 0, .func (.func gf) #[] lb, .pointer (some ⟨w.heap.size, 0, none⟩), undef, .slice none 0 0, .int .u32 x, .func (.func gf) #[] lb, .int .u32 x, undef, undef, undef, undef, undef], defers := [] }) ?assign ?body ?done ?stop
  case hI =>
    exact OwnFrom.and (Own.from (holdsRow_own w.heap.size w.heap.size 152 22 1 (fun pre : List Int => pre.length) (fun pre => pre.map (Value.int .u32)) (fun pre v => (v = .slice none 0 0 ↔ pre = []))) _) (ownFrom_below (Nat.le_refl _) (by simp))
  case hIx => exact fun _ _ _ _ _ hs _ _ => hs
  case h0 => exact ⟨⟨_, hx, by simpa using World.ownsRow_nil _ _ _ _, by simp⟩, (Below.refl _ _).alloc (Nat.le_refl _) _⟩
  case assign =>
    intro l x W K hK
    gi_wp2
    exact hK
  case body =>
    rintro l pre x W ⟨⟨v, hv, hrow, hnil⟩, hB⟩ hlen
    have hc := hv.cell
    gi_wp2_with (gi_at_builtin; refine wpListIn_append_own_at _ rfl _ _ 152 rfl w.heap.size 22 i0 (.int .u32 0) 1 4 Tryz.underlying152 hi hz0 hz1 hz2 rfl (by decide) _ _ _ rfl (hrow.alloc _) ⟨W.heap.size, 0, none⟩ 1 1 [.int .u32 x] rfl rfl (cell_one_new _ _ _) (by simp [Value.oneCell']) (by unfold maxLen; omega) (by omega) (by have := hB.size; simp; omega) ?_; intro v' w1 hown' hgrow hnil' hloc; obtain ⟨g', cap', rfl⟩ := ownsRow_succ hown'; have hkp := kp_app hv (by decide) hrow hown' hgrow hloc; obtain ⟨hv1, hv2, hr2, hk2, hb2⟩ := hv.appended (by decide) hrow hB.size (Nat.le_refl _) hown' hgrow; have hc1 := hv1.cell; have hf1 := hv1.frozen)
    exact ⟨hk2, hkp, ⟨_, hv2, by simpa using hr2, by simp⟩, hB.trans hb2⟩
  case stop => exact fun _ _ _ _ _ _ h => h.elim
  case done =>
    rintro D xs W hD hS ⟨⟨v, hv, hrow, hnil⟩, hB⟩ hK
    simp at hD
    have hc := hv.cell
    gi_wp2
    refine ⟨by simp, .inl ⟨_, _, rfl, run_takeDeferred hK, ?_⟩⟩
    have hr2 := ownsRow_putObj hrow (.deferred none) hK rfl
    obtain ⟨h1, h2⟩ := SlI.of_own hr2
    exact ⟨_, results_tmp rfl _ _ _, v, xs, rfl, hS.1, h1, h2, (Chg.of_below hB).grown (grownBy_putObj' _ D _) (fun k e => .inr (by cases e; omega)), Nat.le_trans hS.2 hN⟩

set_option maxHeartbeats 1000000 in
theorem collect_u32 (gf : Nat) (lb : Array Value) (eg : ∀ args w, (callFunc gf args).run Tryz.prog w = .ok (.enter gf args) w) (S Sp : List Int → Prop) (N : Nat) (hN : N ≤ 1000000) (w : World)
    (hseq : SeqStopsK Fence.wide 2 Tryz.prog gf lb (fun x : Int => #[.int .u32 x]) (Kp [] [w.heap.size]) S Sp N (w.alloc (.cells #[.slice none 0 0] 152))) :
    Calls Tryz.prog 135 #[.func (.func gf) #[] lb] w fun e w' => ∃ v xs, e = .returned v ∧ S xs ∧ SlI w' .u32 v xs ∧ (∀ k, inBlk v k → w.heap.size ≤ k) ∧ Chg [] w w' ∧ xs.length ≤ 1000000 := by
  go_enter Tryz.func135, Tryz.ntmps135
  go_wp2_with (go_at_call 142; refine (appendSeq_u32 gf lb eg S Sp N hN w hseq).mono ?_; rintro e w1 ⟨v, xs, rfl, hS, hs, hn, hc, hl⟩)
  go_ret
  exact ⟨v, xs, rfl, hS, hs, hn, hc, hl⟩

/-- slices.Sort. -/
theorem sort_u32 (v : Value) (l : List Int) (S : List Nat) (w : World) (hs : SlI w .u32 v l) (hl : l.length ≤ 1000000) (hS : ∀ k, inBlk v k → k ∈ S) :
    Calls Tryz.prog 136 #[v] w fun e w' => e = .returned (.tuple #[]) ∧ SlI w' .u32 v (srt l) ∧ Chg S w w' := by
  have hs0 := hs
  rcases hs with ⟨rfl, rfl⟩ | ⟨b, off, cap, c, t, rfl, hb, hc⟩
  · refine (Tryz.srtu32_Sort_nil none 0 w).mono ?_
    rintro e w' ⟨rfl, rfl⟩
    exact ⟨rfl, by simpa [srt] using hs0, Chg.refl _ _⟩
  · obtain ⟨hH, hlt, _⟩ := hs0.holds
    refine (Tryz.srtu32_slices_Sort b off cap l w hH hlt (by omega)).mono ?_
    rintro e w' ⟨rfl, n, os, rfl⟩
    exact ⟨rfl, hs0.sorted (srt_length l) n os, chg_sorted w _ b off n _ os S (hS b ⟨off, _, cap, rfl⟩)⟩

set_option maxHeartbeats 1000000 in
/-- slices.Sorted. -/
theorem sorted_u32 (gf : Nat) (lb : Array Value) (eg : ∀ args w, (callFunc gf args).run Tryz.prog w = .ok (.enter gf args) w) (S Sp : List Int → Prop) (N : Nat) (hN : N ≤ 1000000) (w : World)
    (hseq : SeqStopsK Fence.wide 2 Tryz.prog gf lb (fun x : Int => #[.int .u32 x]) (Kp [] [w.heap.size]) S Sp N (w.alloc (.cells #[.slice none 0 0] 152))) :
    Calls Tryz.prog 122 #[.func (.func gf) #[] lb] w fun e w' => ∃ v xs, e = .returned v ∧ S xs ∧ SlI w' .u32 v (srt xs) ∧ (∀ k, inBlk v k → w.heap.size ≤ k) ∧ Chg [] w w' ∧ xs.length ≤ 1000000 := by
  go_enter Tryz.func122, Tryz.ntmps122
  go_wp2_with (go_at_call 135; refine (collect_u32 gf lb eg S Sp N hN w hseq).mono ?_; rintro e w1 ⟨v, xs, rfl, hS, hs, hn, hc, hl⟩)
  obtain ⟨T, hT, hT2⟩ : ∃ T : List Nat, (∀ k, inBlk v k → k ∈ T) ∧ ∀ k ∈ T, w.heap.size ≤ k := by
    rcases hs with ⟨rfl, rfl⟩ | ⟨b, off, cap, c, t, rfl, hb, hc⟩
    · exact ⟨[], (fun k h => by obtain ⟨o, n, c, h⟩ := h; cases h), by simp⟩
    · exact ⟨[b], (fun k h => by obtain ⟨o, n, c, h⟩ := h; cases h; simp), fun k h => by simp at h; subst h; exact hn _ ⟨_, _, _, rfl⟩⟩
  go_wp2_with (go_at_call 136; refine (sort_u32 v xs T w1 hs hl hT).mono ?_; rintro e w2 ⟨rfl, hs2, hc2⟩)
  go_ret
  exact ⟨v, xs, rfl, hS, hs2, hn, hc.trans hc2 (fun t ht => .inr (hT2 t ht)), hl⟩
end Go.Proofs.YtmkgbinmilcojaaGreat

/- Package adjust: Median; pontagelaw11.lives. -/
namespace Go.Proofs.YtmkgbinmilcojaaGreat
open Go.RowKit Go.Maps Go.Shelf
attribute [local go_sem] Oper.semAt_some

set_option maxRecDepth 100000 in
set_option maxHeartbeats 2000000 in
theorem values1_u32 (F : Fence) (n : Nat) (hf : F.fn 137) (hro : F.round = none) (hn : 1 ≤ n) (Fx Bs : List Nat) (b : Nat) (v : Value) (l : List Int) (hl : l.length ≤ 1000000) (w : World) (hb : Blk w b #[v] 152) (hs : SlI w .u32 v l)
    (it : ItPre Fx Bs w) (t1 : ¬ Tch Fx Bs w b) (t2 : ∀ k, inBlk v k → ¬ Tch Fx Bs w k) :
    SeqStopsK F n Tryz.prog 137 #[.pointer (some ⟨b, 0, none⟩)] (fun x : Int => #[.int .u32 x]) (Kp Fx Bs) (fun xs => xs = l) (fun pre => pre <+: l) l.length w := fun lp J Jx W hW hJ hJx hY h0 => by
  have hc : Chg [] w W := .of_below' hW (Nat.le_refl _)
  have it' := it.chg hc (by simp)
  have t1' : ¬ Tch Fx Bs W b := fun h => t1 ((it.tch hc (by simp) b).1 h)
  have t2' : ∀ k, inBlk v k → ¬ Tch Fx Bs W k := fun k hk h => t2 k hk ((it.tch hc (by simp) k).1 h)
  have hb' := hb.chg hc (by simp)
  have hs' := hs.chg hc (by simp)
  have c0 := hb'.cell 0 rfl
  clear hb hs it t1 t2 hc
  obtain ⟨a, cap, rfl⟩ := hs'.len
  refine callsIn_of_wp Tryz.func137 rfl hf ?_ hro
  simp only [Tryz.ntmps137, List.size_toArray, List.length_cons, List.length_nil, Nat.reduceAdd, Nat.reduceSub, Array.replicate_succ, Array.replicate_zero, List.push_toArray, List.append_toArray, List.nil_append, List.cons_append]
  gi_wp2
  gi_loopw [7] (fun i wr => ∃ k : Nat, k ≤ l.length ∧ i = .int .i64 k ∧ J (l.take k) wr ∧ Kp Fx Bs W wr) (fun i _ => l.length - (intOf i).toNat)
  case atStart => exact ⟨0, Nat.zero_le _, rfl, by simpa using h0, Kp.refl _ _ _⟩
  case round =>
    obtain ⟨k, hk, rfl, hJs, hkp⟩ := hrel
    by_cases hlt : k < l.length
    · obtain ⟨bb, off, rfl, hcell⟩ := (hs'.kp hkp t2').cell hlt
      obtain ⟨fn, tmps, assign, body, hy, hR⟩ := hY _ l[k] wr hJs (by rw [List.length_take]; omega)
      gi_wp2
      refine hR.mono ?_
      rintro e W3 (⟨rfl, hJ3, hk3⟩ | ⟨rfl, hJx3⟩)
      · gi_wp2
        go_roundw
        case rel => exact ⟨k + 1, by omega, by simp, by rw [take_succ_getD l hlt]; exact hJ3, hkp.trans hk3⟩
        case measure => simp [intOf]; omega
      · gi_wp2
        refine bodyPost_ret (results_none rfl _ _ _) rfl ?_
        exact ⟨⟨_, rfl⟩, .inr ⟨l.take (k + 1), List.take_prefix _ _, by rw [take_succ_getD l hlt]; exact hJx3⟩⟩
    · obtain rfl : k = l.length := by omega
      gi_wp2
      go_end0
      exact ⟨⟨_, rfl⟩, .inl ⟨l, rfl, by simpa using hJs⟩⟩


set_option maxHeartbeats 400000 in
theorem Values_u32 (a : Option Addr) (n c : Nat) (w : World) : Calls Tryz.prog 123 #[.slice a n c] w fun e w' => e = .returned (.func (.func 137) #[] #[.pointer (some ⟨w.heap.size, 0, none⟩)]) ∧ w' = w.alloc (.cells #[.slice a n c] 152) := by
  go_enter Tryz.func123, Tryz.ntmps123
  go_wp2
  go_ret
  exact ⟨rfl, rfl⟩

set_option maxHeartbeats 1000000 in
theorem sorted_vals (B : Nat) (v : Value) (ys : List Int) (w : World) (hB : Blk w B #[v] 152) (hs : SlI w .u32 v ys) (hl : ys.length ≤ 1000000) :
    Calls Tryz.prog 122 #[.func (.func 137) #[] #[.pointer (some ⟨B, 0, none⟩)]] w fun e w' => ∃ u, e = .returned u ∧ SlI w' .u32 u (srt ys) ∧ Chg [] w w' := by
  have hlt := hB.lt
  have hc : Chg [] w (w.alloc (.cells #[.slice none 0 0] 152)) := (Chg.refl _ _).alloc _
  have hcell : (w.alloc (.cells #[.slice none 0 0] 152)).cell? ⟨w.heap.size, 0, none⟩ = some (.slice none 0 0) := (Blk.new w #[.slice none 0 0] 152).cell 0 rfl
  have ht : ∀ k, Tch [] [w.heap.size] (w.alloc (.cells #[.slice none 0 0] 152)) k → k = w.heap.size := by
    rintro k (h | h | ⟨B, hB, o, n, q, h⟩)
    · cases h
    · simpa using h
    · simp at hB; subst hB; rw [hcell] at h; simp at h
  have hin : ∀ k, inBlk v k → k < w.heap.size := by
    rintro k ⟨o, n, c, rfl⟩
    rcases hs with ⟨e, _⟩ | ⟨b, off, cap, cs, t, e, hb, _⟩
    · cases e
    · cases e; exact hb.lt
  refine (sorted_u32 137 _ (enters_of Tryz.func137 (by kernel_rfl) rfl) _ _ ys.length hl w
    (values1_u32 Fence.wide 2 trivial rfl (by omega) [] [w.heap.size] B v ys hl _ (hB.alloc _) (hs.chg hc (by simp)) ⟨by simp, fun k hk => by rw [ht k hk]; simp⟩ (fun h => by have := ht _ h; omega) (fun k hk h => by have := hin k hk; have := ht k h; omega))).mono ?_
  rintro e w' ⟨u, xs, he, hxs, hs', hf, hc', hk⟩
  subst hxs
  exact ⟨u, he, hs', hc'⟩

set_option maxRecDepth 100000 in
set_option maxHeartbeats 2000000 in
theorem adjust_Median (v : Value) (l : List Int) (w : World) (hs : SlI w .u32 v l) (hl : l.length ≤ 1000000) (h0 : 0 < l.length) :
    Calls Tryz.prog 103 #[v] w fun e w' => e = .returned (.int .u32 ((srt l).getD (l.length / 2) 0)) ∧ Chg [] w w' := by
  obtain ⟨a, cap, rfl⟩ := hs.len
  go_enter Tryz.func103, Tryz.ntmps103
  have hz : ((l.length : Int) == 0) = false := by simp; intro h; simp [h] at h0
  have hne : l ≠ [] := by rintro rfl; simp at h0
  go_wp2_with (go_at_call 123; refine (Values_u32 _ _ _ _).mono ?_; rintro e w' ⟨rfl, rfl⟩)
  have hB := Blk.new w #[.slice a l.length cap] 152
  have hs1 := hs.chg ((Chg.refl [] w).alloc (.cells #[.slice a l.length cap] 152)) (by simp)
  have hc1 := (Chg.refl [] w).alloc (.cells #[.slice a l.length cap] 152)
  generalize w.alloc (.cells #[.slice a l.length cap] 152) = w1 at *
  refine (sorted_vals _ _ _ _ hB hs1 hl).mono ?_
  rintro e w2 ⟨u, rfl, hs2, hc2⟩
  obtain ⟨a2, cap2, rfl⟩ := hs2.len
  have hi : l.length / 2 < (srt l).length := by rw [srt_length]; omega
  obtain ⟨b, off, rfl, hcell⟩ := hs2.cell hi
  have hg : (srt l).getD (l.length / 2) 0 = (srt l)[l.length / 2] := by simp [List.getD, hi]
  generalize (srt l)[l.length / 2] = r at *
  rw [srt_length] at *
  go_wp2
  go_ret
  exact ⟨by rw [hg]; rfl, hc1.trans hc2 (by simp)⟩
end Go.Proofs.YtmkgbinmilcojaaGreat

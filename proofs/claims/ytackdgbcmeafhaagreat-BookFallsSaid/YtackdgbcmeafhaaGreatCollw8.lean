/- slices.AppendSeq, Collect, Sort, Sorted at pontage/token.Who. -/
import Derived.Test.YtackdgbcmeafhaaGreatRange
import Derived.Test.YtackdgbcmeafhaaGreatSrtw8
namespace Go.Proofs.YtackdgbcmeafhaaGreat
open Go.RowKit Go.Maps Go.Shelf
attribute [local go_sem] Oper.semAt_some

theorem info_w8 : (Tryz.prog.info? 45).map (fun i => (i.zero, i.size, i.bytes)) = some (some (.int .u8 0), 1, 1) := by kernel_rfl

set_option maxRecDepth 100000 in
set_option maxHeartbeats 2000000 in
theorem appendSeq_w8 (gf : Nat) (lb : Array Value) (eg : ∀ args w, (callFunc gf args).run Tryz.prog w = .ok (.enter gf args) w) (S Sp : List Int → Prop) (N : Nat) (hN : N ≤ 1000000) (w : World)
    (hseq : SeqStopsK Fence.wide 2 Tryz.prog gf lb (fun x : Int => #[.int .u8 x]) (Kp [] [w.heap.size]) S Sp N (w.alloc (.cells #[.slice none 0 0] 142))) :
    Calls Tryz.prog 139 #[.slice none 0 0, .func (.func gf) #[] lb] w fun e w' => ∃ v xs, e = .returned v ∧ S xs ∧ SlI w' .u8 v xs ∧ (∀ k, inBlk v k → w.heap.size ≤ k) ∧ Chg [] w w' ∧ xs.length ≤ 1000000 := by
  obtain ⟨i0, hi, hz0, hz1, hz2⟩ := info_parts info_w8
  refine (callsIn_wide (n := 3)).1 ?_
  refine callsIn_of_wp_marks Tryz.func139 rfl trivial ?_ rfl
  simp only [Tryz.ntmps139, List.size_toArray, List.length_cons, List.length_nil, Nat.reduceAdd, Nat.reduceSub, Array.replicate_succ, Array.replicate_zero, List.push_toArray, List.append_toArray, List.nil_append, List.cons_append]
  gi_wp2
  have hx := Boxed.new w 142 (.slice none 0 0)
  refine wpIn_rangeFunc_ownF rfl (by omega) (gf := gf) (lb := lb) rfl trivial eg (stopsK_bounded hseq) Kp.trans' (kp_b (by simp)) (Below.refl _ _) (fun _ => rfl)
    (fun pre W => (∃ v, Boxed W w.heap.size 142 v ∧ W.ownsRow w.heap.size 45 1 v pre.length (pre.map (Value.int .u8)) ∧ (v = .slice none 0 0 ↔ pre = [])) ∧ Below w.heap.size w W)
    (fun _ _ _ => False) ?hI ?hIx ?h0 (fun x => { tmps := #[.slice none 0 0, .func (.func gf) #[] lb, .pointer (some ⟨w.heap.size, 0, none⟩), undef, .slice none 0 0, .int .u8 x, .func (.func gf) #[] lb, .int .u8 x, undef, undef, undef, undef, undef], defers := [] }) ?assign ?body ?done ?stop
  case hI =>
    exact OwnFrom.and (Own.from (holdsRow_own w.heap.size w.heap.size 142 45 1 (fun pre : List Int => pre.length) (fun pre => pre.map (Value.int .u8)) (fun pre v => (v = .slice none 0 0 ↔ pre = []))) _) (ownFrom_below (Nat.le_refl _) (by simp))
  case hIx => exact fun _ _ _ _ _ hs _ _ => hs
  case h0 => exact ⟨⟨_, hx, by simpa using World.ownsRow_nil _ _ _ _, by simp⟩, (Below.refl _ _).alloc (Nat.le_refl _) _⟩
  case assign =>
    intro l x W K hK
    gi_wp2
    exact hK
  case body =>
    rintro l pre x W ⟨⟨v, hv, hrow, hnil⟩, hB⟩ hlen
    have hc := hv.cell
    gi_wp2_with (gi_at_builtin; refine wpListIn_append_own_at _ rfl _ _ 142 rfl w.heap.size 45 i0 (.int .u8 0) 1 1 Tryz.underlying142 hi hz0 hz1 hz2 rfl (by decide) _ _ _ rfl (hrow.alloc _) ⟨W.heap.size, 0, none⟩ 1 1 [.int .u8 x] rfl rfl (cell_one_new _ _ _) (by simp [Value.oneCell']) (by unfold maxLen; omega) (by omega) (by have := hB.size; simp; omega) ?_; intro v' w1 hown' hgrow hnil' hloc; obtain ⟨g', cap', rfl⟩ := ownsRow_succ hown'; have hkp := kp_app hv (by decide) hrow hown' hgrow hloc; obtain ⟨hv1, hv2, hr2, hk2, hb2⟩ := hv.appended (by decide) hrow hB.size (Nat.le_refl _) hown' hgrow; have hc1 := hv1.cell; have hf1 := hv1.frozen)
    exact ⟨hk2, hkp, ⟨_, hv2, by simpa using hr2, by simp⟩, hB.trans hb2⟩
  case stop => exact fun _ _ _ _ _ _ h => h.elim
  case done =>
    rintro D xs W hD hS ⟨⟨v, hv, hrow, hnil⟩, hB⟩ hK
    simp at hD
    have hc := hv.cell
    gi_wp2
    refine ⟨by simp, .inl ⟨_, _, rfl, run_takeDeferred hK, ?_⟩⟩
    have hr2 := ownsRow_putObj hrow (.deferred none) hK rfl
    obtain ⟨h1, h2⟩ := SlI.of_own hr2
    exact ⟨_, results_tmp rfl _ _ _, v, xs, rfl, hS.1, h1, h2, (Chg.of_below hB).grown (grownBy_putObj' _ D _) (fun k e => .inr (by cases e; omega)), Nat.le_trans hS.2 hN⟩

set_option maxHeartbeats 1000000 in
theorem collect_w8 (gf : Nat) (lb : Array Value) (eg : ∀ args w, (callFunc gf args).run Tryz.prog w = .ok (.enter gf args) w) (S Sp : List Int → Prop) (N : Nat) (hN : N ≤ 1000000) (w : World)
    (hseq : SeqStopsK Fence.wide 2 Tryz.prog gf lb (fun x : Int => #[.int .u8 x]) (Kp [] [w.heap.size]) S Sp N (w.alloc (.cells #[.slice none 0 0] 142))) :
    Calls Tryz.prog 121 #[.func (.func gf) #[] lb] w fun e w' => ∃ v xs, e = .returned v ∧ S xs ∧ SlI w' .u8 v xs ∧ (∀ k, inBlk v k → w.heap.size ≤ k) ∧ Chg [] w w' ∧ xs.length ≤ 1000000 := by
  go_enter Tryz.func121, Tryz.ntmps121
  go_wp2_with (go_at_call 139; refine (appendSeq_w8 gf lb eg S Sp N hN w hseq).mono ?_; rintro e w1 ⟨v, xs, rfl, hS, hs, hn, hc, hl⟩)
  go_ret
  exact ⟨v, xs, rfl, hS, hs, hn, hc, hl⟩

/-- slices.Sort. -/
theorem sort_w8 (v : Value) (l : List Int) (S : List Nat) (w : World) (hs : SlI w .u8 v l) (hl : l.length ≤ 1000000) (hS : ∀ k, inBlk v k → k ∈ S) :
    Calls Tryz.prog 122 #[v] w fun e w' => e = .returned (.tuple #[]) ∧ SlI w' .u8 v (srt l) ∧ Chg S w w' := by
  have hs0 := hs
  rcases hs with ⟨rfl, rfl⟩ | ⟨b, off, cap, c, t, rfl, hb, hc⟩
  · refine (Tryz.srtw8_Sort_nil none 0 w).mono ?_
    rintro e w' ⟨rfl, rfl⟩
    exact ⟨rfl, by simpa [srt] using hs0, Chg.refl _ _⟩
  · obtain ⟨hH, hlt, _⟩ := hs0.holds
    refine (Tryz.srtw8_slices_Sort b off cap l w hH hlt (by omega)).mono ?_
    rintro e w' ⟨rfl, n, os, rfl⟩
    exact ⟨rfl, hs0.sorted (srt_length l) n os, chg_sorted w _ b off n _ os S (hS b ⟨off, _, cap, rfl⟩)⟩

set_option maxHeartbeats 1000000 in
/-- slices.Sorted. -/
theorem sorted_w8 (gf : Nat) (lb : Array Value) (eg : ∀ args w, (callFunc gf args).run Tryz.prog w = .ok (.enter gf args) w) (S Sp : List Int → Prop) (N : Nat) (hN : N ≤ 1000000) (w : World)
    (hseq : SeqStopsK Fence.wide 2 Tryz.prog gf lb (fun x : Int => #[.int .u8 x]) (Kp [] [w.heap.size]) S Sp N (w.alloc (.cells #[.slice none 0 0] 142))) :
    Calls Tryz.prog 91 #[.func (.func gf) #[] lb] w fun e w' => ∃ v xs, e = .returned v ∧ S xs ∧ SlI w' .u8 v (srt xs) ∧ (∀ k, inBlk v k → w.heap.size ≤ k) ∧ Chg [] w w' ∧ xs.length ≤ 1000000 := by
  go_enter Tryz.func91, Tryz.ntmps91
  go_wp2_with (go_at_call 121; refine (collect_w8 gf lb eg S Sp N hN w hseq).mono ?_; rintro e w1 ⟨v, xs, rfl, hS, hs, hn, hc, hl⟩)
  obtain ⟨T, hT, hT2⟩ : ∃ T : List Nat, (∀ k, inBlk v k → k ∈ T) ∧ ∀ k ∈ T, w.heap.size ≤ k := by
    rcases hs with ⟨rfl, rfl⟩ | ⟨b, off, cap, c, t, rfl, hb, hc⟩
    · exact ⟨[], (fun k h => by obtain ⟨o, n, c, h⟩ := h; cases h), by simp⟩
    · exact ⟨[b], (fun k h => by obtain ⟨o, n, c, h⟩ := h; cases h; simp), fun k h => by simp at h; subst h; exact hn _ ⟨_, _, _, rfl⟩⟩
  go_wp2_with (go_at_call 122; refine (sort_w8 v xs T w1 hs hl hT).mono ?_; rintro e w2 ⟨rfl, hs2, hc2⟩)
  go_ret
  exact ⟨v, xs, rfl, hS, hs2, hn, hc.trans hc2 (fun t ht => .inr (hT2 t ht)), hl⟩
end Go.Proofs.YtackdgbcmeafhaaGreat

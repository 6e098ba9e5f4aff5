/- What an iterator over whole numbers tells, collected (pontagelaw18.over). -/
import Derived.Test.YtbagkfeodjkdmaaIter
namespace Go.Proofs.Ytbagkfeodjkdmaa
open Go.RowKit Go.Maps Go.Shelf
attribute [local go_sem] Oper.semAt_some

theorem infoU64 : (Try.prog.info? 23).map (fun i => (i.zero, i.size, i.bytes)) = some (some (.int .u64 0), 1, 8) := by kernel_rfl

/-- a slice's length is at most its capacity. -/
def capOk (v : Value) : Prop := ∀ a n c, v = .slice a n c → n ≤ c

set_option maxRecDepth 100000 in
set_option maxHeartbeats 2000000 in
theorem law18_overC (gf : Nat) (lb : Array Value) (eg : ∀ args w, (callFunc gf args).run Try.prog w = .ok (.enter gf args) w) (S Sp : List Int → Prop) (N : Nat) (hN : N ≤ 1000000) (w : World)
    (hseq : SeqStopsK Fence.wide 2 Try.prog gf lb (fun x : Int => #[.int .u64 x]) (Kp [] [w.heap.size]) S Sp N (w.alloc (.cells #[.slice none 0 0] 22))) :
    Calls Try.prog 18 #[.func (.func gf) #[] lb] w fun e w' => ∃ v xs, e = .returned v ∧ S xs ∧ SlI w' .u64 v xs ∧ (∀ k, inBlk v k → w.heap.size ≤ k) ∧ Chg [] w w' ∧ capOk v := by
  obtain ⟨i0, hi, hz0, hz1, hz2⟩ := info_parts infoU64
  refine (callsIn_wide (n := 3)).1 ?_
  refine callsIn_of_wp_marks Try.func18 rfl trivial ?_ rfl
  simp only [Try.ntmps18, List.size_toArray, List.length_cons, List.length_nil, Nat.reduceAdd, Nat.reduceSub, Array.replicate_succ, Array.replicate_zero, List.push_toArray, List.append_toArray, List.nil_append, List.cons_append]
  gi_wp2
  have hx := Boxed.new w 22 (.slice none 0 0)
  refine wpIn_rangeFunc_ownF rfl (by omega) (gf := gf) (lb := lb) rfl trivial eg hseq Kp.trans' (kp_b (by simp)) (Below.refl _ _) (fun _ => rfl)
    (fun pre W => (∃ v, Boxed W w.heap.size 22 v ∧ W.ownsRow w.heap.size 23 1 v pre.length (pre.map (Value.int .u64)) ∧ (v = .slice none 0 0 ↔ pre = [])) ∧ Below w.heap.size w W)
    (fun _ _ _ => False) ?hI ?hIx ?h0 (fun x => { tmps := #[.func (.func gf) #[] lb, undef, .slice none 0 0, .pointer (some ⟨w.heap.size, 0, none⟩), .int .u64 x, .func (.func gf) #[] lb, .int .u64 x, undef, undef, undef, undef, undef], defers := [] }) ?assign ?body ?done ?stop
  case hI =>
    exact OwnFrom.and (Own.from (holdsRow_own w.heap.size w.heap.size 22 23 1 (fun pre : List Int => pre.length) (fun pre => pre.map (Value.int .u64)) (fun pre v => (v = .slice none 0 0 ↔ pre = []))) _) (ownFrom_below (Nat.le_refl _) (by simp))
  case hIx => exact fun _ _ _ _ _ hs _ _ => hs
  case h0 => exact ⟨⟨_, hx, by simpa using World.ownsRow_nil _ _ _ _, by simp⟩, (Below.refl _ _).alloc (Nat.le_refl _) _⟩
  case assign =>
    intro l x W K hK
    gi_wp2
    exact hK
  case body =>
    rintro l pre x W ⟨⟨v, hv, hrow, hnil⟩, hB⟩ hlen
    have hc := hv.cell
    gi_wp2_with (gi_at_builtin; refine wpListIn_append_own_at _ rfl _ _ 22 rfl w.heap.size 23 i0 (.int .u64 0) 1 8 Try.underlying22 hi hz0 hz1 hz2 rfl (by decide) _ _ _ rfl (hrow.alloc _) ⟨W.heap.size, 0, none⟩ 1 1 [.int .u64 x] rfl rfl (cell_one_new _ _ _) (by simp [Value.oneCell']) (by unfold maxLen; omega) (by omega) (by have := hB.size; simp; omega) ?_; intro v' w1 hown' hgrow hnil' hloc; obtain ⟨g', cap', rfl⟩ := ownsRow_succ hown'; have hkp := kp_app hv (by decide) hrow hown' hgrow hloc; obtain ⟨hv1, hv2, hr2, hk2, hb2⟩ := hv.appended (by decide) hrow hB.size (Nat.le_refl _) hown' hgrow; have hc1 := hv1.cell; have hf1 := hv1.frozen)
    exact ⟨hk2, hkp, ⟨_, hv2, by simpa using hr2, by simp⟩, hB.trans hb2⟩
  case stop => exact fun _ _ _ _ _ _ h => h.elim
  case done =>
    rintro D xs W hD hS ⟨⟨v, hv, hrow, hnil⟩, hB⟩ hK
    simp at hD
    have hc := hv.cell
    gi_wp2
    refine ⟨by simp, .inl ⟨_, _, rfl, run_takeDeferred hK, ?_⟩⟩
    refine ⟨_, results_tmp rfl _ _ _, v, xs, rfl, hS, ?_, ?_, ?_, ?_⟩
    · have hr2 := ownsRow_putObj hrow (.deferred none) hK rfl
      rcases hr2.2 with ⟨rfl, h0⟩ | ⟨g, cap, cur, rfl, hg, hb, h1, h2, h3, h4⟩
      · exact .inl ⟨rfl, List.eq_nil_of_length_eq_zero h0⟩
      · refine .inr ⟨g, 0, cap, cur, _, rfl, hb, fun i hi => ?_⟩
        have : (cur.toList.take (xs.length * 1))[i]? = (xs.map (Value.int .u64))[i]? := by rw [h4]
        rw [List.getElem?_take_of_lt (by omega)] at this
        simpa [hi] using this
    · rintro k ⟨o, n, c, rfl⟩
      rcases hrow.2 with ⟨e, _⟩ | ⟨g, cap, cur, e, hg, _⟩
      · cases e
      · cases e; exact hg
    · exact (Chg.of_below hB).grown (grownBy_putObj' _ D _) (fun k e => .inr (by cases e; omega))
    · intro a n c e
      rcases hrow.2 with ⟨e', _⟩ | ⟨g, cap, cur, e', _, _, h1, _⟩
      · rw [e'] at e; cases e; omega
      · rw [e'] at e; cases e; exact h1

theorem law18_over (gf : Nat) (lb : Array Value) (eg : ∀ args w, (callFunc gf args).run Try.prog w = .ok (.enter gf args) w) (S Sp : List Int → Prop) (N : Nat) (hN : N ≤ 1000000) (w : World)
    (hseq : SeqStopsK Fence.wide 2 Try.prog gf lb (fun x : Int => #[.int .u64 x]) (Kp [] [w.heap.size]) S Sp N (w.alloc (.cells #[.slice none 0 0] 22))) :
    Calls Try.prog 18 #[.func (.func gf) #[] lb] w fun e w' => ∃ v xs, e = .returned v ∧ S xs ∧ SlI w' .u64 v xs ∧ (∀ k, inBlk v k → w.heap.size ≤ k) ∧ Chg [] w w' :=
  (law18_overC gf lb eg S Sp N hN w hseq).mono fun _ _ ⟨v, xs, h1, h2, h3, h4, h5, _⟩ => ⟨v, xs, h1, h2, h3, h4, h5⟩
end Go.Proofs.Ytbagkfeodjkdmaa

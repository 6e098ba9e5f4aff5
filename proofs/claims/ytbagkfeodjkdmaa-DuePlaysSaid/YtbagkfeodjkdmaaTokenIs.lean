/- pontagelaw15.all: what a ledger's iterator tells, collected. -/
import Derived.Test.YtbagkfeodjkdmaaTokenAll
namespace Go.Proofs.Ytbagkfeodjkdmaa
open Go.RowKit Go.Maps Go.Shelf
attribute [local go_sem] Oper.semAt_some

/-- the slice value v holds the pairs l. -/
def SlP (W : World) (v : Value) (l : List (Int × Int)) : Prop :=
  (v = .slice none 0 0 ∧ l = []) ∨ ∃ b cap c t, v = .slice (some ⟨b, 0, none⟩) l.length cap ∧ Blk W b c t ∧ ∀ i (h : i < l.length), c[i * 2]? = some (.int .u8 l[i].1) ∧ c[i * 2 + 1]? = some (.int .u64 l[i].2)
def flatP (l : List (Int × Int)) : List Value := l.flatMap (fun x => [.int .u8 x.1, .int .u64 x.2])
theorem flatP_get : ∀ (l : List (Int × Int)) (i : Nat) (h : i < l.length), (flatP l)[i * 2]? = some (.int .u8 l[i].1) ∧ (flatP l)[i * 2 + 1]? = some (.int .u64 l[i].2)
  | [], i, h => by cases h
  | x :: l, 0, h => by simp [flatP]
  | x :: l, i + 1, h => by
    have := flatP_get l i (by simpa using h)
    have e1 : (i + 1) * 2 = i * 2 + 1 + 1 := by omega
    have e2 : (i + 1) * 2 + 1 = i * 2 + 1 + 1 + 1 := by omega
    rw [e1]
    simpa [flatP] using this
theorem SlP.of_own {W : World} {n₀ : Nat} {T : TypeId} {v : Value} {l : List (Int × Int)} (hrow : W.ownsRow n₀ T 2 v l.length (flatP l)) : SlP W v l ∧ ∀ k, inBlk v k → n₀ ≤ k := by
  refine ⟨?_, ?_⟩
  · rcases hrow.2 with ⟨rfl, h0⟩ | ⟨g, cap, cur, rfl, hg, hb, h1, h2, h3, h4⟩
    · exact .inl ⟨rfl, List.eq_nil_of_length_eq_zero h0⟩
    · refine .inr ⟨g, cap, cur, _, rfl, hb, fun i hi => ?_⟩
      obtain ⟨a1, a2⟩ := flatP_get l i hi
      rw [← h4, List.getElem?_take_of_lt (by omega), Array.getElem?_toList] at a1
      rw [← h4, List.getElem?_take_of_lt (by omega), Array.getElem?_toList] at a2
      exact ⟨a1, a2⟩
  · rintro k ⟨o, n, c, rfl⟩
    rcases hrow.2 with ⟨e, _⟩ | ⟨g, cap, cur, e, hg, _⟩
    · cases e
    · cases e; exact hg
theorem SlP.chg {w W : World} {S : List Nat} {v : Value} {l : List (Int × Int)} (h : SlP w v l) (c : Chg S w W) (hS : ∀ b ∈ S, ¬ inBlk v b) : SlP W v l := by
  rcases h with h | ⟨b, cap, cs, t, rfl, hb, hc⟩
  · exact .inl h
  · exact .inr ⟨b, cap, cs, t, rfl, hb.chg c (fun e => hS b e ⟨0, _, cap, rfl⟩), hc⟩
theorem SlP.len {W : World} {v : Value} {l : List (Int × Int)} (h : SlP W v l) : ∃ a cap, v = .slice a l.length cap := by
  rcases h with ⟨rfl, rfl⟩ | ⟨b, cap, cs, t, rfl, hb, hc⟩
  · exact ⟨none, 0, rfl⟩
  · exact ⟨_, cap, rfl⟩
theorem cell_two_new (w : World) (x y : Value) (t : TypeId) : ∀ j u, [x, y][j]? = some u → (w.alloc (.cells #[x, y] t)).cell? ((⟨w.heap.size, 0, none⟩ : Addr).add j) = some u := by
  intro j u hj
  match j, hj with
  | 0, hj => exact (Blk.new w #[x, y] t).cell 0 (by simpa using hj)
  | 1, hj => exact (Blk.new w #[x, y] t).cell 1 (by simpa using hj)
  | k + 2, hj => simp at hj

theorem infoHas : (Try.prog.info? 153).map (fun i => (i.zero, i.size, i.bytes)) = some (some (.agg #[.int .u8 0, .int .u64 0]), 2, 16) := by kernel_rfl

set_option maxRecDepth 100000 in
set_option maxHeartbeats 2000000 in
theorem law15_all (gf : Nat) (lb : Array Value) (eg : ∀ args w, (callFunc gf args).run Try.prog w = .ok (.enter gf args) w) (S Sp : List (Int × Int) → Prop) (N : Nat) (hN : N ≤ 1000000) (w : World)
    (hseq : SeqStopsK Fence.wide 2 Try.prog gf lb (fun x : Int × Int => #[.int .u8 x.1, .int .u64 x.2]) (Kp [] [w.heap.size]) S Sp N (w.alloc (.cells #[.slice none 0 0] 53))) :
    Calls Try.prog 31 #[.func (.func gf) #[] lb] w fun e w' => ∃ v xs, e = .returned v ∧ S xs ∧ SlP w' v xs ∧ (∀ k, inBlk v k → w.heap.size ≤ k) ∧ Chg [] w w' := by
  obtain ⟨i0, hi, hz0, hz1, hz2⟩ := info_parts infoHas
  refine (callsIn_wide (n := 3)).1 ?_
  refine callsIn_of_wp_marks Try.func31 rfl trivial ?_ rfl
  simp only [Try.ntmps31, List.size_toArray, List.length_cons, List.length_nil, Nat.reduceAdd, Nat.reduceSub, Array.replicate_succ, Array.replicate_zero, List.push_toArray, List.append_toArray, List.nil_append, List.cons_append]
  gi_wp2
  have hx := Boxed.new w 53 (.slice none 0 0)
  refine wpIn_rangeFunc_ownF rfl (by omega) (gf := gf) (lb := lb) rfl trivial eg hseq Kp.trans' (kp_b (by simp)) (Below.refl _ _) (fun _ => rfl)
    (fun pre W => (∃ v, Boxed W w.heap.size 53 v ∧ W.ownsRow w.heap.size 153 2 v pre.length (flatP pre) ∧ (v = .slice none 0 0 ↔ pre = [])) ∧ Below w.heap.size w W)
    (fun _ _ _ => False) ?hI ?hIx ?h0 (fun x => { tmps := #[.func (.func gf) #[] lb, undef, .slice none 0 0, .pointer (some ⟨w.heap.size, 0, none⟩), .int .u8 x.1, .int .u64 x.2, .func (.func gf) #[] lb, .int .u8 x.1, .int .u64 x.2, undef, undef, undef, undef, undef, undef, undef], defers := [] }) ?assign ?body ?done ?stop
  case hI =>
    exact OwnFrom.and (Own.from (holdsRow_own w.heap.size w.heap.size 53 153 2 (fun pre : List (Int × Int) => pre.length) (fun pre => flatP pre) (fun pre v => (v = .slice none 0 0 ↔ pre = []))) _) (ownFrom_below (Nat.le_refl _) (by simp))
  case hIx => exact fun _ _ _ _ _ hs _ _ => hs
  case h0 => exact ⟨⟨_, hx, by simpa [flatP] using World.ownsRow_nil _ _ _ _, by simp⟩, (Below.refl _ _).alloc (Nat.le_refl _) _⟩
  case assign =>
    intro l x W K hK
    gi_wp2
    exact hK
  case body =>
    rintro l pre x W ⟨⟨v, hv, hrow, hnil⟩, hB⟩ hlen
    have hc := hv.cell
    gi_wp2_with (gi_at_builtin; refine wpListIn_append_own_at _ rfl _ _ 53 rfl w.heap.size 153 i0 (.agg #[.int .u8 0, .int .u64 0]) 2 16 Try.underlying53 hi hz0 hz1 hz2 rfl (by decide) _ _ _ rfl (hrow.alloc _) ⟨W.heap.size, 0, none⟩ 1 1 [.int .u8 x.1, .int .u64 x.2] rfl rfl (cell_two_new _ _ _ _) (by simp [Value.oneCell']) (by unfold maxLen; omega) (by omega) (by have := hB.size; simp; omega) ?_; intro v' w1 hown' hgrow hnil' hloc; obtain ⟨g', cap', rfl⟩ := ownsRow_succ hown'; have hkp := kp_app hv (by decide) hrow hown' hgrow hloc; obtain ⟨hv1, hv2, hr2, hk2, hb2⟩ := hv.appended (by decide) hrow hB.size (Nat.le_refl _) hown' hgrow; have hc1 := hv1.cell; have hf1 := hv1.frozen)
    exact ⟨hk2, hkp, ⟨_, hv2, by simpa [flatP] using hr2, by simp⟩, hB.trans hb2⟩
  case stop => exact fun _ _ _ _ _ _ h => h.elim
  case done =>
    rintro D xs W hD hS ⟨⟨v, hv, hrow, hnil⟩, hB⟩ hK
    simp at hD
    have hc := hv.cell
    gi_wp2
    refine ⟨by simp, .inl ⟨_, _, rfl, run_takeDeferred hK, ?_⟩⟩
    have hr2 := ownsRow_putObj hrow (.deferred none) hK rfl
    obtain ⟨h1, h2⟩ := SlP.of_own hr2
    exact ⟨_, results_tmp rfl _ _ _, v, xs, rfl, hS, h1, h2, (Chg.of_below hB).grown (grownBy_putObj' _ D _) (fun k e => .inr (by cases e; omega))⟩

/-- all(l.All()) -/
theorem law15_all_led (b p mb : Nat) (L : Led) (w : World) (hb : Blk w b #[.pointer (some ⟨p, 0, none⟩)] 38) (h : LedAt w p mb L) :
    Calls Try.prog 31 #[.func (.func 88) #[] #[.pointer (some ⟨b, 0, none⟩)]] w fun e w' => ∃ v, e = .returned v ∧ SlP w' v (have_ L.m (keysTo L.m 256)) ∧ (∀ k, inBlk v k → w.heap.size ≤ k) ∧ Chg [] w w' := by
  obtain ⟨it, ht⟩ := itPre_new w (.cells #[.slice none 0 0] 53) (.slice none 0 0) 53 rfl (by simp)
  have hc : Chg [] w (w.alloc (.cells #[.slice none 0 0] 53)) := (Chg.refl _ _).alloc _
  have l1 := hb.lt
  have l2 := h.blk.lt
  obtain ⟨cnt, hm⟩ := h.map
  have l3 := hm.lt
  refine (law15_all 88 _ (enters_of Try.func88 (by kernel_rfl) rfl) _ _ 256 (by omega) w
    (token_All1 2 (by omega) [] [w.heap.size] b p mb L _ (hb.alloc _) (h.chg hc (by simp) (by simp)) it (fun h => by have := (ht _).1 h; omega) (fun h => by have := (ht _).1 h; omega) (fun h => by have := (ht _).1 h; omega))).mono ?_
  rintro e w' ⟨v, xs, he, hxs, hs, hf, hc⟩
  rw [hxs] at hs
  exact ⟨v, he, hs, hf, hc⟩
end Go.Proofs.Ytbagkfeodjkdmaa

/- Layer 20: All, of a book's vaults. -/
import Derived.Test.YtackdgbcmeafhaaGreatVaults
import Derived.Test.YtackdgbcmeafhaaGreatReg0
import Derived.Test.YtackdgbcmeafhaaGreatNilDo
import Derived.Great.BuildSlice
namespace Go.Proofs.YtackdgbcmeafhaaGreat
open Go.RowKit Go.Maps Go.Shelf
attribute [-go_sem] loadCellsFrom Instr.buildSlice
attribute [local go_sem] Oper.semAt_some

theorem infoVault : (Tryz.prog.info? 52).map (fun i => (i.zero, i.size, i.bytes)) = some (some (.agg zVt), 27, 72) := by kernel_rfl
def flatV (l : List Vk) : List Value := l.flatMap (fun v => v.1.cs.toList)
theorem Vk.len (v : Vk) : v.1.cs.toList.length = 27 := by simpa using v.1.size v.2.1
theorem flatV_append (a b : List Vk) : flatV (a ++ b) = flatV a ++ flatV b := by simp [flatV]
theorem flatV_len : ∀ l : List Vk, (flatV l).length = l.length * 27
  | [] => rfl
  | v :: l => by
    have := flatV_len l
    have h := v.len
    simp only [flatV, List.flatMap_cons, List.length_append, List.length_cons] at this ⊢
    omega
theorem flatV_get : ∀ (l : List Vk) (i j : Nat) (h : i < l.length), j < 27 → (flatV l)[i * 27 + j]? = l[i].1.cs[j]?
  | [], i, j, h, _ => by cases h
  | v :: l, 0, j, h, hj => by
    have := v.len
    simp only [flatV, List.flatMap_cons, Nat.zero_mul, Nat.zero_add, List.getElem_cons_zero]
    rw [List.getElem?_append_left (by omega)]
    simp
  | v :: l, i + 1, j, h, hj => by
    have hl := v.len
    have := flatV_get l i j (by simpa using h) hj
    simp only [flatV, List.flatMap_cons, List.getElem_cons_succ] at this ⊢
    rw [List.getElem?_append_right (by omega), hl, ← this]
    congr 1
    omega
theorem flatV_one {l : List Vk} {u : Value} (h : u ∈ flatV l) : u.oneCell' = true := by
  obtain ⟨v, _, h⟩ := List.mem_flatMap.1 h
  have := v.2.one
  rw [Array.all_eq_true_iff_forall_mem] at this
  exact this u (by simpa using h)
/-- the slice value v owns the vaults l. -/
def VtS (n₀ : Nat) (W : World) (v : Value) (l : List Vk) : Prop := W.ownsRow n₀ 52 27 v l.length (flatV l)
theorem VtS.len {n₀ : Nat} {W : World} {v : Value} {m : List Vk} (h : VtS n₀ W v m) : ∃ a cap, v = .slice a m.length cap := by
  rcases h.2 with ⟨rfl, h0⟩ | ⟨g, cap, cur, rfl, _⟩
  · exact ⟨none, 0, by rw [h0]⟩
  · exact ⟨_, cap, rfl⟩
theorem addr_add' (b o i : Nat) : (⟨b, o, none⟩ : Addr).add i = ⟨b, o + i, none⟩ := by unfold Addr.add; split <;> simp_all
theorem VtS.cell {n₀ : Nat} {W : World} {a : Option Addr} {n cap : Nat} {m : List Vk} (h : VtS n₀ W (.slice a n cap) m) {i : Nat} (hi : i < m.length) :
    ∃ b, a = some ⟨b, 0, none⟩ ∧ ∀ j v, m[i].1.cs[j]? = some v → W.cell? ⟨b, i * 27 + j, none⟩ = some v := by
  have hc := fun g hg => World.ownsRow.cells h (g := g) hg
  rcases h.2 with ⟨e, h0⟩ | ⟨g, cap, cur, e, _⟩
  · omega
  · cases e
    refine ⟨g, rfl, fun j v hv => ?_⟩
    have hj : j < 27 := by have := (Array.getElem?_eq_some_iff.1 hv).1; rw [m[i].1.size m[i].2.1] at this; exact this
    have := hc g rfl _ v ((flatV_get m i j hi hj).trans hv)
    rw [addr_add', Nat.zero_add] at this
    exact this
theorem VtS.chg {n₀ : Nat} {w W : World} {S : List Nat} {v : Value} {m : List Vk} (h : VtS n₀ w v m) (c : Chg S w W) (hS : ∀ b ∈ S, v.ownBlock ≠ some b) : VtS n₀ W v m := by
  refine ⟨h.1, ?_⟩
  rcases h.2 with h0 | ⟨g, cap, cur, rfl, hb, hg, r⟩
  · exact .inl h0
  · exact .inr ⟨g, cap, cur, rfl, hb, (c.block g (Array.getElem?_eq_some_iff.1 hg).1 (fun e => hS g e rfl)).trans hg, r⟩

theorem kp_alloc' (Bs : List Nat) (W : World) (o : Obj) (hB : ∀ B ∈ Bs, B < W.heap.size) : Kp [] Bs W (W.alloc o) := by
  have hc : ∀ B ∈ Bs, (W.alloc o).cell? ⟨B, 0, none⟩ = W.cell? ⟨B, 0, none⟩ := fun B h => by
    simp only [World.cell?]; rw [Below.heap_alloc W o B (hB B h)]
  have ht : ∀ k, Tch [] Bs (W.alloc o) k → Tch [] Bs W k := fun k t => t.of_cells (fun B hB o n c k h => hc B hB ▸ h)
  exact ⟨by simp, fun k o' h _ _ => (Below.heap_alloc W o k (Array.getElem?_eq_some_iff.1 h).1).trans h, fun k _ t => ht k t, fun hlow k t => by have := hlow k (ht k t); simp; omega⟩
theorem fold_set : ∀ (l : List Value) (k : Nat) (c : Array Value), ((l.zipIdx k).foldl (fun c x => c.setIfInBounds (0 + x.2) x.1) c).size = c.size ∧ ∀ i, ((l.zipIdx k).foldl (fun c x => c.setIfInBounds (0 + x.2) x.1) c)[i]? = if k ≤ i ∧ i < k + l.length ∧ i < c.size then l[i - k]? else c[i]?
  | [], k, c => ⟨rfl, fun i => by rw [if_neg (by simp; omega)]; rfl⟩
  | v :: r, k, c => by
    obtain ⟨hs, hi⟩ := fold_set r (k + 1) (c.setIfInBounds (0 + k) v)
    simp only [List.zipIdx_cons, List.foldl_cons]
    refine ⟨by rw [hs]; simp, fun i => ?_⟩
    rw [hi]
    simp only [Nat.zero_add, Array.size_setIfInBounds, List.length_cons]
    by_cases hio : i = k
    · subst hio
      rw [if_neg (by omega)]
      by_cases hc : i < c.size
      · rw [if_pos ⟨by omega, by omega, hc⟩]; simp [hc]
      · rw [if_neg (by omega)]
        rw [Array.getElem?_eq_none (by simp; omega), Array.getElem?_eq_none (by omega)]
    · have e : (c.setIfInBounds k v)[i]? = c[i]? := by rw [Array.getElem?_setIfInBounds]; simp [Ne.symm hio]
      by_cases hc : k + 1 ≤ i ∧ i < k + 1 + r.length ∧ i < c.size
      · rw [if_pos hc, if_pos ⟨by omega, by omega, hc.2.2⟩]
        obtain ⟨j, rfl⟩ : ∃ j, i = k + 1 + j := ⟨i - (k + 1), by omega⟩
        rw [show k + 1 + j - k = j + 1 by omega, show k + 1 + j - (k + 1) = j by omega]
        simp
      · rw [if_neg hc, if_neg (by omega), e]
theorem fill_all (z cs : Array Value) (h : cs.size = z.size) : (cs.toList.zipIdx 0).foldl (fun c x => c.setIfInBounds (0 + x.2) x.1) z = cs := by
  obtain ⟨hs, hi⟩ := fold_set cs.toList 0 z
  apply Array.ext_getElem?
  intro i
  rw [hi]
  by_cases hc : i < z.size
  · rw [if_pos ⟨by omega, by simp; omega, hc⟩]; simp
  · rw [if_neg (by omega), Array.getElem?_eq_none (by omega), Array.getElem?_eq_none (by omega)]
set_option maxRecDepth 100000 in
theorem run_build_vault (cs : Array Value) (hs : cs.size = 27) (W : World) : (Instr.buildSlice 82 1 #[(0, .agg cs)]).run Tryz.prog W = .ok (.slice (some ⟨W.heap.size, 0, none⟩) 1 1) (W.alloc (.cells cs 52)) := by
  obtain ⟨i0, hi, hz0, hz1, hz2⟩ := info_parts infoVault
  refine run_buildSlice W 82 52 1 _ cs i0 (.agg zVt) Tryz.underlying82 hi hz0 (by rw [hz1]; decide) (by rw [hz1]; decide) ?_
  rw [hz1]
  have hzz : ((Array.range (1 * 27)).map ((Value.agg zVt).cells[· % (Value.agg zVt).cells.size]!)).size = 27 := by simp
  generalize (Array.range (1 * 27)).map ((Value.agg zVt).cells[· % (Value.agg zVt).cells.size]!) = z at hzz ⊢
  have hf := fill_all z cs (by omega)
  simp only [Instr.fill, Value.cells, Nat.zero_mul, ← Array.foldl_toList, Array.toList_zipIdx, hf]
  rw [if_neg (by simp [hs, hzz])]
set_option maxRecDepth 100000 in
set_option maxHeartbeats 4000000 in
theorem law20_All (gf : Nat) (lb : Array Value) (eg : ∀ args w, (callFunc gf args).run Tryz.prog w = .ok (.enter gf args) w) (S Sp : List Vk → Prop) (N : Nat) (hN : N ≤ 100000) (w : World)
    (hseq : SeqStopsK Fence.wide 2 Tryz.prog gf lb (fun v : Vk => #[.agg v.1.cs]) (Kp [] [w.heap.size]) S Sp N (w.alloc (.cells #[.slice none 0 0] 82))) :
    Calls Tryz.prog 32 #[.func (.func gf) #[] lb] w fun e w' => ∃ v xs, e = .returned v ∧ S xs ∧ VtS w.heap.size w' v xs ∧ Chg [] w w' := by
  obtain ⟨i0, hi, hz0, hz1, hz2⟩ := info_parts infoVault
  have hne := seq_ne gf lb
  have hz := zVault
  refine (callsIn_wide (n := 3)).1 ?_
  refine callsIn_of_wp_marks Tryz.func32 rfl trivial ?_ rfl
  simp only [Tryz.ntmps32, List.size_toArray, List.length_cons, List.length_nil, Nat.reduceAdd, Nat.reduceSub, Array.replicate_succ, Array.replicate_zero, List.push_toArray, List.append_toArray, List.nil_append, List.cons_append]
  gi_wp2
  have hx := Boxed.new w 82 (.slice none 0 0)
  refine wpIn_rangeFunc_ownH rfl (by omega) (gf := gf) (lb := lb) rfl trivial eg hseq Kp.trans' (kp_b (by simp)) (Below.refl _ _) (fun _ => rfl)
    (fun pre W => (∃ v, Boxed W w.heap.size 82 v ∧ W.ownsRow w.heap.size 52 27 v pre.length (flatV pre) ∧ (v = .slice none 0 0 ↔ pre = [])) ∧ Below w.heap.size w W)
    (fun _ _ _ => False) ?hI ?hIx ?h0
    (fun x a' W => ∃ g, w.heap.size < g ∧ Blk W g x.1.cs 52 ∧ a' = { tmps := #[.func (.func gf) #[] lb, undef, .slice none 0 0, .pointer (some ⟨w.heap.size, 0, none⟩), .pointer (some ⟨g, 0, none⟩), .func (.func gf) #[] lb, .bool false, undef, .func (.func gf) #[] lb, .agg x.1.cs, undef, undef, undef, undef, undef], defers := [] }) ?hAx ?assign ?body ?done ?stop
  case hI =>
    exact OwnFrom.and (Own.from (holdsRow_own w.heap.size w.heap.size 82 52 27 (fun pre : List Vk => pre.length) (fun pre => flatV pre) (fun pre v => (v = .slice none 0 0 ↔ pre = []))) _) (ownFrom_below (Nat.le_refl _) (by simp))
  case hIx => exact fun _ _ _ _ _ hs _ _ => hs
  case h0 => exact ⟨⟨_, hx, by simpa [flatV] using World.ownsRow_nil _ _ _ _, by simp⟩, (Below.refl _ _).alloc (Nat.le_refl _) _⟩
  case hAx =>
    rintro x a' _ X Y row ⟨g, h1, h2, h3⟩ hg hr
    refine ⟨g, h1, h2.grown hg (fun e => ?_), h3⟩
    obtain ⟨_, o, ho, hc⟩ := hr g e.symm
    rw [show X.heap[g]? = _ from h2] at ho; cases ho; cases hc
  case assign =>
    rintro l pre x W K ⟨⟨v, hv, hrow, hnil⟩, hB⟩ hK
    have hsz := x.1.size x.2.1
    have hst := run_storeCells_new (P := Tryz.prog) W 52 zVt x.1.cs (by rw [hsz]; kernel_rfl) (by rw [hsz]; rfl) x.2.one
    gi_wp2
    exact hK _ _ ((KeepsOthers.alloc W _).from _) (kp_alloc' _ W _ (by have := hv.lt; simpa using this)) ⟨⟨_, hv.alloc _, hrow.alloc _, hnil⟩, hB.alloc hB.size _⟩ ⟨W.heap.size, hv.lt, Blk.new W _ _, rfl⟩
  case body =>
    rintro l pre x a' W hl ⟨r, hr⟩ ⟨⟨v, hv, hrow, hnil⟩, hB⟩ ⟨g, hg1, hg2, rfl⟩ hlen
    have hc := hv.cell
    have hld := load_blk hg2 27 (x.1.size x.2.1)
    have hls := x.len
    have hbs := run_build_vault x.1.cs (x.1.size x.2.1)
    have hone := x.2.one
    rw [Array.all_eq_true_iff_forall_mem] at hone
    have hcells : ∀ j u, x.1.cs.toList[j]? = some u → (W.alloc (.cells x.1.cs 52)).cell? ((⟨W.heap.size, 0, none⟩ : Addr).add j) = some u := fun j u hj => by
      rw [addr_add', Nat.zero_add]
      exact (Blk.new W x.1.cs 52).cell j (by simpa using hj)
    gi_wp2_with (gi_at_builtin; go_loud (refine wpListIn_append_own_at _ rfl _ _ 82 rfl w.heap.size 52 i0 (.agg zVt) 27 72 Tryz.underlying82 hi hz0 hz1 hz2 rfl (by decide) _ _ _ rfl (hrow.alloc _) ⟨W.heap.size, 0, none⟩ 1 1 x.1.cs.toList rfl (by omega) hcells (fun u hu => hone u (by simpa using hu)) (by unfold maxLen; omega) (by omega) (by have := hB.size; simp; omega) ?_); intro v' w1 hown' hgrow hnil' hloc; obtain ⟨g', cap', rfl⟩ := ownsRow_succ hown'; have hkp := kp_app hv (by decide) hrow hown' hgrow hloc; obtain ⟨hv1, hv2, hr2, hk2, hb2⟩ := hv.appended (by decide) hrow hB.size (Nat.le_refl _) hown' hgrow; have hc1 := hv1.cell; have hf1 := hv1.frozen)
    exact ⟨hk2.from _, hkp, ⟨_, hv2, by simpa [flatV] using hr2, by simp⟩, hB.trans hb2⟩
  case stop => exact fun _ _ _ _ _ _ h => h.elim
  case done =>
    rintro D xs W hD hS ⟨⟨v, hv, hrow, hnil⟩, hB⟩ hK
    simp at hD
    have hc := hv.cell
    gi_wp2
    refine ⟨by simp, .inl ⟨_, _, rfl, run_takeDeferred hK, ?_⟩⟩
    have hr2 := ownsRow_putObj hrow (.deferred none) hK rfl
    exact ⟨_, results_tmp rfl _ _ _, v, xs, rfl, hS, hr2, (Chg.of_below hB).grown (grownBy_putObj' _ D _) (fun k e => .inr (by cases e; omega))⟩
end Go.Proofs.YtackdgbcmeafhaaGreat

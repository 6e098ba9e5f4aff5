import Derived.Test.YtmkgbinmilcojaaGreatMeetsMine
import Derived.Test.YtmkgbinmilcojaaGreatNodeMap
import Derived.Great.BuildSlice
import Derived.Test.YtmkgbinmilcojaaGreatDepthAll

/- Slices of elements of many cells: what is read, kept, built and appended; what a round leaves of single cells. -/
namespace Go.Proofs.YtmkgbinmilcojaaGreat
open Go.RowKit Go.Maps Go.Shelf

theorem infoHashA : (Tryz.prog.info? 26).map (fun i => (i.zero, i.size, i.bytes)) = some (some (.agg z32), 32, 32) := by kernel_rfl
theorem infoHeadA : (Tryz.prog.info? 28).map (fun i => (i.zero, i.size, i.bytes)) = some (some (.agg hd0.cs), 68, 80) := by kernel_rfl
theorem flat_len {s : Nat} : ∀ (l : List (List Value)), (∀ x ∈ l, x.length = s) → l.flatten.length = l.length * s
  | [], _ => by simp
  | v :: l, h => by
    have h1 := flat_len l (fun x hx => h x (by simp [hx]))
    have h2 := h v (by simp)
    rw [List.flatten_cons, List.length_append, h1, h2, List.length_cons, Nat.add_mul]
    omega
theorem flat_get {s : Nat} : ∀ (l : List (List Value)), (∀ x ∈ l, x.length = s) → ∀ (i j : Nat) (h : i < l.length), j < s → l.flatten[i * s + j]? = l[i][j]?
  | [], _, i, j, h, _ => by cases h
  | v :: l, hs, 0, j, h, hj => by
    have := hs v (by simp)
    rw [List.flatten_cons, List.getElem?_append_left (by omega)]
    simp
  | v :: l, hs, i + 1, j, h, hj => by
    have hl := hs v (by simp)
    have := flat_get l (fun x hx => hs x (by simp [hx])) i j (by simpa using h) hj
    rw [List.flatten_cons, List.getElem?_append_right (by rw [hl, Nat.add_mul]; omega), hl]
    simp only [List.getElem_cons_succ]
    rw [← this]
    congr 1
    rw [Nat.add_mul]
    omega
/-- the slice value v owns the elements l, each of s cells. -/
structure RowS (n₀ : Nat) (t : TypeId) (s : Nat) (W : World) (v : Value) (l : List (List Value)) : Prop where
  row : W.ownsRow n₀ t s v l.length l.flatten
  len : ∀ x ∈ l, x.length = s
theorem RowS.nil (n₀ : Nat) (t : TypeId) (s : Nat) (W : World) : RowS n₀ t s W (.slice none 0 0) [] := ⟨by simpa using World.ownsRow_nil _ _ _ _, by simp⟩
theorem RowS.len' {n₀ s : Nat} {t : TypeId} {W : World} {v : Value} {m : List (List Value)} (h : RowS n₀ t s W v m) : ∃ a cap, v = .slice a m.length cap := by
  rcases h.row.2 with ⟨rfl, h0⟩ | ⟨g, cap, cur, rfl, _⟩
  · exact ⟨none, 0, by rw [h0]⟩
  · exact ⟨_, cap, rfl⟩
theorem addr_ad (b o i : Nat) : (⟨b, o, none⟩ : Addr).add i = ⟨b, o + i, none⟩ := by unfold Addr.add; split <;> simp_all
theorem RowS.elem {n₀ s : Nat} {t : TypeId} {W : World} {a : Option Addr} {n cap : Nat} {m : List (List Value)} (h : RowS n₀ t s W (.slice a n cap) m) {i : Nat} (hi : i < m.length) :
    ∃ b c, a = some ⟨b, 0, none⟩ ∧ n₀ ≤ b ∧ Blk W b c t ∧ ∀ (j : Nat) (v : Value), m[i].toArray[j]? = some v → c[i * s + j]? = some v := by
  rcases h.row.2 with ⟨e, h0⟩ | ⟨g, cap, cur, e, hb, hg, hle, hle2, hsz, hcur⟩
  · omega
  · cases e
    refine ⟨g, cur, rfl, hb, hg, fun j v hv => ?_⟩
    have hj : j < s := by have := (Array.getElem?_eq_some_iff.1 hv).1; simpa [h.len m[i] (List.getElem_mem hi)] using this
    have h1 := (flat_get m h.len i j hi hj).trans (by simpa using hv)
    have h2 := World.ownsRow.cells h.row (g := g) rfl (i * s + j) v h1
    rw [addr_ad, Nat.zero_add] at h2
    simp only [World.cell?, show W.heap[g]? = some (.cells cur t (0, 0)) from hg] at h2
    simpa using h2
theorem RowS.load {n₀ s : Nat} {t : TypeId} {W : World} {a : Option Addr} {n cap : Nat} {m : List (List Value)} (h : RowS n₀ t s W (.slice a n cap) m) {i : Nat} (hi : i < m.length) :
    ∃ b, a = some ⟨b, 0, none⟩ ∧ n₀ ≤ b ∧ (loadCellsFrom ⟨b, i * s, none⟩ 0 s #[]).run Tryz.prog W = .ok m[i].toArray W := by
  obtain ⟨b, c, e, hb, hk, hc⟩ := h.elem hi
  exact ⟨b, e, hb, load_part hk (i * s) s (by simp [h.len m[i] (List.getElem_mem hi)]) hc⟩
theorem RowS.own {n₀ s : Nat} {t : TypeId} {W : World} {v : Value} {m : List (List Value)} (h : RowS n₀ t s W v m) {b : Nat} (hb : v.ownBlock = some b) : n₀ ≤ b := by
  rcases h.row.2 with ⟨rfl, _⟩ | ⟨g, cap, cur, rfl, hg, _⟩
  · cases hb
  · cases hb; exact hg
theorem RowS.chg {n₀ s : Nat} {t : TypeId} {w W : World} {S : List Nat} {v : Value} {m : List (List Value)} (h : RowS n₀ t s w v m) (c : Chg S w W) (hS : ∀ b ∈ S, v.ownBlock ≠ some b) : RowS n₀ t s W v m := by
  refine ⟨⟨h.row.1, ?_⟩, h.len⟩
  rcases h.row.2 with h0 | ⟨g, cap, cur, rfl, hb, hg, r⟩
  · exact .inl h0
  · exact .inr ⟨g, cap, cur, rfl, hb, (c.block g (Array.getElem?_eq_some_iff.1 hg).1 (fun e => hS g e rfl)).trans hg, r⟩
theorem RowS.chg0 {n₀ s : Nat} {t : TypeId} {w W : World} {v : Value} {m : List (List Value)} (h : RowS n₀ t s w v m) (c : Chg [] w W) : RowS n₀ t s W v m := h.chg c (by simp)
theorem RowS.lt {n₀ s : Nat} {t : TypeId} {w : World} {v : Value} {m : List (List Value)} (h : RowS n₀ t s w v m) {b : Nat} (hb : v.ownBlock = some b) : b < w.heap.size := by
  rcases h.row.2 with ⟨rfl, _⟩ | ⟨g, cap, cur, rfl, _, hg, _⟩
  · cases hb
  · cases hb; exact (Array.getElem?_eq_some_iff.1 hg).1

theorem kp_alo (Bs : List Nat) (W : World) (o : Obj) (hB : ∀ B ∈ Bs, B < W.heap.size) : Kp [] Bs W (W.alloc o) := by
  have hc : ∀ B ∈ Bs, (W.alloc o).cell? ⟨B, 0, none⟩ = W.cell? ⟨B, 0, none⟩ := fun B h => by
    simp only [World.cell?]; rw [Below.heap_alloc W o B (hB B h)]
  have ht : ∀ k, Tch [] Bs (W.alloc o) k → Tch [] Bs W k := fun k t => t.of_cells (fun B hB o n c k h => hc B hB ▸ h)
  exact ⟨by simp, fun k o' h _ _ => (Below.heap_alloc W o k (Array.getElem?_eq_some_iff.1 h).1).trans h, fun k _ t => ht k t, fun hlow k t => by have := hlow k (ht k t); simp; omega⟩
theorem fold_st : ∀ (l : List Value) (k : Nat) (c : Array Value), ((l.zipIdx k).foldl (fun c x => c.setIfInBounds (0 + x.2) x.1) c).size = c.size ∧ ∀ i, ((l.zipIdx k).foldl (fun c x => c.setIfInBounds (0 + x.2) x.1) c)[i]? = if k ≤ i ∧ i < k + l.length ∧ i < c.size then l[i - k]? else c[i]?
  | [], k, c => ⟨rfl, fun i => by rw [if_neg (by simp; omega)]; rfl⟩
  | v :: r, k, c => by
    obtain ⟨hs, hi⟩ := fold_st r (k + 1) (c.setIfInBounds (0 + k) v)
    simp only [List.zipIdx_cons, List.foldl_cons]
    refine ⟨by rw [hs]; simp, fun i => ?_⟩
    rw [hi]
    simp only [Nat.zero_add, Array.size_setIfInBounds, List.length_cons]
    by_cases hio : i = k
    · subst hio
      rw [if_neg (by omega)]
      by_cases hc : i < c.size
      · rw [if_pos ⟨by omega, by omega, hc⟩]; simp [hc]
      · rw [if_neg (by omega)]
        rw [Array.getElem?_eq_none (by simp; omega), Array.getElem?_eq_none (by omega)]
    · have e : (c.setIfInBounds k v)[i]? = c[i]? := by rw [Array.getElem?_setIfInBounds]; simp [Ne.symm hio]
      by_cases hc : k + 1 ≤ i ∧ i < k + 1 + r.length ∧ i < c.size
      · rw [if_pos hc, if_pos ⟨by omega, by omega, hc.2.2⟩]
        obtain ⟨j, rfl⟩ : ∃ j, i = k + 1 + j := ⟨i - (k + 1), by omega⟩
        rw [show k + 1 + j - k = j + 1 by omega, show k + 1 + j - (k + 1) = j by omega]
        simp
      · rw [if_neg hc, if_neg (by omega), e]
theorem fill_al (z cs : Array Value) (h : cs.size = z.size) : (cs.toList.zipIdx 0).foldl (fun c x => c.setIfInBounds (0 + x.2) x.1) z = cs := by
  obtain ⟨hs, hi⟩ := fold_st cs.toList 0 z
  apply Array.ext_getElem?
  intro i
  rw [hi]
  by_cases hc : i < z.size
  · rw [if_pos ⟨by omega, by simp; omega, hc⟩]; simp
  · rw [if_neg (by omega), Array.getElem?_eq_none (by omega), Array.getElem?_eq_none (by omega)]
set_option maxRecDepth 100000 in
theorem run_build_hash (cs : Array Value) (hs : cs.size = 32) (W : World) : (Instr.buildSlice 71 1 #[(0, .agg cs)]).run Tryz.prog W = .ok (.slice (some ⟨W.heap.size, 0, none⟩) 1 1) (W.alloc (.cells cs 26)) := by
  obtain ⟨i0, hi, hz0, hz1, hz2⟩ := info_partsB infoHashA
  refine run_buildSlice W 71 26 1 _ cs i0 (.agg z32) Tryz.underlying71 hi hz0 (by rw [hz1]; decide) (by rw [hz1]; decide) ?_
  rw [hz1]
  have hzz : ((Array.range (1 * 32)).map ((Value.agg z32).cells[· % (Value.agg z32).cells.size]!)).size = 32 := by simp
  generalize (Array.range (1 * 32)).map ((Value.agg z32).cells[· % (Value.agg z32).cells.size]!) = z at hzz ⊢
  have hf := fill_al z cs (by omega)
  simp only [Instr.fill, Value.cells, Nat.zero_mul, ← Array.foldl_toList, Array.toList_zipIdx, hf]
  rw [if_neg (by simp [hs, hzz])]
set_option maxRecDepth 100000 in
theorem run_build_head (cs : Array Value) (hs : cs.size = 68) (W : World) : (Instr.buildSlice 44 1 #[(0, .agg cs)]).run Tryz.prog W = .ok (.slice (some ⟨W.heap.size, 0, none⟩) 1 1) (W.alloc (.cells cs 28)) := by
  obtain ⟨i0, hi, hz0, hz1, hz2⟩ := info_partsB infoHeadA
  refine run_buildSlice W 44 28 1 _ cs i0 (.agg hd0.cs) Tryz.underlying44 hi hz0 (by rw [hz1]; decide) (by rw [hz1]; decide) ?_
  rw [hz1]
  have hzz : ((Array.range (1 * 68)).map ((Value.agg hd0.cs).cells[· % (Value.agg hd0.cs).cells.size]!)).size = 68 := by simp
  generalize (Array.range (1 * 68)).map ((Value.agg hd0.cs).cells[· % (Value.agg hd0.cs).cells.size]!) = z at hzz ⊢
  have hf := fill_al z cs (by omega)
  simp only [Instr.fill, Value.cells, Nat.zero_mul, ← Array.foldl_toList, Array.toList_zipIdx, hf]
  rw [if_neg (by simp [hs, hzz])]

theorem kp_cell {Fx Bs : List Nat} {W W' : World} (k : Kp Fx Bs W W') {a : Addr} {v : Value} (h : W.cell? a = some v) (hn : ¬ Tch Fx Bs W a.block) : W'.cell? a = some v := by
  have : ∃ o : Obj, W.heap[a.block]? = some o ∧ o.isCells = true := by
    simp only [World.cell?] at h
    cases ho : W.heap[a.block]? with
    | none => rw [ho] at h; simp at h
    | some o => rw [ho] at h; exact ⟨o, rfl, by cases o <;> simp [Obj.isCells] at h ⊢⟩
  obtain ⟨o, ho, hc⟩ := this
  have h2 := k.same _ _ ho (.inl hc) hn
  simp only [World.cell?, ho, h2] at h ⊢
  exact h
theorem tk_succ {α : Type} (l : List α) {k : Nat} (h : k < l.length) : l.take (k + 1) = l.take k ++ [l[k]] := by
  rw [List.take_succ_eq_append_getElem h]
theorem Chg.grew {w w' : World} (h : Chg [] w w') : w.grownBy w' none := ⟨h.os, h.tape, h.output, h.size, fun k hk _ => h.block k hk (by simp)⟩
theorem itp_new (w : World) (o : Obj) (c : Value) (t : TypeId) (ho : o = .cells #[c] t) (hc : ∀ k o n q, c ≠ .slice (some ⟨k, o, none⟩) n q) : ItPre [] [w.heap.size] (w.alloc o) ∧ ∀ k, Tch [] [w.heap.size] (w.alloc o) k ↔ k = w.heap.size := by
  subst ho
  have hcell : (w.alloc (.cells #[c] t)).cell? ⟨w.heap.size, 0, none⟩ = some c := (Blk.new w #[c] t).cell 0 rfl
  have ht : ∀ k, Tch [] [w.heap.size] (w.alloc (.cells #[c] t)) k ↔ k = w.heap.size := by
    intro k
    constructor
    · rintro (h | h | ⟨B, hB, o, n, q, h⟩)
      · cases h
      · simpa using h
      · simp at hB; subst hB; rw [hcell] at h; simp at h; exact absurd h (hc k o n q)
    · rintro rfl; exact .inr (.inl (by simp))
  exact ⟨⟨by simp, fun k hk => by rw [ht k] at hk; subst hk; simp⟩, ht⟩
end Go.Proofs.YtmkgbinmilcojaaGreat

/- Package tree: the iterator of the best chain; pontagelaw13.line. -/
namespace Go.Proofs.YtmkgbinmilcojaaGreat
open Go.RowKit Go.Maps Go.Shelf
attribute [local go_sem] Oper.semAt_some
attribute [-go_sem] loadCellsFrom Instr.buildSlice

/-- a hash of 32 bytes. -/
abbrev Ck : Type := { k : List Nat // HK k }
def Tr.lineC (T : Tr) : List Ck := T.ch.map (fun i => ⟨T.hash i, T.hash_ok i⟩)
def Tr.lineE (T : Tr) : List (Nat × Ck) := T.lineC.zipIdx.map (fun x => (x.2, x.1))
theorem Tr.lineE_len (T : Tr) : T.lineE.length = T.ch.length := by simp [Tr.lineE, Tr.lineC]
theorem Tr.lineE_get (T : Tr) (k : Nat) (h : k < T.lineE.length) : T.lineE[k] = (k, ⟨T.hash (T.ch[k]'(by rw [← T.lineE_len]; exact h)), T.hash_ok _⟩) := by
  simp [Tr.lineE, Tr.lineC]
theorem Tr.lineE_v (T : Tr) : T.lineE.map (fun x => x.2.1) = T.line := by
  simp only [Tr.lineE, Tr.lineC, Tr.line, List.map_map]
  apply List.ext_getElem?
  intro i
  simp only [List.getElem?_map, List.getElem?_zipIdx]
  cases T.ch[i]? <;> rfl
theorem NodeV.kp {Fx Bs : List Nat} {W W' : World} {g : Nat} {p : Pn} {pa : Option Addr} (h : NodeV W g p pa) (k : Kp Fx Bs W W') (hg : ¬ Tch Fx Bs W g) : NodeV W' g p pa := ⟨h.blk.kp k hg, h.ok⟩

theorem tree_Chain (v : Option Addr) (w : World) : Calls Tryz.prog 55 #[.pointer v] w fun e w' => e = .returned (.func (.func 86) #[] #[.pointer (some ⟨w.heap.size, 0, none⟩)]) ∧ w' = w.alloc (.cells #[.pointer v] 32) := by
  go_enter Tryz.func55, Tryz.ntmps55
  go_wp2
  go_ret
  exact ⟨rfl, rfl⟩
set_option maxRecDepth 100000 in
set_option maxHeartbeats 4000000 in
theorem tree_Chain1 (n : Nat) (hn : 1 ≤ n) (Fx Bs : List Nat) (b : Nat) (x : Lt) (T : Tr) (ok : TrOk T) (w : World) (hb : Blk w b #[.pointer (some ⟨x.b, 0, none⟩)] 32) (h : TreeAt w x T)
    (it : ItPre Fx Bs w) (t1 : ¬ Tch Fx Bs w b) (t2 : ∀ k ∈ x.all, ¬ Tch Fx Bs w k) :
    SeqStopsK Fence.wide n Tryz.prog 86 #[.pointer (some ⟨b, 0, none⟩)] (fun e : Nat × Ck => #[.int .i64 (e.1 : Int), .agg (bytesV e.2.1).toArray]) (Kp Fx Bs) (fun xs => xs = T.lineE) (fun _ => True) T.ch.length w := fun lp J Jx W hW hJ hJx hY h0 => by
  have hc : Chg [] w W := .of_below' hW (Nat.le_refl _)
  have ht : ∀ k, Tch Fx Bs W k ↔ Tch Fx Bs w k := fun k => it.tch hc (by simp) k
  have hb' := hb.chg hc (by simp)
  have h' := h.chg ok hc
  have t1' : ¬ Tch Fx Bs W b := fun h => t1 ((ht b).1 h)
  have t2' : ∀ k ∈ x.all, ¬ Tch Fx Bs W k := fun k hk h => t2 k hk ((ht k).1 h)
  clear hb h it t1 t2 hc ht
  have c0 := hb'.cell 0 (v := .pointer (some ⟨x.b, 0, none⟩)) rfl
  obtain ⟨g, c, _, c73, _, hcl, hch⟩ := h'.slice ok
  have hxc : ¬ Tch Fx Bs W g := by
    have ⟨⟨c2, hb2, ho⟩, _, _, _, _⟩ := h'
    have hl := t_cell (Rl.len ok.r) (.map (some x.m)) (.slice (some ⟨x.c, 0, none⟩) T.ch.length c2) (.int .i64 (T.tips : Int))
    have := hb2.cell 73 hl.2.1
    rw [c73] at this
    cases this
    exact t2' x.c (by simp [Lt.all])
  have hnode : ∀ (i : Nat) (p : Pn), T.ns[i]? = some p → NodeV W (x.bl.getD i 0) p (p.ah.bind (adrB x.bl)) ∧ ¬ Tch Fx Bs W (x.bl.getD i 0) := fun i p hp => by
    refine ⟨h'.node ok hp, t2' _ ?_⟩
    have hi : i < x.bl.length := by rw [h'.len]; exact (List.getElem?_eq_some_iff.1 hp).1
    simp [Lt.all, hi]
  have hchl := ok.chl
  have hLl := T.lineE_len
  refine callsIn_of_wp Tryz.func86 rfl trivial ?_ rfl
  simp only [Tryz.ntmps86, List.size_toArray, List.length_cons, List.length_nil, Nat.reduceAdd, Nat.reduceSub, Array.replicate_succ, Array.replicate_zero, List.push_toArray, List.append_toArray, List.nil_append, List.cons_append]
  gi_wp2
  gi_loopw [12] (fun i wr => ∃ k : Nat, k ≤ T.ch.length ∧ i = .int .i64 k ∧ J (T.lineE.take k) wr ∧ Kp Fx Bs W wr) (fun i _ => T.ch.length - (intOf i).toNat)
  case atStart => exact ⟨0, Nat.zero_le _, rfl, by simpa using h0, Kp.refl _ _ _⟩
  case round =>
    obtain ⟨k, hk, rfl, hJs, hkp⟩ := hrel
    by_cases hlt : k < T.ch.length
    · have hltE : k < T.lineE.length := by omega
      obtain ⟨p, hp, hpk⟩ := ok.ch k T.ch[k] (List.getElem?_eq_getElem hlt)
      obtain ⟨hnd, hnt⟩ := hnode _ p hp
      have hld := (hnd.kp hkp hnt).hash
      have hcell := kp_cell hkp (hch k T.ch[k] (List.getElem?_eq_getElem hlt)) hxc
      simp only [adrB] at hcell
      have hxk := T.lineE_get k hltE
      obtain ⟨fn, tmps, assign, body, hy, hR⟩ := hY _ (T.lineE[k]) wr hJs (by rw [List.length_take]; omega)
      rw [hxk] at hy hR
      have hh := Tr.hash_eq hp
      rw [← hxk] at hR
      simp only [hh] at hy
      generalize x.bl.getD T.ch[k] 0 = gn at *
      generalize (bytesV (hdH p.h)).toArray = ds at *
      gi_wp2
      refine hR.mono ?_
      rintro e W3 (⟨rfl, hJ3, hk3⟩ | ⟨rfl, hJx3⟩)
      · gi_wp2
        go_roundw
        case rel => exact ⟨k + 1, by omega, by simp, by rw [tk_succ _ hltE]; exact hJ3, hkp.trans hk3⟩
        case measure => simp [intOf]; omega
      · gi_wp2
        refine bodyPost_ret (results_none rfl _ _ _) rfl ?_
        exact ⟨⟨_, rfl⟩, .inr ⟨_, trivial, hJx3⟩⟩
    · obtain rfl : k = T.ch.length := by omega
      gi_wp2
      go_end0
      exact ⟨⟨_, rfl⟩, .inl ⟨_, rfl, by rw [List.take_of_length_le (by omega)] at hJs; exact hJs⟩⟩
end Go.Proofs.YtmkgbinmilcojaaGreat

/- pontagelaw13: line, in. -/
namespace Go.Proofs.YtmkgbinmilcojaaGreat
open Go.RowKit Go.Maps Go.Shelf
attribute [local go_sem] Oper.semAt_some
attribute [-go_sem] loadCellsFrom Instr.buildSlice

/-- the slice value v owns these hashes. -/
def HsS (n₀ : Nat) (W : World) (v : Value) (l : List (List Nat)) : Prop := RowS n₀ 26 32 W v (l.map bytesV)
def hsh (pre : List (Nat × Ck)) : List (List Value) := pre.map (fun e => bytesV e.2.1)
theorem hsh_snoc (pre : List (Nat × Ck)) (x : Nat × Ck) : (hsh (pre ++ [x])).flatten = (hsh pre).flatten ++ bytesV x.2.1 := by simp [hsh]
set_option maxRecDepth 100000 in
set_option maxHeartbeats 4000000 in
theorem law13_line (x : Lt) (T : Tr) (ok : TrOk T) (w : World) (hT : TreeAt w x T) :
    Calls Tryz.prog 25 #[.pointer (some ⟨x.b, 0, none⟩)] w fun e w' => ∃ v, e = .returned v ∧ HsS w.heap.size w' v T.line ∧ Chg [] w w' := by
  obtain ⟨i0, hi, hz0, hz1, hz2⟩ := info_partsB infoHashA
  obtain ⟨it, ht⟩ := itp_new w (.cells #[.slice none 0 0] 71) (.slice none 0 0) 71 rfl (by simp)
  have hc0 : Chg [] w (w.alloc (.cells #[.slice none 0 0] 71)) := (Chg.refl _ _).alloc _
  have hc1 : Chg [] (w.alloc (.cells #[.slice none 0 0] 71)) ((w.alloc (.cells #[.slice none 0 0] 71)).alloc (.cells #[.pointer (some ⟨x.b, 0, none⟩)] 32)) := (Chg.refl _ _).alloc _
  have hlow := TreeAt.all_lt hT
  have hT1 := hT.chg ok (hc0.trans hc1 (by simp))
  have hbx := Blk.new (w.alloc (.cells #[.slice none 0 0] 71)) #[.pointer (some ⟨x.b, 0, none⟩)] 32
  have ht1 : ∀ k, Tch [] [w.heap.size] ((w.alloc (.cells #[.slice none 0 0] 71)).alloc (.cells #[.pointer (some ⟨x.b, 0, none⟩)] 32)) k ↔ k = w.heap.size := fun k => (it.tch hc1 (by simp) k).trans (ht k)
  have hseq := tree_Chain1 2 (by omega) [] [w.heap.size] (w.alloc (.cells #[.slice none 0 0] 71)).heap.size x T ok _ hbx hT1 (it.chg hc1 (by simp)) (fun h => by have := (ht1 _).1 h; simp at this) (fun k hk h => by have := (ht1 _).1 h; have := hlow k hk; omega)
  have hchain := tree_Chain (some ⟨x.b, 0, none⟩) (w.alloc (.cells #[.slice none 0 0] 71))
  have hen := enters_of Tryz.func86 (by kernel_rfl) rfl
  have hN := ok.chl
  have hlv := T.lineE_v
  have hz := zeroHash
  refine (callsIn_wide (n := 3)).1 ?_
  refine callsIn_of_wp_marks Tryz.func25 rfl trivial ?_ rfl
  simp only [Tryz.ntmps25, List.size_toArray, List.length_cons, List.length_nil, Nat.reduceAdd, Nat.reduceSub, Array.replicate_succ, Array.replicate_zero, List.push_toArray, List.append_toArray, List.nil_append, List.cons_append]
  have hx := (Boxed.new w 71 (.slice none 0 0)).alloc (.cells #[.pointer (some ⟨x.b, 0, none⟩)] 32)
  have hB0 : Below w.heap.size w ((w.alloc (.cells #[.slice none 0 0] 71)).alloc (.cells #[.pointer (some ⟨x.b, 0, none⟩)] 32)) := ((Below.refl _ _).alloc (Nat.le_refl _) _).alloc (by simp) _
  clear hT hT1 hc0 hc1 it ht ht1 hbx
  gi_wp2_with ((refine And.intro trivial ?_; gi_at_call 55; refine (callsIn_wd hchain).mono ?_; rintro e w1 ⟨rfl, hw1⟩; subst hw1))
  have hsz : ((w.alloc (.cells #[.slice none 0 0] 71)).alloc (.cells #[.pointer (some ⟨x.b, 0, none⟩)] 32)).heap.size = w.heap.size + 2 := by simp
  have hadr : (w.alloc (.cells #[.slice none 0 0] 71)).heap.size = w.heap.size + 1 := by simp
  rw [hadr] at hseq
  generalize (w.alloc (.cells #[.slice none 0 0] 71)).alloc (.cells #[.pointer (some ⟨x.b, 0, none⟩)] 32) = W0 at *
  clear hchain hadr
  refine wpIn_rangeFunc_ownH rfl (by omega) (gf := 86) (lb := #[.pointer (some ⟨w.heap.size + 1, 0, none⟩)]) rfl trivial hen hseq Kp.trans' (kp_b (by simp; omega)) (Below.refl _ _) (fun _ => rfl)
    (fun pre W => (∃ v, Boxed W w.heap.size 71 v ∧ W.ownsRow w.heap.size 26 32 v pre.length (hsh pre).flatten ∧ (v = .slice none 0 0 ↔ pre = [])) ∧ Below w.heap.size w W)
    (fun _ _ _ => False) ?hI ?hIx ?h0
    (fun e a' W => ∃ g, w.heap.size < g ∧ Blk W g (bytesV e.2.1).toArray 26 ∧ a' = { tmps := #[.pointer (some ⟨x.b, 0, none⟩), undef, .slice none 0 0, .pointer (some ⟨w.heap.size, 0, none⟩), undef, .pointer (some ⟨g, 0, none⟩), .pointer (some ⟨x.b, 0, none⟩), .func (.func 86) #[] #[.pointer (some ⟨w.heap.size + 1, 0, none⟩)], .int .i64 (e.1 : Int), .agg (bytesV e.2.1).toArray, undef, undef, undef, undef, undef], defers := [] }) ?hAx ?assign ?body ?done ?stop
  case hI =>
    exact OwnFrom.and (Own.from (holdsRow_own w.heap.size w.heap.size 71 26 32 (fun pre : List (Nat × Ck) => pre.length) (fun pre => (hsh pre).flatten) (fun pre v => (v = .slice none 0 0 ↔ pre = []))) _) (ownFrom_below (Nat.le_refl _) (by omega))
  case hIx => exact fun _ _ _ _ _ hs _ _ => hs
  case h0 => exact ⟨⟨_, hx, by simpa [hsh] using World.ownsRow_nil _ _ _ _, by simp⟩, hB0⟩
  case hAx =>
    rintro e a' _ X Y row ⟨g, h1, h2, h3⟩ hg hr
    refine ⟨g, h1, h2.grown hg (fun e => ?_), h3⟩
    obtain ⟨_, o, ho, hc⟩ := hr g e.symm
    rw [show X.heap[g]? = _ from h2] at ho; cases ho; cases hc
  case assign =>
    rintro l pre e W K ⟨⟨v, hv, hrow, hnil⟩, hB⟩ hK
    have hes : (bytesV e.2.1).toArray.size = 32 := by simp [bytesV_len, e.2.2.1]
    have hst := run_storeCells_new (P := Tryz.prog) W 26 z32 (bytesV e.2.1).toArray (by rw [hes]; exact infoHash) (by rw [hes]; rfl) (bytesV_all _)
    gi_wp2
    exact hK _ _ ((KeepsOthers.alloc W _).from _) (kp_alo _ W _ (by have := hv.lt; simpa using this)) ⟨⟨_, hv.alloc _, hrow.alloc _, hnil⟩, hB.alloc hB.size _⟩ ⟨W.heap.size, hv.lt, Blk.new W _ _, rfl⟩
  case body =>
    rintro l pre e a' W hl ⟨r, hr⟩ ⟨⟨v, hv, hrow, hnil⟩, hB⟩ ⟨g, hg1, hg2, rfl⟩ hlen
    have hes : (bytesV e.2.1).toArray.size = 32 := by simp [bytesV_len, e.2.2.1]
    have hes2 : (bytesV e.2.1).length = 32 := by simpa using hes
    have hc := hv.cell
    have hld := load_blkC hg2 32 hes
    have hbs := run_build_hash (bytesV e.2.1).toArray hes
    have hone := bytesV_one e.2.1
    have hsn := hsh_snoc pre e
    have hcells : ∀ (j : Nat) u, (bytesV e.2.1)[j]? = some u → (W.alloc (.cells (bytesV e.2.1).toArray 26)).cell? ((⟨W.heap.size, 0, none⟩ : Addr).add j) = some u := fun j u hj => by
      rw [addr_ad, Nat.zero_add]
      exact (Blk.new W (bytesV e.2.1).toArray 26).cell j (by simpa using hj)
    gi_wp2_with (gi_at_builtin; go_loud (refine wpListIn_append_own_at _ rfl _ _ 71 rfl w.heap.size 26 i0 (.agg z32) 32 32 Tryz.underlying71 hi hz0 hz1 hz2 rfl (by decide) _ _ _ rfl (hrow.alloc _) ⟨W.heap.size, 0, none⟩ 1 1 (bytesV e.2.1) rfl (by omega) hcells hone (by unfold maxLen; omega) (by omega) (by have := hB.size; simp; omega) ?_); intro v' w1 hown' hgrow hnil' hloc; obtain ⟨g', cap', rfl⟩ := ownsRow_succ hown'; have hkp := kp_app hv (by decide) hrow hown' hgrow hloc; obtain ⟨hv1, hv2, hr2, hk2, hb2⟩ := hv.appended (by decide) hrow hB.size (Nat.le_refl _) hown' hgrow; have hc1 := hv1.cell; have hf1 := hv1.frozen)
    exact ⟨hk2.from _, hkp, ⟨_, hv2, by rw [hsn]; simpa using hr2, by simp⟩, hB.trans hb2⟩
  case stop => exact fun _ _ _ _ _ _ h => h.elim
  case done =>
    rintro D xs W hD hS ⟨⟨v, hv, hrow, hnil⟩, hB⟩ hK
    have hc := hv.cell
    gi_wp2
    refine ⟨by simp, .inl ⟨_, _, rfl, run_takeDeferred hK, ?_⟩⟩
    have hr2 := ownsRow_putObj hrow (.deferred none) hK rfl
    have hl : T.line.map bytesV = hsh xs := by rw [hS, ← hlv]; simp [hsh, List.map_map, Function.comp_def]
    exact ⟨_, results_tmp rfl _ _ _, v, rfl, ⟨by rw [hl]; simpa [hsh] using hr2, fun y hy => by
      obtain ⟨k, hk, rfl⟩ := List.mem_map.1 hy
      rw [bytesV_len]; exact (Tr.line_ok hk).1⟩, (Chg.of_below hB).grown (grownBy_putObj' _ D _) (fun k e => .inr (by cases e; omega))⟩
end Go.Proofs.YtmkgbinmilcojaaGreat

/- pontagelaw13: in. -/
namespace Go.Proofs.YtmkgbinmilcojaaGreat
open Go.RowKit Go.Maps Go.Shelf
attribute [-go_sem] loadCellsFrom Instr.buildSlice

set_option maxRecDepth 100000 in
set_option maxHeartbeats 4000000 in
theorem law13_in (n₀ : Nat) (v : Value) (l : List (List Nat)) (hl : ∀ x ∈ l, HK x) (k : List Nat) (hk : HK k) (w : World) (hv0 : HsS n₀ w v l) (hlen : l.length ≤ 100000) :
    Calls Tryz.prog 28 #[v, hv k] w fun e w' => e = .returned (.bool (decide (k ∈ l))) ∧ Chg [] w w' := by
  have hz := zeroHash
  have hks : (bytesV k).toArray.size = 32 := by simp [bytesV_len, hk.1]
  obtain ⟨a, cap, rfl⟩ := hv0.len'
  rw [List.length_map]
  have bK := Blk.new w (bytesV k).toArray 26
  have k0 : Chg [] w (w.alloc (.cells (bytesV k).toArray 26)) := (Chg.refl _ _).alloc _
  have heq : ∀ x ∈ l, ∀ w, (Op.equalIn 10000 26 (.agg (bytesV x).toArray) (.agg (bytesV k).toArray)).run Tryz.prog w = .ok (decide (x = k)) w := fun x hx w => hash_eq (hl x hx) hk w
  rw [List.length_map] at hv0
  unfold hv
  obtain ⟨r, hr⟩ : ∃ r : Bool, r = decide (k ∈ l) := ⟨_, rfl⟩
  rw [← hr]
  have hr' := Lib.hid hr
  clear hr
  generalize (bytesV k).toArray = kc at *
  obtain ⟨gk, hgk⟩ : ∃ g, g = w.heap.size := ⟨_, rfl⟩
  go_enter Tryz.func28, Tryz.ntmps28
  go_upto_region 1 with fail
  rw [← hgk] at bK ⊢
  clear hgk
  generalize w.alloc (.cells kc 26) = w0 at *
  go_wp2_with fail
  go_loopw [9] (fun s9 wr => ∃ i : Nat, i ≤ l.length ∧ s9 = .int .i64 i ∧ k ∉ l.take i ∧ Chg [] w wr ∧ Chg [] w0 wr) (fun s9 _ => l.length - (intOf s9).toNat)
  case atStart => exact ⟨0, Nat.zero_le _, rfl, by simp, k0, Chg.refl _ _⟩
  case round =>
    obtain ⟨i, hi, rfl, hni, kr, kr0⟩ := hrel
    have hni' := Lib.hid hni
    clear hni
    have hvr := hv0.chg0 kr
    have bK := bK.chg kr0 (by simp)
    by_cases hlt : i < l.length
    · obtain ⟨b, rfl, hb, hld⟩ := hvr.load (i := i) (by simpa using hlt)
      rw [List.getElem_map] at hld
      have hmem := List.getElem_mem hlt
      have hes : (bytesV l[i]).toArray.size = 32 := by simp [bytesV_len, (hl _ hmem).1]
      have hst := run_storeCells_new (P := Tryz.prog) wr 26 z32 (bytesV l[i]).toArray (by rw [hes]; exact infoHash) (by rw [hes]; rfl) (bytesV_all _)
      have bE := Blk.new wr (bytesV l[i]).toArray 26
      have hlE := load_blkC bE 32 hes
      have hlK := load_blkC (bK.alloc (.cells (bytesV l[i]).toArray 26)) 32 hks
      have hq := heq _ hmem (wr.alloc (.cells (bytesV l[i]).toArray 26))
      have ka := kr.alloc (.cells (bytesV l[i]).toArray 26)
      have ka0 := kr0.alloc (.cells (bytesV l[i]).toArray 26)
      obtain ⟨y, hy⟩ : ∃ y, y = l[i] := ⟨_, rfl⟩
      rw [← hy] at hld hes hst bE hlE hlK hq ka ka0
      have hts := Lib.hid (tk_succ l hlt)
      rw [← hy] at hts
      clear hy hmem heq hvr hv0 hl
      generalize (bytesV y).toArray = yc at *
      by_cases hyk : y = k
      · have hyk' := Lib.hid hyk
        rw [decide_eq_true hyk] at hq
        clear hyk
        have hrt : r = true := by
          rw [hr'.out, decide_eq_true_eq]
          refine List.mem_of_mem_take (i := i + 1) ?_
          rw [hts.out]; simp [hyk'.out]
        subst hrt
        go_wp2
        go_ret
        exact ⟨rfl, ka⟩
      · have hyk' := Lib.hid hyk
        rw [decide_eq_false hyk] at hq
        clear hyk
        go_wp2
        go_roundw
        case rel => exact ⟨i + 1, by omega, by simp, by rw [hts.out]; simp [hni'.out, Ne.symm hyk'.out], ka, ka0⟩
        case measure => simp [intOf]; omega
    · obtain rfl : i = l.length := by omega
      have hrf : r = false := by
        have := hni'.out
        rw [List.take_length] at this
        rw [hr'.out, decide_eq_false this]
      subst hrf
      go_wp2
      go_ret
      exact ⟨rfl, kr⟩
end Go.Proofs.YtmkgbinmilcojaaGreat

/- Small facts for the laws: steps, headers that were tried. -/
namespace Go.Proofs.YtmkgbinmilcojaaGreat
open Go.RowKit Go.Maps Go.Shelf
theorem build_step (K an late root : Int) (w : World) : (Instr.build 46 #[(0, .int .i64 K), (1, .int .i64 an), (2, .int .i32 late), (3, .int .u8 root)]).run Tryz.prog w = .ok (.agg #[.int .i64 K, .int .i64 an, .int .i32 late, .int .u8 root]) w := by kernel_rfl
theorem infoStep : (Tryz.prog.info? 46).map (·.size) = some 4 := by kernel_rfl
def zStep : Array Value := #[.int .i64 0, .int .i64 0, .int .i32 0, .int .u8 0]
theorem zeroStep (w : World) : (zeroValue 46).run Tryz.prog w = .ok (.agg zStep) w := by kernel_rfl
theorem Hd.ls {h : Hd} (ok : HdOk h) : h.l.length = 68 := by have := Hd.size ok; simpa [Hd.cs] using this
theorem Hd.ones (h : Hd) : ∀ u ∈ h.l, u.oneCell' = true := fun v hv => (Array.all_eq_true_iff_forall_mem.1 (Hd.one h)) v (by simpa [Hd.cs] using hv)
theorem get_ok {L : List Hd} (h : ∀ a ∈ L, HdOk a) (j : Nat) (hj : j < L.length) : HdOk (L[j]'hj) := h _ (List.getElem_mem hj)
/-- the headers that were tried, in a slice. -/
def TrS (n₀ : Nat) (W : World) (v : Value) (L : List Hd) : Prop := RowS n₀ 28 68 W v (L.map Hd.l)
end Go.Proofs.YtmkgbinmilcojaaGreat

import Derived.Test.YtmkgbinmilcojaaGreatTreeNew
import Derived.Test.YtmkgbinmilcojaaGreatTargetRules

/- Package tree: what a tree is; New; the getters. -/
namespace Go.Proofs.YtmkgbinmilcojaaGreat
open Go.RowKit Go.Maps
attribute [-go_sem] loadCellsFrom Instr.build

/-- a block of the tree; ah: the place of the block ahead. -/
structure Pn where
  h : Hd
  ah : Option Nat
  ht : Nat
  wk : Nat
  kd : Nat
structure Tr where
  r : Rl
  ns : List Pn
  ch : List Nat
  tips : Nat
/-- where a tree lies: its block, its map's, its blocks'. -/
structure Lt where
  b : Nat
  m : Nat
  c : Nat
  bl : List Nat
def Lt.all (x : Lt) : List Nat := x.b :: x.m :: x.c :: x.bl
def adrB (bl : List Nat) (i : Nat) : Option Addr := some ⟨bl.getD i 0, 0, none⟩
def Pn.l (bl : List Nat) (p : Pn) : List Value := nodeL p.h.l (bytesV (hdH p.h)) (p.ah.bind (adrB bl)) p.ht (p.wk % 18446744073709551616 : Nat) (p.wk / 18446744073709551616 % 18446744073709551616 : Nat) (p.wk / 340282366920938463463374607431768211456 % 18446744073709551616 : Nat) (p.wk / 6277101735386680763835789423207666416102355444464034512896 % 18446744073709551616 : Nat) p.kd
def Tr.find (T : Tr) (k : List Nat) : Option Nat := T.ns.findIdx? (fun p => decide (hdH p.h = k))
def Rl.l (r : Rl) : List Value := .int .i64 r.ev :: .int .u32 r.sp :: .int .u32 r.lm :: .int .i64 r.cf :: r.fi.l
structure TreeAt (w : World) (x : Lt) (T : Tr) : Prop where
  tb : ∃ c, Blk w x.b (T.r.l ++ [Value.map (some x.m), Value.slice (some ⟨x.c, 0, none⟩) T.ch.length c, Value.int .i64 (T.tips : Int)]).toArray 91 ∧ w.ownsRow 0 84 1 (.slice (some ⟨x.c, 0, none⟩) T.ch.length c) T.ch.length (T.ch.map fun i => Value.pointer (adrB x.bl i))
  mp : MapH w x.m T.ns.length (fun k => (T.find k).map fun i => Value.pointer (adrB x.bl i))
  nd : ∀ (i : Nat) (p : Pn), T.ns[i]? = some p → Blk w (x.bl.getD i 0) (p.l x.bl).toArray 86
  len : x.bl.length = T.ns.length
  nodup : x.bl.Nodup
structure TrOk (T : Tr) : Prop where
  r : RlOk T.r
  rk : checkR T.r = 0
  hd : ∀ p ∈ T.ns, HdOk p.h
  ne : 0 < T.ns.length
  len : T.ns.length ≤ 4096
  ht : ∀ p ∈ T.ns, p.ht < 4096
  wk : ∀ p ∈ T.ns, p.wk < TOP
  kd : ∀ p ∈ T.ns, p.kd ≤ 4096
  tips : T.tips ≤ 4096
  dist : ∀ (i j : Nat) (p q : Pn), T.ns[i]? = some p → T.ns[j]? = some q → hdH p.h = hdH q.h → i = j
  ah : ∀ (i : Nat) (p : Pn) (a : Nat), T.ns[i]? = some p → p.ah = some a → a < i ∧ ∃ q, T.ns[a]? = some q ∧ p.ht = q.ht + 1
  ah0 : ∀ (i : Nat) (p : Pn), T.ns[i]? = some p → p.ah = none → p.ht = 0
  ch0 : 0 < T.ch.length
  chl : T.ch.length ≤ 4096
  ch : ∀ (k i : Nat), T.ch[k]? = some i → ∃ p, T.ns[i]? = some p ∧ p.ht = k
/-- all its blocks lie from a place on. -/
def Lt.low (x : Lt) (n : Nat) : Prop := ∀ b ∈ x.all, n ≤ b
def newT (r : Rl) : Tr := ⟨r, [⟨r.fi, none, 0, hdW r.fi, 0⟩], [0], 1⟩

theorem Rl.len {r : Rl} (ok : RlOk r) : r.l.length = 72 := by simp [Rl.l, Hd.lsize ok.fi]
theorem HK_hash (h : Hd) : HK (hdH h) := ⟨hdH_len h, hdH_lt h⟩
theorem tree_New (r : Rl) (ok : RlOk r) (w : World) :
    Calls Tryz.prog 10 #[.agg r.cs] w fun e w' => Chg [] w w' ∧ ((checkR r ≠ 0 ∧ e = .returned (.tuple #[.pointer none, .int .i64 (checkR r)])) ∨ (checkR r = 0 ∧ ∃ x : Lt, e = .returned (.tuple #[.pointer (some ⟨x.b, 0, none⟩), .int .i64 0]) ∧ TreeAt w' x (newT r) ∧ x.low w.heap.size)) := by
  have hwk := tree_work r.fi ok.fi
  obtain ⟨ws, e1, hws, hw1⟩ := wvC (hdW r.fi)
  rw [e1] at hwk
  refine (tree_NewW r.l r.fi.l (bytesV (hdH r.fi)) (hdH r.fi) ws (checkR r) (by simp [Rl.len ok]) (by simp [Hd.lsize ok.fi]) (by simp [bytesV_len, hdH_len]) hws hw1 (HK_hash _) rfl (Rl.part r) (fun w => rules_Check r ok w) (fun w => header_Hash r.fi ok.fi w) hwk w).mono ?_
  rintro e w' ⟨k, h⟩
  refine ⟨k, ?_⟩
  rcases h with h | ⟨h0, gT, gM, gS, gN, cap, he, bT, bS, bM, rfl, bN, l1, l2, l3, l4⟩
  · exact .inl h
  · refine .inr ⟨h0, ⟨gT, gM, gS, [gN]⟩, he, ⟨⟨_, bT, rfl, .inr ⟨gS, 1, #[.pointer (some ⟨gN, 0, none⟩)], rfl, by omega, bS, Nat.le_refl _, by unfold maxLen; omega, rfl, rfl⟩⟩, ?_, ?_, rfl, by simp⟩, ?_⟩
    · refine bM.congr (fun k _ => ?_)
      simp only [Tr.find, newT, List.findIdx?_cons, List.findIdx?_nil]
      by_cases hk : k = hdH r.fi
      · subst hk; simp [adrB]
      · rw [if_neg hk]; simp [Ne.symm hk]
    · intro i p hp
      obtain ⟨rfl, rfl⟩ : i = 0 ∧ p = ⟨r.fi, none, 0, hdW r.fi, 0⟩ := by
        match i, hp with
        | 0, hp => exact ⟨rfl, by simpa [newT] using hp.symm⟩
        | i + 1, hp => simp [newT] at hp
      have e2 : ws.toList = [Value.int .u64 (hdW r.fi % 18446744073709551616 : Nat), Value.int .u64 (hdW r.fi / 18446744073709551616 % 18446744073709551616 : Nat), Value.int .u64 (hdW r.fi / 340282366920938463463374607431768211456 % 18446744073709551616 : Nat), Value.int .u64 (hdW r.fi / 6277101735386680763835789423207666416102355444464034512896 % 18446744073709551616 : Nat)] := by
        unfold wv W4 at e1
        simp only [Value.agg.injEq] at e1
        rw [← e1]
      rw [e2] at bN
      exact bN
    · exact fun b hb => by simp [Lt.all] at hb; omega
end Go.Proofs.YtmkgbinmilcojaaGreat

/- Package tree: best, Best, Height, At. -/
namespace Go.Proofs.YtmkgbinmilcojaaGreat
open Go.RowKit Go.Maps
attribute [-go_sem] loadCellsFrom Instr.build

theorem t_cell {l : List Value} (h : l.length = 72) (a b c : Value) : (l ++ [a, b, c]).toArray[72]? = some a ∧ (l ++ [a, b, c]).toArray[73]? = some b ∧ (l ++ [a, b, c]).toArray[74]? = some c := by
  simp [h]
theorem n_cell {hl hs : List Value} (h1 : hl.length = 68) (h2 : hs.length = 32) (p : Option Addr) (n a b c d k : Int) :
    (nodeL hl hs p n a b c d k).toArray[100]? = some (.pointer p) ∧ (nodeL hl hs p n a b c d k).toArray[101]? = some (.int .i64 n) ∧ (nodeL hl hs p n a b c d k).toArray[102]? = some (.int .u64 a) ∧ (nodeL hl hs p n a b c d k).toArray[103]? = some (.int .u64 b) ∧
      (nodeL hl hs p n a b c d k).toArray[104]? = some (.int .u64 c) ∧ (nodeL hl hs p n a b c d k).toArray[105]? = some (.int .u64 d) ∧ (nodeL hl hs p n a b c d k).toArray[106]? = some (.int .i64 k) := by
  simp [nodeL, h1, h2]
theorem n_head {hl hs : List Value} (p : Option Addr) (n a b c d k : Int) {j : Nat} {v : Value} (h : hl.toArray[j]? = some v) : (nodeL hl hs p n a b c d k).toArray[j]? = some v := by
  simp only [List.getElem?_toArray] at h ⊢
  unfold nodeL
  rw [List.getElem?_append_left (List.getElem?_eq_some_iff.1 h).1]
  exact h
theorem bytesV_hash (h : Hd) : (bytesV (hdH h)).length = 32 := by rw [bytesV_len, hdH_len]
/-- what is read of a node. -/
structure NodeV (W : World) (g : Nat) (p : Pn) (pa : Option Addr) : Prop where
  blk : Blk W g (nodeL p.h.l (bytesV (hdH p.h)) pa p.ht (p.wk % 18446744073709551616 : Nat) (p.wk / 18446744073709551616 % 18446744073709551616 : Nat) (p.wk / 340282366920938463463374607431768211456 % 18446744073709551616 : Nat) (p.wk / 6277101735386680763835789423207666416102355444464034512896 % 18446744073709551616 : Nat) p.kd).toArray 86
  ok : HdOk p.h
theorem NodeV.chg {W W' : World} {g : Nat} {p : Pn} {pa : Option Addr} {S : List Nat} (h : NodeV W g p pa) (k : Chg S W W') (hg : g ∉ S) : NodeV W' g p pa := ⟨h.blk.chg k hg, h.ok⟩
theorem NodeV.hash {W : World} {g : Nat} {p : Pn} {pa : Option Addr} (h : NodeV W g p pa) : (loadCellsFrom ⟨g, 68, none⟩ 0 32 #[]).run Tryz.prog W = .ok (bytesV (hdH p.h)).toArray W :=
  load_part h.blk 68 32 (by simp [bytesV_hash]) (node_part2 p.h.l _ (Hd.lsize h.ok) _ _ _ _ _ _ _)
theorem NodeV.head {W : World} {g : Nat} {p : Pn} {pa : Option Addr} (h : NodeV W g p pa) : (loadCellsFrom ⟨g, 0, none⟩ 0 68 #[]).run Tryz.prog W = .ok p.h.cs W :=
  load_part h.blk 0 68 (Hd.size h.ok) (fun j v hv => by rw [Nat.zero_add]; exact n_head _ _ _ _ _ _ _ hv)
theorem NodeV.work {W : World} {g : Nat} {p : Pn} {pa : Option Addr} (h : NodeV W g p pa) : ∃ ws, wv p.wk = .agg ws ∧ ws.size = 4 ∧ (loadCellsFrom ⟨g, 102, none⟩ 0 4 #[]).run Tryz.prog W = .ok ws W := by
  refine ⟨_, rfl, rfl, load_part h.blk 102 4 rfl ?_⟩
  have c := n_cell (Hd.lsize h.ok) (bytesV_hash p.h) pa p.ht (p.wk % 18446744073709551616 : Nat) (p.wk / 18446744073709551616 % 18446744073709551616 : Nat) (p.wk / 340282366920938463463374607431768211456 % 18446744073709551616 : Nat) (p.wk / 6277101735386680763835789423207666416102355444464034512896 % 18446744073709551616 : Nat) p.kd
  intro j v hv
  match j, hv with
  | 0, hv => rw [← hv]; exact c.2.2.1
  | 1, hv => rw [← hv]; exact c.2.2.2.1
  | 2, hv => rw [← hv]; exact c.2.2.2.2.1
  | 3, hv => rw [← hv]; exact c.2.2.2.2.2.1
  | j + 4, hv => simp at hv
theorem NodeV.ahead {W : World} {g : Nat} {p : Pn} {pa : Option Addr} (h : NodeV W g p pa) : W.cell? ⟨g, 100, none⟩ = some (.pointer pa) := h.blk.cell 100 (n_cell (Hd.lsize h.ok) (bytesV_hash p.h) _ _ _ _ _ _ _).1
theorem NodeV.height {W : World} {g : Nat} {p : Pn} {pa : Option Addr} (h : NodeV W g p pa) : W.cell? ⟨g, 101, none⟩ = some (.int .i64 (p.ht : Int)) := h.blk.cell 101 (n_cell (Hd.lsize h.ok) (bytesV_hash p.h) _ _ _ _ _ _ _).2.1
theorem NodeV.kids {W : World} {g : Nat} {p : Pn} {pa : Option Addr} (h : NodeV W g p pa) : W.cell? ⟨g, 106, none⟩ = some (.int .i64 (p.kd : Int)) := h.blk.cell 106 (n_cell (Hd.lsize h.ok) (bytesV_hash p.h) _ _ _ _ _ _ _).2.2.2.2.2.2
theorem NodeV.time {W : World} {g : Nat} {p : Pn} {pa : Option Addr} (h : NodeV W g p pa) : W.cell? ⟨g, 65, none⟩ = some (.int .u32 (p.h.tm : Int)) := h.blk.cell 65 (n_head _ _ _ _ _ _ _ (Hd.c65 h.ok))
theorem NodeV.bits {W : World} {g : Nat} {p : Pn} {pa : Option Addr} (h : NodeV W g p pa) : W.cell? ⟨g, 66, none⟩ = some (.int .u32 (p.h.bt : Int)) := h.blk.cell 66 (n_head _ _ _ _ _ _ _ (Hd.c66 h.ok))
theorem TreeAt.node {w : World} {x : Lt} {T : Tr} (h : TreeAt w x T) (ok : TrOk T) {i : Nat} {p : Pn} (hp : T.ns[i]? = some p) : NodeV w (x.bl.getD i 0) p (p.ah.bind (adrB x.bl)) :=
  ⟨h.nd i p hp, ok.hd p (List.mem_of_getElem? hp)⟩
theorem TreeAt.chgS {w w' : World} {x : Lt} {T : Tr} {S : List Nat} (h : TreeAt w x T) (hS : ∀ b ∈ x.all, b ∉ S) (k : Chg S w w') : TreeAt w' x T := by
  obtain ⟨⟨c, h1, h2⟩, h3, h4, h5, h6⟩ := h
  have hc := hS x.c (by simp [Lt.all])
  refine ⟨⟨c, h1.chg k (hS _ (by simp [Lt.all])), h2.1, ?_⟩, h3.chg k (hS _ (by simp [Lt.all])), fun i p hp => (h4 i p hp).chg k (hS _ ?_), h5, h6⟩
  · rcases h2.2 with h0 | ⟨g, cap, cur, e, hb, hg, r⟩
    · exact .inl h0
    · cases e
      exact .inr ⟨_, _, cur, rfl, hb, (k.block _ (Array.getElem?_eq_some_iff.1 hg).1 hc).trans hg, r⟩
  · have hi : i < x.bl.length := by rw [h5]; exact (List.getElem?_eq_some_iff.1 hp).1
    simp [Lt.all, hi]
theorem TreeAt.chg {w w' : World} {x : Lt} {T : Tr} (h : TreeAt w x T) (_ : TrOk T) (k : Chg [] w w') : TreeAt w' x T := h.chgS (by simp) k
theorem TreeAt.slice {w : World} {x : Lt} {T : Tr} (h : TreeAt w x T) (ok : TrOk T) : ∃ g c, w.cell? ⟨x.b, 72, none⟩ = some (.map (some x.m)) ∧ w.cell? ⟨x.b, 73, none⟩ = some (.slice (some ⟨g, 0, none⟩) T.ch.length c) ∧ w.cell? ⟨x.b, 74, none⟩ = some (.int .i64 (T.tips : Int)) ∧ T.ch.length ≤ c ∧
    ∀ (j i : Nat), T.ch[j]? = some i → w.cell? ⟨g, j, none⟩ = some (.pointer (adrB x.bl i)) := by
  obtain ⟨⟨c, h1, h2⟩, h3, h4, h5, h6⟩ := h
  have hc := fun g hg => World.ownsRow.cells h2 (g := g) hg
  have hl := t_cell (Rl.len ok.r) (.map (some x.m)) (.slice (some ⟨x.c, 0, none⟩) T.ch.length c) (.int .i64 (T.tips : Int))
  rcases h2.2 with ⟨e, h0⟩ | ⟨g, cap, cur, e, hb, hg, hle, _⟩
  · have := ok.ch0; omega
  · cases e
    refine ⟨x.c, c, h1.cell 72 hl.1, h1.cell 73 hl.2.1, h1.cell 74 hl.2.2, by omega, fun j i hj => ?_⟩
    have := hc x.c rfl j (.pointer (adrB x.bl i)) (by simp [hj])
    rwa [show (⟨x.c, 0, none⟩ : Addr).add j = ⟨x.c, j, none⟩ by unfold Addr.add; split <;> simp_all] at this
def Tr.last (T : Tr) : Nat := T.ch.getD (T.ch.length - 1) 0
theorem Tr.last_get {T : Tr} (ok : TrOk T) : T.ch[T.ch.length - 1]? = some T.last := by
  have h := ok.ch0
  have hl : T.ch.length - 1 < T.ch.length := by omega
  simp [Tr.last, hl]

set_option maxRecDepth 100000 in
set_option maxHeartbeats 1000000 in
theorem tree_best (x : Lt) (T : Tr) (ok : TrOk T) (w : World) (h : TreeAt w x T) :
    Calls Tryz.prog 41 #[.pointer (some ⟨x.b, 0, none⟩)] w fun e w' => e = .returned (.pointer (adrB x.bl T.last)) ∧ Chg [] w w' := by
  obtain ⟨g, c, c72, c73, c74, hc, hch⟩ := h.slice ok
  have hlast := hch _ _ (Tr.last_get ok)
  have h0 := ok.ch0
  obtain ⟨m, hm⟩ : ∃ m, T.ch.length = m + 1 := ⟨T.ch.length - 1, by omega⟩
  rw [hm] at c73 hlast hc
  rw [show m + 1 - 1 = m by omega] at hlast
  have hchl := ok.chl
  clear hch h0 h c72 c74
  generalize adrB x.bl T.last = pa at *
  have hml : m ≤ 4096 := by omega
  clear hm hchl
  go_enter Tryz.func41, Tryz.ntmps41
  go_wp2
  go_quiet (fail)
  go_wp2
  go_ret
  exact ⟨rfl, (Chg.refl _ _).drewN _⟩
end Go.Proofs.YtmkgbinmilcojaaGreat

/- Package tree: Best, Height, At. -/
namespace Go.Proofs.YtmkgbinmilcojaaGreat
open Go.RowKit Go.Maps
attribute [-go_sem] loadCellsFrom Instr.build

theorem TrOk.best {T : Tr} (ok : TrOk T) : ∃ p, T.ns[T.last]? = some p ∧ p.ht = T.ch.length - 1 := ok.ch _ _ (Tr.last_get ok)
def Tr.best (T : Tr) : List Nat := ((T.ns[T.last]?).map (fun p => hdH p.h)).getD []
theorem hash_load {W : World} {g : Nat} {k : List Nat} {t : TypeId} (hk : k.length = 32) (h : Blk W g (bytesV k).toArray t) : (loadCellsFrom ⟨g, 0, none⟩ 0 32 #[]).run Tryz.prog W = .ok (bytesV k).toArray W :=
  load_blkC h 32 (by simp [bytesV_len, hk])
set_option maxRecDepth 100000 in
set_option maxHeartbeats 1000000 in
theorem tree_Best (x : Lt) (T : Tr) (ok : TrOk T) (w : World) (h : TreeAt w x T) :
    Calls Tryz.prog 14 #[.pointer (some ⟨x.b, 0, none⟩)] w fun e w' => e = .returned (.agg (bytesV T.best).toArray) ∧ Chg [] w w' := by
  obtain ⟨p, hp, _⟩ := ok.best
  have hz := zeroHash
  have hb := tree_best x T ok (w.alloc (.cells z32 26)) (h.chg ok ((Chg.refl _ _).alloc _))
  have hn := (h.node ok hp).chg (S := []) ((Chg.refl _ _).alloc (.cells z32 26)) (by simp)
  have bO := Blk.new w z32 26
  have k0 : Chg [] w (w.alloc (.cells z32 26)) := (Chg.refl _ _).alloc _
  have hzs : z32.size = 32 := rfl
  have hbest := Lib.hid (show T.best = hdH p.h by simp [Tr.best, hp])
  simp only [adrB] at hb
  generalize z32 = zz at *
  generalize x.bl.getD T.last 0 = g at *
  go_enter Tryz.func14, Tryz.ntmps14
  go_wp2_with fail
  generalize w.alloc (.cells zz 26) = W0 at *
  refine hb.mono ?_
  rintro e w1 ⟨rfl, k1⟩
  dsimp only
  have hn1 := hn.chg k1 (by simp)
  have bO1 := bO.chg k1 (by simp)
  have hld := hn1.hash
  have hsz : (bytesV (hdH p.h)).toArray.size = 32 := by simp [bytesV_hash]
  have hone := bytesV_all (hdH p.h)
  obtain ⟨ds, hds⟩ : ∃ ds, ds = (bytesV (hdH p.h)).toArray := ⟨_, rfl⟩
  rw [← hds] at hld hsz hone
  have hds' := Lib.hid hds
  clear hds
  obtain ⟨W2, hst, b2, kk⟩ := store_cells bO1 (cs := ds) (by rw [hsz, hzs]) hone
  have hld2 := load_blkC b2 32 hsz
  go_wp2
  exact bodyPost_ret (v := .agg ds) (by simp [results, Tryz.results14, go_sem, hld2]) rfl ⟨by rw [hds'.out, hbest.out], (k0.trans k1 (by simp)).trans kk (by simp)⟩

def Tr.node (T : Tr) (k : List Nat) : Option Pn := (T.find k).bind (fun i => T.ns[i]?)
theorem Tr.find_some {T : Tr} {k : List Nat} {i : Nat} (h : T.find k = some i) : ∃ p, T.ns[i]? = some p ∧ hdH p.h = k := by
  obtain ⟨h1, h2, _⟩ := List.findIdx?_eq_some_iff_getElem.1 h
  exact ⟨T.ns[i], by simp [h1], by simpa using h2⟩
theorem Tr.node_some {T : Tr} {k : List Nat} {i : Nat} (h : T.find k = some i) : ∃ p, T.ns[i]? = some p ∧ T.node k = some p ∧ hdH p.h = k := by
  obtain ⟨p, h1, h2⟩ := Tr.find_some h
  exact ⟨p, h1, by simp [Tr.node, h, h1], h2⟩
theorem Tr.node_none {T : Tr} {k : List Nat} (h : T.find k = none) : T.node k = none := by simp [Tr.node, h]
theorem zeroNP : ∀ w, (zeroValue 84).run Tryz.prog w = .ok (.pointer none) w := fun w => by kernel_rfl
set_option maxRecDepth 100000 in
set_option maxHeartbeats 1000000 in
theorem tree_Height (x : Lt) (T : Tr) (ok : TrOk T) (k : List Nat) (hk : HK k) (w : World) (h : TreeAt w x T) :
    Calls Tryz.prog 31 #[.pointer (some ⟨x.b, 0, none⟩), hv k] w fun e w' => e = .returned (.tuple #[.int .i64 (((T.node k).map (fun p => p.ht)).getD 0 : Nat), .bool (T.node k).isSome]) ∧ Chg [] w w' := by
  have k0 : Chg [] w (w.alloc (.cells (bytesV k).toArray 26)) := (Chg.refl _ _).alloc _
  have h0 := h.chg ok k0
  have hb := Blk.new w (bytesV k).toArray 26
  have hld := fun n => hash_load hk.1 (hb.drewN n)
  have hlk := fun n => (h0.mp.drewN n).look_ok Tryz.underlying88 (zeroNP _) hk
  obtain ⟨g, c, c72, _, _, _, _⟩ := h0.slice ok
  unfold hv at hlk ⊢
  cases hf : T.find k with
  | none =>
    have hnn := Lib.hid (Tr.node_none hf)
    simp only [hf, Option.map_none, Option.getD_none, Option.isSome_none] at hlk
    clear h h0 hb hf hk
    generalize (bytesV k).toArray = cs at *
    go_enter Tryz.func31, Tryz.ntmps31
    go_wp2
    go_quiet (fail)
    go_wp2
    exact bodyPost_ret (v := .tuple #[.int .i64 0, .bool false]) (by simp [results, Tryz.results31, go_sem]) rfl ⟨by rw [hnn.out]; rfl, k0.drewN _⟩
  | some i =>
    obtain ⟨p, hp, hnd, _⟩ := Tr.node_some hf
    have hnn := Lib.hid hnd
    have hno := h0.node ok hp
    simp only [hf, Option.map_some, Option.getD_some, Option.isSome_some, adrB] at hlk
    have hht := hno.height
    clear h h0 hb hf hk hnd
    generalize x.bl.getD i 0 = gn at *
    generalize (bytesV k).toArray = cs at *
    go_enter Tryz.func31, Tryz.ntmps31
    go_wp2
    go_quiet (fail)
    go_wp2
    exact bodyPost_ret (v := .tuple #[.int .i64 (p.ht : Nat), .bool true]) (by simp [results, Tryz.results31, go_sem]) rfl ⟨by rw [hnn.out]; rfl, k0.drewN _⟩
end Go.Proofs.YtmkgbinmilcojaaGreat

/- adjust.Rules: Top. -/
namespace Go.Proofs.YtmkgbinmilcojaaGreat
open Go.RowKit Go.Maps Go.Shelf
set_option maxRecDepth 100000 in
set_option maxHeartbeats 1000000 in
theorem adjust_Top (v : Value) (s l : Nat) (hv : RulesV v s l) (w : World) :
    Calls Tryz.prog 72 #[v] w fun e w' => e = .returned (wv (decT l)) ∧ Chg [] w w' := by
  obtain ⟨cs, rfl, hcs, c1, c2, hs, hl⟩ := hv
  have d2 := target_Decode l hl
  obtain ⟨b0, b1, b2, b3, _, _, _, _, _, eB⟩ := words _ (decT_lt l)
  rw [eB] at d2
  rw [eB]
  unfold V4 at *
  have r2 := ((Blk.new w cs 30).alloc (.cells #[.int .u64 0, .int .u64 0, .int .u64 0, .int .u64 0] 51)).cell 2 c2
  go_enter Tryz.func72, Tryz.ntmps72
  go_wp2_with fail
  refine (d2 _).mono ?_
  rintro e w1 ⟨rfl, hc1⟩
  have bZ := (Blk.new (w.alloc (.cells cs 30)) #[.int .u64 0, .int .u64 0, .int .u64 0, .int .u64 0] 51).chg hc1 (by simp)
  simp only [World.size_alloc] at bZ
  have hcc := (((Chg.refl [] w).alloc (.cells cs 30)).alloc (.cells #[.int .u64 0, .int .u64 0, .int .u64 0, .int .u64 0] 51)).trans hc1 (by simp)
  have hlt := bZ.lt
  dsimp only
  go_upto_region 2 with fail
  replace bZ := bZ.alloc (.cells #[.int .u64 b0, .int .u64 b1, .int .u64 b2, .int .u64 b3] 51)
  have bN := Blk.new w1 #[.int .u64 b0, .int .u64 b1, .int .u64 b2, .int .u64 b3] 51
  replace hcc := hcc.alloc (.cells #[.int .u64 b0, .int .u64 b1, .int .u64 b2, .int .u64 b3] 51)
  generalize w1.alloc (.cells #[.int .u64 b0, .int .u64 b1, .int .u64 b2, .int .u64 b3] 51) = w2 at *
  have n0 := bN.cell 0 rfl; have n1 := bN.cell 1 rfl; have n2 := bN.cell 2 rfl; have n3 := bN.cell 3 rfl
  have z0 := bZ.cell 0 rfl; have z1 := bZ.cell 1 rfl; have z2 := bZ.cell 2 rfl; have z3 := bZ.cell 3 rfl
  have f0 := bZ.free 0; have f1 := bZ.free 1; have f2 := bZ.free 2; have f3 := bZ.free 3
  go_wp2
  have hk2 := (((bZ.set 0 (.int .u64 b0)).set 1 (.int .u64 b1)).set 2 (.int .u64 b2)).set 3 (.int .u64 b3)
  have d0 := hk2.cell 0 rfl
  have d1 := hk2.cell 1 rfl
  have d2 := hk2.cell 2 rfl
  have d3 := hk2.cell 3 rfl
  exact bodyPost_ret (v := V4 b0 b1 b2 b3) (by simp [results, Tryz.results72, go_sem, V4, d0, d1, d2, d3]) rfl ⟨by unfold V4; rfl, (((hcc.setCell (.inr (by simp)) _).setCell (.inr (by simp)) _).setCell (.inr (by simp)) _).setCell (.inr (by simp)) _⟩
end Go.Proofs.YtmkgbinmilcojaaGreat

/- Package tree: At; adjust: Due, Top. -/
namespace Go.Proofs.YtmkgbinmilcojaaGreat
open Go.RowKit Go.Maps
attribute [-go_sem] loadCellsFrom Instr.build

theorem checkR_ok {r : Rl} (h : checkR r = 0) : 2 ≤ r.ev ∧ r.ev ≤ 2016 ∧ 1 ≤ r.sp ∧ r.sp ≤ 2147483648 ∧ 1 ≤ r.cf ∧ r.cf ≤ 100 ∧ decE r.lm = 0 ∧ checkE r.fi (decT r.lm) = 0 := by
  unfold checkR at h
  split at h
  · cases h
  · rename_i ho
    split at h
    · rename_i h2; exact absurd h h2
    · rename_i h2
      simp only [Rl.out, Bool.or_eq_true, decide_eq_true_eq, not_or] at ho
      exact ⟨by omega, by omega, by omega, by omega, by omega, by omega, by simpa using h2, h⟩
set_option maxRecDepth 100000 in
set_option maxHeartbeats 1000000 in
theorem rules_Due (r : Rl) (_ : RlOk r) (h2 : 2 ≤ r.ev) (n : Nat) (hn : 0 < n) (hn2 : n ≤ 100000) (w : World) :
    Calls Tryz.prog 100 #[.agg r.cs, .int .i64 n] w fun e w' => e = .returned (.bool (decide ((n : Int) % r.ev = 0))) ∧ Chg [] w w' := by
  have b := Blk.new w r.cs 30
  have k0 : Chg [] w (w.alloc (.cells r.cs 30)) := (Chg.refl _ _).alloc _
  have c0 := b.cell 0 (v := .int .i64 r.ev) rfl
  generalize r.cs = cs at *
  generalize r.ev = ev at *
  have d1 : decide (0 < ev) = true := by simp; omega
  have d2 : decide ((0 : Int) < n) = true := by simp; omega
  have d3 : (n : Int).tmod ev = (n : Int) % ev := Int.tmod_eq_emod_of_nonneg (by omega)
  have d4 : (ev == 0) = false := by simp; omega
  have d5 : ¬ ev = -1 := by omega
  have d6 : ¬ ev = 0 := by omega
  go_enter Tryz.func100, Tryz.ntmps100
  go_wp2
  go_ret
  exact ⟨by simp; rfl, k0⟩
set_option maxRecDepth 100000 in
set_option maxHeartbeats 1000000 in
theorem tree_At (x : Lt) (T : Tr) (ok : TrOk T) (j i : Nat) (p : Pn) (hj : T.ch[j]? = some i) (hp : T.ns[i]? = some p) (w : World) (h : TreeAt w x T) :
    Calls Tryz.prog 57 #[.pointer (some ⟨x.b, 0, none⟩), .int .i64 j] w fun e w' => e = .returned (.tuple #[.agg (bytesV (hdH p.h)).toArray, .bool true]) ∧ Chg [] w w' := by
  have hz := zeroHash
  have k0 : Chg [] w (w.alloc (.cells z32 26)) := (Chg.refl _ _).alloc _
  have h0 := h.chg ok k0
  obtain ⟨g, c, c72, c73, _, hc, hch⟩ := h0.slice ok
  have hcj := hch _ _ hj
  have hn := h0.node ok hp
  have hld := hn.hash
  have bO := Blk.new w z32 26
  have hzs : z32.size = 32 := rfl
  have hjl : j < T.ch.length := (List.getElem?_eq_some_iff.1 hj).1
  have hchl := ok.chl
  simp only [adrB] at hcj
  have hsz : (bytesV (hdH p.h)).toArray.size = 32 := by simp [bytesV_hash]
  have hone := bytesV_all (hdH p.h)
  clear hch h h0 hj hp hn
  generalize T.ch.length = m at *
  generalize x.bl.getD i 0 = gn at *
  generalize (bytesV (hdH p.h)).toArray = ds at *
  generalize z32 = zz at *
  have d1 : decide ((j : Int) < 0) = false := by simp
  have d2 : decide ((m : Int) ≤ j) = false := by simp; omega
  obtain ⟨W2, hst, b2, kk⟩ := store_cells bO (cs := ds) (by rw [hsz, hzs]) hone
  have hld2 := load_blkC b2 32 hsz
  go_enter Tryz.func57, Tryz.ntmps57
  go_wp2
  exact bodyPost_ret (v := .tuple #[.agg ds, .bool true]) (by simp [results, Tryz.results57, go_sem, hld2]) rfl ⟨rfl, k0.trans kk (by simp)⟩
end Go.Proofs.YtmkgbinmilcojaaGreat

import Derived.Test.YtmkgbinmilcojaaGreatTreeGrow
import Derived.LaidEqlPtr

/- Package tree: Add, where it goes. Printed by addgen.py. -/
namespace Go.Proofs.YtmkgbinmilcojaaGreat
open Go.RowKit Go.Maps
attribute [-go_sem] loadCellsFrom Instr.build

section
variable {w : World} {o : Oper} {a : Act} {K : Act → World → Prop} {Q : Exit → Act → World → Prop}
theorem op_store_node (t : TypeId) (x y : Operand) (hd : o.dst = none) (ho : o.op = .store t x y) {g : Nat} {fl hl : List Value} {ws : Array Value} {p : Option Addr} {n b1 b2 b3 b4 k : Int} (hx : a.eval x = .pointer (some ⟨g, 102, none⟩)) (hy : a.eval y = .agg ws)
    (hb : Blk w g (nodeL fl hl p n b1 b2 b3 b4 k).toArray 86) (h1 : fl.toArray.size = 68) (h2 : hl.toArray.size = 32) (h3 : ws.size = 4) (h4 : ws.all (·.oneCell') = true) (hi : (Tryz.prog.info? t).map (·.size) = some 4)
    (h : ∀ w2, Blk w2 g (fl ++ (hl ++ (Value.pointer p :: Value.int .i64 n :: (ws.toList ++ [Value.int .i64 k])))).toArray 86 → Chg [g] w w2 → K a w2) : o.wp Tryz.prog a w K Q := by
  obtain ⟨W2, _, hb2, k2, rfl⟩ := store_node hb h1 h2 h3 h4
  have hsz := node_size (by simpa using h1) (by simpa using h2) p n b1 b2 b3 b4 k
  refine wp_store_mid t x y ho g 102 ws hx hy (fun j hj => ⟨?_, hb.free _⟩) (by rw [h3]; exact hi) h4 ?_
  · rw [hb.cell (102 + j) (v := (nodeL fl hl p n b1 b2 b3 b4 k).toArray[102 + j]'(by omega)) (by simp)]; rfl
  · rw [hd]; exact h _ hb2 k2
end
theorem t_set {l : List Value} (h : l.length = 72) (a b c v : Value) : (l ++ [a, b, c]).toArray.setIfInBounds 74 v = (l ++ [a, b, v]).toArray := by
  apply Array.ext'
  simp only [Array.toList_setIfInBounds]
  rw [List.set_append_right _ _ (by omega), h]
  rfl
theorem n_set {hl hs : List Value} (h1 : hl.length = 68) (h2 : hs.length = 32) (p : Option Addr) (n a b c d k j : Int) : (nodeL hl hs p n a b c d k).toArray.setIfInBounds 106 (.int .i64 j) = (nodeL hl hs p n a b c d j).toArray := by
  apply Array.ext'
  simp only [Array.toList_setIfInBounds, nodeL]
  rw [List.set_append_right _ _ (by omega), h1, List.set_append_right _ _ (by omega), h2]
  rfl
theorem Blk.same {w : World} {b : Nat} {c d : Array Value} {t u : TypeId} (h : Blk w b c t) (k : Blk w b d u) : t = u := by
  have h1 : w.heap[b]? = some (.cells c t (0, 0)) := h
  have k1 : w.heap[b]? = some (.cells d u (0, 0)) := k
  rw [h1] at k1
  exact (Obj.cells.inj (Option.some.inj k1)).2.1
theorem MapH.ne {w : World} {b cnt g : Nat} {f : List Nat → Option Value} {c : Array Value} {t : TypeId} (h : MapH w b cnt f) (k : Blk w g c t) : b ≠ g := by
  obtain ⟨D, ⟨es, clock, h1, _⟩, _⟩ := h
  intro e
  subst e
  rw [show w.heap[b]? = _ from k] at h1
  cases h1
theorem row_ne {w : World} {base c n cap g : Nat} {t u : TypeId} {xs : List Value} {d : Array Value} (h : w.ownsRow base t 1 (.slice (some ⟨c, 0, none⟩) n cap) n xs) (k : Blk w g d u) (ht : t ≠ u) : c ≠ g := by
  rcases h.2 with ⟨e, _⟩ | ⟨g', cap', cur, e, hb, hg, _⟩
  · cases e
  · cases e
    intro e2
    subst e2
    exact ht (Blk.same hg k)
theorem row_nem {w : World} {base c n cap m cnt : Nat} {t : TypeId} {xs : List Value} {f : List Nat → Option Value} (h : w.ownsRow base t 1 (.slice (some ⟨c, 0, none⟩) n cap) n xs) (k : MapH w m cnt f) : c ≠ m := by
  rcases h.2 with ⟨e, _⟩ | ⟨g', cap', cur, e, hb, hg, _⟩
  · cases e
  · cases e
    exact fun e => k.ne hg e.symm
theorem row_chg {w w' : World} {base c n cap : Nat} {t : TypeId} {xs : List Value} {S : List Nat} (h : w.ownsRow base t 1 (.slice (some ⟨c, 0, none⟩) n cap) n xs) (k : Chg S w w') (hc : c ∉ S) : w'.ownsRow base t 1 (.slice (some ⟨c, 0, none⟩) n cap) n xs ∧ True := by
  refine ⟨⟨h.1, ?_⟩, trivial⟩
  rcases h.2 with ⟨e, _⟩ | ⟨g', cap', cur, e, hb, hg, r⟩
  · cases e
  · cases e
    exact .inr ⟨_, _, cur, rfl, hb, (k.block _ (Array.getElem?_eq_some_iff.1 hg).1 hc).trans hg, r⟩
theorem hash_ah {h : Hd} (_ : HdOk h) : ∀ (j : Nat) (v : Value), (bytesV h.ah).toArray[j]? = some v → h.cs[1 + j]? = some v := by
  intro j v hv
  simp only [Hd.cs, Hd.l, List.getElem?_toArray] at hv ⊢
  rw [Nat.add_comm, List.getElem?_cons_succ, List.getElem?_append_left (List.getElem?_eq_some_iff.1 hv).1]
  exact hv
set_option maxRecDepth 100000 in
set_option maxHeartbeats 16000000 in
theorem tree_Add_ok (x : Lt) (T : Tr) (ok : TrOk T) (h : Hd) (hok : HdOk h) (i : Nat) (p : Pn) (hs : T.find (hdH h) = none) (ha : T.find h.ah = some i) (hp : T.ns[i]? = some p) (ok1 : TrOk (T.grow h i p))
    (hck : ∀ w, TreeAt w x T → Calls Tryz.prog 42 #[.pointer (some ⟨x.b, 0, none⟩), .agg h.cs, .pointer (adrB x.bl i)] w fun e w' => e = .returned (.int .i64 0) ∧ Chg [] w w')
    (T2 : Tr) (hno : ¬ T.wkL < (newP h i p).wk → T2 = T.grow h i p)
    (hturn : T.wkL < (newP h i p).wk → ∀ g w, TreeAt w (x.grow g) (T.grow h i p) → Calls Tryz.prog 44 #[.pointer (some ⟨x.b, 0, none⟩), .pointer (some ⟨g, 0, none⟩)] w fun e w' => e = .returned (.tuple #[]) ∧ Chg (x.grow g).all w w' ∧ ∃ c, TreeAt w' ⟨x.b, x.m, c, x.bl ++ [g]⟩ T2 ∧ (c = x.c ∨ w.heap.size ≤ c))
    (w : World) (hT : TreeAt w x T) (hlow : ∀ b ∈ x.all, b < w.heap.size) :
    Calls Tryz.prog 15 #[.pointer (some ⟨x.b, 0, none⟩), .agg h.cs] w fun e w' => e = .returned (.int .i64 0) ∧ Chg x.all w w' ∧ ∃ g c, TreeAt w' ⟨x.b, x.m, c, x.bl ++ [g]⟩ T2 ∧ w.heap.size ≤ g ∧ (c = x.c ∨ w.heap.size ≤ c) := by
  have hhash := header_Hash h hok
  have hk : HK h.ah := ⟨hok.ah, hok.ahb⟩
  have hkey : HK (hdH h) := HK_hash h
  have hhs : h.l.toArray.size = 68 := Hd.size hok
  have hks : (bytesV (hdH h)).toArray.size = 32 := by simp [bytesV_hash]
  have hone := bytesV_all (hdH h)
  have hzs : z32.size = 32 := rfl
  have hz := zeroHash
  have bH := Blk.new w h.l.toArray 28
  have k0 : Chg [] w (w.alloc (.cells h.l.toArray 28)) := (Chg.refl _ _).alloc _
  have hldH := load_blkC bH 68 hhs
  have hpa := hash_ah hok
  have hsa : (bytesV h.ah).toArray.size = 32 := by simp [bytesV_len, hok.ah]
  change ∀ (j : Nat) (v : Value), (bytesV h.ah).toArray[j]? = some v → h.l.toArray[1 + j]? = some v at hpa
  change ∀ w, Calls Tryz.prog 27 #[.agg h.l.toArray] w _ at hhash
  change ∀ w, TreeAt w x T → Calls Tryz.prog 42 #[.pointer (some ⟨x.b, 0, none⟩), .agg h.l.toArray, .pointer (adrB x.bl i)] w _ at hck
  show Calls Tryz.prog 15 #[.pointer (some ⟨x.b, 0, none⟩), .agg h.l.toArray] w _
  obtain ⟨hl, hhl⟩ : ∃ hl, hl = h.l := ⟨_, rfl⟩
  obtain ⟨kl, hkl⟩ : ∃ kl, kl = bytesV (hdH h) := ⟨_, rfl⟩
  rw [← hhl] at hhs bH k0 hldH hpa hck ⊢
  rw [← hkl] at hks hone
  simp only [← hhl, ← hkl] at hhash
  obtain ⟨gi, hgi⟩ : ∃ gi, gi = x.bl.getD i 0 := ⟨_, rfl⟩
  have hai := Lib.hid (show adrB x.bl i = some ⟨gi, 0, none⟩ by rw [hgi]; rfl)
  have hgi' := Lib.hid hgi
  clear hgi
  rw [hai.out] at hck
  have hhl' := Lib.hid hhl
  have hkl' := Lib.hid hkl
  clear hhl hkl
  go_enter Tryz.func15, Tryz.ntmps15
  go_wp2_with fail
  refine (hhash _).mono ?_
  rintro e w1 ⟨rfl, k1⟩
  have hs01 := (k0.trans k1 (by simp)).size
  dsimp only
  have bH := (bH.chg k1 (by simp)).alloc (.cells kl.toArray 26)
  have bK := Blk.new w1 kl.toArray 26
  have hst := run_storeCells_new (P := Tryz.prog) w1 26 z32 kl.toArray (by rw [hks]; exact infoHash) (by rw [hks]; rfl) hone
  have k2 := (k0.trans k1 (by simp)).alloc (.cells kl.toArray 26)
  clear hldH k0 k1 hhash
  have hT2 := hT.chg ok k2
  have hlk1 := fun n => (hT2.mp.drewN n).look_ok Tryz.underlying88 (zeroNP _) hkey
  unfold hv at hlk1
  rw [← hkl'.out] at hlk1
  simp only [hs, Option.map_none, Option.getD_none, Option.isSome_none] at hlk1
  obtain ⟨gc, cc, c72, _, _, _, _⟩ := hT2.slice ok
  have hldK := fun n => load_blkC (bK.drewN n) 32 hks
  go_wp2
  go_quiet (fail)
  have hTq := hT2.chg ok ((Chg.refl [] _).drewN nq)
  have bH := bH.drewN nq
  have bK := bK.drewN nq
  have kq := k2.drewN nq
  clear hlk1 hldK c72 hst hT2 k2
  generalize (w1.alloc (.cells kl.toArray 26)).drewN nq = wq at *
  have hlk2 := fun n => (hTq.mp.drewN n).look_ok Tryz.underlying88 (zeroNP _) hk
  unfold hv at hlk2
  simp only [ha, Option.map_some, Option.getD_some, Option.isSome_some, hai.out] at hlk2
  obtain ⟨gc, cc, c72, _, _, _, _⟩ := hTq.slice ok
  have hldA := fun n => load_part (bH.drewN n) 1 32 hsa hpa
  go_wp2
  go_quiet (fail)
  have hT2 := hTq.chg ok ((Chg.refl [] _).drewN nq)
  have bH := bH.drewN nq
  have bK := bK.drewN nq
  have k2 := kq.drewN nq
  clear hlk2 hldA c72 hTq kq
  generalize wq.drewN nq = w2 at *
  have hldH := load_blkC bH 68 hhs
  go_wp2_with fail
  refine (hck _ hT2).mono ?_
  rintro e w3 ⟨rfl, k3⟩
  dsimp only
  have hT3 := hT2.chg ok k3
  have bH := bH.chg k3 (by simp)
  have bK := bK.chg k3 (by simp)
  have k03 := k2.trans k3 (by simp)
  clear hldH hck hT2 k2 k3
  go_upto_region 13 with fail
  have hbn := build_node4 (hl := hl) (hs := kl) (by simpa using hhs) (by simpa using hks)
  have nI := hT3.node ok hp
  have hil : i < x.bl.length := by rw [hT3.len]; exact (List.getElem?_eq_some_iff.1 hp).1
  rw [← hgi'.out] at nI
  have hpt := ok.ht p (List.mem_of_getElem? hp)
  obtain ⟨ht, hht0⟩ : ∃ ht, ht = p.ht := ⟨_, rfl⟩
  have hht := Lib.hid hht0.symm
  rw [← hht0] at hpt
  clear hht0
  have hwr : IntKind.i64.wrap ((ht : Int) + 1) = (ht : Int) + 1 := by rw [IntKind.wrap_i64]; omega
  go_cut [11] (fun s11 wx => ∃ gn, s11 = .pointer (some ⟨gn, 0, none⟩) ∧ Blk wx gn (nodeL hl kl (some ⟨gi, 0, none⟩) ((ht : Int) + 1) 0 0 0 0 0).toArray 86 ∧ w3.heap.size ≤ gn ∧ Chg [] w3 wx)
  case first =>
    refine wp_region_held_drew (S := fun w' => Chg [] w3 w') (by kernel_rfl) ((Chg.refl _ _).drew) (fun hH => ?_)
    refine TK 0 (.agg hl.toArray) rfl hH (fun w' hw' => ?_) ?_
    · (have k := bH.chg hw' (by simp); have hl := load_blkC k 68 hhs; go_simp)
    try simp only [Act.put, Sa, Sb, Sc, Sd, Sf]
    refine TK 1 (.agg kl.toArray) rfl hH (fun w' hw' => ?_) ?_
    · (have k := bK.chg hw' (by simp); have hl := load_blkC k 32 hks; go_simp)
    try simp only [Act.put, Sa, Sb, Sc, Sd, Se, Sf]
    refine TK 2 (.pointer (some ⟨gi, 0, none⟩)) rfl hH (fun w' hw' => ?_) ?_
    · go_simp
    try simp only [Act.put, Sa, Sb, Sc, Sd, Se, Sf]
    refine TK 3 (.pointer (some ⟨gi, 0, none⟩)) rfl hH (fun w' hw' => ?_) ?_
    · go_simp
    try simp only [Act.put, Sa, Sb, Sc, Sd, Se, Sf]
    refine TK 4 (.pointer (some ⟨gi, 0, none⟩)) rfl hH (fun w' hw' => ?_) ?_
    · go_simp
    try simp only [Act.put, Sa, Sb, Sc, Sd, Se, Sf]
    refine TK 5 (.pointer (some ⟨gi, 101, none⟩)) rfl hH (fun w' hw' => ?_) ?_
    · go_simp
    try simp only [Act.put, Sa, Sb, Sc, Sd, Se, Sf]
    refine TK 6 (.int .i64 (ht : Int)) rfl hH (fun w' hw' => ?_) ?_
    · (have k := nI.chg hw' (by simp); have c0 := k.height; rw [hht.out] at c0; go_simp)
    try simp only [Act.put, Sa, Sb, Sc, Sd, Se, Sf]
    refine TK 7 (.int .i64 ((ht : Int) + 1)) rfl hH (fun w' hw' => ?_) ?_
    · go_simp
    try simp only [Act.put, Sa, Sb, Sc, Sd, Se, Sf]
    refine TK 8 (.agg (nodeL hl kl (some ⟨gi, 0, none⟩) ((ht : Int) + 1) 0 0 0 0 0).toArray) rfl hH (fun w' hw' => ?_) ?_
    · go_simp
    try simp only [Act.put, Sa, Sb, Sc, Sd, Se, Sf]
    refine RD 9 rfl (fun K hK => ?_)
    rw [if_pos (by rfl)]
    refine op_box 86 54 (by kernel_rfl) (.tmp 53) (by kernel_rfl) rfl ?_
    have kbN1 := Blk.new ((w3).drew) (nodeL hl kl (some ⟨gi, 0, none⟩) ((ht : Int) + 1) 0 0 0 0 0).toArray 86
    have hH1 := hH.alloc (.cells (nodeL hl kl (some ⟨gi, 0, none⟩) ((ht : Int) + 1) 0 0 0 0 0).toArray 86)
    have hgeN1 := hH.size
    obtain ⟨gN1, hgg1⟩ : ∃ g, g = ((w3).drew).heap.size := ⟨_, rfl⟩
    rw [← hgg1] at kbN1 hgeN1 ⊢
    generalize ((w3).drew).alloc (.cells (nodeL hl kl (some ⟨gi, 0, none⟩) ((ht : Int) + 1) 0 0 0 0 0).toArray 86) = w1 at hH1 kbN1 ⊢
    clear hgg1
    refine hK.out _ _ hH1 (fun _ => ?_)
    try simp only [Act.put, Sa, Sb, Sc]
    refine RD 10 rfl (fun K hK => ?_)
    go_simp
    refine hK.out _ _ hH1 (fun _ => ?_)
    try simp only [Act.put, Sa, Sb, Sc, Sd, Se, Sf]
    refine wpAnyH_done (by kernel_rfl) ?_ _
    go_wp2_with fail
    go_meet
    exact ⟨gN1, rfl, kbN1, by omega, hH1⟩
  case rest =>
    obtain ⟨gn, rfl, bN, hgn, k4⟩ := hcut
    clear hbn
    have nI := nI.chg k4 (by simp)
    have hT4 := hT3.chg ok k4
    have hgnH := bH.lt
    have hgnK := bK.lt
    have hgnI := (hT3.node ok hp).blk.lt
    rw [← hgi'.out] at hgnI
    have bH := bH.chg k4 (by simp)
    have bK := bK.chg k4 (by simp)
    have k04 := k03.trans k4 (by simp)
    have hs3 := k03.size
    clear hT3 k4 k03
    have hin : gi ≠ gn := by omega
    have hhn : w.heap.size ≠ gn := by omega
    have hkn : w1.heap.size ≠ gn := by omega
    have hwork := tree_work h hok
    change ∀ w, Calls Tryz.prog 36 #[.agg h.l.toArray] w _ at hwork
    rw [← hhl'.out] at hwork
    have hadd := fun w => wide_Add p.wk (hdW h) (ok.wk p (List.mem_of_getElem? hp)) (workN_lt _) w
    obtain ⟨ws, e1, hws, _⟩ := wvC p.wk
    obtain ⟨vs, e2, hvs, _⟩ := wvC (hdW h)
    obtain ⟨us, e3, hus, ous⟩ := wvC ((p.wk + hdW h) % TOP)
    rw [e2] at hwork
    rw [e1, e2, e3] at hadd
    generalize decide (TOP ≤ p.wk + hdW h) = ov at *
    have ews := Lib.hid e1
    have eus := Lib.hid e3
    clear e1 e2 e3
    generalize wc = w4 at *
    go_upto_region 14 with fail
    go_cut [67] (fun _ wx => Blk wx gn (hl ++ (kl ++ (Value.pointer (some ⟨gi, 0, none⟩) :: Value.int .i64 ((ht : Int) + 1) :: (us.toList ++ [Value.int .i64 0])))).toArray 86 ∧ Chg [gn] w4 wx)
    case first =>
      refine wp_region_held_drew (S := fun w' => Chg [gn] w4 w') (by kernel_rfl) ((Chg.refl _ _).drew) (fun hH31 => ?_)
      have kdN31 := bN.chg ((Chg.refl [] _).drew) (by simp)
      refine TK 0 (.pointer (some ⟨gn, 0, none⟩)) rfl hH31 (fun w' hw' => ?_) ?_
      · go_simp
      try simp only [Act.put, Sa, Sb, Sc, Sd, Sf]
      refine TK 1 (.pointer (some ⟨gi, 0, none⟩)) rfl hH31 (fun w' hw' => ?_) ?_
      · go_simp
      try simp only [Act.put, Sa, Sb, Sc, Sd, Se, Sf]
      refine TK 2 (.pointer (some ⟨gi, 0, none⟩)) rfl hH31 (fun w' hw' => ?_) ?_
      · go_simp
      try simp only [Act.put, Sa, Sb, Sc, Sd, Se, Sf]
      refine TK 3 (.pointer (some ⟨gi, 102, none⟩)) rfl hH31 (fun w' hw' => ?_) ?_
      · go_simp
      try simp only [Act.put, Sa, Sb, Sc, Sd, Se, Sf]
      refine TK 4 (.agg ws) rfl hH31 (fun w' hw' => ?_) ?_
      · (have k := nI.chg hw' (by simpa using hin); obtain ⟨ws2, e2, s2, l2⟩ := k.work; rw [ews.out] at e2; cases e2; go_simp)
      try simp only [Act.put, Sa, Sb, Sc, Sd, Se, Sf]
      refine TK 5 (.agg hl.toArray) rfl hH31 (fun w' hw' => ?_) ?_
      · (have k := bH.chg hw' (by simpa using hhn); have hl := load_blkC k 68 hhs; go_simp)
      try simp only [Act.put, Sa, Sb, Sc, Sd, Se, Sf]
      refine RD 6 rfl (fun K hK => ?_)
      try rw [if_pos (by rfl)]
      go_simp
      go_at_call 36
      refine (hwork _).mono ?_
      rintro e32 w32 ⟨rfl, hc32⟩
      dsimp only
      have hH32 := hH31.trans hc32 (by simp)
      have kbN32 := kdN31.chg hc32 (by simp)
      refine hK.out _ _ hH32 (fun _ => ?_)
      try simp only [Act.put, Sa, Sb, Sc, Sd, Se, Sf]
      refine RD 7 rfl (fun K hK => ?_)
      try rw [if_pos (by rfl)]
      go_simp
      go_at_call 43
      refine (hadd _).mono ?_
      rintro e33 w33 ⟨rfl, hc33⟩
      dsimp only
      have hH33 := hH32.trans hc33 (by simp)
      have kbN33 := kbN32.chg hc33 (by simp)
      refine hK.out _ _ hH33 (fun _ => ?_)
      try simp only [Act.put, Sa, Sb, Sc, Sd, Se, Sf]
      refine TK 8 (.tuple #[.agg us, .bool ov]) rfl hH33 (fun w' hw' => ?_) ?_
      · go_simp
      try simp only [Act.put, Sa, Sb, Sc, Sd, Se, Sf]
      refine TK 9 (.agg us) rfl hH33 (fun w' hw' => ?_) ?_
      · go_simp
      try simp only [Act.put, Sa, Sb, Sc, Sd, Se, Sf]
      refine TK 10 (.bool ov) rfl hH33 (fun w' hw' => ?_) ?_
      · go_simp
      try simp only [Act.put, Sa, Sb, Sc, Sd, Se, Sf]
      refine TK 11 (.pointer (some ⟨gn, 0, none⟩)) rfl hH33 (fun w' hw' => ?_) ?_
      · go_simp
      try simp only [Act.put, Sa, Sb, Sc, Sd, Se, Sf]
      refine TK 12 (.pointer (some ⟨gn, 102, none⟩)) rfl hH33 (fun w' hw' => ?_) ?_
      · go_simp
      try simp only [Act.put, Sa, Sb, Sc, Sd, Se, Sf]
      refine RD 13 rfl (fun K hK => ?_)
      try rw [if_pos (by rfl)]
      refine op_store_node 51 (.tmp 67) (.tmp 64) (by kernel_rfl) (by kernel_rfl) rfl rfl kbN33 hhs hks hus ous infoW4 ?_
      intro w34 kbN34 hc34
      have hH34 : Chg [gn] w4 w34 := hH33.trans hc34 (by simp)
      refine hK.out _ _ hH34 (fun _ => ?_)
      try simp only [Act.put, Sa, Sb, Sc, Sd, Se, Sf]
      refine wpAnyH_done (by kernel_rfl) ?_ _
      go_wp2_with fail
      go_meet
      exact ⟨kbN34, hH34⟩
    case rest =>
      obtain ⟨bN5, k5⟩ := hcut
      generalize wc = w5 at *
      have nI := nI.chg k5 (by simpa using hin)
      have nI5 := nI
      have k01s := k04.size
      have bH := bH.chg k5 (by simpa using hhn)
      have bK := bK.chg k5 (by simpa using hkn)
      have hlowg : ∀ b ∈ x.all, b < gn := fun b hb => by have := hlow b hb; have := k04.size; omega
      have hT5 := hT4.chgS (fun b hb => by have := hlowg b hb; simp; omega) k5
      clear hT4 hwork hadd
      obtain ⟨c, hTb, hC⟩ := hT5.tb
      have hl74 := t_cell (Rl.len ok.r) (.map (some x.m)) (.slice (some ⟨x.c, 0, none⟩) T.ch.length c) (.int .i64 (T.tips : Int))
      have c74 := hTb.cell 74 hl74.2.2
      have f74 := hTb.free 74
      have c106 := nI.kids
      have f106 := nI.blk.free 106
      have htl := ok.tips
      have hkl2 := ok.kd p (List.mem_of_getElem? hp)
      have hset74 := hTb.set 74 (.int .i64 ((T.tips + 1 : Nat) : Int))
      rw [t_set (Rl.len ok.r)] at hset74
      have hgb : x.b < w.heap.size := hlow _ (by simp [Lt.all])
      obtain ⟨tips, htp⟩ : ∃ tips, tips = T.tips := ⟨_, rfl⟩
      rw [← htp] at hTb hl74 c74 hset74 htl
      have htp' := Lib.hid htp
      clear htp
      obtain ⟨kd, hkd⟩ : ∃ kd, kd = p.kd := ⟨_, rfl⟩
      rw [← hkd] at c106 hkl2
      have hkd' := Lib.hid hkd
      clear hkd
      have hwt : IntKind.i64.wrap ((tips : Int) + 1) = ((tips + 1 : Nat) : Int) := by rw [IntKind.wrap_i64]; omega
      have hwk : IntKind.i64.wrap ((kd : Int) + 1) = ((kd + 1 : Nat) : Int) := by rw [IntKind.wrap_i64]; omega
      obtain ⟨xb, hxb⟩ : ∃ xb, xb = x.b := ⟨_, rfl⟩
      rw [← hxb] at hTb c74 f74 hset74 hgb ⊢
      have hxb' := Lib.hid hxb
      clear hxb
      go_upto_if 72 with fail
      go_cut [73] (fun _ wx => Blk wx xb (T.r.l ++ [Value.map (some x.m), Value.slice (some ⟨x.c, 0, none⟩) T.ch.length c, Value.int .i64 ((if 0 < kd then tips + 1 else tips : Nat) : Int)]).toArray 91 ∧ Chg [xb] w5 wx)
      case first =>
        by_cases hk0 : 0 < kd
        · have hd : decide ((0 : Int) < kd) = true := by simp; omega
          have hd2 : decide (0 < kd) = true := by simpa using hk0
          first | rw [hd] | rw [hd2]
          go_wp2_with fail
          go_meet
          rw [if_pos hk0]
          exact ⟨hset74, (Chg.refl _ _).setCell (.inl (by simp)) _⟩
        · have hd : decide ((0 : Int) < kd) = false := by simp; omega
          have hd2 : decide (0 < kd) = false := by simpa using hk0
          first | rw [hd] | rw [hd2]
          go_wp2_with fail
          go_meet
          rw [if_neg hk0]
          exact ⟨hTb, Chg.refl _ _⟩
      case rest =>
        obtain ⟨hTb6, k6⟩ := hcut
        generalize wc = w6 at *
        have hixb : gi ≠ xb := fun e => absurd (Blk.same (e ▸ nI.blk) hTb) (by decide)
        have nI6 := nI.chg k6 (by simpa using hixb)
        have c106 := nI6.kids
        rw [hkd'.out.symm] at c106
        have f106 := nI6.blk.free 106
        have hsetI := nI6.blk.set 106 (.int .i64 ((kd + 1 : Nat) : Int))
        rw [n_set (Hd.lsize nI6.ok) (bytesV_hash _)] at hsetI
        clear hset74 c74 f74 nI hwt
        go_upto_region 18 with fail
        have k7 : Chg [gi] w6 (w6.setCell ⟨gi, 106, none⟩ (.int .i64 ((kd : Int) + 1))) := (Chg.refl _ _).setCell (.inl (by simp)) _
        rw [show ((kd + 1 : Nat) : Int) = (kd : Int) + 1 by omega] at hsetI
        generalize w6.setCell ⟨gi, 106, none⟩ (.int .i64 ((kd : Int) + 1)) = w7 at *
        have hmx : x.m ≠ xb := hT5.mp.ne hTb
        have hmi : x.m ≠ gi := (hT5.mp.chg k6 (by simpa using hmx)).ne nI6.blk
        have hmg : x.m < gn := hlowg _ (by simp [Lt.all])
        have hmk : x.m ≠ w1.heap.size := by have := hlow x.m (by simp [Lt.all]); have := k01s; omega
        have mp6 := hT5.mp.chg k6 (by simpa using hmx)
        have mp := mp6.chg k7 (by simpa using hmi)
        have hci : x.c ≠ gi := row_ne hC nI5.blk (by decide)
        have hcb : x.c ≠ xb := row_ne hC hTb (by decide)
        have hcm : x.c ≠ x.m := row_nem hC hT5.mp
        have hC7 := (row_chg hC k6 (by simpa using hcb)).1
        have hC7 := (row_chg hC7 k7 (by simpa using hci)).1
        have bT := hTb6.chg k7 (by simpa using fun e => hixb e.symm)
        have hgK6 : w1.heap.size ≠ xb := by have := k01s; omega
        have hgK7 : w1.heap.size ≠ gi := fun e => absurd (Blk.same (e ▸ bK) nI5.blk) (by decide)
        have bK := (bK.chg k6 (by simpa using hgK6)).chg k7 (by simpa using hgK7)
        have hng : gn ≠ gi := fun e => hin e.symm
        have hnx : gn ≠ xb := by have := k01s; omega
        have bG := (bN5.chg k6 (by simpa using hnx)).chg k7 (by simpa using hng)
        have t72 := (t_cell (Rl.len ok.r) (.map (some x.m)) (.slice (some ⟨x.c, 0, none⟩) T.ch.length c) (.int .i64 ((if 0 < kd then tips + 1 else tips : Nat) : Int))).1
        have hkm : w1.heap.size ≠ x.m := fun e => hmk e.symm
        have hbm : xb ≠ x.m := fun e => hmx e.symm
        have hml : T.ns.length < maxLen := by have := ok.len; unfold maxLen; omega
        obtain ⟨xm, hxm⟩ : ∃ xm, xm = x.m := ⟨_, rfl⟩
        rw [← hxm] at t72 mp hkm hbm hmg bT
        have hxm' := Lib.hid hxm
        clear hxm
        clear f106 c106 hmx hmi hmk hl74 hwk
        go_cut [90] (fun _ wx => MapH wx xm (T.ns.length + 1) (fun y => if y = hdH h then some (Value.pointer (some ⟨gn, 0, none⟩)) else (T.find y).map fun i => Value.pointer (adrB x.bl i)) ∧ Chg [xm] w7 wx)
        case first =>
          have hfin : ∀ W, MapH W xm (if ((T.find (hdH h)).map fun i => Value.pointer (adrB x.bl i)).isSome then T.ns.length else T.ns.length + 1) (fun y => if y = hdH h then some (Value.pointer (some ⟨gn, 0, none⟩)) else (T.find y).map fun i => Value.pointer (adrB x.bl i)) → MapH W xm (T.ns.length + 1) (fun y => if y = hdH h then some (Value.pointer (some ⟨gn, 0, none⟩)) else (T.find y).map fun i => Value.pointer (adrB x.bl i)) := fun W hW => by
            rw [hs] at hW; exact hW
          have hfin' := Lib.hid hfin
          clear hfin
          refine wp_region_held_drew (S := fun w' => Chg [xm] w7 w') (by kernel_rfl) ((Chg.refl _ _).drew) (fun hH61 => ?_)
          have kdM61 := mp.chg ((Chg.refl [] _).drew) (by simp)
          obtain ⟨wd61, hwd61⟩ : ∃ wd, wd = (w7).drew := ⟨_, rfl⟩
          rw [← hwd61] at hH61 kdM61 ⊢
          clear hwd61
          refine TK 0 (.pointer (some ⟨xb, 0, none⟩)) rfl hH61 (fun w' hw' => ?_) ?_
          · go_simp
          try simp only [Act.put, Sa, Sb, Sc, Sd, Sf]
          refine TK 1 (.pointer (some ⟨xb, 0, none⟩)) rfl hH61 (fun w' hw' => ?_) ?_
          · go_simp
          try simp only [Act.put, Sa, Sb, Sc, Sd, Se, Sf]
          refine TK 2 (.pointer (some ⟨xb, 72, none⟩)) rfl hH61 (fun w' hw' => ?_) ?_
          · go_simp
          try simp only [Act.put, Sa, Sb, Sc, Sd, Se, Sf]
          refine TK 3 (.map (some xm)) rfl hH61 (fun w' hw' => ?_) ?_
          · (have k := bT.chg hw' (by simpa using hbm); have c0 := k.cell 72 t72; go_simp)
          try simp only [Act.put, Sa, Sb, Sc, Sd, Se, Sf]
          refine TK 4 (.agg kl.toArray) rfl hH61 (fun w' hw' => ?_) ?_
          · (have k := bK.chg hw' (by simpa using hkm); have hl := load_blkC k 32 hks; go_simp)
          try simp only [Act.put, Sa, Sb, Sc, Sd, Se, Sf]
          refine TK 5 (.pointer (some ⟨gn, 0, none⟩)) rfl hH61 (fun w' hw' => ?_) ?_
          · go_simp
          try simp only [Act.put, Sa, Sb, Sc, Sd, Se, Sf]
          refine RD 6 rfl (fun K hK => ?_)
          try rw [if_pos (by rfl)]
          obtain ⟨w62, hr62, kbM62, hc62⟩ := MapH.store kdM61 Tryz.underlying88 hml hkey (.pointer (some ⟨gn, 0, none⟩))
          unfold hv at hr62; rw [← hkl'.out] at hr62
          go_simp
          have hH62 : Chg [xm] w7 w62 := hH61.trans hc62 (by first | (simp; done) | (simp; omega))
          refine hK.out _ _ hH62 (fun _ => ?_)
          try simp only [Act.put, Sa, Sb, Sc, Sd, Se, Sf]
          refine wpAnyH_done (by kernel_rfl) ?_ _
          go_wp2_with fail
          go_meet
          exact ⟨hfin'.out _ kbM62, hH62⟩
        case rest =>
          obtain ⟨mp8, k8⟩ := hcut
          generalize wc = w8 at *
          have k58 : Chg [xb, gi, xm] w5 w8 := ((k6.mono (T := [xb, gi, xm]) (by simp)).trans k7 (by simp)).trans k8 (by simp)
          have hcmx : x.c ≠ xm := by rw [hxm'.out]; exact hcm
          have hgmx : gn ≠ xm := by omega
          have himx : gi ≠ xm := by have := (hT5.mp.chg k6 (by rw [hxm'.out] at hbm; simpa using fun e => hbm e.symm)).ne nI6.blk; rw [← hxm'.out] at this; exact fun e => this e.symm
          have hT8 : TreeAt w8 (x.grow gn) (T.grow h i p) := by
            refine hT5.grown ok h i p hp hs gn c (fun b hb => by have := hlowg b (by simp [Lt.all, hb]); omega) ?_ ?_ ?_ ?_ ?_ ?_
            · have := bT.chg k8 (by simpa using hbm)
              rw [hxb'.out, hkd'.out, htp'.out, hxm'.out] at this
              exact this
            · exact (row_chg hC7 k8 (by simpa using hcmx)).1
            · rw [← hxm'.out]; exact mp8
            · intro j q hji hq
              have hjl : j < x.bl.length := by rw [hT5.len]; exact (List.getElem?_eq_some_iff.1 hq).1
              have hbj := hT5.nd j q hq
              refine hbj.chg k58 ?_
              have e1 : x.bl.getD j 0 ≠ xb := fun e => absurd (Blk.same (e ▸ hbj) hTb) (by decide)
              have e2 : x.bl.getD j 0 ≠ gi := by
                rw [hgi'.out]
                simp only [List.getD_eq_getElem?_getD, List.getElem?_eq_getElem hjl, List.getElem?_eq_getElem hil, Option.getD_some]
                exact fun e => hji ((List.getElem_inj hT5.nodup).1 e)
              have e3 : x.bl.getD j 0 ≠ xm := by rw [hxm'.out]; exact fun e => hT5.mp.ne hbj e.symm
              simp only [List.mem_cons, List.not_mem_nil, or_false, not_or]
              exact ⟨e1, e2, e3⟩
            · have := (hsetI.chg k8 (by simpa using himx))
              rw [hgi'.out] at this
              rw [hkd'.out] at this
              exact this
            · have := bG.chg k8 (by simpa using hgmx)
              rw [hhl'.out, hkl'.out] at this
              have e3 : us.toList = [Value.int .u64 ((p.wk + hdW h) % TOP % 18446744073709551616 : Nat), Value.int .u64 ((p.wk + hdW h) % TOP / 18446744073709551616 % 18446744073709551616 : Nat), Value.int .u64 ((p.wk + hdW h) % TOP / 340282366920938463463374607431768211456 % 18446744073709551616 : Nat), Value.int .u64 ((p.wk + hdW h) % TOP / 6277101735386680763835789423207666416102355444464034512896 % 18446744073709551616 : Nat)] := by
                have e4 := eus.out
                unfold wv W4 at e4
                simp only [Value.agg.injEq] at e4
                rw [← e4]
              rw [e3, show ((ht : Int) + 1) = ((p.ht + 1 : Nat) : Int) by have := hht.out; omega, show (some ⟨gi, 0, none⟩ : Option Addr) = adrB x.bl i from hai.out.symm] at this
              exact this
          have k48 : Chg x.all w w8 := by
            have h1 : Chg x.all w w5 := (k04.mono (T := x.all) (by simp)).trans k5 (fun t ht => .inr (by simp at ht; subst ht; have := k01s; omega))
            refine h1.trans k58 (fun t ht => .inl ?_)
            simp at ht
            rcases ht with rfl | rfl | rfl
            · rw [hxb'.out]; simp [Lt.all]
            · rw [hgi'.out]; simp [Lt.all, List.getD_eq_getElem?_getD, hil]
            · rw [hxm'.out]; simp [Lt.all]
          clear hsetI bG bT bN5 mp mp6 mp8 hC7 hC hTb hTb6 nI6 nI5 k6 k7 k8 k58 bH bK hT5
          have hnew : (T.grow h i p).ns[T.ns.length]? = some (newP h i p) := by simp [Tr.grow]
          have nG0 := hT8.node ok1 hnew
          have hgG : (x.grow gn).bl.getD T.ns.length 0 = gn := getD_new x.bl gn hT.len
          rw [hgG] at nG0
          obtain ⟨pa, hpa2⟩ : ∃ pa, pa = (newP h i p).ah.bind (adrB (x.grow gn).bl) := ⟨_, rfl⟩
          rw [← hpa2] at nG0
          have nG := nG0
          clear nG0 hpa2
          obtain ⟨pl, hpl, _⟩ := ok1.best
          have nL := hT8.node ok1 hpl
          obtain ⟨gl, hgl⟩ : ∃ gl, gl = (x.grow gn).bl.getD (T.grow h i p).last 0 := ⟨_, rfl⟩
          rw [← hgl] at nL
          obtain ⟨pb, hpb⟩ : ∃ pb, pb = pl.ah.bind (adrB (x.grow gn).bl) := ⟨_, rfl⟩
          rw [← hpb] at nL
          have hbest0 := fun (w' : World) (k : Chg [] w8 w') => tree_best (x.grow gn) (T.grow h i p) ok1 w' (hT8.chg ok1 k)
          have hbest : ∀ (w' : World), Chg [] w8 w' → Calls Tryz.prog 41 #[.pointer (some ⟨xb, 0, none⟩)] w' fun e w'' => e = .returned (.pointer (some ⟨gl, 0, none⟩)) ∧ Chg [] w' w'' := fun w' k => by
            have := hbest0 w' k
            rw [show adrB (x.grow gn).bl (T.grow h i p).last = some ⟨gl, 0, none⟩ by rw [hgl]; rfl] at this
            rw [hxb'.out]
            exact this
          clear hbest0
          obtain ⟨vs2, e4, hvs2, _⟩ := wvC pl.wk
          have hplt := ok1.wk pl (List.mem_of_getElem? hpl)
          have hcmp := fun w => wide_Cmp ((p.wk + hdW h) % TOP) pl.wk (Nat.mod_lt _ (by unfold TOP; omega)) hplt w
          rw [eus.out, e4] at hcmp
          have evs := Lib.hid e4
          have hwl : T.wkL = pl.wk := by
            have hl2 : (T.grow h i p).last = T.last := rfl
            rw [hl2] at hpl
            have hll : T.last < T.ns.length := by obtain ⟨q, hq, _⟩ := ok.best; exact (List.getElem?_eq_some_iff.1 hq).1
            have hq' : (T.ns.set i { p with kd := p.kd + 1 })[T.last]? = some pl := by
              have : (T.grow h i p).ns[T.last]? = (T.ns.set i { p with kd := p.kd + 1 })[T.last]? := by
                unfold Tr.grow; rw [List.getElem?_append_left (by simpa using hll)]
              rw [← this]; exact hpl
            unfold Tr.wkL
            by_cases hli : T.last = i
            · rw [hli, List.getElem?_set_self (by rw [← hli]; exact hll)] at hq'
              cases hq'
              rw [hli, hp]; rfl
            · rw [List.getElem?_set_ne (fun e => hli e.symm)] at hq'
              rw [hq']; rfl
          have hcmd : decide ((0 : Int) < cmpN ((p.wk + hdW h) % TOP) pl.wk) = decide (T.wkL < (newP h i p).wk) := by
            rw [hwl]
            show _ = decide (pl.wk < (p.wk + hdW h) % TOP)
            unfold cmpN
            by_cases h1 : (p.wk + hdW h) % TOP < pl.wk
            · rw [if_pos h1]; simp; omega
            · rw [if_neg h1]
              by_cases h2 : pl.wk < (p.wk + hdW h) % TOP
              · simp [h2]
              · simp [h2]
          have hcmd' := Lib.hid hcmd
          have hwlt := Lib.hid hwl
          clear hcmd e4 hgl hpb hpl hplt hgG hnew hwl
          generalize cmpN ((p.wk + hdW h) % TOP) pl.wk = cm at *
          obtain ⟨vs, hvse⟩ : ∃ vs, vs = vs2 := ⟨_, rfl⟩
          rw [← hvse] at evs hcmp hvs2
          clear hvse
          go_upto_region 19 with fail
          go_cut [103] (fun s103 wx => s103 = .bool (decide (0 < cm)) ∧ Chg [] w8 wx)
          case first =>
            refine wp_region_held_drew (S := fun w' => Chg [] w8 w') (by kernel_rfl) ((Chg.refl _ _).drew) (fun hH81 => ?_)
            refine TK 0 (.pointer (some ⟨gn, 0, none⟩)) rfl hH81 (fun w' hw' => ?_) ?_
            · go_simp
            try simp only [Act.put, Sa, Sb, Sc, Sd, Sf]
            refine TK 1 (.pointer (some ⟨gn, 0, none⟩)) rfl hH81 (fun w' hw' => ?_) ?_
            · go_simp
            try simp only [Act.put, Sa, Sb, Sc, Sd, Se, Sf]
            refine TK 2 (.pointer (some ⟨gn, 102, none⟩)) rfl hH81 (fun w' hw' => ?_) ?_
            · go_simp
            try simp only [Act.put, Sa, Sb, Sc, Sd, Se, Sf]
            refine TK 3 (.agg us) rfl hH81 (fun w' hw' => ?_) ?_
            · (have k := nG.chg hw' (by simp); obtain ⟨ws2, e2, s2, l2⟩ := k.work; rw [show wv (newP h i p).wk = wv ((p.wk + hdW h) % TOP) from rfl, eus.out] at e2; cases e2; go_simp)
            try simp only [Act.put, Sa, Sb, Sc, Sd, Se, Sf]
            refine TK 4 (.pointer (some ⟨xb, 0, none⟩)) rfl hH81 (fun w' hw' => ?_) ?_
            · go_simp
            try simp only [Act.put, Sa, Sb, Sc, Sd, Se, Sf]
            refine RD 5 rfl (fun K hK => ?_)
            try rw [if_pos (by rfl)]
            go_simp
            go_at_call 41
            refine (hbest _ hH81).mono ?_
            rintro e82 w82 ⟨rfl, hc82⟩
            dsimp only
            have hH82 := hH81.trans hc82 (by simp)
            refine hK.out _ _ hH82 (fun _ => ?_)
            try simp only [Act.put, Sa, Sb, Sc, Sd, Se, Sf]
            refine TK 6 (.pointer (some ⟨gl, 0, none⟩)) rfl hH82 (fun w' hw' => ?_) ?_
            · go_simp
            try simp only [Act.put, Sa, Sb, Sc, Sd, Se, Sf]
            refine TK 7 (.pointer (some ⟨gl, 102, none⟩)) rfl hH82 (fun w' hw' => ?_) ?_
            · go_simp
            try simp only [Act.put, Sa, Sb, Sc, Sd, Se, Sf]
            refine TK 8 (.agg vs) rfl hH82 (fun w' hw' => ?_) ?_
            · (have k := nL.chg hw' (by simp); obtain ⟨ws2, e2, s2, l2⟩ := k.work; rw [evs.out] at e2; cases e2; go_simp)
            try simp only [Act.put, Sa, Sb, Sc, Sd, Se, Sf]
            refine RD 9 rfl (fun K hK => ?_)
            try rw [if_pos (by rfl)]
            go_simp
            go_at_call 17
            refine (hcmp _).mono ?_
            rintro e83 w83 ⟨rfl, hc83⟩
            dsimp only
            have hH83 := hH82.trans hc83 (by simp)
            refine hK.out _ _ hH83 (fun _ => ?_)
            try simp only [Act.put, Sa, Sb, Sc, Sd, Se, Sf]
            refine TK 10 (.bool (decide (0 < cm))) rfl hH83 (fun w' hw' => ?_) ?_
            · go_simp
            try simp only [Act.put, Sa, Sb, Sc, Sd, Se, Sf]
            refine wpAnyH_done (by kernel_rfl) ?_ _
            go_wp2_with fail
            go_meet
            exact ⟨rfl, hH83⟩
          case rest =>
            obtain ⟨rfl, k9⟩ := hcut
            rw [hcmd'.out]
            have hT9 := hT8.chg ok1 k9
            have k49 := k48.trans k9 (by simp)
            have hgw : w.heap.size ≤ gn := by have := k01s; omega
            clear hbest hcmp nG nL k48 k9 hT8
            generalize wc = w9 at *
            by_cases hlt : T.wkL < (newP h i p).wk
            · have hd : decide (T.wkL < (newP h i p).wk) = true := by simpa using hlt
              rw [hd]
              have htu := hturn hlt gn w9 hT9
              rw [← hxb'.out] at htu
              clear hturn hno
              go_wp2_with fail
              refine htu.mono ?_
              rintro e w10 ⟨rfl, k10, c2, hT10, hc2⟩
              dsimp only
              go_wp2
              go_ret
              refine ⟨rfl, k49.trans k10 (fun t ht => ?_), gn, c2, by rw [← hxb'.out]; exact hT10, hgw, ?_⟩
              · simp only [Lt.grow, Lt.all, List.mem_cons, List.mem_append, List.not_mem_nil, or_false] at ht ⊢
                rcases ht with h | h | h | h | h
                · exact .inl (.inl h)
                · exact .inl (.inr (.inl h))
                · exact .inl (.inr (.inr (.inl h)))
                · exact .inl (.inr (.inr (.inr h)))
                · exact .inr (by omega)
              · rcases hc2 with h | h
                · exact .inl h
                · exact .inr (by have := k49.size; omega)
            · have hd : decide (T.wkL < (newP h i p).wk) = false := by simpa using hlt
              rw [hd]
              have h2 := hno hlt
              clear hturn hno
              go_wp2
              go_ret
              exact ⟨rfl, k49, gn, x.c, by rw [h2]; exact hT9, hgw, .inl rfl⟩
end Go.Proofs.YtmkgbinmilcojaaGreat



/- Package tree: turn, by one block. Printed by turngen2.py. -/
namespace Go.Proofs.YtmkgbinmilcojaaGreat
open Go.RowKit Go.Maps
attribute [-go_sem] loadCellsFrom Instr.build

theorem info_partsN {t : TypeId} {z : Value} {n b : Nat} (h : (Tryz.prog.info? t).map (fun i => (i.zero, i.size, i.bytes)) = some (some z, n, b)) : ∃ i, Tryz.prog.info? t = some i ∧ i.zero = some z ∧ i.size = n ∧ i.bytes = b := info_partsB h
theorem infoNP : (Tryz.prog.info? 84).map (fun i => (i.zero, i.size, i.bytes)) = some (some (.pointer none), 1, 8) := by kernel_rfl
theorem infoNd : (Tryz.prog.info? 86).map (·.size) = some 107 := by kernel_rfl
theorem np_same (a : Addr) (w : World) : (binOp BinOp.neq 84 (.pointer (some a)) (.pointer (some a))).run Tryz.prog w = .ok (.bool false) w := by
  cases hq : Tryz.prog.info? 86 with
  | none => have := infoNd; simp [hq] at this
  | some j =>
    have h : ∀ d : Nat, (Op.equalIn (d + 1) 84 (.pointer (some a)) (.pointer (some a))).run Tryz.prog w = .ok true w := fun d => by
      simp [Op.equalIn, run_underlying Tryz.underlying84, sizeOf, typeInfo, hq, run_sameAddr_same]
    simp only [binOp]
    simp [Op.equal, Op.maxDepth, h 9999]
theorem np_other {g k : Nat} {w : World} {c c' : Array Value} {t u : TypeId} (hne : g ≠ k) (hg : Blk w g c t) (hk : Blk w k c' u) : (binOp BinOp.neq 84 (.pointer (some ⟨g, 0, none⟩)) (.pointer (some ⟨k, 0, none⟩))).run Tryz.prog w = .ok (.bool true) w := by
  cases hq : Tryz.prog.info? 86 with
  | none => have := infoNd; simp [hq] at this
  | some j =>
    have hj : j.size ≠ 0 := by have := infoNd; simp [hq] at this; omega
    have h : ∀ d : Nat, (Op.equalIn (d + 1) 84 (.pointer (some ⟨g, 0, none⟩)) (.pointer (some ⟨k, 0, none⟩))).run Tryz.prog w = .ok false w := fun d => by
      simp [Op.equalIn, run_underlying Tryz.underlying84, sizeOf, typeInfo, hq, hj, run_sameAddr_other (a := ⟨g, 0, none⟩) (b := ⟨k, 0, none⟩) w (fun e => hne (congrArg Addr.block e)) (show w.heap[g]? = some (.cells c t (0, 0)) from hg) (show w.heap[k]? = some (.cells c' u (0, 0)) from hk)]
    simp only [binOp]
    simp [Op.equal, Op.maxDepth, h 9999]
/-- the chain's row. -/
structure RowC (W : World) (c n cap : Nat) (xs : List Value) : Prop where
  r : W.ownsRow 0 84 1 (.slice (some ⟨c, 0, none⟩) n cap) n xs
theorem RowC.alloc {W : World} {c n cap : Nat} {xs : List Value} (h : RowC W c n cap xs) (o : Obj) : RowC (W.alloc o) c n cap xs := ⟨h.r.alloc o⟩
theorem RowC.chg {W W' : World} {c n cap : Nat} {xs : List Value} {S : List Nat} (h : RowC W c n cap xs) (k : Chg S W W') (hc : c ∉ S) : RowC W' c n cap xs := ⟨(row_chg h.r k hc).1⟩
theorem RowC.lt {W : World} {c n cap : Nat} {xs : List Value} (h : RowC W c n cap xs) : c < W.heap.size := row_lt h.r rfl
section
variable {w : World} {o : Oper} {a : Act} {K : Act → World → Prop} {Q : Exit → Act → World → Prop}
theorem op_app (s x : Operand) (ho : o.op = .call { callee := .builtin .append, args := #[s, x], argTypes := #[89, 89] }) {c n cap : Nat} {xs : List Value} (hC : RowC w c n cap xs) (hs : a.eval s = .slice (some ⟨c, 0, none⟩) n cap) {g : Nat} {v : Value} (hB : Blk w g #[v] 84) (hx : a.eval x = .slice (some ⟨g, 0, none⟩) 1 1) (hv1 : v.oneCell' = true) (hn : n ≤ 100000)
    (h : ∀ c2 cap2 w2, RowC w2 c2 (n + 1) cap2 (xs ++ [v]) → Chg [c] w w2 → (c2 = c ∨ w.heap.size ≤ c2) → K (a.put o.dst (.slice (some ⟨c2, 0, none⟩) (n + 1) cap2)) w2) : o.wp Tryz.prog a w K Q := by
  obtain ⟨i0, hi, hz0, hz1, hz2⟩ := info_partsN infoNP
  obtain ⟨v', w', hr, h2, h3, h4, h5⟩ := run_append_own_at (P := Tryz.prog) w 0 89 o.type 84 i0 (.pointer none) 1 8 Tryz.underlying89 hi hz0 hz1 hz2 rfl (by decide) (.slice (some ⟨c, 0, none⟩) n cap) n xs hC.r ⟨g, 0, none⟩ 1 1 [v] rfl (fun j u hj => by
    match j, hj with
    | 0, hj => exact hB.cell 0 (by simpa using hj)
    | k + 1, hj => simp at hj) (by simpa using hv1) (by unfold maxLen; omega) (by omega) (by omega)
  obtain ⟨c2, cap2, rfl⟩ := ownsRow_succ h2
  unfold Oper.wp execOp
  simp only [ho, resolve, invoke, builtin, Sem.run_bind, Sem.run_pure, Result.andThen_ok, List.map_toArray, List.map_cons, List.map_nil, hs, hx, hr]
  refine h c2 cap2 w' ⟨h2⟩ ((Chg.refl [c] w).grown h3 (fun k e => .inl (by simp [Value.ownBlock] at e; simp [e]))) ?_
  rcases h5 with h5 | h5
  · exact .inl (by simpa [Value.ownBlock] using h5)
  · exact .inr (by simp [Value.ownBlock] at h5; omega)
end
theorem t_set73 {l : List Value} (h : l.length = 72) (a b c v : Value) : (l ++ [a, b, c]).toArray.setIfInBounds 73 v = (l ++ [a, v, c]).toArray := by
  apply Array.ext'
  simp only [Array.toList_setIfInBounds]
  rw [List.set_append_right _ _ (by omega), h]
  rfl
end Go.Proofs.YtmkgbinmilcojaaGreat

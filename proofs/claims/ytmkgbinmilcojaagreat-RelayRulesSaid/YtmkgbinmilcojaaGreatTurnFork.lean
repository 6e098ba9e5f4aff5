import Derived.Test.YtmkgbinmilcojaaGreatTreeAdd
import Derived.LaidEqlPtr

/- Package tree: turn, by one block. Printed by turngen2.py. -/
namespace Go.Proofs.YtmkgbinmilcojaaGreat
open Go.RowKit Go.Maps
attribute [-go_sem] loadCellsFrom Instr.build

theorem info_partsN {t : TypeId} {z : Value} {n b : Nat} (h : (Tryz.prog.info? t).map (fun i => (i.zero, i.size, i.bytes)) = some (some z, n, b)) : ∃ i, Tryz.prog.info? t = some i ∧ i.zero = some z ∧ i.size = n ∧ i.bytes = b := info_partsB h
theorem infoNP : (Tryz.prog.info? 84).map (fun i => (i.zero, i.size, i.bytes)) = some (some (.pointer none), 1, 8) := by kernel_rfl
theorem infoNd : (Tryz.prog.info? 86).map (·.size) = some 107 := by kernel_rfl
theorem np_same (a : Addr) (w : World) : (binOp BinOp.neq 84 (.pointer (some a)) (.pointer (some a))).run Tryz.prog w = .ok (.bool false) w := by
  cases hq : Tryz.prog.info? 86 with
  | none => have := infoNd; simp [hq] at this
  | some j =>
    have h : ∀ d : Nat, (Op.equalIn (d + 1) 84 (.pointer (some a)) (.pointer (some a))).run Tryz.prog w = .ok true w := fun d => by
      simp [Op.equalIn, run_underlying Tryz.underlying84, sizeOf, typeInfo, hq, run_sameAddr_same]
    simp only [binOp]
    simp [Op.equal, Op.maxDepth, h 9999]
theorem np_other {g k : Nat} {w : World} {c c' : Array Value} {t u : TypeId} (hne : g ≠ k) (hg : Blk w g c t) (hk : Blk w k c' u) : (binOp BinOp.neq 84 (.pointer (some ⟨g, 0, none⟩)) (.pointer (some ⟨k, 0, none⟩))).run Tryz.prog w = .ok (.bool true) w := by
  cases hq : Tryz.prog.info? 86 with
  | none => have := infoNd; simp [hq] at this
  | some j =>
    have hj : j.size ≠ 0 := by have := infoNd; simp [hq] at this; omega
    have h : ∀ d : Nat, (Op.equalIn (d + 1) 84 (.pointer (some ⟨g, 0, none⟩)) (.pointer (some ⟨k, 0, none⟩))).run Tryz.prog w = .ok false w := fun d => by
      simp [Op.equalIn, run_underlying Tryz.underlying84, sizeOf, typeInfo, hq, hj, run_sameAddr_other (a := ⟨g, 0, none⟩) (b := ⟨k, 0, none⟩) w (fun e => hne (congrArg Addr.block e)) (show w.heap[g]? = some (.cells c t (0, 0)) from hg) (show w.heap[k]? = some (.cells c' u (0, 0)) from hk)]
    simp only [binOp]
    simp [Op.equal, Op.maxDepth, h 9999]
/-- the chain's row. -/
structure RowC (W : World) (c n cap : Nat) (xs : List Value) : Prop where
  r : W.ownsRow 0 84 1 (.slice (some ⟨c, 0, none⟩) n cap) n xs
theorem RowC.alloc {W : World} {c n cap : Nat} {xs : List Value} (h : RowC W c n cap xs) (o : Obj) : RowC (W.alloc o) c n cap xs := ⟨h.r.alloc o⟩
theorem RowC.chg {W W' : World} {c n cap : Nat} {xs : List Value} {S : List Nat} (h : RowC W c n cap xs) (k : Chg S W W') (hc : c ∉ S) : RowC W' c n cap xs := ⟨(row_chg h.r k hc).1⟩
theorem RowC.lt {W : World} {c n cap : Nat} {xs : List Value} (h : RowC W c n cap xs) : c < W.heap.size := row_lt h.r rfl
section
variable {w : World} {o : Oper} {a : Act} {K : Act → World → Prop} {Q : Exit → Act → World → Prop}
theorem op_app (s x : Operand) (ho : o.op = .call { callee := .builtin .append, args := #[s, x], argTypes := #[89, 89] }) {c n cap : Nat} {xs : List Value} (hC : RowC w c n cap xs) (hs : a.eval s = .slice (some ⟨c, 0, none⟩) n cap) {g : Nat} {v : Value} (hB : Blk w g #[v] 84) (hx : a.eval x = .slice (some ⟨g, 0, none⟩) 1 1) (hv1 : v.oneCell' = true) (hn : n ≤ 100000)
    (h : ∀ c2 cap2 w2, RowC w2 c2 (n + 1) cap2 (xs ++ [v]) → Chg [c] w w2 → (c2 = c ∨ w.heap.size ≤ c2) → K (a.put o.dst (.slice (some ⟨c2, 0, none⟩) (n + 1) cap2)) w2) : o.wp Tryz.prog a w K Q := by
  obtain ⟨i0, hi, hz0, hz1, hz2⟩ := info_partsN infoNP
  obtain ⟨v', w', hr, h2, h3, h4, h5⟩ := run_append_own_at (P := Tryz.prog) w 0 89 o.type 84 i0 (.pointer none) 1 8 Tryz.underlying89 hi hz0 hz1 hz2 rfl (by decide) (.slice (some ⟨c, 0, none⟩) n cap) n xs hC.r ⟨g, 0, none⟩ 1 1 [v] rfl (fun j u hj => by
    match j, hj with
    | 0, hj => exact hB.cell 0 (by simpa using hj)
    | k + 1, hj => simp at hj) (by simpa using hv1) (by unfold maxLen; omega) (by omega) (by omega)
  obtain ⟨c2, cap2, rfl⟩ := ownsRow_succ h2
  unfold Oper.wp execOp
  simp only [ho, resolve, invoke, builtin, Sem.run_bind, Sem.run_pure, Result.andThen_ok, List.map_toArray, List.map_cons, List.map_nil, hs, hx, hr]
  refine h c2 cap2 w' ⟨h2⟩ ((Chg.refl [c] w).grown h3 (fun k e => .inl (by simp [Value.ownBlock] at e; simp [e]))) ?_
  rcases h5 with h5 | h5
  · exact .inl (by simpa [Value.ownBlock] using h5)
  · exact .inr (by simp [Value.ownBlock] at h5; omega)
end
theorem t_set73 {l : List Value} (h : l.length = 72) (a b c v : Value) : (l ++ [a, b, c]).toArray.setIfInBounds 73 v = (l ++ [a, v, c]).toArray := by
  apply Array.ext'
  simp only [Array.toList_setIfInBounds]
  rw [List.set_append_right _ _ (by omega), h]
  rfl
set_option maxRecDepth 100000 in
set_option maxHeartbeats 8000000 in
theorem tree_turn1 (x : Lt) (T : Tr) (ok : TrOk T) (n : Nat) (p : Pn) (hp : T.ns[n]? = some p) (hht : p.ht = T.ch.length) (hah : p.ah = some T.last) (hml : T.ch.length < 4096) (w : World) (hT : TreeAt w x T) :
    Calls Tryz.prog 44 #[.pointer (some ⟨x.b, 0, none⟩), .pointer (adrB x.bl n)] w fun e w' => e = .returned (.tuple #[]) ∧ Chg [x.b, x.c] w w' ∧ ∃ c, TreeAt w' ⟨x.b, x.m, c, x.bl⟩ { T with ch := T.ch ++ [n] } ∧ (c = x.c ∨ w.heap.size ≤ c) := by
  obtain ⟨i0, hi, hz0, hz1, hz2⟩ := info_partsN infoNP
  obtain ⟨q, hq, hqh⟩ := ok.best
  obtain ⟨k, hk⟩ : ∃ k, T.ch.length = k + 1 := ⟨T.ch.length - 1, by have := ok.ch0; omega⟩
  rw [hk] at hht hqh hml
  rw [show k + 1 - 1 = k by omega] at hqh
  have nN := hT.node ok hp
  have nL := hT.node ok hq
  rw [hah] at nN
  simp only [Option.bind_some] at nN
  obtain ⟨cap, bT, hC⟩ := hT.tb
  have hlastc := (hT.slice ok)
  have hlast : w.cell? ⟨x.c, k, none⟩ = some (.pointer (adrB x.bl T.last)) := by
    have hcs := World.ownsRow.cells hC (g := x.c) rfl k (.pointer (adrB x.bl T.last)) (by have := Tr.last_get ok; rw [hk, show k + 1 - 1 = k by omega] at this; simp [this])
    rwa [show (⟨x.c, 0, none⟩ : Addr).add k = ⟨x.c, k, none⟩ by unfold Addr.add; split <;> simp_all] at hcs
  have hkc : k + 1 ≤ cap := by
    rcases hC.2 with ⟨e, _⟩ | ⟨g, c', cur, e, _, _, hle, _⟩
    · cases e
    · cases e; omega
  clear hlastc
  have hxl : x.c < w.heap.size := by
    rcases hC.2 with ⟨e, _⟩ | ⟨g, c', cur, e, _, hg, _⟩
    · cases e
    · cases e; exact (Array.getElem?_eq_some_iff.1 hg).1
  rw [hk] at bT hC
  obtain ⟨gn, hgn⟩ : ∃ gn, gn = x.bl.getD n 0 := ⟨_, rfl⟩
  obtain ⟨gl, hgl⟩ : ∃ gl, gl = x.bl.getD T.last 0 := ⟨_, rfl⟩
  have an : adrB x.bl n = some ⟨gn, 0, none⟩ := by rw [hgn]; rfl
  have al : adrB x.bl T.last = some ⟨gl, 0, none⟩ := by rw [hgl]; rfl
  rw [al] at nN hlast
  rw [← hgn] at nN
  rw [← hgl] at nL
  rw [an]
  have t73 := (t_cell (Rl.len ok.r) (.map (some x.m)) (.slice (some ⟨x.c, 0, none⟩) (k + 1) cap) (.int .i64 (T.tips : Int))).2.1
  have hgl' := Lib.hid hgl
  have hgn' := Lib.hid hgn
  have hht' := Lib.hid hht
  have hql := Lib.hid hqh
  have hk' := Lib.hid hk
  have han := Lib.hid an
  clear hgl hgn hht hqh hk an al hq hah
  obtain ⟨xb, hxb⟩ : ∃ xb, xb = x.b := ⟨_, rfl⟩
  obtain ⟨xc, hxc⟩ : ∃ xc, xc = x.c := ⟨_, rfl⟩
  rw [← hxb] at bT ⊢
  rw [← hxc] at bT hC hlast t73 hxl ⊢
  have hxb' := Lib.hid hxb
  have hxc' := Lib.hid hxc
  clear hxb hxc
  go_enter Tryz.func44, Tryz.ntmps44
  go_wp2_with fail
  go_loopw [1, 4] (fun s1 s4 wr => Chg [] w wr ∧ ((s1 = .pointer (some ⟨gn, 0, none⟩) ∧ s4 = .slice none 0 0) ∨ (s1 = .pointer (some ⟨gl, 0, none⟩) ∧ ∃ gb capb, s4 = .slice (some ⟨gb, 0, none⟩) 1 capb ∧ wr.ownsRow w.heap.size 84 1 (.slice (some ⟨gb, 0, none⟩) 1 capb) 1 [.pointer (some ⟨gn, 0, none⟩)]))) (fun _ s4 _ => 2 - (match s4 with | .slice _ n _ => n | _ => 0))
  case atStart => exact ⟨Chg.refl _ _, .inl ⟨rfl, rfl⟩⟩
  case round =>
    obtain ⟨kr, h⟩ := hrel
    have bTr := bT.chg kr (by simp)
    have c73 := bTr.cell 73 t73
    have hws := kr.size
    rcases h with ⟨rfl, rfl⟩ | ⟨rfl, gb, capb, rfl, hrow⟩
    · have hh := (nN.chg kr (by simp)).height
      have ha := (nN.chg kr (by simp)).ahead
      rw [hht'.out] at hh
      have nN' := nN
      clear nN
      go_wp2
      go_quiet (fail)
      have kq := kr.drewN nq
      clear bTr c73 kr hh ha
      have hws : w.heap.size ≤ (wr.drewN nq).heap.size := hws
      generalize wr.drewN nq = wq at *
      have ha := (nN'.chg kq (by simp)).ahead
      have hone : ∀ (b : Value) (j : Nat) u, [b][j]? = some u → (wq.alloc (.cells #[b] 84)).cell? ((⟨wq.heap.size, 0, none⟩ : Addr).add j) = some u := fun b j u hj => by
        match j, hj with
        | 0, hj => exact (Blk.new wq #[b] 84).cell 0 (by simpa using hj)
        | k + 1, hj => simp at hj
      go_wp2_with (at_builtin; go_loud (refine wpList_append_own_at _ rfl _ _ 89 rfl w.heap.size 84 i0 (.pointer none) 1 8 Tryz.underlying89 hi hz0 hz1 hz2 rfl (by decide) (.slice none 0 0) 0 [] rfl (World.ownsRow_nil _ _ _ _) ⟨wq.heap.size, 0, none⟩ 1 1 [.pointer (some ⟨gn, 0, none⟩)] rfl rfl (hone _) (by simp [Value.oneCell']) (by unfold maxLen; omega) (by omega) (by simp; omega) ?_); intro v2 w2 hv2 hg2 hn2 hl2; obtain ⟨g2, cap2, rfl⟩ := ownsRow_succ hv2; have k2 := (kq.alloc (.cells #[.pointer (some ⟨gn, 0, none⟩)] 84)).grown hg2 (fun k e => by simp [Value.ownBlock] at e); have ha2 := (nN'.chg k2 (by simp)).ahead)
      go_roundw
      case rel => exact ⟨k2, .inr ⟨rfl, g2, cap2, rfl, by simpa using hv2⟩⟩
      case measure => simp
    · have hh := (nL.chg kr (by simp)).height
      rw [hql.out] at hh
      have hlr : wr.cell? ⟨xc, k, none⟩ = some (.pointer (some ⟨gl, 0, none⟩)) := by
        rw [World.cell?_of_block (w := w) (kr.block xc hxl (by simp))]; exact hlast
      have hd1 : decide (((k : Int) + 1) ≤ k) = false := by simp; omega
      have hself := np_same ⟨gl, 0, none⟩
      have y1 : (k : Int) < (k : Int) + 1 := by omega
      have y2 : (0 : Int) ≤ (k : Int) := by omega
      have y3 : IntKind.i64.wrap (k : Int) = k := by rw [IntKind.wrap_i64]; omega
      have hrb : w.heap.size ≤ gb := row_low hrow rfl
      have hrl : gb < wr.heap.size := row_lt hrow rfl
      have hbc0 : wr.cell? ⟨gb, 0, none⟩ = some (.pointer (some ⟨gn, 0, none⟩)) := by
        have := World.ownsRow.cells hrow (g := gb) rfl 0 (.pointer (some ⟨gn, 0, none⟩)) rfl
        rwa [show (⟨gb, 0, none⟩ : Addr).add 0 = ⟨gb, 0, none⟩ by unfold Addr.add; split <;> simp_all] at this
      have hCr := (row_chg hC kr (by simp)).1
      go_wp2
      go_quiet (fail)
      have k2 := kr.drewN nq
      have bT := bTr.drewN nq
      have nL := (nL.chg kr (by simp)).chg (S := []) ((Chg.refl _ _).drewN nq) (by simp)
      have hC : (wr.drewN nq).ownsRow 0 84 1 (.slice (some ⟨xc, 0, none⟩) (k + 1) cap) (k + 1) (T.ch.map fun i => Value.pointer (adrB x.bl i)) := hCr
      have hbc1 : (wr.drewN nq).cell? ⟨gb, 0, none⟩ = some (.pointer (some ⟨gn, 0, none⟩)) := hbc0
      have hrl2 : gb < (wr.drewN nq).heap.size := hrl
      have hrl3 := hrl
      clear hself y1 y2 y3 hh hlr hd1 hCr hbc0 bTr kr c73 hrow hrl hrl3
      generalize wr.drewN nq = w2 at *
      have hws2 := k2.size
      have hbX := hT.mp
      have hxbl : xb < w.heap.size := by rw [hxb'.out]; obtain ⟨_, hb, _⟩ := hT.tb; exact hb.lt
      have hlb : gl ≠ xb := fun e => absurd (Blk.same (e ▸ nL.blk) bT) (by decide)
      have hbc : xb ≠ xc := fun e => row_ne hC bT (by decide) e.symm
      have hgbx : gb ≠ xb := by omega
      have hgbc : gb ≠ xc := by omega
      have hwk1 : IntKind.i64.wrap ((k : Int) + 1) = (k : Int) + 1 := by rw [IntKind.wrap_i64]; omega
      have y4 : ((k : Int) + 1).toNat = k + 1 := by omega
      have y5 : (0 : Int) ≤ (k : Int) + 1 := by omega
      have y6 : (k : Int) + 1 ≤ (cap : Int) := by omega
      go_upto_region 4 with fail
      go_cut [50] (fun _ wx => Blk wx xb (T.r.l ++ [Value.map (some x.m), Value.slice (some ⟨xc, 0, none⟩) (k + 1) cap, Value.int .i64 (T.tips : Int)]).toArray 91 ∧ Chg [xb] w2 wx)
      case first =>
        refine wp_region_held_drew (S := fun w' => Chg [xb] w2 w') (by kernel_rfl) ((Chg.refl _ _).drew) (fun hH => ?_)
        have kdT0 := bT.chg ((Chg.refl [] _).drew) (by simp)
        refine wpAnyH_take (i := 0) (v := .pointer (some ⟨xb, 0, none⟩)) rfl (by kernel_rfl) (by kernel_rfl) (by kernel_rfl) (fun _ _ _ h => h) (.inl ⟨by rfl, fun w' hw' => ?_⟩) hH ?_
        · go_simp
        try simp only [Act.put, List.setIfInBounds_toArray, List.set_cons_zero, List.set_cons_succ, List.getElem_toArray, List.getElem_cons_succ, List.getElem_cons_zero]
        refine wpAnyH_take (i := 1) (v := .pointer (some ⟨xb, 0, none⟩)) rfl (by kernel_rfl) (by kernel_rfl) (by kernel_rfl) (fun _ _ _ h => h) (.inl ⟨by rfl, fun w' hw' => ?_⟩) hH ?_
        · go_simp
        try simp only [Act.put, List.setIfInBounds_toArray, List.set_cons_zero, List.set_cons_succ, List.getElem_toArray, List.getElem_cons_succ, List.getElem_cons_zero]
        refine wpAnyH_take (i := 2) (v := .pointer (some ⟨xb, 0, none⟩)) rfl (by kernel_rfl) (by kernel_rfl) (by kernel_rfl) (fun _ _ _ h => h) (.inl ⟨by rfl, fun w' hw' => ?_⟩) hH ?_
        · go_simp
        try simp only [Act.put, List.setIfInBounds_toArray, List.set_cons_zero, List.set_cons_succ, List.getElem_toArray, List.getElem_cons_succ, List.getElem_cons_zero]
        refine wpAnyH_take (i := 3) (v := .pointer (some ⟨xb, 73, none⟩)) rfl (by kernel_rfl) (by kernel_rfl) (by kernel_rfl) (fun _ _ _ h => h) (.inl ⟨by rfl, fun w' hw' => ?_⟩) hH ?_
        · go_simp
        try simp only [Act.put, List.setIfInBounds_toArray, List.set_cons_zero, List.set_cons_succ, List.getElem_toArray, List.getElem_cons_succ, List.getElem_cons_zero]
        refine wpAnyH_take (i := 5) (v := .pointer (some ⟨gl, 0, none⟩)) rfl (by kernel_rfl) (by kernel_rfl) (by kernel_rfl) (fun _ _ _ h => h) (.inl ⟨by rfl, fun w' hw' => ?_⟩) hH ?_
        · go_simp
        try simp only [Act.put, List.setIfInBounds_toArray, List.set_cons_zero, List.set_cons_succ, List.getElem_toArray, List.getElem_cons_succ, List.getElem_cons_zero]
        refine wpAnyH_take (i := 6) (v := .pointer (some ⟨gl, 0, none⟩)) rfl (by kernel_rfl) (by kernel_rfl) (by kernel_rfl) (fun _ _ _ h => h) (.inl ⟨by rfl, fun w' hw' => ?_⟩) hH ?_
        · go_simp
        try simp only [Act.put, List.setIfInBounds_toArray, List.set_cons_zero, List.set_cons_succ, List.getElem_toArray, List.getElem_cons_succ, List.getElem_cons_zero]
        refine wpAnyH_take (i := 7) (v := .pointer (some ⟨gl, 101, none⟩)) rfl (by kernel_rfl) (by kernel_rfl) (by kernel_rfl) (fun _ _ _ h => h) (.inl ⟨by rfl, fun w' hw' => ?_⟩) hH ?_
        · go_simp
        try simp only [Act.put, List.setIfInBounds_toArray, List.set_cons_zero, List.set_cons_succ, List.getElem_toArray, List.getElem_cons_succ, List.getElem_cons_zero]
        refine wpAnyH_take (i := 8) (v := .int .i64 (k : Int)) rfl (by kernel_rfl) (by kernel_rfl) (by kernel_rfl) (fun _ _ _ h => h) (.inl ⟨by rfl, fun w' hw' => ?_⟩) hH ?_
        · (have k9 := nL.chg hw' (by simpa using hlb); have c0 := k9.height; rw [hql.out] at c0; go_simp)
        try simp only [Act.put, List.setIfInBounds_toArray, List.set_cons_zero, List.set_cons_succ, List.getElem_toArray, List.getElem_cons_succ, List.getElem_cons_zero]
        refine wpAnyH_take (i := 9) (v := .int .i64 ((k : Int) + 1)) rfl (by kernel_rfl) (by kernel_rfl) (by kernel_rfl) (fun _ _ _ h => h) (.inl ⟨by rfl, fun w' hw' => ?_⟩) hH ?_
        · go_simp
        try simp only [Act.put, List.setIfInBounds_toArray, List.set_cons_zero, List.set_cons_succ, List.getElem_toArray, List.getElem_cons_succ, List.getElem_cons_zero]
        refine wpAnyH_ready (rs := [4]) (by kernel_rfl) (by simp) (AllReadyH.cons rfl (fun K hK => ?_) AllReadyH.nil)
        have c1 := kdT0.cell 73 t73
        go_simp
        refine hK.out _ _ hH (fun _ => ?_)
        try simp only [Act.put, List.setIfInBounds_toArray, List.set_cons_zero, List.set_cons_succ, List.getElem_toArray, List.getElem_cons_succ, List.getElem_cons_zero]
        refine wpAnyH_take (i := 10) (v := .slice (some ⟨xc, 0, none⟩) (k + 1) cap) rfl (by kernel_rfl) (by kernel_rfl) (by kernel_rfl) (fun _ _ _ h => h) (.inl ⟨by rfl, fun w' hw' => ?_⟩) hH ?_
        · go_simp
        try simp only [Act.put, List.setIfInBounds_toArray, List.set_cons_zero, List.set_cons_succ, List.getElem_toArray, List.getElem_cons_succ, List.getElem_cons_zero]
        refine wpAnyH_take (i := 11) (v := .pointer (some ⟨xb, 0, none⟩)) rfl (by kernel_rfl) (by kernel_rfl) (by kernel_rfl) (fun _ _ _ h => h) (.inl ⟨by rfl, fun w' hw' => ?_⟩) hH ?_
        · go_simp
        try simp only [Act.put, List.setIfInBounds_toArray, List.set_cons_zero, List.set_cons_succ, List.getElem_toArray, List.getElem_cons_succ, List.getElem_cons_zero]
        refine wpAnyH_take (i := 12) (v := .pointer (some ⟨xb, 73, none⟩)) rfl (by kernel_rfl) (by kernel_rfl) (by kernel_rfl) (fun _ _ _ h => h) (.inl ⟨by rfl, fun w' hw' => ?_⟩) hH ?_
        · go_simp
        try simp only [Act.put, List.setIfInBounds_toArray, List.set_cons_zero, List.set_cons_succ, List.getElem_toArray, List.getElem_cons_succ, List.getElem_cons_zero]
        refine wpAnyH_ready (rs := [13]) (by kernel_rfl) (by simp) (AllReadyH.cons rfl (fun K hK => ?_) AllReadyH.nil)
        have c2 := kdT0.cell 73 t73
        have f2 := kdT0.free 73
        have kbT2 := kdT0.set 73 (.slice (some ⟨xc, 0, none⟩) (k + 1) cap)
        rw [t_set73 (Rl.len ok.r)] at kbT2
        go_simp
        have hH2 := hH.setCell (p := ⟨xb, 73, none⟩) (.inl (by simp)) (.slice (some ⟨xc, 0, none⟩) (k + 1) cap)
        refine hK.out _ _ hH2 (fun _ => ?_)
        try simp only [Act.put, List.setIfInBounds_toArray, List.set_cons_zero, List.set_cons_succ, List.getElem_toArray, List.getElem_cons_succ, List.getElem_cons_zero]
        refine wpAnyH_done (by kernel_rfl) ?_ _
        go_wp2_with fail
        go_meet
        exact ⟨kbT2, hH2⟩
      case rest =>
        obtain ⟨bT3, k3⟩ := hcut
        have hC3 := (row_chg hC k3 (by simpa using fun e => hbc e.symm)).1
        have hbc3 : wc.cell? ⟨gb, 0, none⟩ = some (.pointer (some ⟨gn, 0, none⟩)) := by
          rw [World.cell?_of_block (w := w2) (k3.block gb hrl2 (by simpa using hgbx))]; exact hbc1
        have hs23 := k3.size
        clear nL hbc1 bT y4 y5 y6 hwk1 hC
        generalize wc = w4 at *
        go_wp2_with fail
        go_loopw [5] (fun s5 wr => (s5 = .int .i64 0 ∧ Chg [xb, xc] w2 wr ∧ Blk wr xb (T.r.l ++ [Value.map (some x.m), Value.slice (some ⟨xc, 0, none⟩) (k + 1) cap, Value.int .i64 (T.tips : Int)]).toArray 91 ∧ RowC wr xc (k + 1) cap (T.ch.map fun i => Value.pointer (adrB x.bl i)) ∧ wr.cell? ⟨gb, 0, none⟩ = some (.pointer (some ⟨gn, 0, none⟩))) ∨
          (s5 = .int .i64 (-1) ∧ ∃ c2 cap2, Blk wr xb (T.r.l ++ [Value.map (some x.m), Value.slice (some ⟨c2, 0, none⟩) (k + 1 + 1) cap2, Value.int .i64 (T.tips : Int)]).toArray 91 ∧ RowC wr c2 (k + 1 + 1) cap2 ((T.ch.map fun i => Value.pointer (adrB x.bl i)) ++ [.pointer (some ⟨gn, 0, none⟩)]) ∧ Chg [xb, xc] w2 wr ∧ (c2 = xc ∨ w2.heap.size ≤ c2))) (fun s5 _ => (intOf s5 + 1).toNat)
        case atStart => exact .inl ⟨rfl, k3.mono (by simp), bT3, ⟨hC3⟩, hbc3⟩
        case round =>
          rcases hrel with ⟨rfl, kr2, bT, hC, hbc1⟩ | ⟨rfl, c2, cap2, bT, hC, kr2, hcc⟩
          · have hsz2 := kr2.size
            have hgbl : gb < wr.heap.size := by omega
            have hbB0 : ∀ w', Chg [xb, xc] wr w' → w'.cell? ⟨gb, 0, none⟩ = some (.pointer (some ⟨gn, 0, none⟩)) := fun w' kk => by
              rw [World.cell?_of_block (w := wr) (kk.block gb hgbl (by simp [hgbx, hgbc]))]; exact hbc1
            have hbB := hbB0
            have hcbx : ∀ {c N : Nat}, (c = xc ∨ N ≤ c) → xb < N → c ∉ [xb] := fun h hN => by
              simp only [List.mem_singleton]
              intro e
              rcases h with h | h
              · exact hbc (e ▸ h ▸ rfl)
              · omega
            go_upto_region 8 with fail
            clear hbB0 hbc3 hC3 bT3
            have hxw3 : xb < wr.heap.size := by omega
            generalize wr = w3 at *
            refine wp_region_held_drew (S := fun w' => Chg [xb, xc] w3 w') (by kernel_rfl) ((Chg.refl _ _).drew) (fun hH31 => ?_)
            have kdT31 := bT.chg ((Chg.refl [] _).drew) (by simp)
            have kdC31 := hC.chg ((Chg.refl [] _).drew) (by simp)
            obtain ⟨wd31, hwd31⟩ : ∃ wd, wd = (w3).drew := ⟨_, rfl⟩
            rw [← hwd31] at hH31 kdT31 kdC31 ⊢
            clear hwd31
            refine wpAnyH_take (i := 0) (v := .pointer (some ⟨xb, 0, none⟩)) rfl (by kernel_rfl) (by kernel_rfl) (by kernel_rfl) (fun _ _ _ h => h) (.inl ⟨by rfl, fun w' hw' => ?_⟩) hH31 ?_
            · go_simp
            try simp only [Act.put, List.setIfInBounds_toArray, List.set_cons_zero, List.set_cons_succ, List.getElem_toArray, List.getElem_cons_succ, List.getElem_cons_zero]
            refine wpAnyH_take (i := 1) (v := .pointer (some ⟨xb, 0, none⟩)) rfl (by kernel_rfl) (by kernel_rfl) (by kernel_rfl) (fun _ _ _ h => h) (.inl ⟨by rfl, fun w' hw' => ?_⟩) hH31 ?_
            · go_simp
            try simp only [Act.put, List.setIfInBounds_toArray, List.set_cons_zero, List.set_cons_succ, List.getElem_toArray, List.getElem_cons_succ, List.getElem_cons_zero]
            refine wpAnyH_take (i := 2) (v := .pointer (some ⟨xb, 0, none⟩)) rfl (by kernel_rfl) (by kernel_rfl) (by kernel_rfl) (fun _ _ _ h => h) (.inl ⟨by rfl, fun w' hw' => ?_⟩) hH31 ?_
            · go_simp
            try simp only [Act.put, List.setIfInBounds_toArray, List.set_cons_zero, List.set_cons_succ, List.getElem_toArray, List.getElem_cons_succ, List.getElem_cons_zero]
            refine wpAnyH_take (i := 3) (v := .pointer (some ⟨xb, 73, none⟩)) rfl (by kernel_rfl) (by kernel_rfl) (by kernel_rfl) (fun _ _ _ h => h) (.inl ⟨by rfl, fun w' hw' => ?_⟩) hH31 ?_
            · go_simp
            try simp only [Act.put, List.setIfInBounds_toArray, List.set_cons_zero, List.set_cons_succ, List.getElem_toArray, List.getElem_cons_succ, List.getElem_cons_zero]
            refine wpAnyH_take (i := 5) (v := .slice (some ⟨gb, 0, none⟩) 1 capb) rfl (by kernel_rfl) (by kernel_rfl) (by kernel_rfl) (fun _ _ _ h => h) (.inl ⟨by rfl, fun w' hw' => ?_⟩) hH31 ?_
            · go_simp
            try simp only [Act.put, List.setIfInBounds_toArray, List.set_cons_zero, List.set_cons_succ, List.getElem_toArray, List.getElem_cons_succ, List.getElem_cons_zero]
            refine wpAnyH_take (i := 6) (v := .int .i64 0) rfl (by kernel_rfl) (by kernel_rfl) (by kernel_rfl) (fun _ _ _ h => h) (.inl ⟨by rfl, fun w' hw' => ?_⟩) hH31 ?_
            · go_simp
            try simp only [Act.put, List.setIfInBounds_toArray, List.set_cons_zero, List.set_cons_succ, List.getElem_toArray, List.getElem_cons_succ, List.getElem_cons_zero]
            refine wpAnyH_take (i := 7) (v := .pointer (some ⟨gb, 0, none⟩)) rfl (by kernel_rfl) (by kernel_rfl) (by kernel_rfl) (fun _ _ _ h => h) (.inl ⟨by rfl, fun w' hw' => ?_⟩) hH31 ?_
            · go_simp
            try simp only [Act.put, List.setIfInBounds_toArray, List.set_cons_zero, List.set_cons_succ, List.getElem_toArray, List.getElem_cons_succ, List.getElem_cons_zero]
            refine wpAnyH_take (i := 8) (v := .pointer (some ⟨gn, 0, none⟩)) rfl (by kernel_rfl) (by kernel_rfl) (by kernel_rfl) (fun _ _ _ h => h) (.inl ⟨by rfl, fun w' hw' => ?_⟩) hH31 ?_
            · (have c0 := hbB _ hw'; go_simp)
            try simp only [Act.put, List.setIfInBounds_toArray, List.set_cons_zero, List.set_cons_succ, List.getElem_toArray, List.getElem_cons_succ, List.getElem_cons_zero]
            refine wpAnyH_ready (rs := [4, 9]) (by kernel_rfl) (by simp) (AllReadyH.cons rfl (fun K hK => ?_) (AllReadyH.cons rfl (fun K hK => ?_) AllReadyH.nil))
            · have c32 := kdT31.cell 73 t73
              go_simp
              refine hK.out _ _ hH31 (fun _ => ?_)
              try simp only [Act.put, List.setIfInBounds_toArray, List.set_cons_zero, List.set_cons_succ, List.getElem_toArray, List.getElem_cons_succ, List.getElem_cons_zero]
              refine wpAnyH_ready (rs := [9]) (by kernel_rfl) (by simp) (AllReadyH.cons rfl (fun K hK => ?_) AllReadyH.nil)
              try rw [if_pos (by rfl)]
              go_simp
              have kbB33 := Blk.new (wd31) #[.pointer (some ⟨gn, 0, none⟩)] 84
              have hH33 := hH31.alloc (.cells #[.pointer (some ⟨gn, 0, none⟩)] 84)
              have hgeB33 := hH31.size
              have kbT33 := kdT31.alloc (.cells #[.pointer (some ⟨gn, 0, none⟩)] 84)
              have hneTB33 := kdT31.lt
              have kbC33 := kdC31.alloc (.cells #[.pointer (some ⟨gn, 0, none⟩)] 84)
              have hneCB33 := kdC31.lt
              obtain ⟨gB33, hgg33⟩ : ∃ g, g = (wd31).heap.size := ⟨_, rfl⟩
              rw [← hgg33] at kbB33 hgeB33 hneTB33 hneCB33 ⊢
              generalize (wd31).alloc (.cells #[.pointer (some ⟨gn, 0, none⟩)] 84) = w33 at hH33 kbT33 kbC33 kbB33 ⊢
              clear hgg33
              refine hK.out _ _ hH33 (fun _ => ?_)
              try simp only [Act.put, List.setIfInBounds_toArray, List.set_cons_zero, List.set_cons_succ, List.getElem_toArray, List.getElem_cons_succ, List.getElem_cons_zero]
              refine wpAnyH_ready (rs := [10]) (by kernel_rfl) (by simp) (AllReadyH.cons rfl (fun K hK => ?_) AllReadyH.nil)
              try rw [if_pos (by rfl)]
              refine op_app (.tmp 62) (.tmp 67) (by kernel_rfl) kbC33 rfl kbB33 rfl rfl (by omega) ?_
              intro c34 cap34 w34 kbC34 hc34 hcc34
              have hH34 : Chg [xb, xc] w3 w34 := hH33.trans hc34 (by simp)
              have hcs34 := hH33.size
              have kbT34 := kbT33.chg hc34 (by simpa using hbc)
              refine hK.out _ _ hH34 (fun _ => ?_)
              try simp only [Act.put, List.setIfInBounds_toArray, List.set_cons_zero, List.set_cons_succ, List.getElem_toArray, List.getElem_cons_succ, List.getElem_cons_zero]
              refine wpAnyH_take (i := 11) (v := .pointer (some ⟨xb, 0, none⟩)) rfl (by kernel_rfl) (by kernel_rfl) (by kernel_rfl) (fun _ _ _ h => h) (.inl ⟨by rfl, fun w' hw' => ?_⟩) hH34 ?_
              · go_simp
              try simp only [Act.put, List.setIfInBounds_toArray, List.set_cons_zero, List.set_cons_succ, List.getElem_toArray, List.getElem_cons_succ, List.getElem_cons_zero]
              refine wpAnyH_take (i := 12) (v := .pointer (some ⟨xb, 73, none⟩)) rfl (by kernel_rfl) (by kernel_rfl) (by kernel_rfl) (fun _ _ _ h => h) (.inl ⟨by rfl, fun w' hw' => ?_⟩) hH34 ?_
              · go_simp
              try simp only [Act.put, List.setIfInBounds_toArray, List.set_cons_zero, List.set_cons_succ, List.getElem_toArray, List.getElem_cons_succ, List.getElem_cons_zero]
              refine wpAnyH_ready (rs := [13]) (by kernel_rfl) (by simp) (AllReadyH.cons rfl (fun K hK => ?_) AllReadyH.nil)
              have c35 := kbT34.cell 73 t73
              have f35 := kbT34.free 73
              have kbT35 := kbT34.set 73 (.slice (some ⟨c34, 0, none⟩) (k + 1 + 1) cap34)
              rw [t_set73 (Rl.len ok.r)] at kbT35
              go_simp
              have hH35 := hH34.setCell (p := ⟨xb, 73, none⟩) (.inl (by simp)) (.slice (some ⟨c34, 0, none⟩) (k + 1 + 1) cap34)
              refine hK.out _ _ hH35 (fun _ => ?_)
              try simp only [Act.put, List.setIfInBounds_toArray, List.set_cons_zero, List.set_cons_succ, List.getElem_toArray, List.getElem_cons_succ, List.getElem_cons_zero]
              refine wpAnyH_done (by kernel_rfl) ?_ _
              have bT9 := kbT35
              have hC9 := kbC34.chg ((Chg.refl [xb] _).setCell (p := ⟨xb, 73, none⟩) (.inl (by simp)) (.slice (some ⟨c34, 0, none⟩) (k + 1 + 1) cap34)) (hcbx hcc34 (by omega))
              have k9 := hH35
              have hcc9 : c34 = xc ∨ w3.heap.size ≤ c34 := hcc34.elim .inl (fun h => .inr (by omega))
              go_wp2
              go_roundw
              case rel => exact .inr ⟨rfl, _, _, bT9, hC9, kr2.trans k9 (fun t ht => .inl ht), hcc9.elim .inl (fun h => .inr (by omega))⟩
              case measure => simp [intOf]
            · try rw [if_pos (by rfl)]
              go_simp
              have kbB36 := Blk.new (wd31) #[.pointer (some ⟨gn, 0, none⟩)] 84
              have hH36 := hH31.alloc (.cells #[.pointer (some ⟨gn, 0, none⟩)] 84)
              have hgeB36 := hH31.size
              have kbT36 := kdT31.alloc (.cells #[.pointer (some ⟨gn, 0, none⟩)] 84)
              have hneTB36 := kdT31.lt
              have kbC36 := kdC31.alloc (.cells #[.pointer (some ⟨gn, 0, none⟩)] 84)
              have hneCB36 := kdC31.lt
              obtain ⟨gB36, hgg36⟩ : ∃ g, g = (wd31).heap.size := ⟨_, rfl⟩
              rw [← hgg36] at kbB36 hgeB36 hneTB36 hneCB36 ⊢
              generalize (wd31).alloc (.cells #[.pointer (some ⟨gn, 0, none⟩)] 84) = w36 at hH36 kbT36 kbC36 kbB36 ⊢
              clear hgg36
              refine hK.out _ _ hH36 (fun _ => ?_)
              try simp only [Act.put, List.setIfInBounds_toArray, List.set_cons_zero, List.set_cons_succ, List.getElem_toArray, List.getElem_cons_succ, List.getElem_cons_zero]
              refine wpAnyH_ready (rs := [4]) (by kernel_rfl) (by simp) (AllReadyH.cons rfl (fun K hK => ?_) AllReadyH.nil)
              have c37 := kbT36.cell 73 t73
              go_simp
              refine hK.out _ _ hH36 (fun _ => ?_)
              try simp only [Act.put, List.setIfInBounds_toArray, List.set_cons_zero, List.set_cons_succ, List.getElem_toArray, List.getElem_cons_succ, List.getElem_cons_zero]
              refine wpAnyH_ready (rs := [10]) (by kernel_rfl) (by simp) (AllReadyH.cons rfl (fun K hK => ?_) AllReadyH.nil)
              try rw [if_pos (by rfl)]
              refine op_app (.tmp 62) (.tmp 67) (by kernel_rfl) kbC36 rfl kbB36 rfl rfl (by omega) ?_
              intro c38 cap38 w38 kbC38 hc38 hcc38
              have hH38 : Chg [xb, xc] w3 w38 := hH36.trans hc38 (by simp)
              have hcs38 := hH36.size
              have kbT38 := kbT36.chg hc38 (by simpa using hbc)
              refine hK.out _ _ hH38 (fun _ => ?_)
              try simp only [Act.put, List.setIfInBounds_toArray, List.set_cons_zero, List.set_cons_succ, List.getElem_toArray, List.getElem_cons_succ, List.getElem_cons_zero]
              refine wpAnyH_take (i := 11) (v := .pointer (some ⟨xb, 0, none⟩)) rfl (by kernel_rfl) (by kernel_rfl) (by kernel_rfl) (fun _ _ _ h => h) (.inl ⟨by rfl, fun w' hw' => ?_⟩) hH38 ?_
              · go_simp
              try simp only [Act.put, List.setIfInBounds_toArray, List.set_cons_zero, List.set_cons_succ, List.getElem_toArray, List.getElem_cons_succ, List.getElem_cons_zero]
              refine wpAnyH_take (i := 12) (v := .pointer (some ⟨xb, 73, none⟩)) rfl (by kernel_rfl) (by kernel_rfl) (by kernel_rfl) (fun _ _ _ h => h) (.inl ⟨by rfl, fun w' hw' => ?_⟩) hH38 ?_
              · go_simp
              try simp only [Act.put, List.setIfInBounds_toArray, List.set_cons_zero, List.set_cons_succ, List.getElem_toArray, List.getElem_cons_succ, List.getElem_cons_zero]
              refine wpAnyH_ready (rs := [13]) (by kernel_rfl) (by simp) (AllReadyH.cons rfl (fun K hK => ?_) AllReadyH.nil)
              have c39 := kbT38.cell 73 t73
              have f39 := kbT38.free 73
              have kbT39 := kbT38.set 73 (.slice (some ⟨c38, 0, none⟩) (k + 1 + 1) cap38)
              rw [t_set73 (Rl.len ok.r)] at kbT39
              go_simp
              have hH39 := hH38.setCell (p := ⟨xb, 73, none⟩) (.inl (by simp)) (.slice (some ⟨c38, 0, none⟩) (k + 1 + 1) cap38)
              refine hK.out _ _ hH39 (fun _ => ?_)
              try simp only [Act.put, List.setIfInBounds_toArray, List.set_cons_zero, List.set_cons_succ, List.getElem_toArray, List.getElem_cons_succ, List.getElem_cons_zero]
              refine wpAnyH_done (by kernel_rfl) ?_ _
              have bT9 := kbT39
              have hC9 := kbC38.chg ((Chg.refl [xb] _).setCell (p := ⟨xb, 73, none⟩) (.inl (by simp)) (.slice (some ⟨c38, 0, none⟩) (k + 1 + 1) cap38)) (hcbx hcc38 (by omega))
              have k9 := hH39
              have hcc9 : c38 = xc ∨ w3.heap.size ≤ c38 := hcc38.elim .inl (fun h => .inr (by omega))
              go_wp2
              go_roundw
              case rel => exact .inr ⟨rfl, _, _, bT9, hC9, kr2.trans k9 (fun t ht => .inl ht), hcc9.elim .inl (fun h => .inr (by omega))⟩
              case measure => simp [intOf]
          · have kf : Chg [xb, xc] w wr := (k2.mono (T := [xb, xc]) (by simp)).trans kr2 (fun t ht => .inl ht)
            have hTf : TreeAt wr ⟨x.b, x.m, c2, x.bl⟩ { T with ch := T.ch ++ [n] } := by
              have hne1 : ∀ {b : Nat} {c : Array Value}, Blk w b c 86 → b ∉ [xb, xc] := fun {b c} hb => by
                simp only [List.mem_cons, List.not_mem_nil, or_false, not_or]
                obtain ⟨c3, hb3, hC3⟩ := hT.tb
                exact ⟨fun e => absurd (Blk.same ((e.trans hxb'.out) ▸ hb) hb3) (by decide), fun e => row_ne hC3 hb (by decide) ((e.trans hxc'.out).symm)⟩
              refine ⟨⟨cap2, ?_, ?_⟩, ?_, fun i p hp => (hT.nd i p hp).chg kf (hne1 (hT.nd i p hp)), hT.len, hT.nodup⟩
              · have := bT
                rw [hxb'.out] at this
                simpa [hk'.out] using this
              · have h3 := hC.r
                have e : ((T.ch ++ [n]).map fun i => Value.pointer (adrB x.bl i)) = (T.ch.map fun i => Value.pointer (adrB x.bl i)) ++ [.pointer (some ⟨gn, 0, none⟩)] := by
                  rw [List.map_append, List.map_singleton, han.out]
                show wr.ownsRow 0 84 1 (.slice (some ⟨c2, 0, none⟩) (T.ch ++ [n]).length cap2) (T.ch ++ [n]).length ((T.ch ++ [n]).map fun i => Value.pointer (adrB x.bl i))
                rw [e, List.length_append, List.length_singleton, hk'.out]
                exact h3
              · obtain ⟨c3, hb3, hC3⟩ := hT.tb
                exact hT.mp.chg kf (by
                  simp only [List.mem_cons, List.not_mem_nil, or_false, not_or]
                  exact ⟨fun e => hT.mp.ne hb3 (e.trans hxb'.out), fun e => row_nem hC3 hT.mp ((e.trans hxc'.out).symm)⟩)
            have hcc2 : c2 = x.c ∨ w.heap.size ≤ c2 := by
              rcases hcc with h | h
              · exact .inl (h.trans hxc'.out)
              · exact .inr (by omega)
            clear hbc3 hC3 bT3 bT hC kr2 hcc
            go_wp2
            go_end0
            exact ⟨rfl, kf, c2, by rw [hxb'.out]; exact hTf, by rw [hxc'.out]; exact hcc2⟩
end Go.Proofs.YtmkgbinmilcojaaGreat

/- Package tree: Fork of a block and the one behind it. -/
namespace Go.Proofs.YtmkgbinmilcojaaGreat
open Go.RowKit Go.Maps
attribute [-go_sem] loadCellsFrom Instr.build

set_option maxRecDepth 100000 in
set_option maxHeartbeats 4000000 in
theorem tree_Fork1 (x : Lt) (T : Tr) (ok : TrOk T) (k1 k2 : List Nat) (hk1 : HK k1) (hk2 : HK k2) (i n : Nat) (p q : Pn) (hf1 : T.find k1 = some i) (hf2 : T.find k2 = some n) (hp : T.ns[i]? = some p) (hq : T.ns[n]? = some q) (hah : q.ah = some i) (w : World) (hT : TreeAt w x T) :
    Calls Tryz.prog 59 #[.pointer (some ⟨x.b, 0, none⟩), hv k1, hv k2] w fun e w' => e = .returned (.tuple #[.int .i64 (p.ht : Int), .bool true]) ∧ Chg [] w w' := by
  obtain ⟨hlt, p', hp', hht⟩ := ok.ah n q i hq hah
  rw [hp] at hp'
  cases hp'
  have k0 : Chg [] w ((w.alloc (.cells (bytesV k1).toArray 26)).alloc (.cells (bytesV k2).toArray 26)) := ((Chg.refl _ _).alloc _).alloc _
  have b1 := (Blk.new w (bytesV k1).toArray 26).alloc (.cells (bytesV k2).toArray 26)
  have b2 := Blk.at (w.alloc (.cells (bytesV k1).toArray 26)) (bytesV k2).toArray 26 (w.heap.size + 1) (by simp)
  have hT0 := hT.chg ok k0
  have hlk1 := fun m => (hT0.mp.drewN m).look Tryz.underlying88 (zeroNP _) hk1
  have hlk2 := fun m => (hT0.mp.drewN m).look Tryz.underlying88 (zeroNP _) hk2
  simp only [hf1, hf2, Option.map_some, Option.getD_some] at hlk1 hlk2
  have hld1 := fun m => hash_load hk1.1 (b1.drewN m)
  have hld2 := fun m => hash_load hk2.1 (b2.drewN m)
  obtain ⟨gc, cc, c72, _, _, _, _⟩ := hT0.slice ok
  have nI := hT.node ok hp
  have nN := hT.node ok hq
  rw [hah] at nN
  simp only [Option.bind_some] at nN
  have hin : x.bl.getD i 0 ≠ x.bl.getD n 0 := by
    have hil : i < x.bl.length := by rw [hT.len]; exact (List.getElem?_eq_some_iff.1 hp).1
    have hnl : n < x.bl.length := by rw [hT.len]; exact (List.getElem?_eq_some_iff.1 hq).1
    simp only [List.getD_eq_getElem?_getD, List.getElem?_eq_getElem hil, List.getElem?_eq_getElem hnl, Option.getD_some]
    exact fun e => absurd ((List.getElem_inj hT.nodup).1 e) (by omega)
  unfold hv at hlk1 hlk2 ⊢
  simp only [adrB] at hlk1 hlk2 nN
  obtain ⟨gi, hgi⟩ : ∃ gi, gi = x.bl.getD i 0 := ⟨_, rfl⟩
  obtain ⟨gn, hgn⟩ : ∃ gn, gn = x.bl.getD n 0 := ⟨_, rfl⟩
  rw [← hgi] at hlk1 nI nN hin
  rw [← hgn] at hlk2 nN hin
  clear hgi hgn hf1 hf2 hp hq hah hk1 hk2 b1 b2 hT0 hT hlt
  have hht' := Lib.hid hht
  clear hht
  generalize (bytesV k1).toArray = c1 at *
  generalize (bytesV k2).toArray = c2 at *
  go_enter Tryz.func59, Tryz.ntmps59
  go_wp2
  go_quiet (fail)
  have kq := k0.drewN nq
  clear k0 c72 hlk1 hlk2 hld1 hld2
  generalize ((w.alloc (.cells c1 26)).alloc (.cells c2 26)).drewN nq = wq at *
  go_wp2_with fail
  go_loopw [8, 9] (fun s8 s9 wr => s8 = .pointer (some ⟨gi, 0, none⟩) ∧ Chg [] w wr ∧ (s9 = .pointer (some ⟨gn, 0, none⟩) ∨ s9 = .pointer (some ⟨gi, 0, none⟩))) (fun _ s9 _ => match s9 with | .pointer (some a) => if a.block = gn then 1 else 0 | _ => 0)
  case atStart => exact ⟨rfl, kq, .inl rfl⟩
  case round =>
    obtain ⟨rfl, kr, rfl | rfl⟩ := hrel
    · have hne := np_other hin (nI.chg kr (by simp)).blk (nN.chg kr (by simp)).blk
      have h1 := (nI.chg kr (by simp)).height
      have h2 := (nN.chg kr (by simp)).height
      rw [hht'.out] at h2
      have hd : decide (((p.ht + 1 : Nat) : Int) ≤ (p.ht : Int)) = false := by simp; omega
      go_wp2
      go_quiet (fail)
      have kq2 := kr.drewN nq
      clear h1 h2 hne kr
      generalize wr.drewN nq = w2 at *
      have ha := (nN.chg kq2 (by simp)).ahead
      go_wp2
      go_roundw
      case rel => exact ⟨rfl, kq2, .inr rfl⟩
      case measure =>
        simp [hin]
    · have hself := np_same ⟨gi, 0, none⟩
      have h1 := (nI.chg kr (by simp)).height
      go_wp2
      exact bodyPost_ret (v := .tuple #[.int .i64 (p.ht : Int), .bool true]) (by simp [results, Tryz.results59, go_sem]) rfl ⟨rfl, kr⟩
end Go.Proofs.YtmkgbinmilcojaaGreat

import Derived.Test.YtmkgbinmilcojaaGreatTreeGets
import Derived.Test.YtmkgbinmilcojaaGreatCollMed

/- Package tree: bits, while the target isn't set anew; Bits. Printed by bitsgen2.py. -/
namespace Go.Proofs.YtmkgbinmilcojaaGreat
open Go.RowKit Go.Maps
attribute [-go_sem] loadCellsFrom Instr.build

theorem Rl.cs_l (r : Rl) : r.cs = r.l.toArray := rfl
theorem t_head {l : List Value} (a b c : Value) : ∀ (j : Nat) (v : Value), l.toArray[j]? = some v → (l ++ [a, b, c]).toArray[0 + j]? = some v := by
  intro j v h
  simp only [List.getElem?_toArray] at h ⊢
  rw [Nat.zero_add, List.getElem?_append_left (List.getElem?_eq_some_iff.1 h).1]; exact h
set_option maxRecDepth 100000 in
set_option maxHeartbeats 4000000 in
theorem tree_bitsW (xb gn : Nat) (rs tc : Array Value) (p : Pn) (pa : Option Addr) (ht : Nat) (hht' : p.ht = ht) (hb' : ht ≤ 4096) (d : Bool) (hd : d = false) (hrs : rs.size = 72) (hpt : ∀ (j : Nat) (v : Value), rs[j]? = some v → tc[0 + j]? = some v)
    (hdue : ∀ w, Calls Tryz.prog 100 #[.agg rs, .int .i64 ((ht : Int) + 1)] w fun e w' => e = .returned (.bool d) ∧ Chg [] w w') (w : World) (bT : Blk w xb tc 91) (bN : NodeV w gn p pa) :
    Calls Tryz.prog 71 #[.pointer (some ⟨xb, 0, none⟩), .pointer (some ⟨gn, 0, none⟩)] w fun e w' => e = .returned (.tuple #[.int .u32 (p.h.bt : Int), .int .i64 0]) ∧ Chg [] w w' := by
  have hht := Lib.hid hht'
  clear hht'
  have hwr : IntKind.i64.wrap ((ht : Int) + 1) = (ht : Int) + 1 := by rw [IntKind.wrap_i64]; omega
  obtain ⟨w0, hw0⟩ : ∃ w0, w0 = w := ⟨_, rfl⟩
  rw [← hw0] at bT bN ⊢
  clear hw0
  go_enter Tryz.func71, Tryz.ntmps71
  go_upto_region 1 with fail
  go_cut [17] (fun s17 wx => s17 = .bool (!d) ∧ Chg [] w0 wx)
  case first =>
    refine wp_region_held_drew (S := fun w' => Chg [] w0 w') (by kernel_rfl) ((Chg.refl _ _).drew) (fun hH => ?_)
    refine TK 0 (.pointer (some ⟨xb, 0, none⟩)) rfl hH (fun w' hw' => ?_) ?_
    · go_simp
    try simp only [Act.put, Sa, Sb, Sc, Sd, Sf]
    refine TK 1 (.pointer (some ⟨xb, 0, none⟩)) rfl hH (fun w' hw' => ?_) ?_
    · go_simp
    try simp only [Act.put, Sa, Sb, Sc, Sd, Se, Sf]
    refine TK 2 (.pointer (some ⟨xb, 0, none⟩)) rfl hH (fun w' hw' => ?_) ?_
    · go_simp
    try simp only [Act.put, Sa, Sb, Sc, Sd, Se, Sf]
    refine TK 3 (.agg rs) rfl hH (fun w' hw' => ?_) ?_
    · (have k := bT.chg hw' (by simp); have hl := load_part k 0 72 hrs hpt; go_simp)
    try simp only [Act.put, Sa, Sb, Sc, Sd, Se, Sf]
    refine TK 4 (.pointer (some ⟨gn, 0, none⟩)) rfl hH (fun w' hw' => ?_) ?_
    · go_simp
    try simp only [Act.put, Sa, Sb, Sc, Sd, Se, Sf]
    refine TK 5 (.pointer (some ⟨gn, 0, none⟩)) rfl hH (fun w' hw' => ?_) ?_
    · go_simp
    try simp only [Act.put, Sa, Sb, Sc, Sd, Se, Sf]
    refine TK 6 (.pointer (some ⟨gn, 101, none⟩)) rfl hH (fun w' hw' => ?_) ?_
    · go_simp
    try simp only [Act.put, Sa, Sb, Sc, Sd, Se, Sf]
    refine TK 7 (.int .i64 (ht : Int)) rfl hH (fun w' hw' => ?_) ?_
    · (have k := bN.chg hw' (by simp); have c0 := k.height; rw [hht.out] at c0; go_simp)
    try simp only [Act.put, Sa, Sb, Sc, Sd, Se, Sf]
    refine TK 8 (.int .i64 ((ht : Int) + 1)) rfl hH (fun w' hw' => ?_) ?_
    · go_simp
    try simp only [Act.put, Sa, Sb, Sc, Sd, Se, Sf]
    refine RD 9 rfl (fun K hK => ?_)
    try rw [if_pos (by rfl)]
    go_simp
    go_at_call 100
    refine (hdue _).mono ?_
    rintro e1 w1 ⟨rfl, hc1⟩
    dsimp only
    have hH1 := hH.trans hc1 (by simp)
    refine hK.out _ _ hH1 (fun _ => ?_)
    try simp only [Act.put, Sa, Sb, Sc, Sd, Se, Sf]
    refine TK 10 (.bool (!d)) rfl hH1 (fun w' hw' => ?_) ?_
    · go_simp
    try simp only [Act.put, Sa, Sb, Sc, Sd, Se, Sf]
    refine wpAnyH_done (by kernel_rfl) ?_ _
    go_wp2_with fail
    go_meet
    exact ⟨rfl, hH1⟩
  case rest =>
    obtain ⟨rfl, k1⟩ := hcut
    have hN1 := bN.chg k1 (by simp)
    have cb := hN1.bits
    subst hd
    go_wp2
    exact bodyPost_ret (v := .tuple #[.int .u32 (p.h.bt : Int), .int .i64 0]) (by simp [results, Tryz.results71, go_sem]) rfl ⟨rfl, k1⟩
/-- is the target set anew behind a block? -/
def Tr.due (T : Tr) (p : Pn) : Bool := decide (((p.ht + 1 : Nat) : Int) % T.r.ev = 0)
theorem tree_bits0 (x : Lt) (T : Tr) (ok : TrOk T) (i : Nat) (p : Pn) (hp : T.ns[i]? = some p) (hd : T.due p = false) (w : World) (h : TreeAt w x T) :
    Calls Tryz.prog 71 #[.pointer (some ⟨x.b, 0, none⟩), .pointer (adrB x.bl i)] w fun e w' => e = .returned (.tuple #[.int .u32 (p.h.bt : Int), .int .i64 0]) ∧ Chg [] w w' := by
  obtain ⟨c, hb, _⟩ := h.tb
  have hht := ok.ht p (List.mem_of_getElem? hp)
  have hr := checkR_ok ok.rk
  exact tree_bitsW x.b _ T.r.cs _ p _ p.ht rfl (by omega) (T.due p) hd (Rl.size ok.r) (t_head _ _ _) (fun w => rules_Due T.r ok.r hr.1 (p.ht + 1) (by omega) (by omega) w) w hb (h.node ok hp)

set_option maxRecDepth 100000 in
set_option maxHeartbeats 1000000 in
theorem tree_Bits (x : Lt) (T : Tr) (ok : TrOk T) (k : List Nat) (hk : HK k) (bb : Nat → Nat) (be : Nat → Int) (hbits : ∀ i p, T.find k = some i → T.ns[i]? = some p → ∀ w, TreeAt w x T → Calls Tryz.prog 71 #[.pointer (some ⟨x.b, 0, none⟩), .pointer (adrB x.bl i)] w fun e w' => e = .returned (.tuple #[.int .u32 (bb i : Int), .int .i64 (be i)]) ∧ Chg [] w w')
    (w : World) (h : TreeAt w x T) :
    Calls Tryz.prog 38 #[.pointer (some ⟨x.b, 0, none⟩), hv k] w fun e w' => e = .returned (match T.find k with | none => .tuple #[.int .u32 0, .int .i64 8] | some i => .tuple #[.int .u32 (bb i : Int), .int .i64 (be i)]) ∧ Chg [] w w' := by
  have k0 : Chg [] w (w.alloc (.cells (bytesV k).toArray 26)) := (Chg.refl _ _).alloc _
  have h0 := h.chg ok k0
  have hb := Blk.new w (bytesV k).toArray 26
  have hld := fun n => hash_load hk.1 (hb.drewN n)
  have hlk := fun n => (h0.mp.drewN n).look_ok Tryz.underlying88 (zeroNP _) hk
  obtain ⟨g, c, c72, _, _, _, _⟩ := h0.slice ok
  unfold hv at hlk ⊢
  cases hf : T.find k with
  | none =>
    simp only [hf, Option.map_none, Option.getD_none, Option.isSome_none] at hlk
    clear h h0 hb hf hk hbits
    generalize (bytesV k).toArray = cs at *
    go_enter Tryz.func38, Tryz.ntmps38
    go_wp2
    go_quiet (fail)
    go_wp2
    exact bodyPost_ret (v := .tuple #[.int .u32 0, .int .i64 8]) (by simp [results, Tryz.results38, go_sem]) rfl ⟨rfl, k0.drewN _⟩
  | some i =>
    obtain ⟨p, hp, hnd, _⟩ := Tr.node_some hf
    have hbi := hbits i p hf hp
    simp only [hf, Option.map_some, Option.getD_some, Option.isSome_some, adrB] at hlk hbi
    have h1 := fun n => h0.chg ok ((Chg.refl [] _).drewN n)
    clear h h0 hb hf hk hnd hbits hp
    generalize x.bl.getD i 0 = gn at *
    generalize (bytesV k).toArray = cs at *
    go_enter Tryz.func38, Tryz.ntmps38
    go_wp2
    go_quiet (fail)
    have h2 := h1 nq
    have kq := k0.drewN nq
    clear h1 hld hlk c72 k0
    generalize (w.alloc (.cells cs 26)).drewN nq = wq at *
    go_wp2_with fail
    refine (hbi _ h2).mono ?_
    rintro e w2 ⟨rfl, k2⟩
    dsimp only
    go_wp2
    exact bodyPost_ret (v := .tuple #[.int .u32 (bb i : Int), .int .i64 (be i)]) (by simp [results, Tryz.results38, go_sem]) rfl ⟨rfl, kq.trans k2 (by simp)⟩
end Go.Proofs.YtmkgbinmilcojaaGreat

/- Package tree: median. -/
namespace Go.Proofs.YtmkgbinmilcojaaGreat
open Go.RowKit Go.Maps Go.Shelf
attribute [-go_sem] loadCellsFrom Instr.build

/-- the times of a block and of those ahead, so many at most. -/
def timesN (T : Tr) : Nat → Option Nat → List Nat
  | 0, _ => []
  | _ + 1, none => []
  | n + 1, some i => match T.ns[i]? with
    | none => []
    | some p => p.h.tm :: timesN T n p.ah
theorem timesN_none (T : Tr) : ∀ n, timesN T n none = []
  | 0 => rfl
  | _ + 1 => rfl
theorem timesN_some (T : Tr) (n : Nat) {i : Nat} {p : Pn} (h : T.ns[i]? = some p) : timesN T (n + 1) (some i) = p.h.tm :: timesN T n p.ah := by
  conv => lhs; unfold timesN
  rw [h]
theorem timesN_le (T : Tr) : ∀ n i, (timesN T n i).length ≤ n
  | 0, _ => Nat.le_refl _
  | _ + 1, none => Nat.zero_le _
  | n + 1, some i => by
    unfold timesN
    cases T.ns[i]? with
    | none => exact Nat.zero_le _
    | some p => simp; exact timesN_le T n _
def medT (T : Tr) (i : Nat) : Int := (srt ((timesN T 11 (some i)).map (fun (n : Nat) => (n : Int)))).getD ((timesN T 11 (some i)).length / 2) 0
def u32V (l : List Nat) : List Value := l.map (fun n : Nat => Value.int .u32 (n : Int))
set_option maxRecDepth 100000 in
set_option maxHeartbeats 4000000 in
theorem node_median (x : Lt) (T : Tr) (ok : TrOk T) (i : Nat) (p : Pn) (hp : T.ns[i]? = some p) (w : World) (h : TreeAt w x T) :
    Calls Tryz.prog 73 #[.pointer (adrB x.bl i)] w fun e w' => e = .returned (.int .u32 (medT T i)) ∧ Chg [] w w' := by
  obtain ⟨i0, hi, hz0, hz1, hz2⟩ := info_parts info_u32
  go_enter Tryz.func73, Tryz.ntmps73
  go_wp2
  go_loopw [0, 3] (fun s0 s3 wr => ∃ (L : List Nat) (cur : Option Nat) (v : Value), L.length ≤ 11 ∧ s0 = .pointer (cur.bind (adrB x.bl)) ∧ v = s3 ∧ L ++ timesN T (11 - L.length) cur = timesN T 11 (some i) ∧ (∀ c, cur = some c → ∃ q, T.ns[c]? = some q) ∧ wr.ownsRow w.heap.size 22 1 v L.length (u32V L) ∧ Chg [] w wr) (fun _ s3 _ => 12 - (match s3 with | .slice _ n _ => n | _ => 0))
  case atStart => exact ⟨[], some i, _, by simp, rfl, rfl, by simp, fun c e => by cases e; exact ⟨p, hp⟩, by simpa [u32V] using World.ownsRow_nil _ _ _ _, Chg.refl _ _⟩
  case round =>
    obtain ⟨L, cur, v, hL, rfl, rfl, heq, hcur, hrow, k⟩ := hrel
    have hws := k.size
    obtain ⟨va, vc, rfl⟩ : ∃ a c, v = .slice a L.length c := by
      rcases hrow.2 with ⟨rfl, h0⟩ | ⟨g, cap, cur, rfl, _⟩
      · exact ⟨_, _, by rw [h0]⟩
      · exact ⟨_, _, rfl⟩
    by_cases hend : cur = none ∨ L.length = 11
    · have hLe : L = timesN T 11 (some i) := by
        rcases hend with rfl | e
        · rw [timesN_none, List.append_nil] at heq; exact heq
        · rw [e, Nat.sub_self] at heq; simpa [timesN] using heq
      have hl0 : 0 < L.length := by rw [hLe, timesN_some T 10 hp]; simp
      have hrow2 : wr.ownsRow w.heap.size 22 1 (.slice va L.length vc) (L.map (fun (n : Nat) => (n : Int))).length ((L.map (fun (n : Nat) => (n : Int))).map (Value.int .u32)) := by
        rw [List.length_map, List.map_map]; exact hrow
      obtain ⟨hsl, _⟩ := SlI.of_own hrow2
      have hmed := adjust_Median _ _ wr hsl (by simp; omega) (by simp; omega)
      rw [List.length_map] at hmed
      have hfin := Lib.hid (show medT T i = (srt (L.map (fun (n : Nat) => (n : Int)))).getD (L.length / 2) 0 by unfold medT; rw [← hLe])
      have hbr : ∀ (P : Prop), (cur = none → P) → (∀ c, cur = some c → L.length = 11 → P) → P := fun P h1 h2 => by
        cases cur with
        | none => exact h1 rfl
        | some c => exact h2 c rfl (by rcases hend with h | h; cases h; exact h)
      refine hbr _ (fun e => ?_) (fun c e e11 => ?_)
      · subst e
        clear hbr hcur heq hend hLe hrow hrow2 hsl
        generalize (srt (L.map (fun (n : Nat) => (n : Int)))).getD (L.length / 2) 0 = mv at *
        generalize L.length = n at *
        simp only [Option.bind_none]
        go_wp2_with fail
        refine hmed.mono ?_
        rintro e w2 ⟨rfl, k2⟩
        dsimp only
        go_wp2
        go_ret
        exact ⟨by rw [hfin.out]; rfl, k.trans k2 (by simp)⟩
      · subst e
        clear hbr hcur heq hend hLe hrow hrow2 hsl
        generalize (srt (L.map (fun (n : Nat) => (n : Int)))).getD (L.length / 2) 0 = mv at *
        generalize L.length = n at *
        subst e11
        simp only [Option.bind_some, adrB]
        go_wp2_with fail
        refine hmed.mono ?_
        rintro e w2 ⟨rfl, k2⟩
        dsimp only
        go_wp2
        go_ret
        exact ⟨by rw [hfin.out]; rfl, k.trans k2 (by simp)⟩
    · obtain ⟨c, rfl⟩ : ∃ c, cur = some c := by
        cases cur with
        | none => exact absurd (.inl rfl) hend
        | some c => exact ⟨c, rfl⟩
      have hL11 : L.length < 11 := by have : ¬ L.length = 11 := fun e => hend (.inr e); omega
      obtain ⟨q, hq⟩ := hcur c rfl
      have hn := ((h.chg ok k).node ok hq)
      have htm := hn.time
      have hah := hn.ahead
      have hL' : decide ((L.length : Int) < 11) = true := by simp; omega
      have hone : ∀ (b : Int) (j : Nat) u, [Value.int .u32 b][j]? = some u → (wr.alloc (.cells #[.int .u32 b] 22)).cell? ((⟨wr.heap.size, 0, none⟩ : Addr).add j) = some u := fun b j u hj => by
        match j, hj with
        | 0, hj => exact (Blk.new wr #[.int .u32 b] 22).cell 0 (by simpa using hj)
        | k + 1, hj => simp at hj
      simp only [Option.bind_some, adrB]
      have hqt := (ok.hd q (List.mem_of_getElem? hq)).tm
      have hnext := timesN_some T (10 - L.length) hq
      rw [show 10 - L.length + 1 = 11 - L.length by omega] at hnext
      have hah2 : ∀ c', q.ah = some c' → ∃ q', T.ns[c']? = some q' := fun c' e => by obtain ⟨_, q', h1, _⟩ := ok.ah c q c' hq e; exact ⟨q', h1⟩
      clear hcur hend
      obtain ⟨n, hn0⟩ : ∃ n, n = L.length := ⟨_, rfl⟩
      rw [← hn0] at hrow hL' hL11 ⊢
      have hn' := Lib.hid hn0
      clear hn0
      obtain ⟨gn, hgn⟩ : ∃ gn, gn = x.bl.getD c 0 := ⟨_, rfl⟩
      rw [← hgn] at htm hah hn ⊢
      have hgn' := Lib.hid hgn
      clear hgn hn
      have hnext' := Lib.hid hnext
      have heq' := Lib.hid heq
      clear hnext heq
      generalize q.h.tm = tm at *
      go_wp2_with (at_builtin; go_loud (refine wpList_append_own_at _ rfl _ _ 152 rfl w.heap.size 22 i0 (.int .u32 0) 1 4 Tryz.underlying152 hi hz0 hz1 hz2 rfl (by decide) _ n _ rfl (hrow.alloc _) ⟨wr.heap.size, 0, none⟩ 1 1 [.int .u32 tm] rfl rfl (hone _) (by simp [Value.oneCell']) (by unfold maxLen; omega) (by omega) (by simp; omega) ?_); intro v2 w2 hv2 hg2 hn2 hl2; obtain ⟨g2, cap2, rfl⟩ := ownsRow_succ hv2; have k2 := (k.alloc (.cells #[.int .u32 tm] 22)).grown hg2 (fun k e => .inr (row_low hrow e)); have hah3 : w2.cell? ⟨gn, 100, none⟩ = some (.pointer (q.ah.bind (adrB x.bl))) := (by have := ((h.chg ok k2).node ok hq).ahead; rw [← hgn'.out] at this; exact this))
      refine ⟨⟨L ++ [tm], q.ah, _, by have := hn'.out; simp; omega, rfl, rfl, ?_, hah2, ?_, k2⟩, ?_⟩
      · rw [List.append_assoc, List.length_append, List.length_singleton, show 11 - (L.length + 1) = 10 - L.length by omega]
        rw [hnext'.out] at heq'
        exact heq'.out
      · rw [List.length_append, List.length_singleton, ← hn'.out]
        simpa [u32V] using hv2
      · show 12 - (n + 1) < 12 - n
        omega
end Go.Proofs.YtmkgbinmilcojaaGreat

/- Package tree: check. Printed by checkgen.py. -/
namespace Go.Proofs.YtmkgbinmilcojaaGreat
open Go.RowKit Go.Maps
attribute [-go_sem] loadCellsFrom Instr.build

set_option maxRecDepth 100000 in
set_option maxHeartbeats 8000000 in
theorem tree_checkW (xb xm gn len kd tips : Nat) (rs tc cs ls : Array Value) (bb bt tm : Nat) (be ce med R : Int) (hR0 : R = if be ≠ 0 ∨ bb ≠ bt then 6 else if ce ≠ 0 then ce else if (tm : Int) ≤ med then 11 else if 4096 ≤ len ∨ (0 < kd ∧ 16 ≤ tips) then 10 else 0) (hcs : cs.size = 68) (hrs : rs.size = 72) (hpt : ∀ (j : Nat) (v : Value), rs[j]? = some v → tc[0 + j]? = some v)
    (e65 : cs[65]? = some (.int .u32 (tm : Int))) (e66 : cs[66]? = some (.int .u32 (bt : Int))) (w : World)
    (bT0 : Blk w xb tc 91) (t72 : tc[72]? = some (.map (some xm))) (t74 : tc[74]? = some (.int .i64 (tips : Int))) (hlen0 : ∀ w', Chg [] w w' → ∀ ty, (Builtin.len_ #[88] ty #[.map (some xm)]).run Tryz.prog w' = .ok (.int .i64 (len : Int)) w') (hkd0 : ∀ w', Chg [] w w' → w'.cell? ⟨gn, 106, none⟩ = some (.int .i64 (kd : Int)))
    (hbits : ∀ w', Chg [] w w' → Calls Tryz.prog 71 #[.pointer (some ⟨xb, 0, none⟩), .pointer (some ⟨gn, 0, none⟩)] w' fun e w'' => e = .returned (.tuple #[.int .u32 (bb : Int), .int .i64 be]) ∧ Chg [] w' w'')
    (htop : ∀ w, Calls Tryz.prog 72 #[.agg rs] w fun e w' => e = .returned (.agg ls) ∧ Chg [] w w')
    (hchk : ∀ w, Calls Tryz.prog 39 #[.agg cs, .agg ls] w fun e w' => e = .returned (.int .i64 ce) ∧ Chg [] w w')
    (hmed0 : ∀ w', Chg [] w w' → Calls Tryz.prog 73 #[.pointer (some ⟨gn, 0, none⟩)] w' fun e w'' => e = .returned (.int .u32 med) ∧ Chg [] w' w'') :
    Calls Tryz.prog 42 #[.pointer (some ⟨xb, 0, none⟩), .agg cs, .pointer (some ⟨gn, 0, none⟩)] w fun e w' => e = .returned (.int .i64 R) ∧ Chg [] w w' := by
  have hR := Lib.hid hR0
  clear hR0
  have bH := Blk.new w cs 28
  have k0 : Chg [] w (w.alloc (.cells cs 28)) := (Chg.refl _ _).alloc _
  go_enter Tryz.func42, Tryz.ntmps42
  go_wp2_with fail
  refine (hbits _ k0).mono ?_
  rintro e w1 ⟨rfl, k1⟩
  dsimp only
  have k01 := k0.trans k1 (by simp)
  have bH := bH.chg k1 (by simp)
  have c66 := bH.cell 66 e66
  clear hbits k0 k1
  by_cases h6 : be ≠ 0 ∨ bb ≠ bt
  · have hq := Lib.hid (show R = 6 by rw [hR.out, if_pos h6])
    by_cases hbe : be = 0
    · have hbb : ((bb : Int) == (bt : Int)) = false := by simp; rcases h6 with h6 | h6; exact absurd hbe h6; omega
      subst hbe
      go_wp2
      go_ret
      exact ⟨congrArg (fun z => Ending.returned (Value.int .i64 z)) hq.out.symm, k01⟩
    · have hbb : (be == 0) = false := by simp [hbe]
      go_wp2
      go_ret
      exact ⟨congrArg (fun z => Ending.returned (Value.int .i64 z)) hq.out.symm, k01⟩
  · have hbe : be = 0 := by
      by_cases h : be = 0
      · exact h
      · exact absurd (.inl h) h6
    have hbb : bb = bt := by
      by_cases h : bb = bt
      · exact h
      · exact absurd (.inr h) h6
    subst hbe
    subst hbb
    have hR := Lib.hid (hR.out.trans (if_neg h6))
    clear h6
    go_upto_region 4 with fail
    have bT := bT0.chg k01 (by simp)
    go_cut [9] (fun s9 wx => s9 = .int .i64 ce ∧ Chg [] w1 wx)
    case first =>
      refine wp_region_held_drew (S := fun w' => Chg [] w1 w') (by kernel_rfl) ((Chg.refl _ _).drew) (fun hH => ?_)
      refine TK 0 (.agg cs) rfl hH (fun w' hw' => ?_) ?_
      · (have k := bH.chg hw' (by simp); have hl := load_blkC k 68 hcs; go_simp)
      try simp only [Act.put, Sa, Sb, Sc, Sd, Sf]
      refine TK 1 (.pointer (some ⟨xb, 0, none⟩)) rfl hH (fun w' hw' => ?_) ?_
      · go_simp
      try simp only [Act.put, Sa, Sb, Sc, Sd, Se, Sf]
      refine TK 2 (.pointer (some ⟨xb, 0, none⟩)) rfl hH (fun w' hw' => ?_) ?_
      · go_simp
      try simp only [Act.put, Sa, Sb, Sc, Sd, Se, Sf]
      refine TK 3 (.pointer (some ⟨xb, 0, none⟩)) rfl hH (fun w' hw' => ?_) ?_
      · go_simp
      try simp only [Act.put, Sa, Sb, Sc, Sd, Se, Sf]
      refine TK 4 (.agg rs) rfl hH (fun w' hw' => ?_) ?_
      · (have k := bT.chg hw' (by simp); have hl := load_part k 0 72 hrs hpt; go_simp)
      try simp only [Act.put, Sa, Sb, Sc, Sd, Se, Sf]
      refine RD 5 rfl (fun K hK => ?_)
      try rw [if_pos (by rfl)]
      go_simp
      go_at_call 72
      refine (htop _).mono ?_
      rintro e1 w1 ⟨rfl, hc1⟩
      dsimp only
      have hH1 := hH.trans hc1 (by simp)
      refine hK.out _ _ hH1 (fun _ => ?_)
      try simp only [Act.put, Sa, Sb, Sc, Sd, Se, Sf]
      refine RD 6 rfl (fun K hK => ?_)
      try rw [if_pos (by rfl)]
      go_simp
      go_at_call 39
      refine (hchk _).mono ?_
      rintro e2 w2 ⟨rfl, hc2⟩
      dsimp only
      have hH2 := hH1.trans hc2 (by simp)
      refine hK.out _ _ hH2 (fun _ => ?_)
      try simp only [Act.put, Sa, Sb, Sc, Sd, Se, Sf]
      refine RD 7 rfl (fun K hK => ?_)
      go_simp
      refine hK.out _ _ hH2 (fun _ => ?_)
      try simp only [Act.put, Sa, Sb, Sc, Sd, Se, Sf]
      refine wpAnyH_done (by kernel_rfl) ?_ _
      go_wp2_with fail
      go_meet
      exact ⟨rfl, hH2⟩
    case rest =>
      obtain ⟨rfl, k2⟩ := hcut
      have k02 := k01.trans k2 (by simp)
      have bH := bH.chg k2 (by simp)
      clear htop hchk k2 k01 bT
      generalize wc = w2 at *
      by_cases hce : ce = 0
      · subst hce
        have hR := Lib.hid (hR.out.trans (if_neg (by simp)))
        go_upto_region 7 with fail
        have hmed := fun w' (k : Chg [] w2 w') => hmed0 w' (k02.trans k (by simp))
        clear hmed0
        go_cut [34] (fun s34 wx => s34 = .bool (decide ((tm : Int) ≤ med)) ∧ Chg [] w2 wx)
        case first =>
          refine wp_region_held_drew (S := fun w' => Chg [] w2 w') (by kernel_rfl) ((Chg.refl _ _).drew) (fun hH21 => ?_)
          refine TK 0 (.pointer (some ⟨w.heap.size, 65, none⟩)) rfl hH21 (fun w' hw' => ?_) ?_
          · go_simp
          try simp only [Act.put, Sa, Sb, Sc, Sd, Sf]
          refine TK 1 (.int .u32 (tm : Int)) rfl hH21 (fun w' hw' => ?_) ?_
          · (have k := bH.chg hw' (by simp); have c0 := k.cell 65 e65; go_simp)
          try simp only [Act.put, Sa, Sb, Sc, Sd, Se, Sf]
          refine TK 2 (.pointer (some ⟨gn, 0, none⟩)) rfl hH21 (fun w' hw' => ?_) ?_
          · go_simp
          try simp only [Act.put, Sa, Sb, Sc, Sd, Se, Sf]
          refine RD 3 rfl (fun K hK => ?_)
          try rw [if_pos (by rfl)]
          go_simp
          go_at_call 73
          refine (hmed _ hH21).mono ?_
          rintro e22 w22 ⟨rfl, hc22⟩
          dsimp only
          have hH22 := hH21.trans hc22 (by simp)
          refine hK.out _ _ hH22 (fun _ => ?_)
          try simp only [Act.put, Sa, Sb, Sc, Sd, Se, Sf]
          refine TK 4 (.bool (decide ((tm : Int) ≤ med))) rfl hH22 (fun w' hw' => ?_) ?_
          · go_simp
          try simp only [Act.put, Sa, Sb, Sc, Sd, Se, Sf]
          refine RD 5 rfl (fun K hK => ?_)
          go_simp
          refine hK.out _ _ hH22 (fun _ => ?_)
          try simp only [Act.put, Sa, Sb, Sc, Sd, Se, Sf]
          refine wpAnyH_done (by kernel_rfl) ?_ _
          go_wp2_with fail
          go_meet
          exact ⟨rfl, hH22⟩
        case rest =>
          obtain ⟨rfl, k3⟩ := hcut
          have k03 := k02.trans k3 (by simp)
          clear hmed k3 k02
          have bT := bT0.chg k03 (by simp)
          have c72 := bT.cell 72 t72
          have c74 := bT.cell 74 t74
          have hlen := hlen0 _ k03
          have hkd := hkd0 _ k03
          clear hlen0 hkd0 bT0
          by_cases hm : (tm : Int) ≤ med
          · have hmd : decide ((tm : Int) ≤ med) = true := by simpa using hm
            rw [hmd]
            have hq := Lib.hid (hR.out.trans (if_pos hm))
            go_wp2
            go_ret
            exact ⟨congrArg (fun z => Ending.returned (Value.int .i64 z)) hq.out.symm, k03⟩
          · have hmd : decide ((tm : Int) ≤ med) = false := by simpa using hm
            rw [hmd]
            have hR := Lib.hid (hR.out.trans (if_neg hm))
            clear hm
            by_cases hl : 4096 ≤ len
            · have hld : decide ((4096 : Int) ≤ len) = true := by simp; omega
              have hq := Lib.hid (hR.out.trans (if_pos (.inl hl)))
              go_wp2
              go_ret
              exact ⟨congrArg (fun z => Ending.returned (Value.int .i64 z)) hq.out.symm, k03⟩
            · have hld : decide ((4096 : Int) ≤ len) = false := by simp; omega
              by_cases hk : 0 < kd
              · have hkk : decide ((0 : Int) < kd) = true := by simp; omega
                by_cases ht : 16 ≤ tips
                · have htt : decide ((16 : Int) ≤ tips) = true := by simp; omega
                  have hq := Lib.hid (hR.out.trans (if_pos (.inr ⟨hk, ht⟩)))
                  go_wp2
                  go_ret
                  exact ⟨congrArg (fun z => Ending.returned (Value.int .i64 z)) hq.out.symm, k03⟩
                · have htt : decide ((16 : Int) ≤ tips) = false := by simp; omega
                  have hq := Lib.hid (hR.out.trans (if_neg (by omega)))
                  go_wp2
                  go_ret
                  exact ⟨congrArg (fun z => Ending.returned (Value.int .i64 z)) hq.out.symm, k03⟩
              · have hkk : decide ((0 : Int) < kd) = false := by simp; omega
                have hq := Lib.hid (hR.out.trans (if_neg (by omega)))
                go_wp2
                go_ret
                exact ⟨congrArg (fun z => Ending.returned (Value.int .i64 z)) hq.out.symm, k03⟩
      · have hb : (ce == 0) = false := by simp [hce]
        have hq := Lib.hid (hR.out.trans (if_pos hce))
        go_wp2
        go_ret
        exact ⟨congrArg (fun z => Ending.returned (Value.int .i64 z)) hq.out.symm, k02⟩
end Go.Proofs.YtmkgbinmilcojaaGreat

/- Package tree: check, while the target isn't set anew. -/
namespace Go.Proofs.YtmkgbinmilcojaaGreat
open Go.RowKit Go.Maps
attribute [-go_sem] loadCellsFrom Instr.build

def Tr.chk (T : Tr) (h : Hd) (i : Nat) (p : Pn) : Int := if p.h.bt ≠ h.bt then 6 else if checkE h (decT T.r.lm) ≠ 0 then checkE h (decT T.r.lm) else if (h.tm : Int) ≤ medT T i then 11 else if 4096 ≤ T.ns.length ∨ (0 < p.kd ∧ 16 ≤ T.tips) then 10 else 0
theorem tree_check0 (x : Lt) (T : Tr) (ok : TrOk T) (i : Nat) (p : Pn) (hp : T.ns[i]? = some p) (hd : T.due p = false) (h : Hd) (hok : HdOk h) (w : World) (hT : TreeAt w x T) :
    Calls Tryz.prog 42 #[.pointer (some ⟨x.b, 0, none⟩), .agg h.cs, .pointer (adrB x.bl i)] w fun e w' => e = .returned (.int .i64 (T.chk h i p)) ∧ Chg [] w w' := by
  obtain ⟨c, hb, _⟩ := hT.tb
  obtain ⟨t72, _, t74⟩ := t_cell (Rl.len ok.r) (.map (some x.m)) (.slice (some ⟨x.c, 0, none⟩) T.ch.length c) (.int .i64 (T.tips : Int))
  obtain ⟨ls, e1, hls, _⟩ := wvC (decT T.r.lm)
  have htop := fun w => adjust_Top (.agg T.r.cs) _ _ (Rl.v T.r ok.r) w
  have hchk := fun w => header_Check h hok (decT T.r.lm) (decT_lt _) w
  rw [e1] at hchk
  simp only [e1] at htop
  refine tree_checkW x.b x.m (x.bl.getD i 0) T.ns.length p.kd T.tips T.r.cs _ h.cs ls p.h.bt h.bt h.tm 0 (checkE h (decT T.r.lm)) (medT T i) _ ?_ (Hd.size hok) (Rl.size ok.r) (t_head _ _ _) (Hd.c65 hok) (Hd.c66 hok) w hb t72 t74
    (fun w' k ty => (hT.chg ok k).mp.len Tryz.underlying88 ty) (fun w' k => ((hT.chg ok k).node ok hp).kids)
    (fun w' k => tree_bits0 x T ok i p hp hd w' (hT.chg ok k)) htop hchk (fun w' k => node_median x T ok i p hp w' (hT.chg ok k))
  simp [Tr.chk]
end Go.Proofs.YtmkgbinmilcojaaGreat

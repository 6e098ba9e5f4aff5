/- pontagelaw13.lives. Printed by lives13gen.py. -/
import Derived.Test.YtmkgbinmilcojaaGreatExR
namespace Go.Proofs.YtmkgbinmilcojaaGreat
open Go.RowKit Go.Maps
attribute [-go_sem] loadCellsFrom Instr.build

set_option maxRecDepth 100000 in
theorem build_step10 (w : World) : (Instr.build 46 #[(2, .int .i32 10)]).run Tryz.prog w = .ok (.agg #[.int .i64 0, .int .i64 0, .int .i32 10, .int .u8 0]) w := by kernel_rfl
theorem bits0 : (T0.bitsOf (hdH h0c)).1 = 545259519 := by
  unfold Tr.bitsOf
  rw [hdH_h0, find0]
  show T0.nb 0 (p0 0) = _
  unfold Tr.nb
  rw [due0]; rfl
theorem madeN0 : madeN (hdH h0c) 0 (tmL h0c.tm 10) 0 545259519 = h1c := by
  have e : madeB (hdH h0c) 0 (tmL h0c.tm 10) 0 545259519 = h1c := by
    rw [hdH_h0]; rfl
  unfold madeN
  rw [e, if_neg (by decide)]
  unfold madeM
  rw [mine1]; rfl
theorem made13 (x : Lt) (w : World) (h : TreeAt w x T0) :
    Calls Tryz.prog 12 #[.pointer (some ⟨x.b, 0, none⟩), .agg h0c.cs, .agg #[.int .i64 0, .int .i64 0, .int .i32 10, .int .u8 0]] w fun e w' => e = .returned (.agg h1c.cs) ∧ Chg [] w w' := by
  have := law12_Made x T0 I0 h0c ok0c 0 0 10 0 (by omega) (by rw [bits0]; omega) w h
  rw [bits0, madeN0] at this
  exact this
theorem zeroRl13 (w : World) : (zeroValue 30).run Tryz.prog w = .ok (.agg (Rl.cs ⟨0, 0, 0, 0, hd0⟩)) w := zeroRl w
set_option maxRecDepth 100000 in
set_option maxHeartbeats 8000000 in
theorem law13_lives (w : World) : Calls Tryz.prog 20 #[] w fun e w' => e = .returned (.bool true) ∧ Chg [] w w' := by
  have hzH := zeroHd
  have hrules := law12_Rules
  have hnew := relay_New rC okR
  have hbytes := header_Bytes h1c ok1c
  have hhash1 := header_Hash h1c ok1c
  have hhash0 := header_Hash h0c ok0c
  rw [hdH_h0] at hhash0
  have hbs := build_step10
  have hs0 : h0c.cs.size = 68 := Hd.size ok0c
  have hs1 : h1c.l.length = 68 := by have := Hd.size ok1c; simpa [Hd.cs] using this
  have ho1 : ∀ v ∈ h1c.l, v.oneCell' = true := fun v hv => (Array.all_eq_true_iff_forall_mem.1 (Hd.one h1c)) v (by simpa [Hd.cs] using hv)
  have hzs : hd0.cs.size = 68 := Hd.size hd0_ok
  have hp4 : ∀ (j : Nat) (v : Value), h0c.cs[j]? = some v → rC.cs[4 + j]? = some v := Rl.part rC
  have hrs : rC.cs.size = 72 := Rl.size okR
  have hro := Rl.one rC
  have c3 : rC.cs[3]? = some (.int .i64 2) := rfl
  have hmade := made13
  have hlb : (hdB h1c).length = 80 := hdB_len ok1c
  have hb1 := hdB_lt ok1c
  change ∀ w, Calls Tryz.prog 24 #[.agg h1c.l.toArray] w _ at hbytes
  change ∀ w, Calls Tryz.prog 27 #[.agg h1c.l.toArray] w _ at hhash1
  change ∀ (x : Lt) (w : World) (h : TreeAt w x T0), Calls Tryz.prog 12 #[_, _, _] w fun e w' => e = .returned (.agg h1c.l.toArray) ∧ Chg [] w w' at hmade
  have hc1 := conf13a
  have hc0 := conf13b
  generalize h0c.cs = c0 at *
  generalize h1c.l = h1l at *
  generalize rC.cs = cr at *
  go_enter Tryz.func20, Tryz.ntmps20
  go_wp2_with fail
  refine (hrules _).mono ?_
  rintro e w1 ⟨rfl, k1⟩
  dsimp only
  have hst := run_storeCells_new (P := Tryz.prog) w1 30 (Rl.cs ⟨0, 0, 0, 0, hd0⟩) cr (by rw [hrs]; exact infoRl) (by rw [hrs]; rfl) hro
  have bR := Blk.new w1 cr 30
  have ldR := load_blkC bR 72 hrs
  have k1a := k1.alloc (.cells cr 30)
  have hzR := zeroRl
  obtain ⟨gR, hgR⟩ : ∃ gR, gR = w1.heap.size := ⟨_, rfl⟩
  have hlow := k1.size
  go_upto_region 2 with fail
  rw [← hgR] at bR ldR ⊢
  clear hst hzR hgR
  generalize w1.alloc (.cells cr 30) = w1a at *
  go_wp2_with fail
  refine (hnew _).mono ?_
  rintro e w2 ⟨k2, ⟨hne, _⟩ | ⟨_, rb, x, rfl, hRel, hlr, hlx, hrx⟩⟩
  · exact absurd ckR hne
  rw [T0_eq] at hRel
  dsimp only
  have k12 := k1a.trans k2 (by simp)
  have hRl := bR.lt
  have bR := bR.chg k2 (by simp)
  have hsa := k1a.size
  go_upto_region 3 with fail
  have htree : ∀ w', Chg [] w2 w' → Calls Tryz.prog 22 #[.pointer (some ⟨rb, 0, none⟩)] w' fun e w'' => e = .returned (.pointer (some ⟨x.b, 0, none⟩)) ∧ Chg [] w' w'' := fun w' hk =>
    relay_Tree rb x T0 okR 0 w' ⟨hRel.blk.chg hk (by simp), hRel.t.chg okT0 hk⟩
  replace hmade : ∀ w', Chg [] w2 w' → Calls Tryz.prog 12 #[.pointer (some ⟨x.b, 0, none⟩), .agg c0, .agg #[.int .i64 0, .int .i64 0, .int .i32 10, .int .u8 0]] w' fun e w'' => e = .returned (.agg h1l.toArray) ∧ Chg [] w' w'' := fun w' hk =>
    hmade x w' (hRel.t.chg okT0 hk)
  obtain ⟨xb, hxb⟩ : ∃ xb, xb = x.b := ⟨_, rfl⟩
  have hxb' := Lib.hid hxb
  simp only [← hxb] at htree hmade
  clear hxb
  obtain ⟨zh, hzh⟩ : ∃ zh, zh = hd0.cs := ⟨_, rfl⟩
  rw [← hzh] at hzs
  simp only [← hzh] at hzH
  clear hzh
  go_cut [4] (fun s4 wx => ∃ gH, s4 = .pointer (some ⟨gH, 0, none⟩) ∧ Blk wx gH h1l.toArray 28 ∧ w2.heap.size ≤ gH ∧ Chg [] w2 wx)
  case first =>
    refine wp_region_held_drew (S := fun w' => Chg [] w2 w') (by kernel_rfl) ((Chg.refl _ _).drew) (fun hH51 => ?_)
    obtain ⟨wd51, hwd51⟩ : ∃ wd, wd = (w2).drew := ⟨_, rfl⟩
    rw [← hwd51] at hH51 ⊢
    clear hwd51
    refine TK 0 (.pointer (some ⟨rb, 0, none⟩)) rfl hH51 (fun w' hw' => ?_) ?_
    · go_simp
    try simp only [Act.put, Sa, Sb, Sc, Sd, Sf]
    refine TK 2 (.pointer (some ⟨gR, 4, none⟩)) rfl hH51 (fun w' hw' => ?_) ?_
    · go_simp
    try simp only [Act.put, Sa, Sb, Sc, Sd, Se, Sf]
    refine TK 3 (.agg c0) rfl hH51 (fun w' hw' => ?_) ?_
    · (have k9 := bR.chg hw' (by simp); have l0 := load_part k9 4 68 hs0 hp4; go_simp)
    try simp only [Act.put, Sa, Sb, Sc, Sd, Se, Sf]
    refine TK 4 (.agg #[.int .i64 0, .int .i64 0, .int .i32 10, .int .u8 0]) rfl hH51 (fun w' hw' => ?_) ?_
    · go_simp
    try simp only [Act.put, Sa, Sb, Sc, Sd, Se, Sf]
    refine RD2 1 6 rfl rfl (fun K hK => ?_) (fun K hK => ?_)
    · try rw [if_pos (by rfl)]
      go_simp
      go_at_call 22
      refine (htree _ hH51).mono ?_
      rintro e52 w52 ⟨rfl, hc52⟩
      dsimp only
      have hH52 := hH51.trans hc52 (by simp)
      refine hK.out _ _ hH52 (fun _ => ?_)
      try simp only [Act.put, Sa, Sb, Sc, Sd, Se, Sf]
      refine RD2 5 6 rfl rfl (fun K hK => ?_) (fun K hK => ?_)
      · try rw [if_pos (by rfl)]
        go_simp
        go_at_call 12
        refine (hmade _ hH52).mono ?_
        rintro e53 w53 ⟨rfl, hc53⟩
        dsimp only
        have hH53 := hH52.trans hc53 (by simp)
        refine hK.out _ _ hH53 (fun _ => ?_)
        try simp only [Act.put, Sa, Sb, Sc, Sd, Se, Sf]
        refine RD 6 rfl (fun K hK => ?_)
        rw [if_pos (by rfl)]
        refine op_alloc 28 4 (by kernel_rfl) (by kernel_rfl) hzH ?_
        have kbH54 := Blk.new (w53) zh 28
        have hH54 := hH53.alloc (.cells zh 28)
        have hgeH54 := hH53.size
        obtain ⟨gH54, hgg54⟩ : ∃ g, g = (w53).heap.size := ⟨_, rfl⟩
        rw [← hgg54] at kbH54 hgeH54 ⊢
        generalize (w53).alloc (.cells zh 28) = w54 at hH54 kbH54 ⊢
        clear hgg54
        refine hK.out _ _ hH54 (fun _ => ?_)
        try simp only [Act.put, Sa, Sb, Sc]
        refine RD 7 rfl (fun K hK => ?_)
        rw [if_pos (by rfl)]
        refine op_store 28 (.tmp 4) (.tmp 18) (by kernel_rfl) (by kernel_rfl) rfl (cs := h1l) rfl kbH54 (by simp [hzs, hs1]) (infoHd3 hs1) (by exact ho1) ?_
        intro w55 kbH55 hc55
        have hH55 : Chg [] w2 w55 := hH54.trans hc55 (by simp; omega)
        refine hK.out _ _ hH55 (fun _ => ?_)
        try simp only [Act.put, Sa, Sb, Sc, Sd, Se, Sf]
        refine wpAnyH_done (by kernel_rfl) ?_ _
        go_wp2_with fail
        go_meet
        exact ⟨gH54, rfl, kbH55, by omega, hH55⟩
      · rw [if_pos (by rfl)]
        refine op_alloc 28 4 (by kernel_rfl) (by kernel_rfl) hzH ?_
        have kbH56 := Blk.new (w52) zh 28
        have hH56 := hH52.alloc (.cells zh 28)
        have hgeH56 := hH52.size
        obtain ⟨gH56, hgg56⟩ : ∃ g, g = (w52).heap.size := ⟨_, rfl⟩
        rw [← hgg56] at kbH56 hgeH56 ⊢
        generalize (w52).alloc (.cells zh 28) = w56 at hH56 kbH56 ⊢
        clear hgg56
        refine hK.out _ _ hH56 (fun _ => ?_)
        try simp only [Act.put, Sa, Sb, Sc]
        refine RD 5 rfl (fun K hK => ?_)
        try rw [if_pos (by rfl)]
        go_simp
        go_at_call 12
        refine (hmade _ hH56).mono ?_
        rintro e57 w57 ⟨rfl, hc57⟩
        dsimp only
        have hH57 := hH56.trans hc57 (by simp)
        have kbH57 := kbH56.chg hc57 (by simp)
        refine hK.out _ _ hH57 (fun _ => ?_)
        try simp only [Act.put, Sa, Sb, Sc, Sd, Se, Sf]
        refine RD 7 rfl (fun K hK => ?_)
        rw [if_pos (by rfl)]
        refine op_store 28 (.tmp 4) (.tmp 18) (by kernel_rfl) (by kernel_rfl) rfl (cs := h1l) rfl kbH57 (by simp [hzs, hs1]) (infoHd3 hs1) (by exact ho1) ?_
        intro w58 kbH58 hc58
        have hH58 : Chg [] w2 w58 := hH57.trans hc58 (by simp; omega)
        refine hK.out _ _ hH58 (fun _ => ?_)
        try simp only [Act.put, Sa, Sb, Sc, Sd, Se, Sf]
        refine wpAnyH_done (by kernel_rfl) ?_ _
        go_wp2_with fail
        go_meet
        exact ⟨gH56, rfl, kbH58, by omega, hH58⟩
    · rw [if_pos (by rfl)]
      refine op_alloc 28 4 (by kernel_rfl) (by kernel_rfl) hzH ?_
      have kbH59 := Blk.new (wd51) zh 28
      have hH59 := hH51.alloc (.cells zh 28)
      have hgeH59 := hH51.size
      obtain ⟨gH59, hgg59⟩ : ∃ g, g = (wd51).heap.size := ⟨_, rfl⟩
      rw [← hgg59] at kbH59 hgeH59 ⊢
      generalize (wd51).alloc (.cells zh 28) = w59 at hH59 kbH59 ⊢
      clear hgg59
      refine hK.out _ _ hH59 (fun _ => ?_)
      try simp only [Act.put, Sa, Sb, Sc]
      refine RD 1 rfl (fun K hK => ?_)
      try rw [if_pos (by rfl)]
      go_simp
      go_at_call 22
      refine (htree _ hH59).mono ?_
      rintro e60 w60 ⟨rfl, hc60⟩
      dsimp only
      have hH60 := hH59.trans hc60 (by simp)
      have kbH60 := kbH59.chg hc60 (by simp)
      refine hK.out _ _ hH60 (fun _ => ?_)
      try simp only [Act.put, Sa, Sb, Sc, Sd, Se, Sf]
      refine RD 5 rfl (fun K hK => ?_)
      try rw [if_pos (by rfl)]
      go_simp
      go_at_call 12
      refine (hmade _ hH60).mono ?_
      rintro e61 w61 ⟨rfl, hc61⟩
      dsimp only
      have hH61 := hH60.trans hc61 (by simp)
      have kbH61 := kbH60.chg hc61 (by simp)
      refine hK.out _ _ hH61 (fun _ => ?_)
      try simp only [Act.put, Sa, Sb, Sc, Sd, Se, Sf]
      refine RD 7 rfl (fun K hK => ?_)
      rw [if_pos (by rfl)]
      refine op_store 28 (.tmp 4) (.tmp 18) (by kernel_rfl) (by kernel_rfl) rfl (cs := h1l) rfl kbH61 (by simp [hzs, hs1]) (infoHd3 hs1) (by exact ho1) ?_
      intro w62 kbH62 hc62
      have hH62 : Chg [] w2 w62 := hH61.trans hc62 (by simp; omega)
      refine hK.out _ _ hH62 (fun _ => ?_)
      try simp only [Act.put, Sa, Sb, Sc, Sd, Se, Sf]
      refine wpAnyH_done (by kernel_rfl) ?_ _
      go_wp2_with fail
      go_meet
      exact ⟨gH59, rfl, kbH62, by omega, hH62⟩
  case rest =>
    obtain ⟨gH, rfl, bH, hgH, k3⟩ := hcut
    have bR := bR.chg k3 (by simp)
    have hHl := bH.lt
    have hs2 := k2.size
    have ldH := load_blkC bH 68 (by simpa using hs1)
    go_wp2_with fail
    refine (hbytes _).mono ?_
    rintro e w3 ⟨v, rfl, hrow, k4⟩
    rw [← hlb] at hrow
    obtain ⟨g, cap, rfl, hgl, hgw, hbt, hcap⟩ := bytesAt_row hrow (by omega) hb1
    rw [hlb] at *
    dsimp only
    have k34 := k3.trans k4 (by simp)
    have hrel3 : RelAt w3 rb x T0 0 := ⟨hRel.blk.chg k34 (by simp), hRel.t.chg okT0 k34⟩
    go_wp2_with fail
    refine (submit13 rb g 0 cap x w3 hrel3 hrx hbt hgw).mono ?_
    rintro e w4 ⟨rfl, y, hyx, hrel4, k5⟩
    dsimp only
    have hltx := TreeAt.all_lt hRel.t
    have hltr := hRel.blk.lt
    have hSR : gR ∉ rb :: x.all := by
      simp only [List.mem_cons, not_or]
      exact ⟨by omega, fun hb => by have := hlx _ hb; omega⟩
    have hSH : gH ∉ rb :: x.all := by
      simp only [List.mem_cons, not_or]
      exact ⟨by omega, fun hb => by have := hltx _ hb; omega⟩
    have bR := (bR.chg k4 (by simp)).chg k5 hSR
    have bH := (bH.chg k4 (by simp)).chg k5 hSH
    have k05 : Chg [] w w4 := ((k12.trans k34 (by simp)).trans k5 (fun t ht => .inr (by
      simp only [List.mem_cons] at ht
      rcases ht with rfl | ht
      · omega
      · have := hlx _ ht; omega)))
    have hk32 : (bytesV (hdH h1c)).length = 32 := by simp [bytesV_len, hdH_len]
    have t32 := tc_32 _ hk32 (.int .i64 1) (.bool true) (.int .i64 0)
    have t33 := tc_33 _ hk32 (.int .i64 1) (.bool true) (.int .i64 0)
    have tsz : (bytesV (hdH h1c) ++ [Value.int .i64 1, Value.bool true, Value.int .i64 0]).toArray.size = 35 := by simp [hk32]
    have tone : (bytesV (hdH h1c) ++ [Value.int .i64 1, Value.bool true, Value.int .i64 0]).toArray.all (·.oneCell') = true := by
      rw [Array.all_eq_true_iff_forall_mem]
      intro v hv
      simp only [List.mem_toArray, List.mem_append, List.mem_cons, List.not_mem_nil, or_false] at hv
      rcases hv with hv | rfl | rfl | rfl
      · exact bytesV_one _ _ hv
      · rfl
      · rfl
      · rfl
    have hzT := zeroTold
    have hztz : (bytesV (List.replicate 32 0) ++ [Value.int .i64 0, Value.bool false, Value.int .i64 0]).toArray.size = 35 := by simp [bytesV_len]
    generalize (bytesV (hdH h1c) ++ [Value.int .i64 1, Value.bool true, Value.int .i64 0]).toArray = tk at *
    generalize (bytesV (List.replicate 32 0) ++ [Value.int .i64 0, Value.bool false, Value.int .i64 0]).toArray = zt at *
    have hst := run_storeCells_new (P := Tryz.prog) w4 67 zt tk (by rw [tsz]; exact infoTold) (by rw [tsz, hztz]) tone
    have bT := Blk.new w4 tk 67
    have bR := bR.alloc (.cells tk 67)
    have bH := bH.alloc (.cells tk 67)
    have k06 := k05.alloc (.cells tk 67)
    have hrel5 : RelAt (w4.alloc (.cells tk 67)) rb y (T1 [0, 1]) 0 := by
      have ka : Chg [] w4 (w4.alloc (.cells tk 67)) := (Chg.refl _ _).alloc _
      exact ⟨hrel4.blk.chg ka (by simp), hrel4.t.chg okA2 ka⟩
    go_upto_region 5 with fail
    generalize hgT : w4.heap.size = gT at *
    generalize w4.alloc (.cells tk 67) = w5 at *
    clear hst hzT hgT ldH
    have cR3 := bR.cell 3 c3
    have cT32 := bT.cell 32 t32
    have cT33 := bT.cell 33 t33
    have ldH := load_blkC bH 68 (by simpa using hs1)
    clear hzH hbs hrules hnew
    go_wp2_with fail
    refine (hhash1 _).mono ?_
    rintro e w6 ⟨rfl, k6⟩
    dsimp only
    have hrel6 : RelAt w6 rb y (T1 [0, 1]) 0 := ⟨hrel5.blk.chg k6 (by simp), hrel5.t.chg okA2 k6⟩
    go_wp2_with fail
    refine (hc1 rb y w6 hrel6).mono ?_
    rintro e w7 ⟨rfl, k7⟩
    dsimp only
    have hrel7 : RelAt w7 rb y (T1 [0, 1]) 0 := ⟨hrel6.blk.chg k7 (by simp), hrel6.t.chg okA2 k7⟩
    have bR := (bR.chg k6 (by simp)).chg k7 (by simp)
    have ldR2 := load_part bR 4 68 hs0 hp4
    have k07 := (k06.trans k6 (by simp)).trans k7 (by simp)
    go_wp2_with fail
    refine (hhash0 _).mono ?_
    rintro e w8 ⟨rfl, k8⟩
    dsimp only
    have hrel8 : RelAt w8 rb y (T1 [0, 1]) 0 := ⟨hrel7.blk.chg k8 (by simp), hrel7.t.chg okA2 k8⟩
    go_wp2_with fail
    refine (hc0 rb y w8 hrel8).mono ?_
    rintro e w9 ⟨rfl, k9⟩
    dsimp only
    have k09 := (k07.trans k8 (by simp)).trans k9 (by simp)
    go_wp2
    go_ret
    exact ⟨rfl, k09⟩
end Go.Proofs.YtmkgbinmilcojaaGreat

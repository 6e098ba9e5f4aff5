/- pontagelaw13.RelayDepths. Printed by depths13gen.py. -/
import Derived.Test.YtmkgbinmilcojaaGreatLives13
import Derived.Test.YtmkgbinmilcojaaGreatMadeSt
import Derived.Test.YtmkgbinmilcojaaGreatLines13
import Derived.Test.YtmkgbinmilcojaaGreatExR
namespace Go.Proofs.YtmkgbinmilcojaaGreat
open Go.RowKit Go.Maps Go.Shelf
attribute [-go_sem] loadCellsFrom Instr.build Instr.buildSlice

set_option maxRecDepth 100000 in
set_option maxHeartbeats 16000000 in
theorem law13_RelayDepths (ev : Int) (sp : Nat) (hsp : sp < 4294967296) (vl : Value) (w : World) (hl0 : ∃ n, n ≤ maxLen ∧ Steps12 w vl n) :
    Calls Tryz.prog 5 #[.int .i64 ev, .int .u32 (sp : Int), vl] w fun e w' => e = .returned (.bool true) ∧ Chg [] w w' := by
  obtain ⟨n, hnM, hl0⟩ := hl0
  have hl := hl0
  obtain ⟨va, vcap, rfl⟩ := hl.len
  obtain ⟨iH, hiH, hz0, hz1, hz2⟩ := info_partsB infoHeadA
  have hlives := law13_lives
  have hrules := law12_RulesG ev 1 sp hsp
  obtain ⟨r, hr⟩ : ∃ r, r = rG (ev % 18446744073709551616).toNat sp ((1 : Int) % 18446744073709551616).toNat := ⟨_, rfl⟩
  have okr : RlOk r := by rw [hr]; exact rG_ok _ _ _
  have ckr : checkR r = 0 := by rw [hr]; exact rG_ck _ _ _
  have I0 : TrInv (newT r) := by rw [hr]; exact rG_inv _ _ _
  have hfi : r.fi = h0c := by rw [hr]; rfl
  rw [← hr] at hrules
  clear hr
  have hnew := relay_New r okr
  rw [ckr] at hnew
  have hrs : r.cs.size = 72 := Rl.size okr
  have hro := Rl.one r
  have hzR := zeroRl
  have hzS := zeroStep
  have hzH := zeroHd
  have hp4 : ∀ (j : Nat) (v : Value), r.fi.cs[j]? = some v → r.cs[4 + j]? = some v := Rl.part r
  rw [hfi] at hp4
  have hs0 : h0c.cs.size = 68 := Hd.size ok0c
  have hbs0 := run_build_head h0c.cs hs0
  have hzs : hd0.cs.size = 68 := Hd.size hd0_ok
  generalize hc0 : h0c.cs = c0 at *
  have hz4 : zStep.size = 4 := rfl
  generalize zStep = zS at *
  obtain ⟨cr, hcr⟩ : ∃ cr, cr = r.cs := ⟨_, rfl⟩
  rw [← hcr] at hrs hro hp4
  simp only [← hcr] at hrules hnew
  have hcr' := Lib.hid hcr
  clear hcr
  go_enter Tryz.func5, Tryz.ntmps5
  go_wp2_with fail
  refine (hlives _).mono ?_
  rintro e w1 ⟨rfl, k1⟩
  dsimp only
  by_cases hn : 30 < n
  · have d1 : decide ((30 : Int) < n) = true := by simp; omega
    go_wp2_with fail
    refine (hlives _).mono ?_
    rintro e w2 ⟨rfl, k2⟩
    dsimp only
    go_wp2
    go_ret
    exact ⟨rfl, k1.trans k2 (by simp)⟩
  have d1 : decide ((30 : Int) < n) = false := by simp; omega
  go_wp2_with fail
  refine (hrules _).mono ?_
  rintro e w2 ⟨rfl, k2⟩
  dsimp only
  have k02 := k1.trans k2 (by simp)
  clear hlives hrules k1 k2
  have hst := run_storeCells_new (P := Tryz.prog) w2 30 (Rl.cs ⟨0, 0, 0, 0, hd0⟩) cr (by rw [hrs]; exact infoRl) (by rw [hrs]; rfl) hro
  have bR := Blk.new w2 cr 30
  have ldR := load_blkC bR 72 hrs
  have k03 := k02.alloc (.cells cr 30)
  obtain ⟨gR, hgR⟩ : ∃ gR, gR = w2.heap.size := ⟨_, rfl⟩
  have hgRl : w.heap.size ≤ gR := by rw [hgR]; exact k02.size
  go_upto_region 4 with fail
  rw [← hgR] at bR ldR ⊢
  clear hst hzR hgR
  generalize w2.alloc (.cells cr 30) = w3 at *
  go_wp2_with fail
  refine (hnew _).mono ?_
  rintro e w4 ⟨k4, ⟨hne, _⟩ | ⟨_, rb, x, rfl, hRel, hlr, hlx, hrx⟩⟩
  · exact absurd rfl hne
  dsimp only
  have bR4 := bR.chg k4 (by simp)
  have k04 := k03.trans k4 (by simp)
  have ldH := load_part bR4 4 68 hs0 hp4
  have hs3 := k03.size
  have hb5 := Blk.new w4 c0 28
  have k05 := k04.alloc (.cells c0 28)
  have ka : Chg [] w4 (w4.alloc (.cells c0 28)) := (Chg.refl _ _).alloc _
  have hRel5 : RelAt (w4.alloc (.cells c0 28)) rb x (newT r) 0 := ⟨hRel.blk.chg ka (by simp), hRel.t.chg I0.ok ka⟩
  have hrow5 : TrS w.heap.size (w4.alloc (.cells c0 28)) (.slice (some ⟨w4.heap.size, 0, none⟩) 1 1) [h0c] := by
    refine ⟨⟨rfl, .inr ⟨w4.heap.size, 1, c0, rfl, k04.size, hb5, ?_, ?_, ?_, ?_⟩⟩, ?_⟩
    · simp
    · unfold maxLen; omega
    · rw [hs0]
    · have e : c0.toList = h0c.l := by rw [← hc0]; rfl
      have e2 : h0c.l.length = 68 := Hd.ls ok0c
      rw [e]
      simp only [List.map_cons, List.map_nil, List.length_cons, List.length_nil, List.flatten_cons, List.flatten_nil, List.append_nil]
      exact List.take_of_length_le (by omega)
    · intro u hu
      simp only [List.map_cons, List.map_nil, List.mem_singleton] at hu
      rw [hu]; exact Hd.ls ok0c
  have hg5 : ∀ b, b = w4.heap.size → b ≠ rb ∧ b ∉ x.all := by
    rintro b rfl
    have h1 := hRel.blk.lt
    have h2 := TreeAt.all_lt hRel.t
    exact ⟨by omega, fun h => by have := h2 _ h; omega⟩
  have hlx0 : ∀ b ∈ x.all, w.heap.size ≤ b := fun b hb => by have := hlx b hb; omega
  have hlr0 : w.heap.size ≤ rb := by omega
  go_upto_region 6 with fail
  clear ldH bR4 bR ldR hb5 ka hRel k04 k03 k02 hbs0 hrs hro hlx hlr
  generalize w4.alloc (.cells c0 28) = w5 at *
  generalize w4.heap.size = g5 at *
  go_wp2_with fail
  go_loopw [10, 41] (fun s10 s41 wr => ∃ (v : Value) (i : Nat) (L : List Hd) (T : Tr) (y : Lt) (d : Nat), v = s10 ∧ i ≤ n ∧ s41 = .int .i64 i ∧ L.length = i + 1 ∧ (∀ h ∈ L, HdOk h) ∧ TrS w.heap.size wr v L ∧ TrInv T ∧ RelAt wr rb y T d ∧ (∀ b ∈ y.all, w.heap.size ≤ b) ∧ rb ∉ y.all ∧ (∀ b, v.ownBlock = some b → b ≠ rb ∧ b ∉ y.all) ∧ Chg [] w wr) (fun _ s41 _ => n - (intOf s41).toNat)
  case atStart => exact ⟨_, 0, [h0c], newT r, x, 0, rfl, Nat.zero_le _, rfl, rfl, by simpa using ok0c, hrow5, I0, hRel5, hlx0, hrx, fun b hb => hg5 b (by cases hb; rfl), k05⟩
  case round =>
    obtain ⟨v, i, L, T, y, d, rfl, hi, rfl, hLl, hLo, hTr, I, hRel, hly, hry, hown, kr⟩ := hrel
    clear hRel5 hrow5 hg5 hlx0 k05 I0 hrx
    by_cases hlt : i < n
    · obtain ⟨b, off, K, an, late, root, hroot, rfl, c0', c1', c2', c3'⟩ := (hl.chg kr).at hlt
      have hldS : (loadCellsFrom ⟨b, off + i * 4, none⟩ 0 4 #[]).run Tryz.prog wr = .ok #[.int .i64 K, .int .i64 an, .int .i32 late, .int .u8 (root : Int)] wr := by
        have := run_loadCells_list (P := Tryz.prog) wr ⟨b, off + i * 4, none⟩ [.int .i64 K, .int .i64 an, .int .i32 late, .int .u8 (root : Int)] (fun j u hj => by
          rw [addr_ad]
          match j, hj with
          | 0, hj => cases hj; exact c0'
          | 1, hj => cases hj; exact c1'
          | 2, hj => cases hj; exact c2'
          | 3, hj => cases hj; exact c3'
          | j + 4, hj => simp at hj)
        simpa [loadCells] using this
      clear c0' c1' c2' c3'
      obtain ⟨S, hS⟩ : ∃ S : Array Value, S = #[.int .i64 K, .int .i64 an, .int .i32 late, .int .u8 (root : Int)] := ⟨_, rfl⟩
      have hS4 : S.size = 4 := by rw [hS]; rfl
      have hSo : S.all (·.oneCell') = true := by rw [hS]; simp [Value.oneCell']
      have hS1 : S[1]? = some (.int .i64 an) := by rw [hS]; rfl
      rw [← hS] at hldS
      have hS' := Lib.hid hS
      clear hS
      have hst := run_storeCells_new (P := Tryz.prog) wr 46 zS S (by rw [hS4]; exact infoStep) (by rw [hS4, hz4]) hSo
      have bS := Blk.new wr S 46
      have ka : Chg [] wr (wr.alloc (.cells S 46)) := (Chg.refl _ _).alloc _
      go_upto_region 9 with fail
      have k9 := kr.trans ka (by simp)
      have hTr9 : TrS w.heap.size _ v L := hTr.chg0 ka
      have hRel9 : RelAt _ rb y T d := ⟨hRel.blk.chg ka (by simp), hRel.t.chg I.ok ka⟩
      clear hst hldS ka hTr hRel kr
      generalize wr.alloc (.cells S 46) = w9 at *
      generalize wr.heap.size = gS at *
      obtain ⟨ta, tcap, rfl⟩ := hTr9.len'
      rw [List.length_map] at hTr9 hown ⊢
      obtain ⟨ln, hln⟩ : ∃ ln, ln = L.length := ⟨_, rfl⟩
      rw [← hln] at hTr9 hown hLl ⊢
      obtain ⟨A, hA⟩ : ∃ A : Nat, IntKind.u64.wrap an = (A : Int) := ⟨(an % 18446744073709551616).toNat, by rw [IntKind.wrap_u64]; omega⟩
      obtain ⟨j, hj⟩ : ∃ j, j = A % ln := ⟨_, rfl⟩
      have hjl : j < ln := by rw [hj]; exact Nat.mod_lt _ (by omega)
      have e8 : IntKind.u64.wrap (ln : Int) = (ln : Int) := by rw [IntKind.wrap_u64]; omega
      have e9 : Int.tmod (A : Int) (ln : Int) = (j : Int) := by rw [Int.tmod_eq_emod_of_nonneg (by omega), hj]; exact (Int.natCast_emod A ln).symm
      have e10 : IntKind.u64.wrap (j : Int) = (j : Int) := by rw [IntKind.wrap_u64]; omega
      have e11 : IntKind.i64.wrap (j : Int) = (j : Int) := by rw [IntKind.wrap_i64]; omega
      have nz : ((ln : Int) == 0) = false := by simp; omega
      obtain ⟨gT, cT, rfl, hgT, bT, hcT⟩ := hTr9.elem (i := j) (by rw [List.length_map]; omega)
      have hjL : j < L.length := by omega
      rw [List.getElem_map] at hcT
      have aok := get_ok hLo j hjL
      obtain ⟨a, ha⟩ : ∃ a, a = L[j] := ⟨_, rfl⟩
      rw [← ha] at hcT aok
      obtain ⟨m, hm⟩ : ∃ m, m = madeN (hdH a) K (tmL a.tm late) root (T.bitsOf (hdH a)).1 := ⟨_, rfl⟩
      have mok : HdOk m := by rw [hm]; exact madeN_ok (HK_hash a) K (tmL_lt _ _) hroot (bitsOf_lt I.ok _)
      have hmade : ∀ w', Chg [] w9 w' → Calls Tryz.prog 12 #[.pointer (some ⟨y.b, 0, none⟩), .agg a.l.toArray, .agg S] w' fun e w'' => e = .returned (.agg m.l.toArray) ∧ Chg [] w' w'' := fun w' k => by
        have := law12_Made y T I a aok K an late root hroot (bitsOf_lt I.ok _) w' (hRel9.t.chg I.ok k)
        rw [← hm, ← hS'.out] at this
        exact this
      have htree : ∀ w', Chg [] w9 w' → Calls Tryz.prog 22 #[.pointer (some ⟨rb, 0, none⟩)] w' fun e w'' => e = .returned (.pointer (some ⟨y.b, 0, none⟩)) ∧ Chg [] w' w'' := fun w' hk =>
        relay_Tree rb y T I.ok.r d w' ⟨hRel9.blk.chg hk (by simp), hRel9.t.chg I.ok hk⟩
      have hajs : a.l.toArray.size = 68 := by simpa using Hd.ls aok
      have hms : m.l.length = 68 := Hd.ls mok
      have hmo := Hd.ones m
      have hbs := run_build_head m.l.toArray (by simpa using hms)
      have hbytes := header_Bytes m mok
      change ∀ w, Calls Tryz.prog 24 #[.agg m.l.toArray] w _ at hbytes
      obtain ⟨zh, hzh⟩ : ∃ zh, zh = hd0.cs := ⟨_, rfl⟩
      have hzsz : zh.size = 68 := by rw [hzh]; exact hzs
      have hzH' : ∀ w, (zeroValue 28).run Tryz.prog w = .ok (.agg zh) w := by rw [hzh]; exact hzH
      have hzh' := Lib.hid hzh
      have hgS : gS < w9.heap.size := bS.lt
      have hln0 : ¬ ln = 0 := by omega
      have hln31 : ln ≤ 31 := by omega
      have hLl' := Lib.hid hLl
      have hln' := Lib.hid hln
      clear hLl hln
      have hh9 := k9.size
      clear hzh hj hm ha hjL hzH
      obtain ⟨aj, haj⟩ : ∃ aj, aj = a.l := ⟨_, rfl⟩
      rw [← haj] at hajs hcT
      simp only [← haj] at hmade
      clear haj
      obtain ⟨ml, hml⟩ : ∃ ml, ml = m.l := ⟨_, rfl⟩
      rw [← hml] at hms hmo
      simp only [← hml] at hmade hbs hbytes
      have hml' := Lib.hid hml
      clear hml
      obtain ⟨yb, hyb⟩ : ∃ yb, yb = y.b := ⟨_, rfl⟩
      simp only [← hyb] at hmade htree
      have hyb' := Lib.hid hyb
      clear hyb
      go_cut [13] (fun s13 wx => ∃ gH, s13 = .pointer (some ⟨gH, 0, none⟩) ∧ Blk wx gH ml.toArray 28 ∧ w9.heap.size ≤ gH ∧ Chg [] w9 wx)
      case first =>
        refine wp_region_held_drew (S := fun w' => Chg [] w9 w') (by kernel_rfl) ((Chg.refl _ _).drew) (fun hH51 => ?_)
        obtain ⟨wd51, hwd51⟩ : ∃ wd, wd = (w9).drew := ⟨_, rfl⟩
        rw [← hwd51] at hH51 ⊢
        clear hwd51
        refine TK 0 (.pointer (some ⟨rb, 0, none⟩)) rfl hH51 (fun w' hw' => ?_) ?_
        · go_simp
        try simp only [Act.put, Sa, Sb, Sc, Sd, Sf]
        refine TK 2 (.slice (some ⟨gT, 0, none⟩) ln tcap) rfl hH51 (fun w' hw' => ?_) ?_
        · go_simp
        try simp only [Act.put, Sa, Sb, Sc, Sd, Se, Sf]
        refine TK 3 (.pointer (some ⟨gS, 1, none⟩)) rfl hH51 (fun w' hw' => ?_) ?_
        · go_simp
        try simp only [Act.put, Sa, Sb, Sc, Sd, Se, Sf]
        refine TK 4 (.int .i64 an) rfl hH51 (fun w' hw' => ?_) ?_
        · (have k9 := bS.chg hw' (by simp); have c0 := k9.cell 1 hS1; go_simp)
        try simp only [Act.put, Sa, Sb, Sc, Sd, Se, Sf]
        refine TK 5 (.int .u64 (A : Int)) rfl hH51 (fun w' hw' => ?_) ?_
        · (rw [← hA]; go_simp)
        try simp only [Act.put, Sa, Sb, Sc, Sd, Se, Sf]
        refine TK 6 (.slice (some ⟨gT, 0, none⟩) ln tcap) rfl hH51 (fun w' hw' => ?_) ?_
        · go_simp
        try simp only [Act.put, Sa, Sb, Sc, Sd, Se, Sf]
        refine TK 7 (.int .i64 (ln : Int)) rfl hH51 (fun w' hw' => ?_) ?_
        · go_simp
        try simp only [Act.put, Sa, Sb, Sc, Sd, Se, Sf]
        refine TK 8 (.int .u64 (ln : Int)) rfl hH51 (fun w' hw' => ?_) ?_
        · go_simp
        try simp only [Act.put, Sa, Sb, Sc, Sd, Se, Sf]
        refine TK 9 (.int .u64 (j : Int)) rfl hH51 (fun w' hw' => ?_) ?_
        · go_simp
        try simp only [Act.put, Sa, Sb, Sc, Sd, Se, Sf]
        refine TK 10 (.int .i64 (j : Int)) rfl hH51 (fun w' hw' => ?_) ?_
        · go_simp
        try simp only [Act.put, Sa, Sb, Sc, Sd, Se, Sf]
        refine TK 11 (.pointer (some ⟨gT, j * 68, none⟩)) rfl hH51 (fun w' hw' => ?_) ?_
        · go_simp
        try simp only [Act.put, Sa, Sb, Sc, Sd, Se, Sf]
        refine TK 12 (.agg aj.toArray) rfl hH51 (fun w' hw' => ?_) ?_
        · (have k9 := bT.chg hw' (by simp); have l0 := load_part k9 (j * 68) 68 hajs hcT; go_simp)
        try simp only [Act.put, Sa, Sb, Sc, Sd, Se, Sf]
        refine TK 13 (.agg S) rfl hH51 (fun w' hw' => ?_) ?_
        · (have k9 := bS.chg hw' (by simp); have l0 := load_blkC k9 4 hS4; go_simp)
        try simp only [Act.put, Sa, Sb, Sc, Sd, Se, Sf]
        refine RD2 1 15 rfl rfl (fun K hK => ?_) (fun K hK => ?_)
        · try rw [if_pos (by rfl)]
          go_simp
          go_at_call 22
          refine (htree _ hH51).mono ?_
          rintro e52 w52 ⟨rfl, hc52⟩
          dsimp only
          have hH52 := hH51.trans hc52 (by simp)
          refine hK.out _ _ hH52 (fun _ => ?_)
          try simp only [Act.put, Sa, Sb, Sc, Sd, Se, Sf]
          refine RD2 14 15 rfl rfl (fun K hK => ?_) (fun K hK => ?_)
          · try rw [if_pos (by rfl)]
            go_simp
            go_at_call 12
            refine (hmade _ hH52).mono ?_
            rintro e53 w53 ⟨rfl, hc53⟩
            dsimp only
            have hH53 := hH52.trans hc53 (by simp)
            refine hK.out _ _ hH53 (fun _ => ?_)
            try simp only [Act.put, Sa, Sb, Sc, Sd, Se, Sf]
            refine RD 15 rfl (fun K hK => ?_)
            rw [if_pos (by rfl)]
            refine op_alloc 28 13 (by kernel_rfl) (by kernel_rfl) hzH' ?_
            have kbH54 := Blk.new (w53) zh 28
            have hH54 := hH53.alloc (.cells zh 28)
            have hgeH54 := hH53.size
            obtain ⟨gH54, hgg54⟩ : ∃ g, g = (w53).heap.size := ⟨_, rfl⟩
            rw [← hgg54] at kbH54 hgeH54 ⊢
            generalize (w53).alloc (.cells zh 28) = w54 at hH54 kbH54 ⊢
            clear hgg54
            refine hK.out _ _ hH54 (fun _ => ?_)
            try simp only [Act.put, Sa, Sb, Sc]
            refine RD 16 rfl (fun K hK => ?_)
            rw [if_pos (by rfl)]
            refine op_store 28 (.tmp 13) (.tmp 59) (by kernel_rfl) (by kernel_rfl) rfl (cs := ml) rfl kbH54 (by simp [hzsz, hms]) (infoHd3 hms) (by exact hmo) ?_
            intro w55 kbH55 hc55
            have hH55 : Chg [] w9 w55 := hH54.trans hc55 (by simp; omega)
            refine hK.out _ _ hH55 (fun _ => ?_)
            try simp only [Act.put, Sa, Sb, Sc, Sd, Se, Sf]
            refine wpAnyH_done (by kernel_rfl) ?_ _
            go_wp2_with fail
            go_meet
            exact ⟨gH54, rfl, kbH55, by omega, hH55⟩
          · rw [if_pos (by rfl)]
            refine op_alloc 28 13 (by kernel_rfl) (by kernel_rfl) hzH' ?_
            have kbH56 := Blk.new (w52) zh 28
            have hH56 := hH52.alloc (.cells zh 28)
            have hgeH56 := hH52.size
            obtain ⟨gH56, hgg56⟩ : ∃ g, g = (w52).heap.size := ⟨_, rfl⟩
            rw [← hgg56] at kbH56 hgeH56 ⊢
            generalize (w52).alloc (.cells zh 28) = w56 at hH56 kbH56 ⊢
            clear hgg56
            refine hK.out _ _ hH56 (fun _ => ?_)
            try simp only [Act.put, Sa, Sb, Sc]
            refine RD 14 rfl (fun K hK => ?_)
            try rw [if_pos (by rfl)]
            go_simp
            go_at_call 12
            refine (hmade _ hH56).mono ?_
            rintro e57 w57 ⟨rfl, hc57⟩
            dsimp only
            have hH57 := hH56.trans hc57 (by simp)
            have kbH57 := kbH56.chg hc57 (by simp)
            refine hK.out _ _ hH57 (fun _ => ?_)
            try simp only [Act.put, Sa, Sb, Sc, Sd, Se, Sf]
            refine RD 16 rfl (fun K hK => ?_)
            rw [if_pos (by rfl)]
            refine op_store 28 (.tmp 13) (.tmp 59) (by kernel_rfl) (by kernel_rfl) rfl (cs := ml) rfl kbH57 (by simp [hzsz, hms]) (infoHd3 hms) (by exact hmo) ?_
            intro w58 kbH58 hc58
            have hH58 : Chg [] w9 w58 := hH57.trans hc58 (by simp; omega)
            refine hK.out _ _ hH58 (fun _ => ?_)
            try simp only [Act.put, Sa, Sb, Sc, Sd, Se, Sf]
            refine wpAnyH_done (by kernel_rfl) ?_ _
            go_wp2_with fail
            go_meet
            exact ⟨gH56, rfl, kbH58, by omega, hH58⟩
        · rw [if_pos (by rfl)]
          refine op_alloc 28 13 (by kernel_rfl) (by kernel_rfl) hzH' ?_
          have kbH59 := Blk.new (wd51) zh 28
          have hH59 := hH51.alloc (.cells zh 28)
          have hgeH59 := hH51.size
          obtain ⟨gH59, hgg59⟩ : ∃ g, g = (wd51).heap.size := ⟨_, rfl⟩
          rw [← hgg59] at kbH59 hgeH59 ⊢
          generalize (wd51).alloc (.cells zh 28) = w59 at hH59 kbH59 ⊢
          clear hgg59
          refine hK.out _ _ hH59 (fun _ => ?_)
          try simp only [Act.put, Sa, Sb, Sc]
          refine RD 1 rfl (fun K hK => ?_)
          try rw [if_pos (by rfl)]
          go_simp
          go_at_call 22
          refine (htree _ hH59).mono ?_
          rintro e60 w60 ⟨rfl, hc60⟩
          dsimp only
          have hH60 := hH59.trans hc60 (by simp)
          have kbH60 := kbH59.chg hc60 (by simp)
          refine hK.out _ _ hH60 (fun _ => ?_)
          try simp only [Act.put, Sa, Sb, Sc, Sd, Se, Sf]
          refine RD 14 rfl (fun K hK => ?_)
          try rw [if_pos (by rfl)]
          go_simp
          go_at_call 12
          refine (hmade _ hH60).mono ?_
          rintro e61 w61 ⟨rfl, hc61⟩
          dsimp only
          have hH61 := hH60.trans hc61 (by simp)
          have kbH61 := kbH60.chg hc61 (by simp)
          refine hK.out _ _ hH61 (fun _ => ?_)
          try simp only [Act.put, Sa, Sb, Sc, Sd, Se, Sf]
          refine RD 16 rfl (fun K hK => ?_)
          rw [if_pos (by rfl)]
          refine op_store 28 (.tmp 13) (.tmp 59) (by kernel_rfl) (by kernel_rfl) rfl (cs := ml) rfl kbH61 (by simp [hzsz, hms]) (infoHd3 hms) (by exact hmo) ?_
          intro w62 kbH62 hc62
          have hH62 : Chg [] w9 w62 := hH61.trans hc62 (by simp; omega)
          refine hK.out _ _ hH62 (fun _ => ?_)
          try simp only [Act.put, Sa, Sb, Sc, Sd, Se, Sf]
          refine wpAnyH_done (by kernel_rfl) ?_ _
          go_wp2_with fail
          go_meet
          exact ⟨gH59, rfl, kbH62, by omega, hH62⟩
      case rest =>
        obtain ⟨gH, rfl, bH, hgH, k10⟩ := hcut
        have hTr10 := hTr9.chg0 k10
        have hRel10 : RelAt wc rb y T d := ⟨hRel9.blk.chg k10 (by simp), hRel9.t.chg I.ok k10⟩
        have k010 := k9.trans k10 (by simp)
        have hgT9 := bT.lt
        have hHs : ml.toArray.size = 68 := by simpa using hms
        have ldM := load_blkC bH 68 hHs
        have hs10 := k10.size
        clear hTr9 hRel9 bT bS hmade htree k9 k10 hcT
        generalize wc = w10 at *
        have hcells : ∀ (j : Nat) u, ml[j]? = some u → (w10.alloc (.cells ml.toArray 28)).cell? ((⟨w10.heap.size, 0, none⟩ : Addr).add j) = some u := fun j u hj => by
          rw [addr_ad, Nat.zero_add]; exact (Blk.new w10 ml.toArray 28).cell j (by simpa using hj)
        have hLn : (L.map Hd.l).length = ln := by rw [List.length_map, hln'.out]
        have hLn' := Lib.hid hLn
        have h010 := k010.size
        have hrow10 := hTr10.row
        have hrl := hTr10.len
        rw [hLn] at hrow10
        clear hLn hTr10
        obtain ⟨fl, hfl⟩ : ∃ fl, fl = (L.map Hd.l).flatten := ⟨_, rfl⟩
        rw [← hfl] at hrow10
        have hfl' := Lib.hid hfl
        clear hfl
        obtain ⟨hgT1, hgT2⟩ := hown gT rfl
        have hneH : gH ≠ gT := by omega
        go_wp2_with (at_builtin; go_loud (refine wpList_append_own_at _ rfl _ _ 44 rfl w.heap.size 28 iH (.agg hd0.cs) 68 80 Tryz.underlying44 hiH hz0 hz1 hz2 rfl (by decide) _ _ _ rfl (hrow10.alloc _) ⟨w10.heap.size, 0, none⟩ 1 1 ml rfl (by omega) hcells hmo (by unfold maxLen; omega) (by omega) (by simp; omega) ?_); intro v' w11 hown' hgrow hnil' hloc; obtain ⟨g', cap', rfl⟩ := ownsRow_succ hown'; have k11 : Chg [gT] w10 w11 := ((Chg.refl _ _).alloc _).grown hgrow (fun k e => .inl (by cases e; simp)); have bH11 := bH.chg k11 (by simpa using hneH); have ld11 := load_blkC bH11 68 hHs; have hg' : g' = gT ∨ g' = w10.heap.size + 1 := hloc.elim (fun h => .inl (Option.some.inj (show some g' = some gT from h))) (fun h => .inr (by have h2 : some g' = some _ := h; simpa using h2)); clear ldM hloc hnil' hgrow)
        have hg2 : g' ≠ rb ∧ g' ∉ y.all := by
          rcases hg' with rfl | rfl
          · exact ⟨hgT1, hgT2⟩
          · have h1 := hRel10.blk.lt
            have h2 := TreeAt.all_lt hRel10.t
            exact ⟨by omega, fun h => by have := h2 _ h; omega⟩
        have hLn2 : ((L ++ [m]).map Hd.l).length = ln + 1 := by simp [hln'.out]
        have hfl2 : ((L ++ [m]).map Hd.l).flatten = fl ++ ml := by rw [hfl'.out, hml'.out]; simp
        have hLo2 : ∀ h ∈ L ++ [m], HdOk h := fun h hh => by
          rcases List.mem_append.1 hh with h1 | h1
          · exact hLo h h1
          · rw [List.mem_singleton.1 h1]; exact mok
        have hT11 : TrS w.heap.size w11 (.slice (some ⟨g', 0, none⟩) (ln + 1) cap') (L ++ [m]) := ⟨by rw [hLn2, hfl2]; exact hown', fun u hu => by
          obtain ⟨h, hh, rfl⟩ := List.mem_map.1 hu
          exact Hd.ls (hLo2 h hh)⟩
        have hRel11 : RelAt w11 rb y T d := ⟨hRel10.blk.chg k11 (by simpa using hgT1.symm), hRel10.t.chgS (fun b hb => by simp; rintro rfl; exact hgT2 hb) k11⟩
        have k011 := k010.trans k11 (by simp; omega)
        have hLl2 : (L ++ [m]).length = i + 1 + 1 := by rw [List.length_append, ← hln'.out, hLl'.out]; rfl
        have hg11 : g' < w11.heap.size := hT11.lt rfl
        clear hown' hLn2 hfl2 hRel10 k010 k11 hcells hrow10 hrl bH hbs
        refine (hbytes _).mono ?_
        rintro e w12 ⟨v80, rfl, hrow80, k12⟩
        rw [← hdB_len mok] at hrow80
        obtain ⟨gB, capB, rfl, hgB, hgBl, hBt, hcapB⟩ := bytesAt_row hrow80 (by rw [hdB_len mok]; omega) (hdB_lt mok)
        rw [hdB_len mok] at hcapB ⊢
        dsimp only
        have hT12 := hT11.chg0 k12
        have hRel12 : RelAt w12 rb y T d := ⟨hRel11.blk.chg k12 (by simp), hRel11.t.chg I.ok k12⟩
        have k012 := k011.trans k12 (by simp)
        have hs12 := k12.size
        have hs012 := k012.size
        have hsub := relay_Submit rb gB 0 capB d y T I m mok w12 hRel12 hry hBt hgBl
        clear hrow80 hBt hT11 hRel11 k011 k12 ld11 bH11 hbytes
        go_wp2_with fail
        refine hsub.mono ?_
        rintro e w13 ⟨rfl, y', hyb2, hRel13, hry', hya, k13⟩
        dsimp only
        have hT13 := hT12.chg k13 (fun b hb e => by
          cases e
          rcases List.mem_cons.1 hb with h | h
          · exact hg2.1 h
          · exact hg2.2 h)
        have k013 := k012.trans k13 (fun b hb => by
          rcases List.mem_cons.1 hb with h | h
          · exact .inr (by omega)
          · exact .inr (hly _ h))
        have hly' : ∀ b ∈ y'.all, w.heap.size ≤ b := fun b hb => (hya b hb).elim (fun h => hly b h) (fun h => by omega)
        have hg13 : ∀ b, (Value.slice (some ⟨g', 0, none⟩) (ln + 1) cap').ownBlock = some b → b ≠ rb ∧ b ∉ y'.all := fun b hb => by
          cases hb
          exact ⟨hg2.1, fun h => (hya _ h).elim hg2.2 (fun h => by have h9 : w12.heap.size ≤ g' := h; omega)⟩
        have I13 : TrInv (T.add m).2 := I.add mok
        obtain ⟨T2, hT2⟩ : ∃ T2, T2 = (T.add m).2 := ⟨_, rfl⟩
        obtain ⟨d2, hd2⟩ : ∃ d2, d2 = T.deep m d := ⟨_, rfl⟩
        rw [← hT2] at I13 hRel13
        rw [← hd2] at hRel13
        generalize (T.told m).toArray = tl
        generalize (T.add m).1 = ae
        clear hT2 hd2 hsub hT12 hRel12 k012 hyb2 hya k13
        obtain ⟨L2, hL2⟩ : ∃ L2, L2 = L ++ [m] := ⟨_, rfl⟩
        rw [← hL2] at hT13 hLo2 hLl2
        clear hL2
        have hLl2' := Lib.hid hLl2
        clear hLl2
        go_wp2
        go_roundw
        case rel => exact ⟨_, i + 1, L2, T2, y', d2, rfl, by omega, by simp, hLl2'.out, hLo2, hT13, I13, hRel13, hly', hry', hg13, k013⟩
        case measure => simp [intOf]; omega
    · obtain rfl : i = n := by omega
      have hCd : ∀ (k : Nat) (h : k < T.line.length), T.depth T.line[k] = (T.line.length : Int) - k := fun k h => Tr.depth_line I.ok (List.getElem?_eq_getElem h)
      have hCo : ∀ x ∈ T.line, HK x := fun x hx => Tr.line_ok hx
      have hCn : ∀ x, x ∉ T.line → T.depth x = 0 := fun x hx => Tr.depth_out hx
      have hC0 : 0 < T.line.length := by rw [T.line_len]; exact I.ok.ch0
      have hCl : T.line.length ≤ 4096 := by rw [T.line_len]; exact I.ok.chl
      have hbd := Tr.depth_best I.ok
      have hkb := HK_best I.ok
      have hline := law13_line y T I.ok
      have hzK := zeroHash
      obtain ⟨ta, tcap, rfl⟩ := hTr.len'
      rw [List.length_map] at hTr hown ⊢
      have hL31 : L.length ≤ 31 := by omega
      clear hnew hown hly hry hl hl0 hLl hnM hn d1 hi hz0 hz1 hz2 hiH hp4 hs0 hzS hz4
      generalize T.line = C at *
      go_wp2_with fail
      refine (relay_Tree rb y T I.ok.r d wr hRel).mono ?_
      rintro e w14 ⟨rfl, k14⟩
      dsimp only
      have hRel14 : RelAt w14 rb y T d := ⟨hRel.blk.chg k14 (by simp), hRel.t.chg I.ok k14⟩
      have hTr14 := hTr.chg0 k14
      have k014 := kr.trans k14 (by simp)
      clear hRel hTr kr k14
      go_wp2_with fail
      refine (hline w14 hRel14.t).mono ?_
      rintro e w15 ⟨cv, rfl, hH15, k15⟩
      obtain ⟨ca, ccap, rfl⟩ := hH15.len'
      rw [List.length_map] at hH15 ⊢
      dsimp only
      have hRel15 : RelAt w15 rb y T d := ⟨hRel14.blk.chg k15 (by simp), hRel14.t.chg I.ok k15⟩
      have hTr15 := hTr14.chg0 k15
      have k015 := k014.trans k15 (by simp)
      clear hRel14 hTr14 k014 k15 hline
      go_wp2_with fail
      go_loopw [74] (fun s74 wq => ∃ k : Nat, k ≤ C.length ∧ s74 = .int .i64 k ∧ Chg [] w15 wq) (fun s74 _ => C.length - (intOf s74).toNat)
      case atStart => exact ⟨0, Nat.zero_le _, rfl, Chg.refl _ _⟩
      case round =>
        obtain ⟨k, hk, rfl, kq⟩ := hrel
        obtain ⟨wq, rfl⟩ : ∃ wq, wq = wr := ⟨_, rfl⟩
        have hHq : RowS w14.heap.size 26 32 wq (.slice ca C.length ccap) (C.map bytesV) := hH15.chg0 kq
        have hRelq : RelAt wq rb y T d := ⟨hRel15.blk.chg kq (by simp), hRel15.t.chg I.ok kq⟩
        have hTrq := hTr15.chg0 kq
        have k0q := k015.trans kq (by simp)
        clear hRel15 hTr15 k015 hH15
        by_cases hlt : k < C.length
        · obtain ⟨gC, rfl, hgC, hldC⟩ := hHq.load (i := k) (by simpa using hlt)
          rw [List.getElem_map] at hldC
          have ck : HK C[k] := hCo _ (List.getElem_mem hlt)
          have hes : (bytesV C[k]).toArray.size = 32 := by simp [bytesV_len, ck.1]
          have hst := run_storeCells_new (P := Tryz.prog) wq 26 z32 (bytesV C[k]).toArray (by rw [hes]; exact infoHash) (by rw [hes]; rfl) (bytesV_all _)
          have ka : Chg [] wq (wq.alloc (.cells (bytesV C[k]).toArray 26)) := (Chg.refl _ _).alloc _
          have hdep := relay_Depth rb y T I d C[k] ck (wq.alloc (.cells (bytesV C[k]).toArray 26)) ⟨hRelq.blk.chg ka (by simp), hRelq.t.chg I.ok ka⟩
          rw [hCd k hlt] at hdep
          unfold hv at hdep
          have bE := Blk.new wq (bytesV C[k]).toArray 26
          have hlE := load_blkC bE 32 hes
          have kqa := kq.trans ka (by simp)
          obtain ⟨D, hD⟩ : ∃ D, D = (C.length : Int) - k := ⟨_, rfl⟩
          have hwr : IntKind.i64.wrap ((C.length : Int) - k) = D := by rw [hD, IntKind.wrap_i64]; omega
          rw [← hD] at hdep
          have hCl' := Lib.hid hCl
          clear hCd hCo hCn hD ka hHq hTrq k0q hRelq kq
          generalize (bytesV C[k]).toArray = kc at *
          go_upto_region 17 with fail
          clear hst hldC
          generalize wq.alloc (.cells kc 26) = wa at *
          generalize wq.heap.size = ga at *
          go_wp2_with fail
          refine hdep.mono ?_
          rintro e wb ⟨rfl, kb⟩
          dsimp only
          have kqb := kqa.trans kb (by simp)
          clear hdep kb kqa hlE bE
          go_wp2
          go_roundw
          case rel => exact ⟨k + 1, by omega, by simp, kqb⟩
          case measure => simp [intOf]; omega
        · obtain rfl : k = C.length := by omega
          clear hCd
          go_wp2_with fail
          go_loopw [90] (fun s90 wp => ∃ k : Nat, k ≤ L.length ∧ s90 = .int .i64 k ∧ Chg [] wq wp) (fun s90 _ => L.length - (intOf s90).toNat)
          case atStart => exact ⟨0, Nat.zero_le _, rfl, Chg.refl _ _⟩
          case round =>
            obtain ⟨k, hk3, rfl, kp⟩ := hrel
            obtain ⟨wp, rfl⟩ : ∃ wp, wp = wr := ⟨_, rfl⟩
            have hHp : HsS w14.heap.size wp (.slice ca C.length ccap) C := hHq.chg0 kp
            have hRelp : RelAt wp rb y T d := ⟨hRelq.blk.chg kp (by simp), hRelq.t.chg I.ok kp⟩
            have hTrp : RowS w.heap.size 28 68 wp (.slice ta L.length tcap) (L.map Hd.l) := hTrq.chg0 kp
            have k0p := k0q.trans kp (by simp)
            clear hRelq hTrq hHq k0q
            by_cases hlt3 : k < L.length
            · have aok := get_ok hLo k hlt3
              obtain ⟨gL, rfl, hgL, hldL⟩ := hTrp.load (i := k) (by simpa using hlt3)
              rw [List.getElem_map] at hldL
              obtain ⟨a, ha⟩ : ∃ a, a = L[k] := ⟨_, rfl⟩
              rw [← ha] at aok hldL
              clear ha
              have has : a.l.toArray.size = 68 := by simpa using Hd.ls aok
              have hao : a.l.toArray.all (·.oneCell') = true := Hd.one a
              have hst := run_storeCells_new (P := Tryz.prog) wp 28 hd0.cs a.l.toArray (by rw [has]; exact infoHd) (by rw [has, hzs]) hao
              have ka : Chg [] wp (wp.alloc (.cells a.l.toArray 28)) := (Chg.refl _ _).alloc _
              have bE := Blk.new wp a.l.toArray 28
              have hlE := load_blkC bE 68 has
              have hhash := fun w => header_Hash a aok w
              change ∀ w, Calls Tryz.prog 27 #[.agg a.l.toArray] w _ at hhash
              have hxk := HK_hash a
              generalize hdH a = hx at *
              obtain ⟨al, hal⟩ : ∃ al, al = a.l.toArray := ⟨_, rfl⟩
              simp only [← hal] at hhash
              rw [← hal] at hldL has hst ka bE hlE
              clear hal hao
              have kpa := kp.trans ka (by simp)
              have k0a := k0p.trans ka (by simp)
              have hHa : HsS w14.heap.size _ (.slice ca C.length ccap) C := hHp.chg0 ka
              have hRela : RelAt _ rb y T d := ⟨hRelp.blk.chg ka (by simp), hRelp.t.chg I.ok ka⟩
              clear hTrp k0p
              go_upto_region 23 with fail
              clear hst hldL hHp hRelp ka
              obtain ⟨gE, hgE⟩ : ∃ g, g = wp.heap.size := ⟨_, rfl⟩
              rw [← hgE] at bE hlE ⊢
              clear hgE
              generalize wp.alloc (.cells al 28) = wa at *
              go_wp2_with fail
              refine (hhash _).mono ?_
              rintro e wb ⟨rfl, kb⟩
              dsimp only
              have hes : (bytesV hx).toArray.size = 32 := by simp [bytesV_len, hxk.1]
              have hst := run_storeCells_new (P := Tryz.prog) wb 26 z32 (bytesV hx).toArray (by rw [hes]; exact infoHash) (by rw [hes]; rfl) (bytesV_all _)
              have kc : Chg [] wa (wb.alloc (.cells (bytesV hx).toArray 26)) := kb.alloc _
              have bX := Blk.new wb (bytesV hx).toArray 26
              have hlX := load_blkC bX 32 hes
              have hHc : HsS w14.heap.size _ (.slice ca C.length ccap) C := hHa.chg0 kc
              have hRelc : RelAt _ rb y T d := ⟨hRela.blk.chg kc (by simp), hRela.t.chg I.ok kc⟩
              have hin := law13_in w14.heap.size (.slice ca C.length ccap) C hCo hx hxk _ hHc (by omega)
              have hdep := relay_Depth rb y T I d hx hxk
              have kpc := kpa.trans kc (by simp)
              unfold hv at hin hdep
              have hCm := hCn hx
              have hCm' := Lib.hid hCm
              have hCn' := Lib.hid hCn
              clear hCm hCn hHa hRela kb k0a hHc kc hhash hlE bE
              generalize hkc : (bytesV hx).toArray = kc at *
              go_upto_region 24 with fail
              clear hst
              obtain ⟨gX, hgX⟩ : ∃ g, g = wb.heap.size := ⟨_, rfl⟩
              rw [← hgX] at bX hlX ⊢
              clear hgX hkc
              generalize wb.alloc (.cells kc 26) = wc at *
              go_wp2_with fail
              refine hin.mono ?_
              rintro e wd ⟨rfl, kd⟩
              have bXd := bX.chg kd (by simp)
              have hlXd := load_blkC bXd 32 hes
              have kpd := kpc.trans kd (by simp)
              by_cases hmem : hx ∈ C
              · rw [decide_eq_true hmem]
                dsimp only
                clear hmem hdep hCm' bX hlX bXd kd hin
                go_wp2
                go_roundw
                case rel => exact ⟨k + 1, by omega, by simp, kpd⟩
                case measure => simp [intOf]; omega
              · rw [decide_eq_false hmem]
                dsimp only
                have hRd : RelAt wd rb y T d := ⟨hRelc.blk.chg kd (by simp), hRelc.t.chg I.ok kd⟩
                have hd0 := hdep wd hRd
                rw [hCm'.out hmem] at hd0
                clear hmem hdep hCm' bX hlX kd hin
                go_wp2_with fail
                refine hd0.mono ?_
                rintro e wf ⟨rfl, kf⟩
                dsimp only
                have kpf := kpd.trans kf (by simp)
                go_wp2
                go_roundw
                case rel => exact ⟨k + 1, by omega, by simp, kpf⟩
                case measure => simp [intOf]; omega
            · obtain rfl : k = L.length := by omega
              have dC : decide ((0 : Int) < (C.length : Int)) = true := by simp; omega
              go_wp2_with fail
              refine (relay_Tree rb y T I.ok.r d wp hRelp).mono ?_
              rintro e wa ⟨rfl, ka⟩
              dsimp only
              have hRela : RelAt wa rb y T d := ⟨hRelp.blk.chg ka (by simp), hRelp.t.chg I.ok ka⟩
              go_wp2_with fail
              refine (tree_Best y T I.ok wa hRela.t).mono ?_
              rintro e wb ⟨rfl, kb⟩
              dsimp only
              have hRelb : RelAt wb rb y T d := ⟨hRela.blk.chg kb (by simp), hRela.t.chg I.ok kb⟩
              have hdep := relay_Depth rb y T I d T.best hkb wb hRelb
              rw [hbd] at hdep
              unfold hv at hdep
              go_wp2_with fail
              refine hdep.mono ?_
              rintro e wc ⟨rfl, kc⟩
              dsimp only
              have kf := ((k0p.trans ka (by simp)).trans kb (by simp)).trans kc (by simp)
              go_wp2
              go_ret
              exact ⟨rfl, kf⟩
theorem law13_RelayDepths_ (ev sp : Int) (vl : Value) (w : World) (_ : (Lit.int .i64 ev).wf = true) (hs : (Lit.int .u32 sp).wf = true) (hl : ∃ n, n ≤ maxLen ∧ Steps12 w vl n) :
    Calls Tryz.prog 5 #[.int .i64 ev, .int .u32 sp, vl] w fun e w' => e = .returned (.bool true) ∧ Chg [] w w' := by
  obtain ⟨h1, h2⟩ := wf_u32.1 hs
  obtain ⟨k, rfl⟩ : ∃ k : Nat, sp = (k : Int) := ⟨sp.toNat, by omega⟩
  exact law13_RelayDepths ev k (by omega) vl w hl
end Go.Proofs.YtmkgbinmilcojaaGreat

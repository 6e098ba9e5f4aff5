import Derived.Test.YtmkgbinmilcojaaGreatAddG

/- Package relay: Submit of any header. Printed by submitgen3.py. -/
namespace Go.Proofs.YtmkgbinmilcojaaGreat
open Go.RowKit Go.Maps
attribute [-go_sem] loadCellsFrom Instr.build

set_option maxRecDepth 100000 in
set_option maxHeartbeats 16000000 in
theorem relay_SubmitGW (rb xb g off cap d d2 : Nat) (x : Lt) (T2 : Tr) (rl hl kl wl b2l : List Value) (hh ff fw tn : Int) (bb : Bool) (hx : x.b = xb) (hrl : rl.length = 72) (hhs : hl.toArray.size = 68) (ho : hl.toArray.all (·.oneCell') = true) (hkl32 : kl.length = 32) (hko : kl.toArray.all (·.oneCell') = true) (hwl32 : wl.length = 32) (hwo : wl.toArray.all (·.oneCell') = true)
    (w : World) (hR : Blk w rb (rl ++ [Value.pointer (some ⟨xb, 0, none⟩), Value.int .i64 (d : Int)]).toArray 124) (hrx : rb ∉ x.all) (hlow : ∀ b ∈ x.all, b < w.heap.size)
    (htn0 : bb = false → tn = 0) (htn1 : bb = true → IntKind.i64.wrap (fw - ff) = tn) (hmx0 : max (d : Int) tn = (d2 : Int))
    (hparse : ∀ w', Chg [] w w' → Calls Tryz.prog 63 #[.slice (some ⟨g, off, none⟩) 80 cap] w' fun e w'' => e = .returned (.tuple #[.agg hl.toArray, .int .i64 0]) ∧ Chg [] w' w'')
    (hbest : ∀ w', Chg [] w w' → Calls Tryz.prog 14 #[.pointer (some ⟨xb, 0, none⟩)] w' fun e w'' => e = .returned (.agg wl.toArray) ∧ Chg [] w' w'')
    (hadd0 : ∀ w', Chg [] w w' → Calls Tryz.prog 15 #[.pointer (some ⟨xb, 0, none⟩), .agg hl.toArray] w' fun e w'' => e = .returned (.int .i64 0) ∧ Chg x.all w' w'' ∧ TreeOn w' w'' x T2)
    (hhash : ∀ w, Calls Tryz.prog 27 #[.agg hl.toArray] w fun e w' => e = .returned (.agg kl.toArray) ∧ Chg [] w w')
    (heqs : ∀ w, (Op.equalIn 10000 26 (.agg b2l.toArray) (.agg kl.toArray)).run Tryz.prog w = .ok bb w)
    (hheight0 : ∀ y w, y.b = xb → TreeAt w y T2 → Calls Tryz.prog 31 #[.pointer (some ⟨xb, 0, none⟩), .agg kl.toArray] w fun e w' => e = .returned (.tuple #[.int .i64 hh, .bool true]) ∧ Chg [] w w')
    (hbest20 : ∀ y w, y.b = xb → TreeAt w y T2 → Calls Tryz.prog 14 #[.pointer (some ⟨xb, 0, none⟩)] w fun e w' => e = .returned (.agg b2l.toArray) ∧ Chg [] w w')
    (hfork0 : ∀ y w, y.b = xb → TreeAt w y T2 → Calls Tryz.prog 59 #[.pointer (some ⟨xb, 0, none⟩), .agg wl.toArray, .agg kl.toArray] w fun e w' => e = .returned (.tuple #[.int .i64 ff, .bool true]) ∧ Chg [] w w')
    (hheight20 : ∀ y w, y.b = xb → TreeAt w y T2 → Calls Tryz.prog 31 #[.pointer (some ⟨xb, 0, none⟩), .agg wl.toArray] w fun e w' => e = .returned (.tuple #[.int .i64 fw, .bool true]) ∧ Chg [] w w') :
    Calls Tryz.prog 23 #[.pointer (some ⟨rb, 0, none⟩), .slice (some ⟨g, off, none⟩) 80 cap] w fun e w' => e = .returned (.tuple #[.agg (kl ++ [Value.int .i64 hh, Value.bool bb, Value.int .i64 tn]).toArray, .int .i64 0]) ∧
      TreeOn w w' x T2 ∧ Chg (rb :: x.all) w w' ∧ Blk w' rb (rl ++ [Value.pointer (some ⟨xb, 0, none⟩), Value.int .i64 (d2 : Int)]).toArray 124 := by
  have hz := zeroTold
  have hzH := zeroHd
  have hzK := zeroHash
  have hbt := build_told hkl32
  have hks : kl.toArray.size = 32 := by simpa using hkl32
  have hws32 : wl.toArray.size = 32 := by simpa using hwl32
  have r72 := (r_cell hrl (.pointer (some ⟨xb, 0, none⟩)) (.int .i64 (d : Int))).1
  have bO := Blk.new w (bytesV (List.replicate 32 0) ++ [Value.int .i64 0, Value.bool false, Value.int .i64 0]).toArray 67
  have k0 : Chg [] w (w.alloc (.cells (bytesV (List.replicate 32 0) ++ [Value.int .i64 0, Value.bool false, Value.int .i64 0]).toArray 67)) := (Chg.refl _ _).alloc _
  have hts : (bytesV (List.replicate 32 0) ++ [Value.int .i64 0, Value.bool false, Value.int .i64 0]).toArray.size = 35 := by simp [bytesV_len]
  generalize (bytesV (List.replicate 32 0) ++ [Value.int .i64 0, Value.bool false, Value.int .i64 0]).toArray = zt at *
  have hRl := hR.lt
  go_enter Tryz.func23, Tryz.ntmps23
  go_wp2_with fail
  refine (hparse _ k0).mono ?_
  rintro e w1 ⟨rfl, k1⟩
  dsimp only
  have k01 := k0.trans k1 (by simp)
  have bO1 := bO.chg k1 (by simp)
  have hst := run_storeCells_new (P := Tryz.prog) w1 28 hd0.cs hl.toArray (by rw [hhs]; exact infoHd) (by rw [hhs, Hd.size hd0_ok]) ho
  have bH := Blk.new w1 hl.toArray 28
  have bO2 := bO1.alloc (.cells hl.toArray 28)
  have k02 := k01.alloc (.cells hl.toArray 28)
  have bR2 := hR.chg k02 (by simp)
  have c72 := bR2.cell 72 r72
  have hs1 := k01.size
  obtain ⟨zh, hzh⟩ : ∃ zh, zh = hd0.cs := ⟨_, rfl⟩
  rw [← hzh] at hst hzH
  clear hzh
  go_wp2_with fail
  have hb0 := hbest _ k02
  refine hb0.mono ?_
  rintro e w2 ⟨rfl, k2⟩
  dsimp only
  have k03 := k02.trans k2 (by simp)
  have hst2 := run_storeCells_new (P := Tryz.prog) w2 26 z32 wl.toArray (by rw [hws32]; exact infoHash) (by rw [hws32]; rfl) hwo
  have bW := Blk.new w2 wl.toArray 26
  have bH := (bH.chg k2 (by simp)).alloc (.cells wl.toArray 26)
  have bO := (bO2.chg k2 (by simp)).alloc (.cells wl.toArray 26)
  have k04 := k03.alloc (.cells wl.toArray 26)
  have bR := hR.chg k04 (by simp)
  have hadd := fun w' (k : Chg [] (w2.alloc (.cells wl.toArray 26)) w') => hadd0 w' (k04.trans k (by simp))
  have hs2 := k03.size
  obtain ⟨gw, hgw⟩ : ∃ gw, gw = w2.heap.size := ⟨_, rfl⟩
  obtain ⟨gh, hgh⟩ : ∃ gh, gh = w1.heap.size := ⟨_, rfl⟩
  clear hst hparse hbest hb0 k0 k01 k02 k2 bO1 bO2 bR2 c72
  go_upto_region 7 with fail
  rw [← hgw] at bW ⊢
  rw [← hgh] at bH ⊢
  have hgwl : w.heap.size ≤ gw := by omega
  have hghl : w.heap.size ≤ gh := by omega
  have hoO : w.heap.size ∉ x.all := fun h => by have := hlow _ h; omega
  have hHS : gh ∉ x.all := fun h => by have := hlow _ h; omega
  have hWS : gw ∉ x.all := fun h => by have := hlow _ h; omega
  have hrS := hrx
  have hs4 := k04.size
  have hs4s := bO.lt
  clear hgw hgh hst2 hs1 hs2 k03
  generalize w2.alloc (.cells wl.toArray 26) = w4 at *
  go_cut [9] (fun s9 wx => s9 = .int .i64 0 ∧ Chg x.all w4 wx ∧ TreeOn w4 wx x T2)
  case first =>
    refine wp_region_held_drew (S := fun w' => Chg x.all w4 w') (by kernel_rfl) ((Chg.refl _ _).drew) (fun hH => ?_)
    refine TK 0 (.pointer (some ⟨rb, 0, none⟩)) rfl hH (fun w' hw' => ?_) ?_
    · go_simp
    try simp only [Act.put, Sa, Sb, Sc, Sd, Sf]
    refine TK 1 (.pointer (some ⟨rb, 0, none⟩)) rfl hH (fun w' hw' => ?_) ?_
    · go_simp
    try simp only [Act.put, Sa, Sb, Sc, Sd, Se, Sf]
    refine TK 2 (.pointer (some ⟨rb, 72, none⟩)) rfl hH (fun w' hw' => ?_) ?_
    · go_simp
    try simp only [Act.put, Sa, Sb, Sc, Sd, Se, Sf]
    refine TK 3 (.pointer (some ⟨xb, 0, none⟩)) rfl hH (fun w' hw' => ?_) ?_
    · (have k9 := bR.chg hw' (by first | (simp; done) | simpa using hrS); have c0 := k9.cell 72 r72; go_simp)
    try simp only [Act.put, Sa, Sb, Sc, Sd, Se, Sf]
    refine TK 4 (.agg hl.toArray) rfl hH (fun w' hw' => ?_) ?_
    · (have k9 := bH.chg hw' (by simpa using hHS); have l0 := load_blkC k9 68 hhs; go_simp)
    try simp only [Act.put, Sa, Sb, Sc, Sd, Se, Sf]
    refine RD 5 rfl (fun K hK => ?_)
    try rw [if_pos (by rfl)]
    go_simp
    go_at_call 15
    refine (hadd (w4).drew ((Chg.refl [] _).drew)).mono ?_
    rintro e1 w1 ⟨rfl, hc1, hx1⟩
    dsimp only
    have hH1 := hH.trans hc1 (fun t ht => .inl ht)
    refine hK.out _ _ hH1 (fun _ => ?_)
    try simp only [Act.put, Sa, Sb, Sc, Sd, Se, Sf]
    refine RD 6 rfl (fun K hK => ?_)
    go_simp
    refine hK.out _ _ hH1 (fun _ => ?_)
    try simp only [Act.put, Sa, Sb, Sc, Sd, Se, Sf]
    refine wpAnyH_done (by kernel_rfl) ?_ _
    go_wp2_with fail
    go_meet
    exact ⟨rfl, hH1, hx1⟩
  case rest =>
    obtain ⟨rfl, k5, y, hy, hT5, hyA⟩ := hcut
    have bR := bR.chg k5 hrx
    have bH := bH.chg k5 hHS
    have bW := bW.chg k5 hWS
    have bO := bO.chg k5 hoO
    have hgwlt5 := bW.lt
    have kx := (k04.mono (T := x.all) (by simp)).trans k5 (fun t ht => .inl ht)
    have hs5 := k5.size
    have hldH := load_blkC bH 68 hhs
    clear hadd hadd0 k04
    generalize wc = w5 at *
    go_wp2_with fail
    refine (hhash _).mono ?_
    rintro e w6 ⟨rfl, k6⟩
    dsimp only
    have hs6 := k6.size
    have htz : (kl ++ [Value.int .i64 0, Value.bool false, Value.int .i64 0]).toArray.size = 35 := by simp [hkl32]
    have hto : (kl ++ [Value.int .i64 0, Value.bool false, Value.int .i64 0]).toArray.all (·.oneCell') = true := by
      rw [Array.all_eq_true_iff_forall_mem]
      intro v hv
      simp only [List.mem_toArray, List.mem_append, List.mem_cons, List.not_mem_nil, or_false] at hv
      rcases hv with hv | rfl | rfl | rfl
      · exact (Array.all_eq_true_iff_forall_mem.1 hko) v (by simpa using hv)
      · rfl
      · rfl
      · rfl
    have hst := run_storeCells_new (P := Tryz.prog) w6 67 zt (kl ++ [Value.int .i64 0, Value.bool false, Value.int .i64 0]).toArray (by rw [htz]; exact infoTold) (by rw [htz, hts]) hto
    have bD := Blk.new w6 (kl ++ [Value.int .i64 0, Value.bool false, Value.int .i64 0]).toArray 67
    have kd : Chg [] w5 (w6.alloc (.cells (kl ++ [Value.int .i64 0, Value.bool false, Value.int .i64 0]).toArray 67)) := k6.alloc _
    have bR := bR.chg kd (by simp)
    have bW := bW.chg kd (by simp)
    have bO := bO.chg kd (by simp)
    have hT6 := hT5.chgS (S := []) (by simp) kd
    have kx := kx.trans kd (by simp)
    have hgdR : rb ≠ w6.heap.size := by omega
    have hgdW : gw ≠ w6.heap.size := by have := bW.lt; have h9 := hs6; intro e; have := hgwlt5; omega
    clear hldH hhash bH
    have hgO : w.heap.size ≠ w6.heap.size := by omega
    have hgdw : w.heap.size ≤ w6.heap.size := by omega
    have hall := hT5.all_lt
    have hgdA : w6.heap.size ∉ y.all := fun h => by have := hall _ h; omega
    have hheight1 := fun w' (k : Chg [w6.heap.size] (w6.alloc (.cells (kl ++ [Value.int .i64 0, Value.bool false, Value.int .i64 0]).toArray 67)) w') => hheight0 y w' (hy.trans hx) (hT6.chgS (fun b hb => by simp only [List.mem_singleton]; exact fun e => hgdA (e ▸ hb)) k)
    go_upto_region 11 with fail
    obtain ⟨gd, hgd⟩ : ∃ gd, gd = w6.heap.size := ⟨_, rfl⟩
    rw [← hgd] at bD hgdR hgdW hgO hgdA hgdw hheight1 ⊢
    clear hst hT5 hall hs6 hs5 k6 k5 kd hgwlt5 hgd hheight0
    generalize w6.alloc (.cells (kl ++ [Value.int .i64 0, Value.bool false, Value.int .i64 0]).toArray 67) = w6 at *
    have hrS := hgdR
    have hheight := hheight1
    clear hheight1
    go_cut [55] (fun _ wx => Blk wx gd (kl ++ [Value.int .i64 hh, Value.bool false, Value.int .i64 0]).toArray 67 ∧ Chg [gd] w6 wx)
    case first =>
      refine wp_region_held_drew (S := fun w' => Chg [gd] w6 w') (by kernel_rfl) ((Chg.refl _ _).drew) (fun hH => ?_)
      have kdD0 := bD.chg ((Chg.refl [] _).drew) (by simp)
      refine TK 0 (.pointer (some ⟨rb, 0, none⟩)) rfl hH (fun w' hw' => ?_) ?_
      · go_simp
      try simp only [Act.put, Sa, Sb, Sc, Sd, Sf]
      refine TK 1 (.pointer (some ⟨rb, 0, none⟩)) rfl hH (fun w' hw' => ?_) ?_
      · go_simp
      try simp only [Act.put, Sa, Sb, Sc, Sd, Se, Sf]
      refine TK 2 (.pointer (some ⟨rb, 72, none⟩)) rfl hH (fun w' hw' => ?_) ?_
      · go_simp
      try simp only [Act.put, Sa, Sb, Sc, Sd, Se, Sf]
      refine TK 3 (.pointer (some ⟨xb, 0, none⟩)) rfl hH (fun w' hw' => ?_) ?_
      · (have k9 := bR.chg hw' (by first | (simp; done) | simpa using hrS); have c0 := k9.cell 72 r72; go_simp)
      try simp only [Act.put, Sa, Sb, Sc, Sd, Se, Sf]
      refine TK 4 (.pointer (some ⟨gd, 0, none⟩)) rfl hH (fun w' hw' => ?_) ?_
      · go_simp
      try simp only [Act.put, Sa, Sb, Sc, Sd, Se, Sf]
      refine RD 5 rfl (fun K hK => ?_)
      have lp1 := load_part kdD0 0 32 hks (tpart kl _ _ _)
      go_simp
      refine hK.out _ _ hH (fun _ => ?_)
      try simp only [Act.put, Sa, Sb, Sc, Sd, Se, Sf]
      refine RD 6 rfl (fun K hK => ?_)
      try rw [if_pos (by rfl)]
      go_simp
      go_at_call 31
      refine (hheight _ hH).mono ?_
      rintro e2 w2 ⟨rfl, hc2⟩
      dsimp only
      have hH2 := hH.trans hc2 (by simp)
      have kbD2 := kdD0.chg hc2 (by simp)
      refine hK.out _ _ hH2 (fun _ => ?_)
      try simp only [Act.put, Sa, Sb, Sc, Sd, Se, Sf]
      refine TK 7 (.tuple #[.int .i64 hh, .bool true]) rfl hH2 (fun w' hw' => ?_) ?_
      · go_simp
      try simp only [Act.put, Sa, Sb, Sc, Sd, Se, Sf]
      refine TK 8 (.int .i64 hh) rfl hH2 (fun w' hw' => ?_) ?_
      · go_simp
      try simp only [Act.put, Sa, Sb, Sc, Sd, Se, Sf]
      refine TK 9 (.bool true) rfl hH2 (fun w' hw' => ?_) ?_
      · go_simp
      try simp only [Act.put, Sa, Sb, Sc, Sd, Se, Sf]
      refine TK 10 (.pointer (some ⟨gd, 32, none⟩)) rfl hH2 (fun w' hw' => ?_) ?_
      · go_simp
      try simp only [Act.put, Sa, Sb, Sc, Sd, Se, Sf]
      refine RD 11 rfl (fun K hK => ?_)
      have c3 := kbD2.cell 32 (tc_32 kl hkl32 _ _ _)
      have f3 := kbD2.free 32
      have kbD3 := kbD2.set 32 (.int .i64 hh)
      rw [ts_32 kl hkl32] at kbD3
      go_simp
      have hH3 := hH2.setCell (p := ⟨gd, 32, none⟩) (.inl (by simp)) (.int .i64 hh)
      refine hK.out _ _ hH3 (fun _ => ?_)
      try simp only [Act.put, Sa, Sb, Sc, Sd, Se, Sf]
      refine wpAnyH_done (by kernel_rfl) ?_ _
      go_wp2_with fail
      go_meet
      exact ⟨kbD3, hH3⟩
    case rest =>
      obtain ⟨bD, k7⟩ := hcut
      have bR := bR.chg k7 (by simpa using hgdR)
      have bW := bW.chg k7 (by simpa using hgdW)
      have bO := bO.chg k7 (by simpa using hgO)
      have hT7 := hT6.chgS (fun b hb => by simp only [List.mem_singleton]; exact fun e => hgdA (e ▸ hb)) k7
      have kx7 := (kx.mono (T := gd :: x.all) (fun t ht => .inl (List.mem_cons_of_mem _ ht))).trans k7 (fun t ht => .inl (by simp at ht; simp [ht]))
      clear hheight hT6 kx k7
      generalize wc = w7 at *
      have hbest2 := fun w' (k : Chg [gd] w7 w') => hbest20 y w' (hy.trans hx) (hT7.chgS (fun b hb => by simp only [List.mem_singleton]; exact fun e => hgdA (e ▸ hb)) k)
      clear hbest20
      go_upto_region 12 with fail
      go_cut [64] (fun _ wx => Blk wx gd (kl ++ [Value.int .i64 hh, Value.bool bb, Value.int .i64 0]).toArray 67 ∧ Chg [gd] w7 wx)
      case first =>
        refine wp_region_held_drew (S := fun w' => Chg [gd] w7 w') (by kernel_rfl) ((Chg.refl _ _).drew) (fun hH21 => ?_)
        have kdD21 := bD.chg ((Chg.refl [] _).drew) (by simp)
        refine TK 0 (.pointer (some ⟨rb, 0, none⟩)) rfl hH21 (fun w' hw' => ?_) ?_
        · go_simp
        try simp only [Act.put, Sa, Sb, Sc, Sd, Sf]
        refine TK 1 (.pointer (some ⟨rb, 0, none⟩)) rfl hH21 (fun w' hw' => ?_) ?_
        · go_simp
        try simp only [Act.put, Sa, Sb, Sc, Sd, Se, Sf]
        refine TK 2 (.pointer (some ⟨rb, 72, none⟩)) rfl hH21 (fun w' hw' => ?_) ?_
        · go_simp
        try simp only [Act.put, Sa, Sb, Sc, Sd, Se, Sf]
        refine TK 3 (.pointer (some ⟨xb, 0, none⟩)) rfl hH21 (fun w' hw' => ?_) ?_
        · (have k9 := bR.chg hw' (by first | (simp; done) | simpa using hrS); have c0 := k9.cell 72 r72; go_simp)
        try simp only [Act.put, Sa, Sb, Sc, Sd, Se, Sf]
        refine TK 5 (.pointer (some ⟨gd, 0, none⟩)) rfl hH21 (fun w' hw' => ?_) ?_
        · go_simp
        try simp only [Act.put, Sa, Sb, Sc, Sd, Se, Sf]
        refine RD2 4 6 rfl rfl (fun K hK => ?_) (fun K hK => ?_)
        · try rw [if_pos (by rfl)]
          go_simp
          go_at_call 14
          refine (hbest2 _ hH21).mono ?_
          rintro e22 w22 ⟨rfl, hc22⟩
          dsimp only
          have hH22 := hH21.trans hc22 (by simp)
          have kbD22 := kdD21.chg hc22 (by simp)
          refine hK.out _ _ hH22 (fun _ => ?_)
          try simp only [Act.put, Sa, Sb, Sc, Sd, Se, Sf]
          refine RD 6 rfl (fun K hK => ?_)
          have lp23 := load_part kbD22 0 32 hks (tpart kl _ _ _)
          go_simp
          refine hK.out _ _ hH22 (fun _ => ?_)
          try simp only [Act.put, Sa, Sb, Sc, Sd, Se, Sf]
          refine TK 7 (.bool bb) rfl hH22 (fun w' hw' => ?_) ?_
          · (have h9 := heqs w'; go_simp)
          try simp only [Act.put, Sa, Sb, Sc, Sd, Se, Sf]
          refine TK 8 (.pointer (some ⟨gd, 33, none⟩)) rfl hH22 (fun w' hw' => ?_) ?_
          · go_simp
          try simp only [Act.put, Sa, Sb, Sc, Sd, Se, Sf]
          refine RD 9 rfl (fun K hK => ?_)
          have c24 := kbD22.cell 33 (tc_33 kl hkl32 _ _ _)
          have f24 := kbD22.free 33
          have kbD24 := kbD22.set 33 (.bool bb)
          rw [ts_33 kl hkl32] at kbD24
          go_simp
          have hH24 := hH22.setCell (p := ⟨gd, 33, none⟩) (.inl (by simp)) (.bool bb)
          refine hK.out _ _ hH24 (fun _ => ?_)
          try simp only [Act.put, Sa, Sb, Sc, Sd, Se, Sf]
          refine wpAnyH_done (by kernel_rfl) ?_ _
          go_wp2_with fail
          go_meet
          exact ⟨kbD24, hH24⟩
        · have lp25 := load_part kdD21 0 32 hks (tpart kl _ _ _)
          go_simp
          refine hK.out _ _ hH21 (fun _ => ?_)
          try simp only [Act.put, Sa, Sb, Sc, Sd, Se, Sf]
          refine RD 4 rfl (fun K hK => ?_)
          try rw [if_pos (by rfl)]
          go_simp
          go_at_call 14
          refine (hbest2 _ hH21).mono ?_
          rintro e26 w26 ⟨rfl, hc26⟩
          dsimp only
          have hH26 := hH21.trans hc26 (by simp)
          have kbD26 := kdD21.chg hc26 (by simp)
          refine hK.out _ _ hH26 (fun _ => ?_)
          try simp only [Act.put, Sa, Sb, Sc, Sd, Se, Sf]
          refine TK 7 (.bool bb) rfl hH26 (fun w' hw' => ?_) ?_
          · (have h9 := heqs w'; go_simp)
          try simp only [Act.put, Sa, Sb, Sc, Sd, Se, Sf]
          refine TK 8 (.pointer (some ⟨gd, 33, none⟩)) rfl hH26 (fun w' hw' => ?_) ?_
          · go_simp
          try simp only [Act.put, Sa, Sb, Sc, Sd, Se, Sf]
          refine RD 9 rfl (fun K hK => ?_)
          have c27 := kbD26.cell 33 (tc_33 kl hkl32 _ _ _)
          have f27 := kbD26.free 33
          have kbD27 := kbD26.set 33 (.bool bb)
          rw [ts_33 kl hkl32] at kbD27
          go_simp
          have hH27 := hH26.setCell (p := ⟨gd, 33, none⟩) (.inl (by simp)) (.bool bb)
          refine hK.out _ _ hH27 (fun _ => ?_)
          try simp only [Act.put, Sa, Sb, Sc, Sd, Se, Sf]
          refine wpAnyH_done (by kernel_rfl) ?_ _
          go_wp2_with fail
          go_meet
          exact ⟨kbD27, hH27⟩
      case rest =>
        obtain ⟨bD, k8⟩ := hcut
        have bR := bR.chg k8 (by simpa using hgdR)
        have bW := bW.chg k8 (by simpa using hgdW)
        have bO := bO.chg k8 (by simpa using hgO)
        have hT8 := hT7.chgS (fun b hb => by simp only [List.mem_singleton]; exact fun e => hgdA (e ▸ hb)) k8
        have kx8 := kx7.trans k8 (fun t ht => .inl (by simp at ht; simp [ht]))
        clear hbest2 hT7 kx7 k8 heqs
        generalize wc = w8 at *
        have c33 := bD.cell 33 (tc_33 kl hkl32 _ _ _)
        cases bb with
        | false =>
            have tn0 := htn0 rfl
            subst tn0
            have bRb := bR
            have bOb := bO
            have hTb := hT8
            have kxb := kx8
            clear bR bO bW hT8 kx8 hfork0 hheight20
            obtain ⟨wb, hwb⟩ : ∃ wb, wb = w8 := ⟨_, rfl⟩
            rw [← hwb] at bRb bOb hTb kxb bD c33 ⊢
            clear hwb
            go_upto_region 17 with fail
            have c73 := bRb.cell 73 (r_cell hrl (.pointer (some ⟨xb, 0, none⟩)) (.int .i64 (d : Int))).2
            have c34 := bD.cell 34 (tc_34 kl hkl32 _ _ _)
            have hmx := hmx0
            have e73 := bRb.drew.cell 73 (r_cell hrl (.pointer (some ⟨xb, 0, none⟩)) (.int .i64 (d : Int))).2
            have f73 := bRb.drew.free 73
            have hset := bRb.set 73 (.int .i64 (d2 : Int))
            rw [r_set73 hrl] at hset
            have hset2 := hset.drew
            have hd0 : ¬ (d : Int) < 0 := by omega
            have k12 : Chg [rb] wb (wb.setCell ⟨rb, 73, none⟩ (.int .i64 (d2 : Int))).drew := ((Chg.refl [rb] wb).setCell (.inl (by simp)) _).drew
            have hDR : gd ≠ rb := fun e => hgdR e.symm
            have hOR : w.heap.size ≠ rb := by omega
            have bDf := bD.chg k12 (by simpa using hDR)
            have bOf := bOb.chg k12 (by simpa using hOR)
            have hTf := hTb.chgS (S := [rb]) (fun b hb => by
              simp only [List.mem_singleton]
              intro e
              subst e
              rcases hyA _ hb with h | h
              · exact hrx h
              · omega) k12
            have kf : Chg (rb :: x.all) w (wb.setCell ⟨rb, 73, none⟩ (.int .i64 (d2 : Int))).drew := (kxb.mono (T := rb :: x.all) (fun t ht => by
              simp only [List.mem_cons] at ht ⊢
              rcases ht with h | h
              · exact .inr (by rw [h]; exact hgdw)
              · exact .inl (.inr h))).trans k12 (fun t ht => .inl (by simp at ht; simp [ht]))
            have tsz : (kl ++ [Value.int .i64 hh, Value.bool false, Value.int .i64 0]).toArray.size = 35 := by simp [hkl32]
            have tone : (kl ++ [Value.int .i64 hh, Value.bool false, Value.int .i64 0]).toArray.all (·.oneCell') = true := by
              rw [Array.all_eq_true_iff_forall_mem]
              intro v hv
              simp only [List.mem_toArray, List.mem_append, List.mem_cons, List.not_mem_nil, or_false] at hv
              rcases hv with hv | rfl | rfl | rfl
              · exact (Array.all_eq_true_iff_forall_mem.1 hko) v (by simpa using hv)
              · rfl
              · rfl
              · rfl
            go_still_tail 10, (by kernel_rfl)
            go_upto_region 18 with fail
            clear hset k12 c34 c73 e73 f73 bRb bD bOb hTb kxb hmx hd0
            generalize (wb.setCell ⟨rb, 73, none⟩ (.int .i64 (d2 : Int))).drew = wf at *
            obtain ⟨tv, htv⟩ : ∃ tv, tv = (kl ++ [Value.int .i64 hh, Value.bool false, Value.int .i64 0]).toArray := ⟨_, rfl⟩
            rw [← htv] at bDf tsz tone
            have htv' := Lib.hid htv
            clear htv
            have hldD := load_blkC bDf 35 tsz
            obtain ⟨W9, hst9, b9, kk9⟩ := store_cells bOf (cs := tv) (by rw [tsz, hts]) tone
            have hld9 := load_blkC b9 35 tsz
            have hTg := hTf.chgS (S := [w.heap.size]) (fun b hb => by
              simp only [List.mem_singleton]
              intro e
              subst e
              rcases hyA _ hb with h | h
              · have := hlow _ h; omega
              · omega) kk9
            have bRg := hset2.chg kk9 (by simp; omega)
            have kg := kf.trans kk9 (fun t ht => .inr (by simp at ht; omega))
            clear bDf bOf hTf hset2 kk9 kf b9
            go_wp2
            exact bodyPost_ret (v := .tuple #[.agg tv, .int .i64 0]) (by simp [results, Tryz.results23, go_sem, hld9]) rfl ⟨by rw [htv'.out], ⟨y, hy, hTg, fun b hb => (hyA b hb).elim .inl (fun h => .inr (by omega))⟩, kg, bRg⟩
        | true =>
          have hfork := fun w' (k : Chg [] w8 w') => hfork0 y w' (hy.trans hx) (hT8.chgS (by simp) k)
          clear hfork0
          go_upto_region 14 with fail
          go_cut [11] (fun s11 wx => s11 = .int .i64 ff ∧ Chg [] w8 wx)
          case first =>
            refine wp_region_held_drew (S := fun w' => Chg [] w8 w') (by kernel_rfl) ((Chg.refl _ _).drew) (fun hH41 => ?_)
            refine TK 0 (.pointer (some ⟨rb, 0, none⟩)) rfl hH41 (fun w' hw' => ?_) ?_
            · go_simp
            try simp only [Act.put, Sa, Sb, Sc, Sd, Sf]
            refine TK 1 (.pointer (some ⟨rb, 0, none⟩)) rfl hH41 (fun w' hw' => ?_) ?_
            · go_simp
            try simp only [Act.put, Sa, Sb, Sc, Sd, Se, Sf]
            refine TK 2 (.pointer (some ⟨rb, 72, none⟩)) rfl hH41 (fun w' hw' => ?_) ?_
            · go_simp
            try simp only [Act.put, Sa, Sb, Sc, Sd, Se, Sf]
            refine TK 3 (.pointer (some ⟨xb, 0, none⟩)) rfl hH41 (fun w' hw' => ?_) ?_
            · (have k9 := bR.chg hw' (by first | (simp; done) | simpa using hrS); have c0 := k9.cell 72 r72; go_simp)
            try simp only [Act.put, Sa, Sb, Sc, Sd, Se, Sf]
            refine TK 4 (.agg wl.toArray) rfl hH41 (fun w' hw' => ?_) ?_
            · (have k9 := bW.chg hw' (by first | (simp; done) | simpa using hwS); have l0 := load_blkC k9 32 hws32; go_simp)
            try simp only [Act.put, Sa, Sb, Sc, Sd, Se, Sf]
            refine TK 5 (.pointer (some ⟨gd, 0, none⟩)) rfl hH41 (fun w' hw' => ?_) ?_
            · go_simp
            try simp only [Act.put, Sa, Sb, Sc, Sd, Se, Sf]
            refine TK 6 (.agg kl.toArray) rfl hH41 (fun w' hw' => ?_) ?_
            · (have k9 := bD.chg hw' (by simp); have l0 := load_part k9 0 32 hks (tpart kl _ _ _); go_simp)
            try simp only [Act.put, Sa, Sb, Sc, Sd, Se, Sf]
            refine RD 7 rfl (fun K hK => ?_)
            try rw [if_pos (by rfl)]
            go_simp
            go_at_call 59
            refine (hfork _ hH41).mono ?_
            rintro e42 w42 ⟨rfl, hc42⟩
            dsimp only
            have hH42 := hH41.trans hc42 (by simp)
            refine hK.out _ _ hH42 (fun _ => ?_)
            try simp only [Act.put, Sa, Sb, Sc, Sd, Se, Sf]
            refine TK 8 (.tuple #[.int .i64 ff, .bool true]) rfl hH42 (fun w' hw' => ?_) ?_
            · go_simp
            try simp only [Act.put, Sa, Sb, Sc, Sd, Se, Sf]
            refine TK 9 (.int .i64 ff) rfl hH42 (fun w' hw' => ?_) ?_
            · go_simp
            try simp only [Act.put, Sa, Sb, Sc, Sd, Se, Sf]
            refine TK 10 (.bool true) rfl hH42 (fun w' hw' => ?_) ?_
            · go_simp
            try simp only [Act.put, Sa, Sb, Sc, Sd, Se, Sf]
            refine RD 11 rfl (fun K hK => ?_)
            go_simp
            refine hK.out _ _ hH42 (fun _ => ?_)
            try simp only [Act.put, Sa, Sb, Sc, Sd, Se, Sf]
            refine RD 12 rfl (fun K hK => ?_)
            go_simp
            refine hK.out _ _ hH42 (fun _ => ?_)
            try simp only [Act.put, Sa, Sb, Sc, Sd, Se, Sf]
            refine wpAnyH_done (by kernel_rfl) ?_ _
            go_wp2_with fail
            go_meet
            exact ⟨rfl, hH42⟩
          case rest =>
            obtain ⟨rfl, k9⟩ := hcut
            have bR := bR.chg k9 (by simp)
            have bW := bW.chg k9 (by simp)
            have bO := bO.chg k9 (by simp)
            have bD := bD.chg k9 (by simp)
            have hT9 := hT8.chgS (S := []) (by simp) k9
            have kx9 := kx8.trans k9 (by simp)
            clear hfork hT8 kx8 k9 c33
            generalize wc = w9 at *
            have hheight2 := fun w' (k : Chg [] w9 w') => hheight20 y w' (hy.trans hx) (hT9.chgS (by simp) k)
            clear hheight20
            go_upto_region 15 with fail
            go_cut [13] (fun s13 wx => s13 = .int .i64 fw ∧ Chg [] w9 wx)
            case first =>
              refine wp_region_held_drew (S := fun w' => Chg [] w9 w') (by kernel_rfl) ((Chg.refl _ _).drew) (fun hH61 => ?_)
              refine TK 0 (.pointer (some ⟨rb, 0, none⟩)) rfl hH61 (fun w' hw' => ?_) ?_
              · go_simp
              try simp only [Act.put, Sa, Sb, Sc, Sd, Sf]
              refine TK 1 (.pointer (some ⟨rb, 0, none⟩)) rfl hH61 (fun w' hw' => ?_) ?_
              · go_simp
              try simp only [Act.put, Sa, Sb, Sc, Sd, Se, Sf]
              refine TK 2 (.pointer (some ⟨rb, 72, none⟩)) rfl hH61 (fun w' hw' => ?_) ?_
              · go_simp
              try simp only [Act.put, Sa, Sb, Sc, Sd, Se, Sf]
              refine TK 3 (.pointer (some ⟨xb, 0, none⟩)) rfl hH61 (fun w' hw' => ?_) ?_
              · (have k9 := bR.chg hw' (by first | (simp; done) | simpa using hrS); have c0 := k9.cell 72 r72; go_simp)
              try simp only [Act.put, Sa, Sb, Sc, Sd, Se, Sf]
              refine TK 4 (.agg wl.toArray) rfl hH61 (fun w' hw' => ?_) ?_
              · (have k9 := bW.chg hw' (by first | (simp; done) | simpa using hwS); have l0 := load_blkC k9 32 hws32; go_simp)
              try simp only [Act.put, Sa, Sb, Sc, Sd, Se, Sf]
              refine RD 5 rfl (fun K hK => ?_)
              try rw [if_pos (by rfl)]
              go_simp
              go_at_call 31
              refine (hheight2 _ hH61).mono ?_
              rintro e62 w62 ⟨rfl, hc62⟩
              dsimp only
              have hH62 := hH61.trans hc62 (by simp)
              refine hK.out _ _ hH62 (fun _ => ?_)
              try simp only [Act.put, Sa, Sb, Sc, Sd, Se, Sf]
              refine TK 6 (.tuple #[.int .i64 fw, .bool true]) rfl hH62 (fun w' hw' => ?_) ?_
              · go_simp
              try simp only [Act.put, Sa, Sb, Sc, Sd, Se, Sf]
              refine TK 7 (.int .i64 fw) rfl hH62 (fun w' hw' => ?_) ?_
              · go_simp
              try simp only [Act.put, Sa, Sb, Sc, Sd, Se, Sf]
              refine TK 8 (.bool true) rfl hH62 (fun w' hw' => ?_) ?_
              · go_simp
              try simp only [Act.put, Sa, Sb, Sc, Sd, Se, Sf]
              refine RD 9 rfl (fun K hK => ?_)
              go_simp
              refine hK.out _ _ hH62 (fun _ => ?_)
              try simp only [Act.put, Sa, Sb, Sc, Sd, Se, Sf]
              refine RD 10 rfl (fun K hK => ?_)
              go_simp
              refine hK.out _ _ hH62 (fun _ => ?_)
              try simp only [Act.put, Sa, Sb, Sc, Sd, Se, Sf]
              refine wpAnyH_done (by kernel_rfl) ?_ _
              go_wp2_with fail
              go_meet
              exact ⟨rfl, hH62⟩
            case rest =>
              obtain ⟨rfl, k10⟩ := hcut
              have bR := bR.chg k10 (by simp)
              have bO := bO.chg k10 (by simp)
              have bD := bD.chg k10 (by simp)
              have hTa := hT9.chgS (S := []) (by simp) k10
              have kxa := kx9.trans k10 (by simp)
              clear hheight2 hT9 kx9 k10 bW
              generalize wc = wa at *
              have c34 := bD.cell 34 (tc_34 kl hkl32 _ _ _)
              have f34 := bD.free 34
              have hset := bD.set 34 (.int .i64 tn)
              rw [ts_34 kl hkl32] at hset
              have hff := htn1 rfl
              have k11 : Chg [gd] wa (wa.setCell ⟨gd, 34, none⟩ (.int .i64 tn)) := (Chg.refl _ _).setCell (.inl (by simp)) _
              have bRb := bR.chg k11 (by simpa using hgdR)
              have bOb := bO.chg k11 (by simpa using hgO)
              have hTb := hTa.chgS (fun b hb => by simp only [List.mem_singleton]; exact fun e => hgdA (e ▸ hb)) k11
              have kxb := kxa.trans k11 (fun t ht => .inl (by simp at ht; simp [ht]))
              have hcl : wa.setCell ⟨gd, 34, none⟩ (.int .i64 tn) = wa.setCell ⟨gd, 34, none⟩ (.int .i64 tn) := rfl
              clear bR bO hTa kxa k11
              go_upto_region 17 with fail
              have bD := hset
              clear hset c34 f34 hcl
              generalize wa.setCell ⟨gd, 34, none⟩ (.int .i64 tn) = wb at *
              have c73 := bRb.cell 73 (r_cell hrl (.pointer (some ⟨xb, 0, none⟩)) (.int .i64 (d : Int))).2
              have c34 := bD.cell 34 (tc_34 kl hkl32 _ _ _)
              have hmx := hmx0
              have e73 := bRb.drew.cell 73 (r_cell hrl (.pointer (some ⟨xb, 0, none⟩)) (.int .i64 (d : Int))).2
              have f73 := bRb.drew.free 73
              have hset := bRb.set 73 (.int .i64 (d2 : Int))
              rw [r_set73 hrl] at hset
              have hset2 := hset.drew
              have hd0 : ¬ (d : Int) < 0 := by omega
              have k12 : Chg [rb] wb (wb.setCell ⟨rb, 73, none⟩ (.int .i64 (d2 : Int))).drew := ((Chg.refl [rb] wb).setCell (.inl (by simp)) _).drew
              have hDR : gd ≠ rb := fun e => hgdR e.symm
              have hOR : w.heap.size ≠ rb := by omega
              have bDf := bD.chg k12 (by simpa using hDR)
              have bOf := bOb.chg k12 (by simpa using hOR)
              have hTf := hTb.chgS (S := [rb]) (fun b hb => by
                simp only [List.mem_singleton]
                intro e
                subst e
                rcases hyA _ hb with h | h
                · exact hrx h
                · omega) k12
              have kf : Chg (rb :: x.all) w (wb.setCell ⟨rb, 73, none⟩ (.int .i64 (d2 : Int))).drew := (kxb.mono (T := rb :: x.all) (fun t ht => by
                simp only [List.mem_cons] at ht ⊢
                rcases ht with h | h
                · exact .inr (by rw [h]; exact hgdw)
                · exact .inl (.inr h))).trans k12 (fun t ht => .inl (by simp at ht; simp [ht]))
              have tsz : (kl ++ [Value.int .i64 hh, Value.bool true, Value.int .i64 tn]).toArray.size = 35 := by simp [hkl32]
              have tone : (kl ++ [Value.int .i64 hh, Value.bool true, Value.int .i64 tn]).toArray.all (·.oneCell') = true := by
                rw [Array.all_eq_true_iff_forall_mem]
                intro v hv
                simp only [List.mem_toArray, List.mem_append, List.mem_cons, List.not_mem_nil, or_false] at hv
                rcases hv with hv | rfl | rfl | rfl
                · exact (Array.all_eq_true_iff_forall_mem.1 hko) v (by simpa using hv)
                · rfl
                · rfl
                · rfl
              go_still_tail 10, (by kernel_rfl)
              go_upto_region 18 with fail
              clear hset k12 c34 c73 e73 f73 bRb bD bOb hTb kxb hmx hd0
              generalize (wb.setCell ⟨rb, 73, none⟩ (.int .i64 (d2 : Int))).drew = wf at *
              obtain ⟨tv, htv⟩ : ∃ tv, tv = (kl ++ [Value.int .i64 hh, Value.bool true, Value.int .i64 tn]).toArray := ⟨_, rfl⟩
              rw [← htv] at bDf tsz tone
              have htv' := Lib.hid htv
              clear htv
              have hldD := load_blkC bDf 35 tsz
              obtain ⟨W9, hst9, b9, kk9⟩ := store_cells bOf (cs := tv) (by rw [tsz, hts]) tone
              have hld9 := load_blkC b9 35 tsz
              have hTg := hTf.chgS (S := [w.heap.size]) (fun b hb => by
                simp only [List.mem_singleton]
                intro e
                subst e
                rcases hyA _ hb with h | h
                · have := hlow _ h; omega
                · omega) kk9
              have bRg := hset2.chg kk9 (by simp; omega)
              have kg := kf.trans kk9 (fun t ht => .inr (by simp at ht; omega))
              clear bDf bOf hTf hset2 kk9 kf b9
              go_wp2
              exact bodyPost_ret (v := .tuple #[.agg tv, .int .i64 0]) (by simp [results, Tryz.results23, go_sem, hld9]) rfl ⟨by rw [htv'.out], ⟨y, hy, hTg, fun b hb => (hyA b hb).elim .inl (fun h => .inr (by omega))⟩, kg, bRg⟩
end Go.Proofs.YtmkgbinmilcojaaGreat

/- Package relay: Submit of a header that is refused. Printed by submitgen4.py. -/
namespace Go.Proofs.YtmkgbinmilcojaaGreat
open Go.RowKit Go.Maps
attribute [-go_sem] loadCellsFrom Instr.build

set_option maxRecDepth 100000 in
theorem build_told0 (w : World) : (Instr.build 67 #[]).run Tryz.prog w = .ok (.agg (bytesV (List.replicate 32 0) ++ [Value.int .i64 0, Value.bool false, Value.int .i64 0]).toArray) w := by kernel_rfl
def told0 : List Value := bytesV (List.replicate 32 0) ++ [Value.int .i64 0, Value.bool false, Value.int .i64 0]
theorem told0_one : told0.toArray.all (·.oneCell') = true := by kernel_rfl
set_option maxRecDepth 100000 in
set_option maxHeartbeats 8000000 in
theorem relay_SubmitEW (rb xb g off cap d : Nat) (x : Lt) (rl hl wl : List Value) (ce : Int) (hce : ce ≠ 0) (_ : x.b = xb) (hrl : rl.length = 72) (hhs : hl.toArray.size = 68) (ho : hl.toArray.all (·.oneCell') = true) (hwl32 : wl.length = 32) (hwo : wl.toArray.all (·.oneCell') = true)
    (w : World) (hR : Blk w rb (rl ++ [Value.pointer (some ⟨xb, 0, none⟩), Value.int .i64 (d : Int)]).toArray 124) (hrx : rb ∉ x.all) (hlow : ∀ b ∈ x.all, b < w.heap.size)
    (hparse : ∀ w', Chg [] w w' → Calls Tryz.prog 63 #[.slice (some ⟨g, off, none⟩) 80 cap] w' fun e w'' => e = .returned (.tuple #[.agg hl.toArray, .int .i64 0]) ∧ Chg [] w' w'')
    (hbest : ∀ w', Chg [] w w' → Calls Tryz.prog 14 #[.pointer (some ⟨xb, 0, none⟩)] w' fun e w'' => e = .returned (.agg wl.toArray) ∧ Chg [] w' w'')
    (hadd0 : ∀ w', Chg [] w w' → Calls Tryz.prog 15 #[.pointer (some ⟨xb, 0, none⟩), .agg hl.toArray] w' fun e w'' => e = .returned (.int .i64 ce) ∧ Chg [] w' w'') :
    Calls Tryz.prog 23 #[.pointer (some ⟨rb, 0, none⟩), .slice (some ⟨g, off, none⟩) 80 cap] w fun e w' => e = .returned (.tuple #[.agg told0.toArray, .int .i64 ce]) ∧ Chg [] w w' := by
  have hz := zeroTold
  have hzH := zeroHd
  have hzK := zeroHash
  have hbz := build_told0
  have hws32 : wl.toArray.size = 32 := by simpa using hwl32
  have r72 := (r_cell hrl (.pointer (some ⟨xb, 0, none⟩)) (.int .i64 (d : Int))).1
  have bO := Blk.new w (bytesV (List.replicate 32 0) ++ [Value.int .i64 0, Value.bool false, Value.int .i64 0]).toArray 67
  have k0 : Chg [] w (w.alloc (.cells (bytesV (List.replicate 32 0) ++ [Value.int .i64 0, Value.bool false, Value.int .i64 0]).toArray 67)) := (Chg.refl _ _).alloc _
  have hts : (bytesV (List.replicate 32 0) ++ [Value.int .i64 0, Value.bool false, Value.int .i64 0]).toArray.size = 35 := by simp [bytesV_len]
  have h0 := told0_one
  have hz0 := Lib.hid (show told0.toArray = (bytesV (List.replicate 32 0) ++ [Value.int .i64 0, Value.bool false, Value.int .i64 0]).toArray from rfl)
  rw [hz0.out] at h0
  generalize (bytesV (List.replicate 32 0) ++ [Value.int .i64 0, Value.bool false, Value.int .i64 0]).toArray = zt at *
  have hRl := hR.lt
  go_enter Tryz.func23, Tryz.ntmps23
  go_wp2_with fail
  refine (hparse _ k0).mono ?_
  rintro e w1 ⟨rfl, k1⟩
  dsimp only
  have k01 := k0.trans k1 (by simp)
  have bO1 := bO.chg k1 (by simp)
  have hst := run_storeCells_new (P := Tryz.prog) w1 28 hd0.cs hl.toArray (by rw [hhs]; exact infoHd) (by rw [hhs, Hd.size hd0_ok]) ho
  have bH := Blk.new w1 hl.toArray 28
  have bO2 := bO1.alloc (.cells hl.toArray 28)
  have k02 := k01.alloc (.cells hl.toArray 28)
  have bR2 := hR.chg k02 (by simp)
  have c72 := bR2.cell 72 r72
  have hs1 := k01.size
  obtain ⟨zh, hzh⟩ : ∃ zh, zh = hd0.cs := ⟨_, rfl⟩
  rw [← hzh] at hst hzH
  clear hzh
  go_wp2_with fail
  have hb0 := hbest _ k02
  refine hb0.mono ?_
  rintro e w2 ⟨rfl, k2⟩
  dsimp only
  have k03 := k02.trans k2 (by simp)
  have hst2 := run_storeCells_new (P := Tryz.prog) w2 26 z32 wl.toArray (by rw [hws32]; exact infoHash) (by rw [hws32]; rfl) hwo
  have bW := Blk.new w2 wl.toArray 26
  have bH := (bH.chg k2 (by simp)).alloc (.cells wl.toArray 26)
  have bO := (bO2.chg k2 (by simp)).alloc (.cells wl.toArray 26)
  have k04 := k03.alloc (.cells wl.toArray 26)
  have bR := hR.chg k04 (by simp)
  have hadd := fun w' (k : Chg [] (w2.alloc (.cells wl.toArray 26)) w') => hadd0 w' (k04.trans k (by simp))
  have hs2 := k03.size
  obtain ⟨gw, hgw⟩ : ∃ gw, gw = w2.heap.size := ⟨_, rfl⟩
  obtain ⟨gh, hgh⟩ : ∃ gh, gh = w1.heap.size := ⟨_, rfl⟩
  clear hst hparse hbest hb0 k0 k01 k02 k2 bO1 bO2 bR2 c72
  go_upto_region 7 with fail
  rw [← hgw] at bW ⊢
  rw [← hgh] at bH ⊢
  have hgwl : w.heap.size ≤ gw := by omega
  have hghl : w.heap.size ≤ gh := by omega
  have hoO : w.heap.size ∉ x.all := fun h => by have := hlow _ h; omega
  have hHS : gh ∉ x.all := fun h => by have := hlow _ h; omega
  have hWS : gw ∉ x.all := fun h => by have := hlow _ h; omega
  have hrS := hrx
  have hs4 := k04.size
  have hs4s := bO.lt
  clear hgw hgh hst2 hs1 hs2 k03
  generalize w2.alloc (.cells wl.toArray 26) = w4 at *
  go_cut [9] (fun s9 wx => s9 = .int .i64 ce ∧ Chg [] w4 wx)
  case first =>
    refine wp_region_held_drew (S := fun w' => Chg [] w4 w') (by kernel_rfl) ((Chg.refl _ _).drew) (fun hH => ?_)
    refine TK 0 (.pointer (some ⟨rb, 0, none⟩)) rfl hH (fun w' hw' => ?_) ?_
    · go_simp
    try simp only [Act.put, Sa, Sb, Sc, Sd, Sf]
    refine TK 1 (.pointer (some ⟨rb, 0, none⟩)) rfl hH (fun w' hw' => ?_) ?_
    · go_simp
    try simp only [Act.put, Sa, Sb, Sc, Sd, Se, Sf]
    refine TK 2 (.pointer (some ⟨rb, 72, none⟩)) rfl hH (fun w' hw' => ?_) ?_
    · go_simp
    try simp only [Act.put, Sa, Sb, Sc, Sd, Se, Sf]
    refine TK 3 (.pointer (some ⟨xb, 0, none⟩)) rfl hH (fun w' hw' => ?_) ?_
    · (have k9 := bR.chg hw' (by first | (simp; done) | simpa using hrS); have c0 := k9.cell 72 r72; go_simp)
    try simp only [Act.put, Sa, Sb, Sc, Sd, Se, Sf]
    refine TK 4 (.agg hl.toArray) rfl hH (fun w' hw' => ?_) ?_
    · (have k9 := bH.chg hw' (by simp); have l0 := load_blkC k9 68 hhs; go_simp)
    try simp only [Act.put, Sa, Sb, Sc, Sd, Se, Sf]
    refine RD 5 rfl (fun K hK => ?_)
    try rw [if_pos (by rfl)]
    go_simp
    go_at_call 15
    refine (hadd (w4).drew ((Chg.refl [] _).drew)).mono ?_
    rintro e1 w1 ⟨rfl, hc1⟩
    dsimp only
    have hH1 := hH.trans hc1 (by simp)
    refine hK.out _ _ hH1 (fun _ => ?_)
    try simp only [Act.put, Sa, Sb, Sc, Sd, Se, Sf]
    refine RD 6 rfl (fun K hK => ?_)
    go_simp
    refine hK.out _ _ hH1 (fun _ => ?_)
    try simp only [Act.put, Sa, Sb, Sc, Sd, Se, Sf]
    refine wpAnyH_done (by kernel_rfl) ?_ _
    go_wp2_with fail
    go_meet
    exact ⟨rfl, hH1⟩
  case rest =>
    obtain ⟨rfl, k5⟩ := hcut
    have bO := bO.chg k5 (by simp)
    have kx := k04.trans k5 (by simp)
    have hb : (ce == 0) = false := by simp [hce]
    have hb2 : (ce != 0) = true := by simp [hce]
    obtain ⟨W9, hst9, b9, kk9⟩ := store_cells bO (cs := zt) rfl h0
    have hld9 := load_blkC b9 35 hts
    have kg := kx.trans kk9 (fun t ht => .inr (by simp at ht; omega))
    clear hadd hadd0 k04 k5 kx b9 bO
    generalize wc = w5 at *
    go_wp2
    exact bodyPost_ret (v := .tuple #[  .agg zt, .int .i64 ce]) (by simp [results, Tryz.results23, go_sem, hld9]) rfl ⟨by rw [hz0.out], kg⟩
end Go.Proofs.YtmkgbinmilcojaaGreat

/- Package relay: Submit. -/
namespace Go.Proofs.YtmkgbinmilcojaaGreat
open Go.RowKit Go.Maps
attribute [-go_sem] loadCellsFrom Instr.build

theorem turnTo_find (T : Tr) (n : Nat) (k : List Nat) : (T.turnTo n).find k = T.find k := rfl
theorem turnTo_ns (T : Tr) (n : Nat) : (T.turnTo n).ns = T.ns := rfl
/-- what a header that was taken has done. -/
theorem add_ok {T : Tr} {h : Hd} (e : (T.add h).1 = 0) : ∃ i p, T.find (hdH h) = none ∧ T.find h.ah = some i ∧ T.ns[i]? = some p ∧ T.chkE h i p = 0 ∧ (T.add h).2.ns = (T.grow h i p).ns ∧ (T.add h).2 = if T.wkL < (newP h i p).wk then (T.grow h i p).turnTo T.ns.length else T.grow h i p := by
  have hs : T.find (hdH h) = none := by
    cases hf : T.find (hdH h) with
    | none => rfl
    | some j => simp [Tr.add, hf] at e
  obtain ⟨i, hi⟩ : ∃ i, T.find h.ah = some i := by
    cases ha : T.find h.ah with
    | none => simp [Tr.add, hs, ha] at e
    | some i => exact ⟨i, rfl⟩
  obtain ⟨p, hp, _⟩ := Tr.find_some hi
  have key : T.add h = T.add1 h i p := by
    unfold Tr.add
    simp only [hs, Option.isSome_none, Bool.false_eq_true, if_false, hi, Option.bind_some, hp, Option.map_some]
  rw [key] at e ⊢
  unfold Tr.add1 at e ⊢
  by_cases he : T.chkE h i p = 0
  · rw [if_neg (by simp [he])]
    refine ⟨i, p, hs, hi, hp, he, ?_, rfl⟩
    simp only
    split <;> rfl
  · rw [if_pos he] at e
    exact absurd e he
theorem add_find {T : Tr} {h : Hd} (e : (T.add h).1 = 0) (k : List Nat) : (T.add h).2.find k = if k = hdH h then some T.ns.length else T.find k := by
  obtain ⟨i, p, hn, _, hp, _, hns, _⟩ := add_ok e
  rw [show (T.add h).2.find k = (T.grow h i p).find k by unfold Tr.find; rw [hns]]
  exact Tr.grow_find T h i p hp hn k
theorem add_new {T : Tr} {h : Hd} (e : (T.add h).1 = 0) : ∃ q, (T.add h).2.ns[T.ns.length]? = some q ∧ q.h = h := by
  obtain ⟨i, p, _, _, _, _, hns, _⟩ := add_ok e
  exact ⟨newP h i p, by rw [hns]; simp [Tr.grow], rfl⟩
theorem add_old {T : Tr} {h : Hd} (e : (T.add h).1 = 0) {j : Nat} {q : Pn} (hq : T.ns[j]? = some q) : ∃ q1, (T.add h).2.ns[j]? = some q1 ∧ q1.h = q.h ∧ q1.ah = q.ah ∧ q1.ht = q.ht := by
  obtain ⟨i, p, _, _, hp, _, hns, _⟩ := add_ok e
  obtain ⟨q1, h1, h2⟩ := grow_old (h := h) hp hq
  exact ⟨q1, by rw [hns]; exact h1, h2⟩
theorem find_at {T : Tr} (ok : TrOk T) {i : Nat} {p : Pn} (hp : T.ns[i]? = some p) : T.find (hdH p.h) = some i := by
  cases hf : T.find (hdH p.h) with
  | none =>
    have := (List.findIdx?_eq_none_iff.1 hf) p (List.mem_of_getElem? hp)
    simp at this
  | some j =>
    obtain ⟨q, hq, he⟩ := Tr.find_some hf
    rw [ok.dist j i q p hq hp he]
theorem best_find {T : Tr} (ok : TrOk T) : T.find T.best = some T.last := by
  obtain ⟨p, hp, _⟩ := ok.best
  rw [show T.best = hdH p.h by simp [Tr.best, hp]]
  exact find_at ok hp
theorem HK_best {T : Tr} (ok : TrOk T) : HK T.best := by
  obtain ⟨p, hp, _⟩ := ok.best
  rw [show T.best = hdH p.h by simp [Tr.best, hp]]
  exact HK_hash _
theorem best_ne {T : Tr} {h : Hd} (ok : TrOk T) (e : (T.add h).1 = 0) : T.best ≠ hdH h := fun he => by
  obtain ⟨i, p, hn, _⟩ := add_ok e
  have := best_find ok
  rw [he, hn] at this
  cases this
/-- is it the best one now, and how many blocks of the chain were left for it. -/
def Tr.isB (T : Tr) (h : Hd) : Bool := decide ((T.add h).2.best = hdH h)
def Tr.turned (T : Tr) (h : Hd) : Int := if T.isB h then ((T.add h).2.htOf T.last : Int) - (T.add h).2.htOf ((T.add h).2.fork ((T.add h).2.htOf T.last + (T.add h).2.htOf T.ns.length + 1) T.last T.ns.length) else 0
def Tr.told (T : Tr) (h : Hd) : List Value := if (T.add h).1 = 0 then bytesV (hdH h) ++ [Value.int .i64 ((T.add h).2.htOf T.ns.length : Int), Value.bool (T.isB h), Value.int .i64 (T.turned h)] else told0
def Tr.deep (T : Tr) (h : Hd) (d : Nat) : Nat := if (T.add h).1 = 0 then (max (d : Int) (T.turned h)).toNat else d
theorem fork_lt {T : Tr} (I : TrInv T) : ∀ (f a b : Nat) (p q : Pn), T.ns[a]? = some p → T.ns[b]? = some q → ∃ r, T.ns[T.fork f a b]? = some r
  | 0, a, b, p, q, ha, _ => ⟨p, ha⟩
  | f + 1, a, b, p, q, ha, hb => by
    unfold Tr.fork
    by_cases hab : a = b
    · rw [if_pos hab]; exact ⟨p, ha⟩
    · rw [if_neg hab, Tr.htOf_eq ha, Tr.htOf_eq hb, ha, hb]
      by_cases hle : q.ht ≤ p.ht
      · obtain ⟨c, s, hc, hs, _⟩ := I.up ha (I.step ha hb hab hle)
        rw [if_pos hle]
        simp only [Option.bind_some, hc, Option.getD_some]
        exact fork_lt I f c b s q hs hb
      · obtain ⟨c, s, hc, hs, _⟩ := I.up hb (I.step hb ha (fun e => hab e.symm) (by omega))
        rw [if_neg hle]
        simp only [Option.bind_some, hc, Option.getD_some]
        exact fork_lt I f a c p s ha hs
theorem relay_Submit (rb g off cap d : Nat) (x : Lt) (T : Tr) (I : TrInv T) (h : Hd) (hok : HdOk h) (w : World) (hR : RelAt w rb x T d) (hrx : rb ∉ x.all) (hp : BytesAt w g off (hdB h)) (hg : g < w.heap.size) :
    Calls Tryz.prog 23 #[.pointer (some ⟨rb, 0, none⟩), .slice (some ⟨g, off, none⟩) 80 cap] w fun e w' => e = .returned (.tuple #[.agg (T.told h).toArray, .int .i64 (T.add h).1]) ∧
      ∃ y : Lt, y.b = x.b ∧ RelAt w' rb y (T.add h).2 (T.deep h d) ∧ rb ∉ y.all ∧ (∀ b ∈ y.all, b ∈ x.all ∨ w.heap.size ≤ b) ∧ Chg (rb :: x.all) w w' := by
  have ok := I.ok
  have hlow := TreeAt.all_lt hR.t
  have hRl := hR.blk.lt
  have hgw : ∀ w', Chg [] w w' → BytesAt w' g off (hdB h) := fun w' k => hp.chg k hg (by simp)
  have hb32 : (bytesV T.best).length = 32 := by rw [bytesV_len]; exact (HK_best ok).1
  have hparse : ∀ w', Chg [] w w' → Calls Tryz.prog 63 #[.slice (some ⟨g, off, none⟩) 80 cap] w' fun e w'' => e = .returned (.tuple #[.agg h.l.toArray, .int .i64 0]) ∧ Chg [] w' w'' := fun w' k => by
    have := header_Parse g off cap (hdB h) (hdB_len hok) w' (hgw w' k) (Nat.lt_of_lt_of_le hg k.size)
    rw [hdOf_hdB hok] at this; exact this
  have hbest : ∀ w', Chg [] w w' → Calls Tryz.prog 14 #[.pointer (some ⟨x.b, 0, none⟩)] w' fun e w'' => e = .returned (.agg (bytesV T.best).toArray) ∧ Chg [] w' w'' := fun w' k => tree_Best x T ok w' (hR.t.chg ok k)
  by_cases he : (T.add h).1 = 0
  · have I2 := I.add hok
    obtain ⟨q, hq, hqh⟩ := add_new he
    have k1 : HK (hdH h) := HK_hash h
    have hf2 : (T.add h).2.find (hdH h) = some T.ns.length := by rw [add_find he, if_pos rfl]
    have hfb : (T.add h).2.find T.best = some T.last := by rw [add_find he, if_neg (best_ne ok he)]; exact best_find ok
    obtain ⟨pb, hpb, _⟩ := ok.best
    obtain ⟨pb2, hpb2, _⟩ := add_old he hpb
    obtain ⟨pf, hpf⟩ := fork_lt I2 ((T.add h).2.htOf T.last + (T.add h).2.htOf T.ns.length + 1) T.last T.ns.length pb2 q hpb2 hq
    have l1 := I2.ok.ht pb2 (List.mem_of_getElem? hpb2)
    have l2 := I2.ok.ht pf (List.mem_of_getElem? hpf)
    have e1 := Tr.htOf_eq hpb2
    have e2 := Tr.htOf_eq hpf
    have e3 := Tr.htOf_eq hq
    have hdd : max (d : Int) (T.turned h) = (T.deep h d : Int) := by
      unfold Tr.deep
      rw [if_pos he, Int.toNat_of_nonneg (by omega)]
    have hh := relay_SubmitGW rb x.b g off cap d (T.deep h d) x (T.add h).2 T.r.l h.l (bytesV (hdH h)) (bytesV T.best) (bytesV (T.add h).2.best) ((T.add h).2.htOf T.ns.length : Int) ((T.add h).2.htOf ((T.add h).2.fork ((T.add h).2.htOf T.last + (T.add h).2.htOf T.ns.length + 1) T.last T.ns.length) : Int) ((T.add h).2.htOf T.last : Int) (T.turned h) (T.isB h) rfl (Rl.len ok.r) (Hd.size hok) (Hd.one h) (by simp [bytesV_len, hdH_len]) (bytesV_all _) hb32 (bytesV_all _) w hR.blk hrx hlow
      (fun hb => by unfold Tr.turned; rw [hb]; rfl) (fun hb => by unfold Tr.turned; rw [hb, if_pos rfl, IntKind.wrap_i64]; omega) hdd hparse hbest
      (fun w' k => by
        refine (tree_Add x T I h hok w' (hR.t.chg ok k)).mono ?_
        rintro e w'' ⟨rfl, h1, h2⟩
        exact ⟨by rw [he], h1, h2⟩)
      (fun w => header_Hash h hok w)
      (fun w => hash_eq (HK_best I2.ok) k1 w)
      (fun y w hy ht => by
        have := tree_Height y (T.add h).2 I2.ok (hdH h) k1 w ht
        rw [hy, show (T.add h).2.node (hdH h) = some q by unfold Tr.node; rw [hf2]; exact hq] at this
        rw [e3]; exact this)
      (fun y w hy ht => by
        have := tree_Best y (T.add h).2 I2.ok w ht
        rw [hy] at this; exact this)
      (fun y w hy ht => by
        have := tree_Fork y (T.add h).2 I2 T.best (hdH h) (HK_best ok) k1 T.last T.ns.length pb2 q hfb hf2 hpb2 hq w ht
        rw [hy] at this; exact this)
      (fun y w hy ht => by
        have := tree_Height y (T.add h).2 I2.ok T.best (HK_best ok) w ht
        rw [hy, show (T.add h).2.node T.best = some pb2 by unfold Tr.node; rw [hfb]; exact hpb2] at this
        rw [e1]; exact this)
    refine hh.mono ?_
    rintro e w' ⟨rfl, ⟨y, hy, ht, hya⟩, kc, bk⟩
    refine ⟨?_, y, hy, ⟨by rw [add_r, hy]; exact bk, ht⟩, fun hb => ?_, hya, kc⟩
    · unfold Tr.told; rw [if_pos he, he]
    · rcases hya _ hb with h | h
      · exact hrx h
      · omega
  · have hT2 : (T.add h).2 = T := by
      unfold Tr.add at he ⊢
      split
      · rfl
      · rename_i hs
        rw [if_neg hs] at he
        cases hc : (T.find h.ah).bind (fun i => (T.ns[i]?).map (fun p => (i, p))) with
        | none => rfl
        | some a =>
          rw [hc] at he
          simp only at he ⊢
          unfold Tr.add1 at he ⊢
          split
          · rfl
          · rename_i h2; rw [if_neg h2] at he; exact absurd rfl he
    have hh := relay_SubmitEW rb x.b g off cap d x T.r.l h.l (bytesV T.best) (T.add h).1 he rfl (Rl.len ok.r) (Hd.size hok) (Hd.one h) hb32 (bytesV_all _) w hR.blk hrx hlow hparse hbest
      (fun w' k => by
        refine (tree_Add_bad x T I h hok he w' (hR.t.chg ok k)).mono ?_
        exact fun e w'' he => he)
    refine hh.mono ?_
    rintro e w' ⟨rfl, kc⟩
    refine ⟨?_, x, rfl, ?_, hrx, fun b hb => .inl hb, kc.mono (by simp)⟩
    · unfold Tr.told; rw [if_neg he]
    · rw [hT2, show T.deep h d = d by unfold Tr.deep; rw [if_neg he]]
      exact ⟨hR.blk.chg kc (by simp), hR.t.chg ok kc⟩
end Go.Proofs.YtmkgbinmilcojaaGreat

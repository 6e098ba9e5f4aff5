import Derived.Test.YtmkgbinmilcojaaGreatRules12K
import Derived.Test.YtmkgbinmilcojaaGreatTreeCheck0

/- pontagelaw12.Made: small facts. -/
namespace Go.Proofs.YtmkgbinmilcojaaGreat
open Go.RowKit Go.Maps
attribute [-go_sem] loadCellsFrom Instr.build

def rootL (r : Int) : List Value := Value.int .u8 r :: List.replicate 31 (Value.int .u8 0)
set_option maxRecDepth 100000 in
theorem build_root (r : Int) (w : World) : (Instr.build 26 #[(0, .int .u8 r)]).run Tryz.prog w = .ok (.agg (rootL r).toArray) w := by kernel_rfl
theorem hone1 {kl rl : List Value} (h1 : ∀ v ∈ kl, v.oneCell' = true) (h2 : ∀ v ∈ rl, v.oneCell' = true) {a b c d : Int} : ∀ v ∈ Value.int .u32 a :: (kl ++ (rl ++ [Value.int .u32 b, Value.int .u32 c, Value.int .u32 d])), v.oneCell' = true := by
  intro v hv
  simp only [List.mem_cons, List.mem_append, List.not_mem_nil, or_false] at hv
  rcases hv with rfl | hv | hv | rfl | rfl | rfl
  · rfl
  · exact h1 v hv
  · exact h2 v hv
  · rfl
  · rfl
  · rfl
theorem hdl_ah {kl rl : List Value} (_ : kl.length = 32) (a b c d : Int) : ∀ (j : Nat) (v : Value), kl.toArray[j]? = some v → (Value.int .u32 a :: (kl ++ (rl ++ [Value.int .u32 b, Value.int .u32 c, Value.int .u32 d]))).toArray[1 + j]? = some v := by
  intro j v h
  simp only [List.getElem?_toArray] at h ⊢
  rw [Nat.add_comm, List.getElem?_cons_succ, List.getElem?_append_left (List.getElem?_eq_some_iff.1 h).1]; exact h
theorem hdl_66 {kl rl : List Value} (h1 : kl.length = 32) (h2 : rl.length = 32) (a b c d : Int) : (Value.int .u32 a :: (kl ++ (rl ++ [Value.int .u32 b, Value.int .u32 c, Value.int .u32 d]))).toArray[66]? = some (.int .u32 c) := by
  simp [h1, h2]
theorem hdl_set66 {kl rl : List Value} (h1 : kl.length = 32) (h2 : rl.length = 32) (a b c d x : Int) : (Value.int .u32 a :: (kl ++ (rl ++ [Value.int .u32 b, Value.int .u32 c, Value.int .u32 d]))).toArray.setIfInBounds 66 (.int .u32 x) = (Value.int .u32 a :: (kl ++ (rl ++ [Value.int .u32 b, Value.int .u32 x, Value.int .u32 d]))).toArray := by
  apply Array.ext'
  simp only [Array.toList_setIfInBounds]
  rw [show 66 = 65 + 1 from rfl, List.set_cons_succ, List.set_append_right _ _ (by omega), h1, List.set_append_right _ _ (by omega), h2]
  rfl
theorem infoHd3 {l : List Value} (h : l.length = 68) : (Tryz.prog.info? 28).map (·.size) = some l.length := by rw [h]; exact infoHd
end Go.Proofs.YtmkgbinmilcojaaGreat

/- pontagelaw12.Made, of any kind, in words. Printed by madegen3.py. -/
namespace Go.Proofs.YtmkgbinmilcojaaGreat
open Go.RowKit Go.Maps
attribute [-go_sem] loadCellsFrom Instr.build

theorem hdl_6 {kl r : List Value} {v x : Value} (h : kl[5]? = some v) : (x :: (kl ++ r)).toArray[6]? = some v := by
  simp only [List.getElem?_toArray, List.getElem?_cons_succ]
  rw [List.getElem?_append_left (List.getElem?_eq_some_iff.1 h).1]; exact h
set_option maxRecDepth 100000 in
set_option maxHeartbeats 16000000 in
theorem law12_MadeG (tb : Nat) (hl kl : List Value) (K an late root tm tm2 bt be bx a5 ax : Int) (L1 ml M0 Fv wz wn : Array Value) (okm : Bool) (mm res : Nat → Array Value) (nn cc : Nat → Int)
    (hhs : hl.toArray.size = 68) (hks : kl.length = 32) (hk1 : ∀ v ∈ kl, v.oneCell' = true) (hms : ml.size = 68) (hm1 : ml.all (·.oneCell') = true) (hLs : L1.size = 68) (hLo : L1.all (·.oneCell') = true)
    (htm : hl.toArray[65]? = some (.int .u32 tm)) (_ : IntKind.i32.wrap (late.tmod 2000) = late.tmod 2000) (htm2 : IntKind.u32.wrap (tm + IntKind.u32.wrap (late.tmod 2000)) = tm2)
    (e5 : kl[5]? = some (.int .u8 a5)) (hbx : bits BinOp.xor .u32 bt 1 = bx) (hax : bits BinOp.xor .u8 a5 1 = ax)
    (hcase : (((K == 1) = true ∧ L1 = ((Value.int .u32 2 :: (kl ++ (rootL root ++ [Value.int .u32 tm2, Value.int .u32 bt, Value.int .u32 0]))).toArray).setIfInBounds 66 (.int .u32 bx)) ∨
      ((K == 1) = false ∧ (K == 3) = true ∧ L1 = ((Value.int .u32 2 :: (kl ++ (rootL root ++ [Value.int .u32 tm2, Value.int .u32 bt, Value.int .u32 0]))).toArray).setIfInBounds 6 (.int .u8 ax))) ∨
      ((K == 1) = false ∧ (K == 3) = false ∧ L1 = (Value.int .u32 2 :: (kl ++ (rootL root ++ [Value.int .u32 tm2, Value.int .u32 bt, Value.int .u32 0]))).toArray))
    (hM0 : M0 = if okm = true then ml else L1) (hm0 : mm 0 = M0) (hmn : ∀ i, mm (i + 1) = (mm i).setIfInBounds 67 (.int .u32 (nn (i + 1)))) (hm67 : ∀ i, (mm i)[67]? = some (.int .u32 (nn i))) (hnn : ∀ i, IntKind.u32.wrap (nn i + 1) = nn (i + 1))
    (hmz : ∀ i, (mm i).size = 68) (hmo : ∀ i, (mm i).all (·.oneCell') = true) (hr20 : res 20 = mm 20) (hrN : ∀ i, i < 20 → (cc (i + 1) != 0) = true → res i = mm (i + 1)) (hrC : ∀ i, i < 20 → (cc (i + 1) != 0) = false → res i = res (i + 1))
    (hF2 : (K == 2) = true → Fv = res 0) (hFn : (K == 2) = false → Fv = M0)
    (hhash : ∀ w, Calls Tryz.prog 27 #[.agg hl.toArray] w fun e w' => e = .returned (.agg kl.toArray) ∧ Chg [] w w') (w : World)
    (hbits : ∀ w1, Chg [] w w1 → Calls Tryz.prog 38 #[.pointer (some ⟨tb, 0, none⟩), .agg kl.toArray] w1 fun e w' => e = .returned (.tuple #[.int .u32 bt, .int .i64 be]) ∧ Chg [] w1 w')
    (hmine : ∀ w, Calls Tryz.prog 35 #[.agg L1, .int .u32 400] w fun e w' => e = .returned (.tuple #[.agg ml, .bool okm]) ∧ Chg [] w w')
    (hbw : ∀ w, (Instr.build 51 #[]).run Tryz.prog w = .ok (.agg wz) w)
    (hnot : ∀ w, Calls Tryz.prog 40 #[.agg wz] w fun e w' => e = .returned (.agg wn) ∧ Chg [] w w')
    (hcheck : ∀ i w, Calls Tryz.prog 39 #[.agg (mm (i + 1)), .agg wn] w fun e w' => e = .returned (.int .i64 (cc (i + 1))) ∧ Chg [] w w') :
    Calls Tryz.prog 12 #[.pointer (some ⟨tb, 0, none⟩), .agg hl.toArray, .agg #[.int .i64 K, .int .i64 an, .int .i32 late, .int .u8 root]] w fun e w' => e = .returned (.agg Fv) ∧ Chg [] w w' := by
  have hzH := zeroHd
  have hbr := build_root root
  have hrs : (rootL root).length = 32 := by simp [rootL]
  have hr1 : ∀ v ∈ rootL root, v.oneCell' = true := by intro v hv; simp [rootL] at hv; rcases hv with rfl | ⟨_, rfl⟩ <;> rfl
  have hbm := build_made (l := kl) (m := rootL root) hks hrs 2 tm2
  generalize rootL root = rl at *
  have hzs : hd0.cs.size = 68 := Hd.size hd0_ok
  have bA := ((Blk.new w hl.toArray 28).alloc (.cells #[.int .i64 K, .int .i64 an, .int .i32 late, .int .u8 root] 46)).alloc (.cells hd0.cs 28)
  have bS := (Blk.new (w.alloc (.cells hl.toArray 28)) #[.int .i64 K, .int .i64 an, .int .i32 late, .int .u8 root] 46).alloc (.cells hd0.cs 28)
  have bO := Blk.new ((w.alloc (.cells hl.toArray 28)).alloc (.cells #[.int .i64 K, .int .i64 an, .int .i32 late, .int .u8 root] 46)) hd0.cs 28
  have k0 : Chg [] w (((w.alloc (.cells hl.toArray 28)).alloc (.cells #[.int .i64 K, .int .i64 an, .int .i32 late, .int .u8 root] 46)).alloc (.cells hd0.cs 28)) := (((Chg.refl _ _).alloc _).alloc _).alloc _
  obtain ⟨zh, hzh⟩ : ∃ zh, zh = hd0.cs := ⟨_, rfl⟩
  rw [← hzh] at hzH hzs bA bS bO k0
  clear hzh
  go_enter Tryz.func12, Tryz.ntmps12
  go_upto_region 1 with fail
  generalize hgA : w.heap.size = gA at *
  generalize hgS : (w.alloc (.cells hl.toArray 28)).heap.size = gS at *
  generalize hgO : ((w.alloc (.cells hl.toArray 28)).alloc (.cells #[.int .i64 K, .int .i64 an, .int .i32 late, .int .u8 root] 46)).heap.size = gO at *
  have hgS2 : gS = gA + 1 := by rw [← hgS, ← hgA]; simp
  have hgO2 : gO = gA + 1 + 1 := by rw [← hgO, ← hgA]; simp
  generalize ((w.alloc (.cells hl.toArray 28)).alloc (.cells #[.int .i64 K, .int .i64 an, .int .i32 late, .int .u8 root] 46)).alloc (.cells zh 28) = w0 at *
  clear hgS hgO
  subst hgS2 hgO2
  go_cut [7] (fun s7 wx => ∃ gH, s7 = .pointer (some ⟨gH, 0, none⟩) ∧ Blk wx gH (Value.int .u32 2 :: (kl ++ (rl ++ [Value.int .u32 tm2, Value.int .u32 0, Value.int .u32 0]))).toArray 28 ∧ w0.heap.size ≤ gH ∧ Chg [] w0 wx)
  case first =>
      refine wp_region_held_drew (S := fun w' => Chg [] w0 w') (by kernel_rfl) ((Chg.refl _ _).drew) (fun hH => ?_)
      obtain ⟨wd0, hwd0⟩ : ∃ wd, wd = (w0).drew := ⟨_, rfl⟩
      rw [← hwd0] at hH ⊢
      clear hwd0
      refine TK 0 (.agg hl.toArray) rfl hH (fun w' hw' => ?_) ?_
      · (have k9 := bA.chg hw' (by simp); have l0 := load_blkC k9 68 hhs; go_simp)
      try simp only [Act.put, Sa, Sb, Sc, Sd, Sf]
      refine TK 2 (.pointer (some ⟨gA, 65, none⟩)) rfl hH (fun w' hw' => ?_) ?_
      · go_simp
      try simp only [Act.put, Sa, Sb, Sc, Sd, Se, Sf]
      refine TK 3 (.int .u32 tm) rfl hH (fun w' hw' => ?_) ?_
      · (have k9 := bA.chg hw' (by simp); have c0 := k9.cell 65 htm; go_simp)
      try simp only [Act.put, Sa, Sb, Sc, Sd, Se, Sf]
      refine TK 4 (.pointer (some ⟨gA + 1, 2, none⟩)) rfl hH (fun w' hw' => ?_) ?_
      · go_simp
      try simp only [Act.put, Sa, Sb, Sc, Sd, Se, Sf]
      refine TK 5 (.int .i32 late) rfl hH (fun w' hw' => ?_) ?_
      · (have k9 := bS.chg hw' (by simp); have c0 := k9.cell 2 rfl; go_simp)
      try simp only [Act.put, Sa, Sb, Sc, Sd, Se, Sf]
      refine TK 6 (.int .i32 (late.tmod 2000)) rfl hH (fun w' hw' => ?_) ?_
      · go_simp
      try simp only [Act.put, Sa, Sb, Sc, Sd, Se, Sf]
      refine TK 7 (.int .u32 (IntKind.u32.wrap (late.tmod 2000))) rfl hH (fun w' hw' => ?_) ?_
      · go_simp
      try simp only [Act.put, Sa, Sb, Sc, Sd, Se, Sf]
      refine TK 8 (.int .u32 tm2) rfl hH (fun w' hw' => ?_) ?_
      · (rw [← htm2]; go_simp)
      try simp only [Act.put, Sa, Sb, Sc, Sd, Se, Sf]
      refine TK 9 (.pointer (some ⟨gA + 1, 3, none⟩)) rfl hH (fun w' hw' => ?_) ?_
      · go_simp
      try simp only [Act.put, Sa, Sb, Sc, Sd, Se, Sf]
      refine TK 10 (.int .u8 root) rfl hH (fun w' hw' => ?_) ?_
      · (have k9 := bS.chg hw' (by simp); have c0 := k9.cell 3 rfl; go_simp)
      try simp only [Act.put, Sa, Sb, Sc, Sd, Se, Sf]
      refine TK 11 (.agg rl.toArray) rfl hH (fun w' hw' => ?_) ?_
      · go_simp
      try simp only [Act.put, Sa, Sb, Sc, Sd, Se, Sf]
      refine RD2 1 13 rfl rfl (fun K hK => ?_) (fun K hK => ?_)
      · try rw [if_pos (by rfl)]
        go_simp
        go_at_call 27
        refine (hhash _).mono ?_
        rintro e1 w1 ⟨rfl, hc1⟩
        dsimp only
        have hH1 := hH.trans hc1 (by simp)
        refine hK.out _ _ hH1 (fun _ => ?_)
        try simp only [Act.put, Sa, Sb, Sc, Sd, Se, Sf]
        refine TK 12 (.agg (Value.int .u32 2 :: (kl ++ (rl ++ [Value.int .u32 tm2, Value.int .u32 0, Value.int .u32 0]))).toArray) rfl hH1 (fun w' hw' => ?_) ?_
        · go_simp
        try simp only [Act.put, Sa, Sb, Sc, Sd, Se, Sf]
        refine RD 13 rfl (fun K hK => ?_)
        rw [if_pos (by rfl)]
        refine op_alloc 28 7 (by kernel_rfl) (by kernel_rfl) hzH ?_
        have kbH2 := Blk.new (w1) zh 28
        have hH2 := hH1.alloc (.cells zh 28)
        have hgeH2 := hH1.size
        obtain ⟨gH2, hgg2⟩ : ∃ g, g = (w1).heap.size := ⟨_, rfl⟩
        rw [← hgg2] at kbH2 hgeH2 ⊢
        generalize (w1).alloc (.cells zh 28) = w2 at hH2 kbH2 ⊢
        clear hgg2
        refine hK.out _ _ hH2 (fun _ => ?_)
        try simp only [Act.put, Sa, Sb, Sc]
        refine RD 14 rfl (fun K hK => ?_)
        rw [if_pos (by rfl)]
        refine op_store 28 (.tmp 7) (.tmp 22) (by kernel_rfl) (by kernel_rfl) rfl (cs := Value.int .u32 2 :: (kl ++ (rl ++ [Value.int .u32 tm2, Value.int .u32 0, Value.int .u32 0]))) rfl kbH2 (by simp [hzs, hks, hrs]) (infoHd3 (by simp [hks, hrs])) (by exact hone1 hk1 hr1) ?_
        intro w3 kbH3 hc3
        have hH3 : Chg [] w0 w3 := hH2.trans hc3 (by simp; omega)
        refine hK.out _ _ hH3 (fun _ => ?_)
        try simp only [Act.put, Sa, Sb, Sc, Sd, Se, Sf]
        refine wpAnyH_done (by kernel_rfl) ?_ _
        go_wp2_with fail
        go_meet
        exact ⟨gH2, rfl, kbH3, by omega, hH3⟩
      · rw [if_pos (by rfl)]
        refine op_alloc 28 7 (by kernel_rfl) (by kernel_rfl) hzH ?_
        have kbH4 := Blk.new (wd0) zh 28
        have hH4 := hH.alloc (.cells zh 28)
        have hgeH4 := hH.size
        obtain ⟨gH4, hgg4⟩ : ∃ g, g = (wd0).heap.size := ⟨_, rfl⟩
        rw [← hgg4] at kbH4 hgeH4 ⊢
        generalize (wd0).alloc (.cells zh 28) = w4 at hH4 kbH4 ⊢
        clear hgg4
        refine hK.out _ _ hH4 (fun _ => ?_)
        try simp only [Act.put, Sa, Sb, Sc]
        refine RD 1 rfl (fun K hK => ?_)
        try rw [if_pos (by rfl)]
        go_simp
        go_at_call 27
        refine (hhash _).mono ?_
        rintro e5 w5 ⟨rfl, hc5⟩
        dsimp only
        have hH5 := hH4.trans hc5 (by simp)
        have kbH5 := kbH4.chg hc5 (by simp)
        refine hK.out _ _ hH5 (fun _ => ?_)
        try simp only [Act.put, Sa, Sb, Sc, Sd, Se, Sf]
        refine TK 12 (.agg (Value.int .u32 2 :: (kl ++ (rl ++ [Value.int .u32 tm2, Value.int .u32 0, Value.int .u32 0]))).toArray) rfl hH5 (fun w' hw' => ?_) ?_
        · go_simp
        try simp only [Act.put, Sa, Sb, Sc, Sd, Se, Sf]
        refine RD 14 rfl (fun K hK => ?_)
        rw [if_pos (by rfl)]
        refine op_store 28 (.tmp 7) (.tmp 22) (by kernel_rfl) (by kernel_rfl) rfl (cs := Value.int .u32 2 :: (kl ++ (rl ++ [Value.int .u32 tm2, Value.int .u32 0, Value.int .u32 0]))) rfl kbH5 (by simp [hzs, hks, hrs]) (infoHd3 (by simp [hks, hrs])) (by exact hone1 hk1 hr1) ?_
        intro w6 kbH6 hc6
        have hH6 : Chg [] w0 w6 := hH5.trans hc6 (by simp; omega)
        refine hK.out _ _ hH6 (fun _ => ?_)
        try simp only [Act.put, Sa, Sb, Sc, Sd, Se, Sf]
        refine wpAnyH_done (by kernel_rfl) ?_ _
        go_wp2_with fail
        go_meet
        exact ⟨gH4, rfl, kbH6, by omega, hH6⟩
  case rest =>
    obtain ⟨gH, rfl, bH, hgH, k1⟩ := hcut
    have bS0 := bS
    have bO0 := bO
    have bS := bS.chg k1 (by simp)
    have bO := bO.chg k1 (by simp)
    have k01 := k0.trans k1 (by simp)
    have hlO := bO.lt
    have hs0 := k0.size
    have lah := load_part bH 1 32 (ds := kl.toArray) (by simpa using hks) (hdl_ah hks _ _ _ _)
    go_wp2_with fail
    refine (hbits _ k01).mono ?_
    rintro e w2 ⟨rfl, k2⟩
    dsimp only
    have bH2 := bH.chg k2 (by simp)
    have c66 := bH2.cell 66 (hdl_66 hks hrs _ _ _ _)
    have f66 := bH2.free 66
    have bH3 := bH2.set 66 (.int .u32 bt)
    rw [hdl_set66 hks hrs] at bH3
    have k12 := k01.trans k2 (by simp)
    have hneS : gA + 1 ≠ gH := by have := (Blk.lt bS0); omega
    have hneO : gA + 1 + 1 ≠ gH := by have := (Blk.lt bO0); omega
    have bS2 := bS.chg k2 (by simp)
    have bO2 := bO.chg k2 (by simp)
    go_upto_region 3 with fail
    have kk : Chg [gH] w2 (w2.setCell ⟨gH, 66, none⟩ (.int .u32 bt)) := (Chg.refl _ _).setCell (.inl (by simp)) _
    have k3 : Chg [] w (w2.setCell ⟨gH, 66, none⟩ (.int .u32 bt)) := k12.setCell (.inr (by simp; omega)) _
    have bS3 := bS2.chg kk (by simpa using hneS)
    have bO3 := bO2.chg kk (by simpa using hneO)
    generalize w2.setCell ⟨gH, 66, none⟩ (.int .u32 bt) = w3 at *
    have cS0 := bS3.cell 0 (v := .int .i64 K) rfl
    have e66 := hdl_66 hks hrs 2 tm2 bt 0
    have e6 := hdl_6 (x := .int .u32 2) (r := rl ++ [Value.int .u32 tm2, Value.int .u32 bt, Value.int .u32 0]) e5
    clear c66 f66 lah bS0 bO0 bH bH2 bS2 bO2 kk k1 k01 k2 k12 hbits
    generalize (Value.int .u32 2 :: (kl ++ (rl ++ [Value.int .u32 tm2, Value.int .u32 bt, Value.int .u32 0]))).toArray = base at *
    rcases hcase with (⟨d1, hL⟩ | ⟨d1, d3, hL⟩) | ⟨d1, d3, hL⟩
    case' inl.inl =>
      have c66 := bH3.cell 66 e66
      have f66 := bH3.free 66
      have bH4 := bH3.set 66 (.int .u32 bx)
      rw [← hL] at bH4
      go_upto_region 8 with fail
      have kk : Chg [gH] w3 (w3.setCell ⟨gH, 66, none⟩ (.int .u32 bx)) := (Chg.refl _ _).setCell (.inl (by simp)) _
      have k4 := k3.trans kk (by simp; omega)
      have bS4 := bS3.chg kk (by simpa using hneS)
      have bO4 := bO3.chg kk (by simpa using hneO)
      clear c66 f66 cS0 bS3 bO3 k3 kk bH3 hL
      generalize w3.setCell ⟨gH, 66, none⟩ (.int .u32 bx) = w4 at *
      have dd := Lib.hid d1
      clear d1
    case' inl.inr =>
      have c6 := bH3.cell 6 e6
      have f6 := bH3.free 6
      have bH4 := bH3.set 6 (.int .u8 ax)
      rw [← hL] at bH4
      go_upto_region 8 with fail
      have kk : Chg [gH] w3 (w3.setCell ⟨gH, 6, none⟩ (.int .u8 ax)) := (Chg.refl _ _).setCell (.inl (by simp)) _
      have k4 := k3.trans kk (by simp; omega)
      have bS4 := bS3.chg kk (by simpa using hneS)
      have bO4 := bO3.chg kk (by simpa using hneO)
      clear c6 f6 cS0 bS3 bO3 k3 kk bH3 hL
      generalize w3.setCell ⟨gH, 6, none⟩ (.int .u8 ax) = w4 at *
      have dd := Lib.hid d1
      clear d1 d3
    case' inr =>
      rw [← hL] at bH3
      go_upto_region 8 with fail
      have bH4 := bH3
      have k4 := k3
      have bS4 := bS3
      have bO4 := bO3
      clear cS0 bS3 bO3 k3 bH3 hL
      generalize w3 = w4 at *
      have dd := Lib.hid d1
      clear d1 d3
    all_goals
      have ldH := load_blkC bH4 68 hLs
      go_wp2_with fail
      refine (hmine _).mono ?_
      rintro e w5 ⟨rfl, k5⟩
      dsimp only
      have bH5 := bH4.chg k5 (by simp)
      have hst := run_storeCells_new (P := Tryz.prog) w5 28 zh ml (by rw [hms]; exact infoHd) (by rw [hms, hzs]) hm1
      have bM := Blk.new w5 ml 28
      have k6 := (k4.trans k5 (by simp)).alloc (.cells ml 28)
      have bS6 := (bS4.chg k5 (by simp)).alloc (.cells ml 28)
      have bO6 := (bO4.chg k5 (by simp)).alloc (.cells ml 28)
      have bH6 := bH5.alloc (.cells ml 28)
      have ldH6 := load_blkC bH6 68 hLs
      have l6 := bO6.lt
      have hsz6 := k6.size
      have s5 := bO4.lt
      have k45 := k5.size
      obtain ⟨gM, hgM⟩ : ∃ g, g = w5.heap.size := ⟨_, rfl⟩
      have hgM2 : gA + 1 + 1 < gM := by omega
      have hwM : w.heap.size ≤ gM := by have := (k4.trans k5 (by simp)).size; omega
      have hgMH : gH < gM := by have := bH5.lt; omega
      obtain ⟨W7, hst7, b7, kk7⟩ := store_cells bM (cs := L1) (by rw [hLs, hms]) hLo
      have hM0' : (okm = true ∧ M0 = ml) ∨ (okm = false ∧ M0 = L1) := by
        cases okm
        · exact .inr ⟨rfl, by rw [hM0]; rfl⟩
        · exact .inl ⟨rfl, by rw [hM0]; rfl⟩
      have hm0z : M0.size = 68 := by rw [← hm0]; exact hmz 0
      have hm0o : M0.all (·.oneCell') = true := by rw [← hm0]; exact hmo 0
      have hm0' := Lib.hid hm0
      have hF2' := Lib.hid hF2
      have hFn' := Lib.hid hFn
      clear ldH bH4 bS4 bO4 bH5 k45 s5 hgMH hM0 hm0 hF2 hFn hhash hmine hhs htm bA bH6
      rcases hM0' with ⟨rfl, hM0⟩ | ⟨rfl, hM0⟩
      go_upto_region 11 with fail
      rw [← hgM] at bM ⊢
      have k8 := k6
      have bS8 := bS6
      have bO8 := bO6
      have bN : Blk (w5.alloc (.cells ml 28)) gM M0 28 := by rw [hM0]; exact bM
      clear hst hgM hst7 b7 kk7 hM0
      generalize w5.alloc (.cells ml 28) = w8 at *
      clear k6 bS6 bO6 bM
      rotate_left 1
      go_upto_region 11 with fail
      rw [← hgM] at b7 kk7 ⊢
      rw [← hM0] at b7
      have k8 := k6.trans kk7 (by simpa using hwM)
      have bS8 := bS6.chg kk7 (by simp; omega)
      have bO8 := bO6.chg kk7 (by simp; omega)
      have bN := b7
      clear hst hgM hst7 bM kk7 hM0 k6 bS6 bO6 b7
      generalize W7 = w8 at *
      all_goals
        have ldN := load_blkC bN 68 hm0z
        have cS8 := bS8.cell 0 (v := .int .i64 K) rfl
        clear k4 k5 ldH6 dd
        cases hk2 : (K == 2)
        · obtain ⟨W9, hsf9, b9, kk9⟩ := store_cells bO8 (cs := M0) (by rw [hm0z, hzs]) hm0o
          have ld9 := load_blkC b9 68 hm0z
          have hFe := Lib.hid (hFn'.out hk2)
          clear hF2' hFn'
          go_wp2
          exact bodyPost_ret (v := .agg M0) (by simp [results, Tryz.results12, go_sem, ld9]) rfl ⟨by rw [hFe.out], k8.trans kk9 (by simp; omega)⟩
        · have hFe := Lib.hid (hF2'.out hk2)
          clear hF2' hFn' ldN
          rw [← hm0'.out] at bN
          clear hm0z hm0o
          clear hm0'
          have hmn' := Lib.hid hmn
          have hnn' := Lib.hid hnn
          have hr20' := Lib.hid hr20
          have hrN' := Lib.hid hrN
          have hrC' := Lib.hid hrC
          have hsz8 := k8.size
          clear hmn hr20 hrN hrC hnn
          have hr0 : ∃ F, F = res 0 := ⟨_, rfl⟩
          obtain ⟨F, hF⟩ := hr0
          rw [← hF] at hFe
          have hF' := Lib.hid hF
          clear hF
          go_wp2_with fail
          clear cS8 bS8
          go_loopw [58] (fun s58 wr => ∃ i : Nat, i ≤ 20 ∧ s58 = .int .i64 i ∧ Blk wr gM (mm i) 28 ∧ Blk wr (gA + 1 + 1) zh 28 ∧ F = res i ∧ Chg [] w wr) (fun s _ => 20 - (intOf s).toNat)
          case atStart => exact ⟨0, Nat.zero_le _, rfl, bN, bO8, hF'.out, k8⟩
          case round =>
            obtain ⟨i, hi, rfl, bN, bO9, hres, k9⟩ := hrel
            have hres' := Lib.hid hres
            clear hres bO8 k8 hF'
            by_cases hlt : i < 20
            · have c67 := bN.cell 67 (hm67 i)
              have f67 := bN.free 67
              have v67 := hnn'.out i
              have bN2 := bN.set 67 (.int .u32 (nn (i + 1)))
              have hchk := hcheck i
              have hMz := hmz (i + 1)
              have hcc0 := hrC'.out i hlt
              have hcc1 := hrN'.out i hlt
              rw [← hmn'.out] at bN2
              obtain ⟨M, hM⟩ : ∃ M, M = mm (i + 1) := ⟨_, rfl⟩
              obtain ⟨C, hC⟩ : ∃ C, C = cc (i + 1) := ⟨_, rfl⟩
              obtain ⟨nc, hnc⟩ : ∃ n, n = nn (i + 1) := ⟨_, rfl⟩
              have hMo := hmo (i + 1)
              rw [← hM] at bN2 hMz hMo hcc1
              simp only [← hM, ← hC] at hchk
              rw [← hC] at hcc0 hcc1
              rw [← hnc] at bN2 v67
              have hM' := Lib.hid hM
              have hcc0' := Lib.hid hcc0
              have hcc1' := Lib.hid hcc1
              clear hM hC hnc hcc0 hcc1
              have d20 : decide ((i : Int) < 20) = true := by simp; omega
              go_upto_region 15 with fail
              have kk : Chg [gM] wr (wr.setCell ⟨gM, 67, none⟩ (.int .u32 nc)) := (Chg.refl _ _).setCell (.inl (by simp)) _
              have k10 := k9.trans kk (by simp; omega)
              have bO10 := bO9.chg kk (by simp; omega)
              clear c67 f67 v67 bN kk k9 bO9
              generalize wr.setCell ⟨gM, 67, none⟩ (.int .u32 nc) = w10 at *
              go_cut [68] (fun s68 wx => s68 = .bool (C != 0) ∧ Chg [] w10 wx)
              case first =>
                refine wp_region_held_drew (S := fun w' => Chg [] w10 w') (by kernel_rfl) ((Chg.refl _ _).drew) (fun hH61 => ?_)
                obtain ⟨wd61, hwd61⟩ : ∃ wd, wd = (w10).drew := ⟨_, rfl⟩
                rw [← hwd61] at hH61 ⊢
                clear hwd61
                refine TK 0 (.agg M) rfl hH61 (fun w' hw' => ?_) ?_
                · (have k9 := bN2.chg hw' (by simp); have l0 := load_blkC k9 68 hMz; go_simp)
                try simp only [Act.put, Sa, Sb, Sc, Sd, Sf]
                refine TK 1 (.agg wz) rfl hH61 (fun w' hw' => ?_) ?_
                · go_simp
                try simp only [Act.put, Sa, Sb, Sc, Sd, Se, Sf]
                refine RD 2 rfl (fun K hK => ?_)
                try rw [if_pos (by rfl)]
                go_simp
                go_at_call 40
                refine (hnot _).mono ?_
                rintro e62 w62 ⟨rfl, hc62⟩
                dsimp only
                have hH62 := hH61.trans hc62 (by simp)
                refine hK.out _ _ hH62 (fun _ => ?_)
                try simp only [Act.put, Sa, Sb, Sc, Sd, Se, Sf]
                refine RD 3 rfl (fun K hK => ?_)
                try rw [if_pos (by rfl)]
                go_simp
                go_at_call 39
                refine (hchk _).mono ?_
                rintro e63 w63 ⟨rfl, hc63⟩
                dsimp only
                have hH63 := hH62.trans hc63 (by simp)
                refine hK.out _ _ hH63 (fun _ => ?_)
                try simp only [Act.put, Sa, Sb, Sc, Sd, Se, Sf]
                refine TK 4 (.bool (C != 0)) rfl hH63 (fun w' hw' => ?_) ?_
                · go_simp
                try simp only [Act.put, Sa, Sb, Sc, Sd, Se, Sf]
                refine wpAnyH_done (by kernel_rfl) ?_ _
                go_wp2_with fail
                go_meet
                exact ⟨rfl, hH63⟩
              case rest =>
                obtain ⟨rfl, k11⟩ := hcut
                have bN3 := bN2.chg k11 (by simp)
                have bO11 := bO10.chg k11 (by simp)
                have k12 := k10.trans k11 (by simp)
                clear bN2 bO10 k10 k11 hchk
                cases hcc : (C != 0)
                · have hnx := Lib.hid (hres'.out.trans (hcc0'.out hcc))
                  clear hcc0' hcc1' hres'
                  rw [hM'.out] at bN3
                  go_wp2
                  go_roundw
                  case rel => exact ⟨i + 1, by omega, by simp, bN3, bO11, hnx.out, k12⟩
                  case measure => simp [intOf]; omega
                · have hnx := Lib.hid (hres'.out.trans (hcc1'.out hcc))
                  clear hcc0' hcc1' hres'
                  have ldN := load_blkC bN3 68 hMz
                  obtain ⟨W9, hsf9, b9, kk9⟩ := store_cells bO11 (cs := M) (by rw [hMz, hzs]) hMo
                  have ld9 := load_blkC b9 68 hMz
                  go_wp2
                  exact bodyPost_ret (v := .agg M) (by simp [results, Tryz.results12, go_sem, ld9]) rfl ⟨by rw [hFe.out, hnx.out], k12.trans kk9 (by simp; omega)⟩
            · obtain rfl : i = 20 := by omega
              have hMz := hmz 20
              have hMo := hmo 20
              have hnx := Lib.hid (hres'.out.trans hr20'.out)
              clear hres' hr20'
              obtain ⟨M, hM⟩ : ∃ M, M = mm 20 := ⟨_, rfl⟩
              rw [← hM] at bN hMz hMo hnx
              clear hM
              have ldN := load_blkC bN 68 hMz
              obtain ⟨W9, hsf9, b9, kk9⟩ := store_cells bO9 (cs := M) (by rw [hMz, hzs]) hMo
              have ld9 := load_blkC b9 68 hMz
              go_wp2
              exact bodyPost_ret (v := .agg M) (by simp [results, Tryz.results12, go_sem, ld9]) rfl ⟨by rw [hFe.out, hnx.out], k9.trans kk9 (by simp; omega)⟩
end Go.Proofs.YtmkgbinmilcojaaGreat

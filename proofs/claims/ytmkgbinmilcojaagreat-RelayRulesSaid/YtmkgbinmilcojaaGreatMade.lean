/- pontagelaw12.Made of the kinds that leave the header as it is. Printed by madegen.py. -/
import Derived.Test.YtmkgbinmilcojaaGreatRules12K
import Derived.Test.YtmkgbinmilcojaaGreatTreeCheck0
namespace Go.Proofs.YtmkgbinmilcojaaGreat
open Go.RowKit Go.Maps
attribute [-go_sem] loadCellsFrom Instr.build

def rootL (r : Int) : List Value := Value.int .u8 r :: List.replicate 31 (Value.int .u8 0)
set_option maxRecDepth 100000 in
theorem build_root (r : Int) (w : World) : (Instr.build 26 #[(0, .int .u8 r)]).run Tryz.prog w = .ok (.agg (rootL r).toArray) w := by kernel_rfl
theorem hone1 {kl rl : List Value} (h1 : ∀ v ∈ kl, v.oneCell' = true) (h2 : ∀ v ∈ rl, v.oneCell' = true) {a b c d : Int} : ∀ v ∈ Value.int .u32 a :: (kl ++ (rl ++ [Value.int .u32 b, Value.int .u32 c, Value.int .u32 d])), v.oneCell' = true := by
  intro v hv
  simp only [List.mem_cons, List.mem_append, List.not_mem_nil, or_false] at hv
  rcases hv with rfl | hv | hv | rfl | rfl | rfl
  · rfl
  · exact h1 v hv
  · exact h2 v hv
  · rfl
  · rfl
  · rfl
theorem hdl_ah {kl rl : List Value} (h1 : kl.length = 32) (a b c d : Int) : ∀ (j : Nat) (v : Value), kl.toArray[j]? = some v → (Value.int .u32 a :: (kl ++ (rl ++ [Value.int .u32 b, Value.int .u32 c, Value.int .u32 d]))).toArray[1 + j]? = some v := by
  intro j v h
  simp only [List.getElem?_toArray] at h ⊢
  rw [Nat.add_comm, List.getElem?_cons_succ, List.getElem?_append_left (List.getElem?_eq_some_iff.1 h).1]; exact h
theorem hdl_66 {kl rl : List Value} (h1 : kl.length = 32) (h2 : rl.length = 32) (a b c d : Int) : (Value.int .u32 a :: (kl ++ (rl ++ [Value.int .u32 b, Value.int .u32 c, Value.int .u32 d]))).toArray[66]? = some (.int .u32 c) := by
  simp [List.getElem?_append, h1, h2]
theorem hdl_set66 {kl rl : List Value} (h1 : kl.length = 32) (h2 : rl.length = 32) (a b c d x : Int) : (Value.int .u32 a :: (kl ++ (rl ++ [Value.int .u32 b, Value.int .u32 c, Value.int .u32 d]))).toArray.setIfInBounds 66 (.int .u32 x) = (Value.int .u32 a :: (kl ++ (rl ++ [Value.int .u32 b, Value.int .u32 x, Value.int .u32 d]))).toArray := by
  apply Array.ext'
  simp only [Array.toList_setIfInBounds]
  rw [show 66 = 65 + 1 from rfl, List.set_cons_succ, List.set_append_right _ _ (by omega), h1, List.set_append_right _ _ (by omega), h2]
  rfl
theorem infoHd3 {l : List Value} (h : l.length = 68) : (Tryz.prog.info? 28).map (·.size) = some l.length := by rw [h]; exact infoHd
set_option maxRecDepth 100000 in
set_option maxHeartbeats 8000000 in
theorem law12_MadeW (tb : Nat) (hl kl ml : List Value) (K an late root tm tm2 bits be : Int) (hhs : hl.toArray.size = 68) (hks : kl.length = 32) (hk1 : ∀ v ∈ kl, v.oneCell' = true) (hms : ml.toArray.size = 68) (hm1 : ml.toArray.all (·.oneCell') = true)
    (htm : hl.toArray[65]? = some (.int .u32 tm)) (hlt : IntKind.i32.wrap (late.tmod 2000) = late.tmod 2000) (htm2 : IntKind.u32.wrap (tm + IntKind.u32.wrap (late.tmod 2000)) = tm2) (hK1 : (K == 1) = false) (hK2 : (K == 2) = false) (hK3 : (K == 3) = false)
    (hhash : ∀ w, Calls Tryz.prog 27 #[.agg hl.toArray] w fun e w' => e = .returned (.agg kl.toArray) ∧ Chg [] w w') (w : World)
    (hbits : ∀ w1, Chg [] w w1 → Calls Tryz.prog 38 #[.pointer (some ⟨tb, 0, none⟩), .agg kl.toArray] w1 fun e w' => e = .returned (.tuple #[.int .u32 bits, .int .i64 be]) ∧ Chg [] w1 w')
    (hmine : ∀ w, Calls Tryz.prog 35 #[.agg (Value.int .u32 2 :: (kl ++ (rootL root ++ [Value.int .u32 tm2, Value.int .u32 bits, Value.int .u32 0]))).toArray, .int .u32 400] w fun e w' => e = .returned (.tuple #[.agg ml.toArray, .bool true]) ∧ Chg [] w w') :
    Calls Tryz.prog 12 #[.pointer (some ⟨tb, 0, none⟩), .agg hl.toArray, .agg #[.int .i64 K, .int .i64 an, .int .i32 late, .int .u8 root]] w fun e w' => e = .returned (.agg ml.toArray) ∧ Chg [] w w' := by
  have hzH := zeroHd
  have hbr := build_root root
  have hrs : (rootL root).length = 32 := by simp [rootL]
  have hr1 : ∀ v ∈ rootL root, v.oneCell' = true := by intro v hv; simp [rootL] at hv; rcases hv with rfl | ⟨_, rfl⟩ <;> rfl
  have hbm := build_made (l := kl) (m := rootL root) hks hrs 2 tm2
  generalize rootL root = rl at *
  have hzs : hd0.cs.size = 68 := Hd.size hd0_ok
  have bA := ((Blk.new w hl.toArray 28).alloc (.cells #[.int .i64 K, .int .i64 an, .int .i32 late, .int .u8 root] 46)).alloc (.cells hd0.cs 28)
  have bS := (Blk.new (w.alloc (.cells hl.toArray 28)) #[.int .i64 K, .int .i64 an, .int .i32 late, .int .u8 root] 46).alloc (.cells hd0.cs 28)
  have bO := Blk.new ((w.alloc (.cells hl.toArray 28)).alloc (.cells #[.int .i64 K, .int .i64 an, .int .i32 late, .int .u8 root] 46)) hd0.cs 28
  have k0 : Chg [] w (((w.alloc (.cells hl.toArray 28)).alloc (.cells #[.int .i64 K, .int .i64 an, .int .i32 late, .int .u8 root] 46)).alloc (.cells hd0.cs 28)) := (((Chg.refl _ _).alloc _).alloc _).alloc _
  obtain ⟨zh, hzh⟩ : ∃ zh, zh = hd0.cs := ⟨_, rfl⟩
  rw [← hzh] at hzH hzs bA bS bO k0
  clear hzh
  go_enter Tryz.func12, Tryz.ntmps12
  go_upto_region 1 with fail
  generalize hgA : w.heap.size = gA at *
  generalize hgS : (w.alloc (.cells hl.toArray 28)).heap.size = gS at *
  generalize hgO : ((w.alloc (.cells hl.toArray 28)).alloc (.cells #[.int .i64 K, .int .i64 an, .int .i32 late, .int .u8 root] 46)).heap.size = gO at *
  have hgS2 : gS = gA + 1 := by rw [← hgS, ← hgA]; simp
  have hgO2 : gO = gA + 1 + 1 := by rw [← hgO, ← hgA]; simp
  generalize ((w.alloc (.cells hl.toArray 28)).alloc (.cells #[.int .i64 K, .int .i64 an, .int .i32 late, .int .u8 root] 46)).alloc (.cells zh 28) = w0 at *
  clear hgS hgO
  subst hgS2 hgO2
  go_cut [7] (fun s7 wx => ∃ gH, s7 = .pointer (some ⟨gH, 0, none⟩) ∧ Blk wx gH (Value.int .u32 2 :: (kl ++ (rl ++ [Value.int .u32 tm2, Value.int .u32 0, Value.int .u32 0]))).toArray 28 ∧ w0.heap.size ≤ gH ∧ Chg [] w0 wx)
  case first =>
      refine wp_region_held_drew (S := fun w' => Chg [] w0 w') (by kernel_rfl) ((Chg.refl _ _).drew) (fun hH => ?_)
      obtain ⟨wd0, hwd0⟩ : ∃ wd, wd = (w0).drew := ⟨_, rfl⟩
      rw [← hwd0] at hH ⊢
      clear hwd0
      refine wpAnyH_take (i := 0) (v := .agg hl.toArray) rfl (by kernel_rfl) (by kernel_rfl) (by kernel_rfl) (fun _ _ _ h => h) (.inl ⟨by rfl, fun w' hw' => ?_⟩) hH ?_
      · (have k9 := bA.chg hw' (by simp); have l0 := load_blkC k9 68 hhs; go_simp)
      try simp only [Act.put, List.setIfInBounds_toArray, List.set_cons_zero, List.set_cons_succ, List.getElem_toArray, List.getElem_cons_succ, List.getElem_cons_zero]
      refine wpAnyH_take (i := 2) (v := .pointer (some ⟨gA, 65, none⟩)) rfl (by kernel_rfl) (by kernel_rfl) (by kernel_rfl) (fun _ _ _ h => h) (.inl ⟨by rfl, fun w' hw' => ?_⟩) hH ?_
      · go_simp
      try simp only [Act.put, List.setIfInBounds_toArray, List.set_cons_zero, List.set_cons_succ, List.getElem_toArray, List.getElem_cons_succ, List.getElem_cons_zero]
      refine wpAnyH_take (i := 3) (v := .int .u32 tm) rfl (by kernel_rfl) (by kernel_rfl) (by kernel_rfl) (fun _ _ _ h => h) (.inl ⟨by rfl, fun w' hw' => ?_⟩) hH ?_
      · (have k9 := bA.chg hw' (by simp); have c0 := k9.cell 65 htm; go_simp)
      try simp only [Act.put, List.setIfInBounds_toArray, List.set_cons_zero, List.set_cons_succ, List.getElem_toArray, List.getElem_cons_succ, List.getElem_cons_zero]
      refine wpAnyH_take (i := 4) (v := .pointer (some ⟨gA + 1, 2, none⟩)) rfl (by kernel_rfl) (by kernel_rfl) (by kernel_rfl) (fun _ _ _ h => h) (.inl ⟨by rfl, fun w' hw' => ?_⟩) hH ?_
      · go_simp
      try simp only [Act.put, List.setIfInBounds_toArray, List.set_cons_zero, List.set_cons_succ, List.getElem_toArray, List.getElem_cons_succ, List.getElem_cons_zero]
      refine wpAnyH_take (i := 5) (v := .int .i32 late) rfl (by kernel_rfl) (by kernel_rfl) (by kernel_rfl) (fun _ _ _ h => h) (.inl ⟨by rfl, fun w' hw' => ?_⟩) hH ?_
      · (have k9 := bS.chg hw' (by simp); have c0 := k9.cell 2 rfl; go_simp)
      try simp only [Act.put, List.setIfInBounds_toArray, List.set_cons_zero, List.set_cons_succ, List.getElem_toArray, List.getElem_cons_succ, List.getElem_cons_zero]
      refine wpAnyH_take (i := 6) (v := .int .i32 (late.tmod 2000)) rfl (by kernel_rfl) (by kernel_rfl) (by kernel_rfl) (fun _ _ _ h => h) (.inl ⟨by rfl, fun w' hw' => ?_⟩) hH ?_
      · go_simp
      try simp only [Act.put, List.setIfInBounds_toArray, List.set_cons_zero, List.set_cons_succ, List.getElem_toArray, List.getElem_cons_succ, List.getElem_cons_zero]
      refine wpAnyH_take (i := 7) (v := .int .u32 (IntKind.u32.wrap (late.tmod 2000))) rfl (by kernel_rfl) (by kernel_rfl) (by kernel_rfl) (fun _ _ _ h => h) (.inl ⟨by rfl, fun w' hw' => ?_⟩) hH ?_
      · go_simp
      try simp only [Act.put, List.setIfInBounds_toArray, List.set_cons_zero, List.set_cons_succ, List.getElem_toArray, List.getElem_cons_succ, List.getElem_cons_zero]
      refine wpAnyH_take (i := 8) (v := .int .u32 tm2) rfl (by kernel_rfl) (by kernel_rfl) (by kernel_rfl) (fun _ _ _ h => h) (.inl ⟨by rfl, fun w' hw' => ?_⟩) hH ?_
      · (rw [← htm2]; go_simp)
      try simp only [Act.put, List.setIfInBounds_toArray, List.set_cons_zero, List.set_cons_succ, List.getElem_toArray, List.getElem_cons_succ, List.getElem_cons_zero]
      refine wpAnyH_take (i := 9) (v := .pointer (some ⟨gA + 1, 3, none⟩)) rfl (by kernel_rfl) (by kernel_rfl) (by kernel_rfl) (fun _ _ _ h => h) (.inl ⟨by rfl, fun w' hw' => ?_⟩) hH ?_
      · go_simp
      try simp only [Act.put, List.setIfInBounds_toArray, List.set_cons_zero, List.set_cons_succ, List.getElem_toArray, List.getElem_cons_succ, List.getElem_cons_zero]
      refine wpAnyH_take (i := 10) (v := .int .u8 root) rfl (by kernel_rfl) (by kernel_rfl) (by kernel_rfl) (fun _ _ _ h => h) (.inl ⟨by rfl, fun w' hw' => ?_⟩) hH ?_
      · (have k9 := bS.chg hw' (by simp); have c0 := k9.cell 3 rfl; go_simp)
      try simp only [Act.put, List.setIfInBounds_toArray, List.set_cons_zero, List.set_cons_succ, List.getElem_toArray, List.getElem_cons_succ, List.getElem_cons_zero]
      refine wpAnyH_take (i := 11) (v := .agg rl.toArray) rfl (by kernel_rfl) (by kernel_rfl) (by kernel_rfl) (fun _ _ _ h => h) (.inl ⟨by rfl, fun w' hw' => ?_⟩) hH ?_
      · go_simp
      try simp only [Act.put, List.setIfInBounds_toArray, List.set_cons_zero, List.set_cons_succ, List.getElem_toArray, List.getElem_cons_succ, List.getElem_cons_zero]
      refine wpAnyH_ready (rs := [1, 13]) (by kernel_rfl) (by simp) (AllReadyH.cons rfl (fun K hK => ?_) (AllReadyH.cons rfl (fun K hK => ?_) AllReadyH.nil))
      · try rw [if_pos (by rfl)]
        go_simp
        go_at_call 27
        refine (hhash _).mono ?_
        rintro e1 w1 ⟨rfl, hc1⟩
        dsimp only
        have hH1 := hH.trans hc1 (by simp)
        refine hK.out _ _ hH1 (fun _ => ?_)
        try simp only [Act.put, List.setIfInBounds_toArray, List.set_cons_zero, List.set_cons_succ, List.getElem_toArray, List.getElem_cons_succ, List.getElem_cons_zero]
        refine wpAnyH_take (i := 12) (v := .agg (Value.int .u32 2 :: (kl ++ (rl ++ [Value.int .u32 tm2, Value.int .u32 0, Value.int .u32 0]))).toArray) rfl (by kernel_rfl) (by kernel_rfl) (by kernel_rfl) (fun _ _ _ h => h) (.inl ⟨by rfl, fun w' hw' => ?_⟩) hH1 ?_
        · go_simp
        try simp only [Act.put, List.setIfInBounds_toArray, List.set_cons_zero, List.set_cons_succ, List.getElem_toArray, List.getElem_cons_succ, List.getElem_cons_zero]
        refine wpAnyH_ready (rs := [13]) (by kernel_rfl) (by simp) (AllReadyH.cons rfl (fun K hK => ?_) AllReadyH.nil)
        rw [if_pos (by rfl)]
        refine op_alloc 28 7 (by kernel_rfl) (by kernel_rfl) hzH ?_
        have kbH2 := Blk.new (w1) zh 28
        have hH2 := hH1.alloc (.cells zh 28)
        have hgeH2 := hH1.size
        obtain ⟨gH2, hgg2⟩ : ∃ g, g = (w1).heap.size := ⟨_, rfl⟩
        rw [← hgg2] at kbH2 hgeH2 ⊢
        generalize (w1).alloc (.cells zh 28) = w2 at hH2 kbH2 ⊢
        clear hgg2
        refine hK.out _ _ hH2 (fun _ => ?_)
        try simp only [Act.put, List.setIfInBounds_toArray, List.set_cons_zero, List.set_cons_succ, List.getElem_toArray, List.getElem_cons_succ, List.getElem_cons_zero]
        refine wpAnyH_ready (rs := [14]) (by kernel_rfl) (by simp) (AllReadyH.cons rfl (fun K hK => ?_) AllReadyH.nil)
        rw [if_pos (by rfl)]
        refine op_store 28 (.tmp 7) (.tmp 22) (by kernel_rfl) (by kernel_rfl) rfl (cs := Value.int .u32 2 :: (kl ++ (rl ++ [Value.int .u32 tm2, Value.int .u32 0, Value.int .u32 0]))) rfl kbH2 (by simp [hzs, hks, hrs]) (infoHd3 (by simp [hks, hrs])) (by exact hone1 hk1 hr1) ?_
        intro w3 kbH3 hc3
        have hH3 : Chg [] w0 w3 := hH2.trans hc3 (by simp; omega)
        refine hK.out _ _ hH3 (fun _ => ?_)
        try simp only [Act.put, List.setIfInBounds_toArray, List.set_cons_zero, List.set_cons_succ, List.getElem_toArray, List.getElem_cons_succ, List.getElem_cons_zero]
        refine wpAnyH_done (by kernel_rfl) ?_ _
        go_wp2_with fail
        go_meet
        exact ⟨gH2, rfl, kbH3, by omega, hH3⟩
      · rw [if_pos (by rfl)]
        refine op_alloc 28 7 (by kernel_rfl) (by kernel_rfl) hzH ?_
        have kbH4 := Blk.new (wd0) zh 28
        have hH4 := hH.alloc (.cells zh 28)
        have hgeH4 := hH.size
        obtain ⟨gH4, hgg4⟩ : ∃ g, g = (wd0).heap.size := ⟨_, rfl⟩
        rw [← hgg4] at kbH4 hgeH4 ⊢
        generalize (wd0).alloc (.cells zh 28) = w4 at hH4 kbH4 ⊢
        clear hgg4
        refine hK.out _ _ hH4 (fun _ => ?_)
        try simp only [Act.put, List.setIfInBounds_toArray, List.set_cons_zero, List.set_cons_succ, List.getElem_toArray, List.getElem_cons_succ, List.getElem_cons_zero]
        refine wpAnyH_ready (rs := [1]) (by kernel_rfl) (by simp) (AllReadyH.cons rfl (fun K hK => ?_) AllReadyH.nil)
        try rw [if_pos (by rfl)]
        go_simp
        go_at_call 27
        refine (hhash _).mono ?_
        rintro e5 w5 ⟨rfl, hc5⟩
        dsimp only
        have hH5 := hH4.trans hc5 (by simp)
        have kbH5 := kbH4.chg hc5 (by simp)
        refine hK.out _ _ hH5 (fun _ => ?_)
        try simp only [Act.put, List.setIfInBounds_toArray, List.set_cons_zero, List.set_cons_succ, List.getElem_toArray, List.getElem_cons_succ, List.getElem_cons_zero]
        refine wpAnyH_take (i := 12) (v := .agg (Value.int .u32 2 :: (kl ++ (rl ++ [Value.int .u32 tm2, Value.int .u32 0, Value.int .u32 0]))).toArray) rfl (by kernel_rfl) (by kernel_rfl) (by kernel_rfl) (fun _ _ _ h => h) (.inl ⟨by rfl, fun w' hw' => ?_⟩) hH5 ?_
        · go_simp
        try simp only [Act.put, List.setIfInBounds_toArray, List.set_cons_zero, List.set_cons_succ, List.getElem_toArray, List.getElem_cons_succ, List.getElem_cons_zero]
        refine wpAnyH_ready (rs := [14]) (by kernel_rfl) (by simp) (AllReadyH.cons rfl (fun K hK => ?_) AllReadyH.nil)
        rw [if_pos (by rfl)]
        refine op_store 28 (.tmp 7) (.tmp 22) (by kernel_rfl) (by kernel_rfl) rfl (cs := Value.int .u32 2 :: (kl ++ (rl ++ [Value.int .u32 tm2, Value.int .u32 0, Value.int .u32 0]))) rfl kbH5 (by simp [hzs, hks, hrs]) (infoHd3 (by simp [hks, hrs])) (by exact hone1 hk1 hr1) ?_
        intro w6 kbH6 hc6
        have hH6 : Chg [] w0 w6 := hH5.trans hc6 (by simp; omega)
        refine hK.out _ _ hH6 (fun _ => ?_)
        try simp only [Act.put, List.setIfInBounds_toArray, List.set_cons_zero, List.set_cons_succ, List.getElem_toArray, List.getElem_cons_succ, List.getElem_cons_zero]
        refine wpAnyH_done (by kernel_rfl) ?_ _
        go_wp2_with fail
        go_meet
        exact ⟨gH4, rfl, kbH6, by omega, hH6⟩
  case rest =>
    obtain ⟨gH, rfl, bH, hgH, k1⟩ := hcut
    have bS0 := bS
    have bO0 := bO
    have bS := bS.chg k1 (by simp)
    have bO := bO.chg k1 (by simp)
    have k01 := k0.trans k1 (by simp)
    have hlO := bO.lt
    have hs0 := k0.size
    have lah := load_part bH 1 32 (ds := kl.toArray) (by simpa using hks) (hdl_ah hks _ _ _ _)
    go_wp2_with fail
    refine (hbits _ k01).mono ?_
    rintro e w2 ⟨rfl, k2⟩
    dsimp only
    have bH2 := bH.chg k2 (by simp)
    have c66 := bH2.cell 66 (hdl_66 hks hrs _ _ _ _)
    have f66 := bH2.free 66
    have bH3 := bH2.set 66 (.int .u32 bits)
    rw [hdl_set66 hks hrs] at bH3
    have k12 := k01.trans k2 (by simp)
    have hneS : gA + 1 ≠ gH := by have := (Blk.lt bS0); omega
    have hneO : gA + 1 + 1 ≠ gH := by have := (Blk.lt bO0); omega
    have bS2 := bS.chg k2 (by simp)
    have bO2 := bO.chg k2 (by simp)
    go_upto_region 3 with fail
    have kk : Chg [gH] w2 (w2.setCell ⟨gH, 66, none⟩ (.int .u32 bits)) := (Chg.refl _ _).setCell (.inl (by simp)) _
    have k3 : Chg [] w (w2.setCell ⟨gH, 66, none⟩ (.int .u32 bits)) := k12.setCell (.inr (by simp; omega)) _
    have bS3 := bS2.chg kk (by simpa using hneS)
    have bO3 := bO2.chg kk (by simpa using hneO)
    generalize w2.setCell ⟨gH, 66, none⟩ (.int .u32 bits) = w3 at *
    have ldH := load_blkC bH3 68 (by simp [hks, hrs])
    have cS0 := bS3.cell 0 (v := .int .i64 K) rfl
    clear c66 f66
    go_upto_region 8 with fail
    go_wp2_with fail
    refine (hmine _).mono ?_
    rintro e w4 ⟨rfl, k4⟩
    dsimp only
    have hst := run_storeCells_new (P := Tryz.prog) w4 28 zh ml.toArray (by rw [hms]; exact infoHd) (by rw [hms, hzs]) hm1
    have bM := Blk.new w4 ml.toArray 28
    have ldM := load_blkC bM 68 hms
    have k5 := (k3.trans k4 (by simp)).alloc (.cells ml.toArray 28)
    have bS5 := (bS3.chg k4 (by simp)).alloc (.cells ml.toArray 28)
    have bO5 := (bO3.chg k4 (by simp)).alloc (.cells ml.toArray 28)
    have cS5 := bS5.cell 0 (v := .int .i64 K) rfl
    obtain ⟨W9, hsf9, b9, kk9⟩ := store_cells bO5 (cs := ml.toArray) (by rw [hms, hzs]) hm1
    have ld9 := load_blkC b9 68 hms
    have hOw : w.heap.size ≤ gA + 1 + 1 := by omega
    clear cS0 ldH 
    go_wp2
    exact bodyPost_ret (v := .agg ml.toArray) (by simp [results, Tryz.results12, go_sem, ld9]) rfl ⟨rfl, k5.trans kk9 (by simpa using hOw)⟩
end Go.Proofs.YtmkgbinmilcojaaGreat

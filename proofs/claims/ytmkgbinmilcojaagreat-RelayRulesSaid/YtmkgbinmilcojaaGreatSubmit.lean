/- Package relay: Submit of a block behind the best one. Printed by submitgen.py. -/
import Derived.Test.YtmkgbinmilcojaaGreatRelay
namespace Go.Proofs.YtmkgbinmilcojaaGreat
open Go.RowKit Go.Maps
attribute [-go_sem] loadCellsFrom Instr.build

theorem zeroTold (w : World) : (zeroValue 67).run Tryz.prog w = .ok (.agg (bytesV (List.replicate 32 0) ++ [Value.int .i64 0, Value.bool false, Value.int .i64 0]).toArray) w := by kernel_rfl
theorem infoTold : (Tryz.prog.info? 67).map (·.size) = some 35 := by kernel_rfl
set_option maxRecDepth 100000 in
theorem build_told_fn (f : Nat → Value) (w : World) : (Instr.build 67 #[(0, .agg (fnC 32 f).toArray)]).run Tryz.prog w = .ok (.agg (fnC 32 f ++ [Value.int .i64 0, Value.bool false, Value.int .i64 0]).toArray) w := by kernel_rfl
theorem build_told {l : List Value} (h : l.length = 32) (w : World) : (Instr.build 67 #[(0, .agg l.toArray)]).run Tryz.prog w = .ok (.agg (l ++ [Value.int .i64 0, Value.bool false, Value.int .i64 0]).toArray) w := by
  rw [list_fn h]; exact build_told_fn _ w
theorem tc_32 (kl : List Value) (h : kl.length = 32) (a b c : Value) : (kl ++ [a, b, c]).toArray[32]? = some a := by simp [h, List.getElem?_append]
theorem tc_33 (kl : List Value) (h : kl.length = 32) (a b c : Value) : (kl ++ [a, b, c]).toArray[33]? = some b := by simp [h, List.getElem?_append]
theorem tc_34 (kl : List Value) (h : kl.length = 32) (a b c : Value) : (kl ++ [a, b, c]).toArray[34]? = some c := by simp [h, List.getElem?_append]
theorem ts_32 (kl : List Value) (h : kl.length = 32) (a b c v : Value) : (kl ++ [a, b, c]).toArray.setIfInBounds 32 v = (kl ++ [v, b, c]).toArray := by
  apply Array.ext'; simp only [Array.toList_setIfInBounds]; rw [List.set_append_right _ _ (by omega), h]; rfl
theorem ts_33 (kl : List Value) (h : kl.length = 32) (a b c v : Value) : (kl ++ [a, b, c]).toArray.setIfInBounds 33 v = (kl ++ [a, v, c]).toArray := by
  apply Array.ext'; simp only [Array.toList_setIfInBounds]; rw [List.set_append_right _ _ (by omega), h]; rfl
theorem ts_34 (kl : List Value) (h : kl.length = 32) (a b c v : Value) : (kl ++ [a, b, c]).toArray.setIfInBounds 34 v = (kl ++ [a, b, v]).toArray := by
  apply Array.ext'; simp only [Array.toList_setIfInBounds]; rw [List.set_append_right _ _ (by omega), h]; rfl
theorem tpart (kl : List Value) (a b c : Value) : ∀ (j : Nat) (v : Value), kl.toArray[j]? = some v → (kl ++ [a, b, c]).toArray[0 + j]? = some v := by
  intro j v h
  simp only [List.getElem?_toArray] at h ⊢
  rw [Nat.zero_add, List.getElem?_append_left (List.getElem?_eq_some_iff.1 h).1]; exact h
theorem TreeAt.all_lt {w : World} {x : Lt} {T : Tr} (h : TreeAt w x T) : ∀ b ∈ x.all, b < w.heap.size := by
  intro b hb
  obtain ⟨c, hb1, hC⟩ := h.tb
  simp only [Lt.all, List.mem_cons] at hb
  rcases hb with rfl | rfl | rfl | hb
  · exact hb1.lt
  · exact h.mp.lt
  · exact row_lt hC rfl
  · obtain ⟨i, hi, rfl⟩ := List.getElem_of_mem hb
    have hil : i < T.ns.length := by rw [← h.len]; exact hi
    have := (h.nd i _ (List.getElem?_eq_getElem hil)).lt
    simpa [List.getD_eq_getElem?_getD, hi] using this
set_option maxRecDepth 100000 in
set_option maxHeartbeats 16000000 in
theorem relay_SubmitW (rb xb g off cap d : Nat) (x x2 : Lt) (T T2 : Tr) (rl hl kl wl : List Value) (hh ff : Int) (hx : x.b = xb) (hrl : rl.length = 72) (hhs : hl.toArray.size = 68) (ho : hl.toArray.all (·.oneCell') = true) (hkl32 : kl.length = 32) (hko : kl.toArray.all (·.oneCell') = true) (hwl32 : wl.length = 32) (hwo : wl.toArray.all (·.oneCell') = true)
    (w : World) (hR : Blk w rb (rl ++ [Value.pointer (some ⟨xb, 0, none⟩), Value.int .i64 (d : Int)]).toArray 124) (hrx : rb ∉ x.all) (hlow : ∀ b ∈ x.all, b < w.heap.size) (hd : d ≤ 4096)
    (hparse : ∀ w', Chg [] w w' → Calls Tryz.prog 63 #[.slice (some ⟨g, off, none⟩) 80 cap] w' fun e w'' => e = .returned (.tuple #[.agg hl.toArray, .int .i64 0]) ∧ Chg [] w' w'')
    (hbest : ∀ w', Chg [] w w' → Calls Tryz.prog 14 #[.pointer (some ⟨xb, 0, none⟩)] w' fun e w'' => e = .returned (.agg wl.toArray) ∧ Chg [] w' w'')
    (hadd0 : ∀ w', Chg [] w w' → Calls Tryz.prog 15 #[.pointer (some ⟨xb, 0, none⟩), .agg hl.toArray] w' fun e w'' => e = .returned (.int .i64 0) ∧ Chg x.all w' w'' ∧ ∃ g c, TreeAt w'' ⟨x.b, x.m, c, x.bl ++ [g]⟩ T2 ∧ w'.heap.size ≤ g ∧ (c = x.c ∨ w'.heap.size ≤ c))
    (hhash : ∀ w, Calls Tryz.prog 27 #[.agg hl.toArray] w fun e w' => e = .returned (.agg kl.toArray) ∧ Chg [] w w')
    (heqs : ∀ w, (Op.equalIn 10000 26 (.agg kl.toArray) (.agg kl.toArray)).run Tryz.prog w = .ok true w)
    (hheight0 : ∀ y w, y.b = xb → TreeAt w y T2 → Calls Tryz.prog 31 #[.pointer (some ⟨xb, 0, none⟩), .agg kl.toArray] w fun e w' => e = .returned (.tuple #[.int .i64 hh, .bool true]) ∧ Chg [] w w')
    (hbest20 : ∀ y w, y.b = xb → TreeAt w y T2 → Calls Tryz.prog 14 #[.pointer (some ⟨xb, 0, none⟩)] w fun e w' => e = .returned (.agg kl.toArray) ∧ Chg [] w w')
    (hfork0 : ∀ y w, y.b = xb → TreeAt w y T2 → Calls Tryz.prog 59 #[.pointer (some ⟨xb, 0, none⟩), .agg wl.toArray, .agg kl.toArray] w fun e w' => e = .returned (.tuple #[.int .i64 ff, .bool true]) ∧ Chg [] w w')
    (hheight20 : ∀ y w, y.b = xb → TreeAt w y T2 → Calls Tryz.prog 31 #[.pointer (some ⟨xb, 0, none⟩), .agg wl.toArray] w fun e w' => e = .returned (.tuple #[.int .i64 ff, .bool true]) ∧ Chg [] w w') :
    Calls Tryz.prog 23 #[.pointer (some ⟨rb, 0, none⟩), .slice (some ⟨g, off, none⟩) 80 cap] w fun e w' => e = .returned (.tuple #[.agg (kl ++ [Value.int .i64 hh, Value.bool true, Value.int .i64 0]).toArray, .int .i64 0]) ∧
      ∃ g c, TreeAt w' ⟨x.b, x.m, c, x.bl ++ [g]⟩ T2 ∧ w.heap.size ≤ g ∧ (c = x.c ∨ w.heap.size ≤ c) ∧ Chg (rb :: x.all) w w' ∧ Blk w' rb (rl ++ [Value.pointer (some ⟨xb, 0, none⟩), Value.int .i64 (d : Int)]).toArray 124 := by
  have hz := zeroTold
  have hzH := zeroHd
  have hzK := zeroHash
  have hbt := build_told hkl32
  have hks : kl.toArray.size = 32 := by simpa using hkl32
  have hws32 : wl.toArray.size = 32 := by simpa using hwl32
  have r72 := (r_cell hrl (.pointer (some ⟨xb, 0, none⟩)) (.int .i64 (d : Int))).1
  have bO := Blk.new w (bytesV (List.replicate 32 0) ++ [Value.int .i64 0, Value.bool false, Value.int .i64 0]).toArray 67
  have k0 : Chg [] w (w.alloc (.cells (bytesV (List.replicate 32 0) ++ [Value.int .i64 0, Value.bool false, Value.int .i64 0]).toArray 67)) := (Chg.refl _ _).alloc _
  have hts : (bytesV (List.replicate 32 0) ++ [Value.int .i64 0, Value.bool false, Value.int .i64 0]).toArray.size = 35 := by simp [bytesV_len]
  generalize (bytesV (List.replicate 32 0) ++ [Value.int .i64 0, Value.bool false, Value.int .i64 0]).toArray = zt at *
  have hRl := hR.lt
  go_enter Tryz.func23, Tryz.ntmps23
  go_wp2_with fail
  refine (hparse _ k0).mono ?_
  rintro e w1 ⟨rfl, k1⟩
  dsimp only
  have k01 := k0.trans k1 (by simp)
  have bO1 := bO.chg k1 (by simp)
  have hst := run_storeCells_new (P := Tryz.prog) w1 28 hd0.cs hl.toArray (by rw [hhs]; exact infoHd) (by rw [hhs, Hd.size hd0_ok]) ho
  have bH := Blk.new w1 hl.toArray 28
  have bO2 := bO1.alloc (.cells hl.toArray 28)
  have k02 := k01.alloc (.cells hl.toArray 28)
  have bR2 := hR.chg k02 (by simp)
  have c72 := bR2.cell 72 r72
  have hs1 := k01.size
  obtain ⟨zh, hzh⟩ : ∃ zh, zh = hd0.cs := ⟨_, rfl⟩
  rw [← hzh] at hst hzH
  clear hzh
  go_wp2_with fail
  have hb0 := hbest _ k02
  refine hb0.mono ?_
  rintro e w2 ⟨rfl, k2⟩
  dsimp only
  have k03 := k02.trans k2 (by simp)
  have hst2 := run_storeCells_new (P := Tryz.prog) w2 26 z32 wl.toArray (by rw [hws32]; exact infoHash) (by rw [hws32]; rfl) hwo
  have bW := Blk.new w2 wl.toArray 26
  have bH := (bH.chg k2 (by simp)).alloc (.cells wl.toArray 26)
  have bO := (bO2.chg k2 (by simp)).alloc (.cells wl.toArray 26)
  have k04 := k03.alloc (.cells wl.toArray 26)
  have bR := hR.chg k04 (by simp)
  have hadd := fun w' (k : Chg [] (w2.alloc (.cells wl.toArray 26)) w') => hadd0 w' (k04.trans k (by simp))
  have hs2 := k03.size
  obtain ⟨gw, hgw⟩ : ∃ gw, gw = w2.heap.size := ⟨_, rfl⟩
  obtain ⟨gh, hgh⟩ : ∃ gh, gh = w1.heap.size := ⟨_, rfl⟩
  clear hst hparse hbest hb0 k0 k01 k02 k2 bO1 bO2 bR2 c72
  go_upto_region 7 with fail
  rw [← hgw] at bW ⊢
  rw [← hgh] at bH ⊢
  have hgwl : w.heap.size ≤ gw := by omega
  have hghl : w.heap.size ≤ gh := by omega
  have hoO : w.heap.size ∉ x.all := fun h => by have := hlow _ h; omega
  have hHS : gh ∉ x.all := fun h => by have := hlow _ h; omega
  have hWS : gw ∉ x.all := fun h => by have := hlow _ h; omega
  have hrS := hrx
  have hs4 := k04.size
  have hs4s := bO.lt
  clear hgw hgh hst2 hs1 hs2 k03
  generalize w2.alloc (.cells wl.toArray 26) = w4 at *
  go_cut [9] (fun s9 wx => s9 = .int .i64 0 ∧ Chg x.all w4 wx ∧ ∃ g c, TreeAt wx ⟨x.b, x.m, c, x.bl ++ [g]⟩ T2 ∧ w4.heap.size ≤ g ∧ (c = x.c ∨ w4.heap.size ≤ c))
  case first =>
    refine wp_region_held_drew (S := fun w' => Chg x.all w4 w') (by kernel_rfl) ((Chg.refl _ _).drew) (fun hH => ?_)
    refine wpAnyH_take (i := 0) (v := .pointer (some ⟨rb, 0, none⟩)) rfl (by kernel_rfl) (by kernel_rfl) (by kernel_rfl) (fun _ _ _ h => h) (.inl ⟨by rfl, fun w' hw' => ?_⟩) hH ?_
    · go_simp
    try simp only [Act.put, List.setIfInBounds_toArray, List.set_cons_zero, List.set_cons_succ, List.getElem_toArray, List.getElem_cons_succ, List.getElem_cons_zero]
    refine wpAnyH_take (i := 1) (v := .pointer (some ⟨rb, 0, none⟩)) rfl (by kernel_rfl) (by kernel_rfl) (by kernel_rfl) (fun _ _ _ h => h) (.inl ⟨by rfl, fun w' hw' => ?_⟩) hH ?_
    · go_simp
    try simp only [Act.put, List.setIfInBounds_toArray, List.set_cons_zero, List.set_cons_succ, List.getElem_toArray, List.getElem_cons_succ, List.getElem_cons_zero]
    refine wpAnyH_take (i := 2) (v := .pointer (some ⟨rb, 72, none⟩)) rfl (by kernel_rfl) (by kernel_rfl) (by kernel_rfl) (fun _ _ _ h => h) (.inl ⟨by rfl, fun w' hw' => ?_⟩) hH ?_
    · go_simp
    try simp only [Act.put, List.setIfInBounds_toArray, List.set_cons_zero, List.set_cons_succ, List.getElem_toArray, List.getElem_cons_succ, List.getElem_cons_zero]
    refine wpAnyH_take (i := 3) (v := .pointer (some ⟨xb, 0, none⟩)) rfl (by kernel_rfl) (by kernel_rfl) (by kernel_rfl) (fun _ _ _ h => h) (.inl ⟨by rfl, fun w' hw' => ?_⟩) hH ?_
    · (have k9 := bR.chg hw' (by first | (simp; done) | simpa using hrS); have c0 := k9.cell 72 r72; go_simp)
    try simp only [Act.put, List.setIfInBounds_toArray, List.set_cons_zero, List.set_cons_succ, List.getElem_toArray, List.getElem_cons_succ, List.getElem_cons_zero]
    refine wpAnyH_take (i := 4) (v := .agg hl.toArray) rfl (by kernel_rfl) (by kernel_rfl) (by kernel_rfl) (fun _ _ _ h => h) (.inl ⟨by rfl, fun w' hw' => ?_⟩) hH ?_
    · (have k9 := bH.chg hw' (by simpa using hHS); have l0 := load_blkC k9 68 hhs; go_simp)
    try simp only [Act.put, List.setIfInBounds_toArray, List.set_cons_zero, List.set_cons_succ, List.getElem_toArray, List.getElem_cons_succ, List.getElem_cons_zero]
    refine wpAnyH_ready (rs := [5]) (by kernel_rfl) (by simp) (AllReadyH.cons rfl (fun K hK => ?_) AllReadyH.nil)
    try rw [if_pos (by rfl)]
    go_simp
    go_at_call 15
    refine (hadd (w4).drew ((Chg.refl [] _).drew)).mono ?_
    rintro e1 w1 ⟨rfl, hc1, hx1⟩
    dsimp only
    have hH1 := hH.trans hc1 (fun t ht => .inl ht)
    refine hK.out _ _ hH1 (fun _ => ?_)
    try simp only [Act.put, List.setIfInBounds_toArray, List.set_cons_zero, List.set_cons_succ, List.getElem_toArray, List.getElem_cons_succ, List.getElem_cons_zero]
    refine wpAnyH_ready (rs := [6]) (by kernel_rfl) (by simp) (AllReadyH.cons rfl (fun K hK => ?_) AllReadyH.nil)
    go_simp
    refine hK.out _ _ hH1 (fun _ => ?_)
    try simp only [Act.put, List.setIfInBounds_toArray, List.set_cons_zero, List.set_cons_succ, List.getElem_toArray, List.getElem_cons_succ, List.getElem_cons_zero]
    refine wpAnyH_done (by kernel_rfl) ?_ _
    go_wp2_with fail
    go_meet
    exact ⟨rfl, hH1, hx1⟩
  case rest =>
    obtain ⟨rfl, k5, gA, cA, hT5, hgA, hcA⟩ := hcut
    have bR := bR.chg k5 hrx
    have bH := bH.chg k5 hHS
    have bW := bW.chg k5 hWS
    have bO := bO.chg k5 hoO
    have hgwlt5 := bW.lt
    have kx := (k04.mono (T := x.all) (by simp)).trans k5 (fun t ht => .inl ht)
    have hs5 := k5.size
    have hldH := load_blkC bH 68 hhs
    clear hadd hadd0 k04
    generalize wc = w5 at *
    go_wp2_with fail
    refine (hhash _).mono ?_
    rintro e w6 ⟨rfl, k6⟩
    dsimp only
    have hs6 := k6.size
    have htz : (kl ++ [Value.int .i64 0, Value.bool false, Value.int .i64 0]).toArray.size = 35 := by simp [hkl32]
    have hto : (kl ++ [Value.int .i64 0, Value.bool false, Value.int .i64 0]).toArray.all (·.oneCell') = true := by
      rw [Array.all_eq_true_iff_forall_mem]
      intro v hv
      simp only [List.mem_toArray, List.mem_append, List.mem_cons, List.not_mem_nil, or_false] at hv
      rcases hv with hv | rfl | rfl | rfl
      · exact (Array.all_eq_true_iff_forall_mem.1 hko) v (by simpa using hv)
      · rfl
      · rfl
      · rfl
    have hst := run_storeCells_new (P := Tryz.prog) w6 67 zt (kl ++ [Value.int .i64 0, Value.bool false, Value.int .i64 0]).toArray (by rw [htz]; exact infoTold) (by rw [htz, hts]) hto
    have bD := Blk.new w6 (kl ++ [Value.int .i64 0, Value.bool false, Value.int .i64 0]).toArray 67
    have kd : Chg [] w5 (w6.alloc (.cells (kl ++ [Value.int .i64 0, Value.bool false, Value.int .i64 0]).toArray 67)) := k6.alloc _
    have bR := bR.chg kd (by simp)
    have bW := bW.chg kd (by simp)
    have bO := bO.chg kd (by simp)
    have hT6 := hT5.chgS (S := []) (by simp) kd
    have kx := kx.trans kd (by simp)
    have hgdR : rb ≠ w6.heap.size := by omega
    have hgdW : gw ≠ w6.heap.size := by have := bW.lt; have h9 := hs6; intro e; have := hgwlt5; omega
    clear hldH hhash bH
    have hgO : w.heap.size ≠ w6.heap.size := by omega
    have hgdw : w.heap.size ≤ w6.heap.size := by omega
    have hall := hT5.all_lt
    have hgdA : w6.heap.size ∉ (⟨x.b, x.m, cA, x.bl ++ [gA]⟩ : Lt).all := fun h => by have := hall _ h; omega
    have hheight1 := fun w' (k : Chg [w6.heap.size] (w6.alloc (.cells (kl ++ [Value.int .i64 0, Value.bool false, Value.int .i64 0]).toArray 67)) w') => hheight0 ⟨x.b, x.m, cA, x.bl ++ [gA]⟩ w' hx (hT6.chgS (fun b hb => by simp only [List.mem_singleton]; exact fun e => hgdA (e ▸ hb)) k)
    go_upto_region 11 with fail
    obtain ⟨gd, hgd⟩ : ∃ gd, gd = w6.heap.size := ⟨_, rfl⟩
    rw [← hgd] at bD hgdR hgdW hgO hgdA hgdw hheight1 ⊢
    clear hst hT5 hall hs6 hs5 k6 k5 kd hgwlt5 hgd hheight0
    generalize w6.alloc (.cells (kl ++ [Value.int .i64 0, Value.bool false, Value.int .i64 0]).toArray 67) = w6 at *
    have hrS := hgdR
    have hheight := hheight1
    clear hheight1
    go_cut [55] (fun _ wx => Blk wx gd (kl ++ [Value.int .i64 hh, Value.bool false, Value.int .i64 0]).toArray 67 ∧ Chg [gd] w6 wx)
    case first =>
      refine wp_region_held_drew (S := fun w' => Chg [gd] w6 w') (by kernel_rfl) ((Chg.refl _ _).drew) (fun hH => ?_)
      have kdD0 := bD.chg ((Chg.refl [] _).drew) (by simp)
      refine wpAnyH_take (i := 0) (v := .pointer (some ⟨rb, 0, none⟩)) rfl (by kernel_rfl) (by kernel_rfl) (by kernel_rfl) (fun _ _ _ h => h) (.inl ⟨by rfl, fun w' hw' => ?_⟩) hH ?_
      · go_simp
      try simp only [Act.put, List.setIfInBounds_toArray, List.set_cons_zero, List.set_cons_succ, List.getElem_toArray, List.getElem_cons_succ, List.getElem_cons_zero]
      refine wpAnyH_take (i := 1) (v := .pointer (some ⟨rb, 0, none⟩)) rfl (by kernel_rfl) (by kernel_rfl) (by kernel_rfl) (fun _ _ _ h => h) (.inl ⟨by rfl, fun w' hw' => ?_⟩) hH ?_
      · go_simp
      try simp only [Act.put, List.setIfInBounds_toArray, List.set_cons_zero, List.set_cons_succ, List.getElem_toArray, List.getElem_cons_succ, List.getElem_cons_zero]
      refine wpAnyH_take (i := 2) (v := .pointer (some ⟨rb, 72, none⟩)) rfl (by kernel_rfl) (by kernel_rfl) (by kernel_rfl) (fun _ _ _ h => h) (.inl ⟨by rfl, fun w' hw' => ?_⟩) hH ?_
      · go_simp
      try simp only [Act.put, List.setIfInBounds_toArray, List.set_cons_zero, List.set_cons_succ, List.getElem_toArray, List.getElem_cons_succ, List.getElem_cons_zero]
      refine wpAnyH_take (i := 3) (v := .pointer (some ⟨xb, 0, none⟩)) rfl (by kernel_rfl) (by kernel_rfl) (by kernel_rfl) (fun _ _ _ h => h) (.inl ⟨by rfl, fun w' hw' => ?_⟩) hH ?_
      · (have k9 := bR.chg hw' (by first | (simp; done) | simpa using hrS); have c0 := k9.cell 72 r72; go_simp)
      try simp only [Act.put, List.setIfInBounds_toArray, List.set_cons_zero, List.set_cons_succ, List.getElem_toArray, List.getElem_cons_succ, List.getElem_cons_zero]
      refine wpAnyH_take (i := 4) (v := .pointer (some ⟨gd, 0, none⟩)) rfl (by kernel_rfl) (by kernel_rfl) (by kernel_rfl) (fun _ _ _ h => h) (.inl ⟨by rfl, fun w' hw' => ?_⟩) hH ?_
      · go_simp
      try simp only [Act.put, List.setIfInBounds_toArray, List.set_cons_zero, List.set_cons_succ, List.getElem_toArray, List.getElem_cons_succ, List.getElem_cons_zero]
      refine wpAnyH_ready (rs := [5]) (by kernel_rfl) (by simp) (AllReadyH.cons rfl (fun K hK => ?_) AllReadyH.nil)
      have lp1 := load_part kdD0 0 32 hks (tpart kl _ _ _)
      go_simp
      refine hK.out _ _ hH (fun _ => ?_)
      try simp only [Act.put, List.setIfInBounds_toArray, List.set_cons_zero, List.set_cons_succ, List.getElem_toArray, List.getElem_cons_succ, List.getElem_cons_zero]
      refine wpAnyH_ready (rs := [6]) (by kernel_rfl) (by simp) (AllReadyH.cons rfl (fun K hK => ?_) AllReadyH.nil)
      try rw [if_pos (by rfl)]
      go_simp
      go_at_call 31
      refine (hheight _ hH).mono ?_
      rintro e2 w2 ⟨rfl, hc2⟩
      dsimp only
      have hH2 := hH.trans hc2 (by simp)
      have kbD2 := kdD0.chg hc2 (by simp)
      refine hK.out _ _ hH2 (fun _ => ?_)
      try simp only [Act.put, List.setIfInBounds_toArray, List.set_cons_zero, List.set_cons_succ, List.getElem_toArray, List.getElem_cons_succ, List.getElem_cons_zero]
      refine wpAnyH_take (i := 7) (v := .tuple #[.int .i64 hh, .bool true]) rfl (by kernel_rfl) (by kernel_rfl) (by kernel_rfl) (fun _ _ _ h => h) (.inl ⟨by rfl, fun w' hw' => ?_⟩) hH2 ?_
      · go_simp
      try simp only [Act.put, List.setIfInBounds_toArray, List.set_cons_zero, List.set_cons_succ, List.getElem_toArray, List.getElem_cons_succ, List.getElem_cons_zero]
      refine wpAnyH_take (i := 8) (v := .int .i64 hh) rfl (by kernel_rfl) (by kernel_rfl) (by kernel_rfl) (fun _ _ _ h => h) (.inl ⟨by rfl, fun w' hw' => ?_⟩) hH2 ?_
      · go_simp
      try simp only [Act.put, List.setIfInBounds_toArray, List.set_cons_zero, List.set_cons_succ, List.getElem_toArray, List.getElem_cons_succ, List.getElem_cons_zero]
      refine wpAnyH_take (i := 9) (v := .bool true) rfl (by kernel_rfl) (by kernel_rfl) (by kernel_rfl) (fun _ _ _ h => h) (.inl ⟨by rfl, fun w' hw' => ?_⟩) hH2 ?_
      · go_simp
      try simp only [Act.put, List.setIfInBounds_toArray, List.set_cons_zero, List.set_cons_succ, List.getElem_toArray, List.getElem_cons_succ, List.getElem_cons_zero]
      refine wpAnyH_take (i := 10) (v := .pointer (some ⟨gd, 32, none⟩)) rfl (by kernel_rfl) (by kernel_rfl) (by kernel_rfl) (fun _ _ _ h => h) (.inl ⟨by rfl, fun w' hw' => ?_⟩) hH2 ?_
      · go_simp
      try simp only [Act.put, List.setIfInBounds_toArray, List.set_cons_zero, List.set_cons_succ, List.getElem_toArray, List.getElem_cons_succ, List.getElem_cons_zero]
      refine wpAnyH_ready (rs := [11]) (by kernel_rfl) (by simp) (AllReadyH.cons rfl (fun K hK => ?_) AllReadyH.nil)
      have c3 := kbD2.cell 32 (tc_32 kl hkl32 _ _ _)
      have f3 := kbD2.free 32
      have kbD3 := kbD2.set 32 (.int .i64 hh)
      rw [ts_32 kl hkl32] at kbD3
      go_simp
      have hH3 := hH2.setCell (p := ⟨gd, 32, none⟩) (.inl (by simp)) (.int .i64 hh)
      refine hK.out _ _ hH3 (fun _ => ?_)
      try simp only [Act.put, List.setIfInBounds_toArray, List.set_cons_zero, List.set_cons_succ, List.getElem_toArray, List.getElem_cons_succ, List.getElem_cons_zero]
      refine wpAnyH_done (by kernel_rfl) ?_ _
      go_wp2_with fail
      go_meet
      exact ⟨kbD3, hH3⟩
    case rest =>
      obtain ⟨bD, k7⟩ := hcut
      have bR := bR.chg k7 (by simpa using hgdR)
      have bW := bW.chg k7 (by simpa using hgdW)
      have bO := bO.chg k7 (by simpa using hgO)
      have hT7 := hT6.chgS (fun b hb => by simp only [List.mem_singleton]; exact fun e => hgdA (e ▸ hb)) k7
      have kx7 := (kx.mono (T := gd :: x.all) (fun t ht => .inl (List.mem_cons_of_mem _ ht))).trans k7 (fun t ht => .inl (by simp at ht; simp [ht]))
      clear hheight hT6 kx k7
      generalize wc = w7 at *
      have hbest2 := fun w' (k : Chg [gd] w7 w') => hbest20 ⟨x.b, x.m, cA, x.bl ++ [gA]⟩ w' hx (hT7.chgS (fun b hb => by simp only [List.mem_singleton]; exact fun e => hgdA (e ▸ hb)) k)
      clear hbest20
      go_upto_region 12 with fail
      go_cut [64] (fun _ wx => Blk wx gd (kl ++ [Value.int .i64 hh, Value.bool true, Value.int .i64 0]).toArray 67 ∧ Chg [gd] w7 wx)
      case first =>
        refine wp_region_held_drew (S := fun w' => Chg [gd] w7 w') (by kernel_rfl) ((Chg.refl _ _).drew) (fun hH21 => ?_)
        have kdD21 := bD.chg ((Chg.refl [] _).drew) (by simp)
        refine wpAnyH_take (i := 0) (v := .pointer (some ⟨rb, 0, none⟩)) rfl (by kernel_rfl) (by kernel_rfl) (by kernel_rfl) (fun _ _ _ h => h) (.inl ⟨by rfl, fun w' hw' => ?_⟩) hH21 ?_
        · go_simp
        try simp only [Act.put, List.setIfInBounds_toArray, List.set_cons_zero, List.set_cons_succ, List.getElem_toArray, List.getElem_cons_succ, List.getElem_cons_zero]
        refine wpAnyH_take (i := 1) (v := .pointer (some ⟨rb, 0, none⟩)) rfl (by kernel_rfl) (by kernel_rfl) (by kernel_rfl) (fun _ _ _ h => h) (.inl ⟨by rfl, fun w' hw' => ?_⟩) hH21 ?_
        · go_simp
        try simp only [Act.put, List.setIfInBounds_toArray, List.set_cons_zero, List.set_cons_succ, List.getElem_toArray, List.getElem_cons_succ, List.getElem_cons_zero]
        refine wpAnyH_take (i := 2) (v := .pointer (some ⟨rb, 72, none⟩)) rfl (by kernel_rfl) (by kernel_rfl) (by kernel_rfl) (fun _ _ _ h => h) (.inl ⟨by rfl, fun w' hw' => ?_⟩) hH21 ?_
        · go_simp
        try simp only [Act.put, List.setIfInBounds_toArray, List.set_cons_zero, List.set_cons_succ, List.getElem_toArray, List.getElem_cons_succ, List.getElem_cons_zero]
        refine wpAnyH_take (i := 3) (v := .pointer (some ⟨xb, 0, none⟩)) rfl (by kernel_rfl) (by kernel_rfl) (by kernel_rfl) (fun _ _ _ h => h) (.inl ⟨by rfl, fun w' hw' => ?_⟩) hH21 ?_
        · (have k9 := bR.chg hw' (by first | (simp; done) | simpa using hrS); have c0 := k9.cell 72 r72; go_simp)
        try simp only [Act.put, List.setIfInBounds_toArray, List.set_cons_zero, List.set_cons_succ, List.getElem_toArray, List.getElem_cons_succ, List.getElem_cons_zero]
        refine wpAnyH_take (i := 5) (v := .pointer (some ⟨gd, 0, none⟩)) rfl (by kernel_rfl) (by kernel_rfl) (by kernel_rfl) (fun _ _ _ h => h) (.inl ⟨by rfl, fun w' hw' => ?_⟩) hH21 ?_
        · go_simp
        try simp only [Act.put, List.setIfInBounds_toArray, List.set_cons_zero, List.set_cons_succ, List.getElem_toArray, List.getElem_cons_succ, List.getElem_cons_zero]
        refine wpAnyH_ready (rs := [4, 6]) (by kernel_rfl) (by simp) (AllReadyH.cons rfl (fun K hK => ?_) (AllReadyH.cons rfl (fun K hK => ?_) AllReadyH.nil))
        · try rw [if_pos (by rfl)]
          go_simp
          go_at_call 14
          refine (hbest2 _ hH21).mono ?_
          rintro e22 w22 ⟨rfl, hc22⟩
          dsimp only
          have hH22 := hH21.trans hc22 (by simp)
          have kbD22 := kdD21.chg hc22 (by simp)
          refine hK.out _ _ hH22 (fun _ => ?_)
          try simp only [Act.put, List.setIfInBounds_toArray, List.set_cons_zero, List.set_cons_succ, List.getElem_toArray, List.getElem_cons_succ, List.getElem_cons_zero]
          refine wpAnyH_ready (rs := [6]) (by kernel_rfl) (by simp) (AllReadyH.cons rfl (fun K hK => ?_) AllReadyH.nil)
          have lp23 := load_part kbD22 0 32 hks (tpart kl _ _ _)
          go_simp
          refine hK.out _ _ hH22 (fun _ => ?_)
          try simp only [Act.put, List.setIfInBounds_toArray, List.set_cons_zero, List.set_cons_succ, List.getElem_toArray, List.getElem_cons_succ, List.getElem_cons_zero]
          refine wpAnyH_take (i := 7) (v := .bool true) rfl (by kernel_rfl) (by kernel_rfl) (by kernel_rfl) (fun _ _ _ h => h) (.inl ⟨by rfl, fun w' hw' => ?_⟩) hH22 ?_
          · (have h9 := heqs w'; go_simp)
          try simp only [Act.put, List.setIfInBounds_toArray, List.set_cons_zero, List.set_cons_succ, List.getElem_toArray, List.getElem_cons_succ, List.getElem_cons_zero]
          refine wpAnyH_take (i := 8) (v := .pointer (some ⟨gd, 33, none⟩)) rfl (by kernel_rfl) (by kernel_rfl) (by kernel_rfl) (fun _ _ _ h => h) (.inl ⟨by rfl, fun w' hw' => ?_⟩) hH22 ?_
          · go_simp
          try simp only [Act.put, List.setIfInBounds_toArray, List.set_cons_zero, List.set_cons_succ, List.getElem_toArray, List.getElem_cons_succ, List.getElem_cons_zero]
          refine wpAnyH_ready (rs := [9]) (by kernel_rfl) (by simp) (AllReadyH.cons rfl (fun K hK => ?_) AllReadyH.nil)
          have c24 := kbD22.cell 33 (tc_33 kl hkl32 _ _ _)
          have f24 := kbD22.free 33
          have kbD24 := kbD22.set 33 (.bool true)
          rw [ts_33 kl hkl32] at kbD24
          go_simp
          have hH24 := hH22.setCell (p := ⟨gd, 33, none⟩) (.inl (by simp)) (.bool true)
          refine hK.out _ _ hH24 (fun _ => ?_)
          try simp only [Act.put, List.setIfInBounds_toArray, List.set_cons_zero, List.set_cons_succ, List.getElem_toArray, List.getElem_cons_succ, List.getElem_cons_zero]
          refine wpAnyH_done (by kernel_rfl) ?_ _
          go_wp2_with fail
          go_meet
          exact ⟨kbD24, hH24⟩
        · have lp25 := load_part kdD21 0 32 hks (tpart kl _ _ _)
          go_simp
          refine hK.out _ _ hH21 (fun _ => ?_)
          try simp only [Act.put, List.setIfInBounds_toArray, List.set_cons_zero, List.set_cons_succ, List.getElem_toArray, List.getElem_cons_succ, List.getElem_cons_zero]
          refine wpAnyH_ready (rs := [4]) (by kernel_rfl) (by simp) (AllReadyH.cons rfl (fun K hK => ?_) AllReadyH.nil)
          try rw [if_pos (by rfl)]
          go_simp
          go_at_call 14
          refine (hbest2 _ hH21).mono ?_
          rintro e26 w26 ⟨rfl, hc26⟩
          dsimp only
          have hH26 := hH21.trans hc26 (by simp)
          have kbD26 := kdD21.chg hc26 (by simp)
          refine hK.out _ _ hH26 (fun _ => ?_)
          try simp only [Act.put, List.setIfInBounds_toArray, List.set_cons_zero, List.set_cons_succ, List.getElem_toArray, List.getElem_cons_succ, List.getElem_cons_zero]
          refine wpAnyH_take (i := 7) (v := .bool true) rfl (by kernel_rfl) (by kernel_rfl) (by kernel_rfl) (fun _ _ _ h => h) (.inl ⟨by rfl, fun w' hw' => ?_⟩) hH26 ?_
          · (have h9 := heqs w'; go_simp)
          try simp only [Act.put, List.setIfInBounds_toArray, List.set_cons_zero, List.set_cons_succ, List.getElem_toArray, List.getElem_cons_succ, List.getElem_cons_zero]
          refine wpAnyH_take (i := 8) (v := .pointer (some ⟨gd, 33, none⟩)) rfl (by kernel_rfl) (by kernel_rfl) (by kernel_rfl) (fun _ _ _ h => h) (.inl ⟨by rfl, fun w' hw' => ?_⟩) hH26 ?_
          · go_simp
          try simp only [Act.put, List.setIfInBounds_toArray, List.set_cons_zero, List.set_cons_succ, List.getElem_toArray, List.getElem_cons_succ, List.getElem_cons_zero]
          refine wpAnyH_ready (rs := [9]) (by kernel_rfl) (by simp) (AllReadyH.cons rfl (fun K hK => ?_) AllReadyH.nil)
          have c27 := kbD26.cell 33 (tc_33 kl hkl32 _ _ _)
          have f27 := kbD26.free 33
          have kbD27 := kbD26.set 33 (.bool true)
          rw [ts_33 kl hkl32] at kbD27
          go_simp
          have hH27 := hH26.setCell (p := ⟨gd, 33, none⟩) (.inl (by simp)) (.bool true)
          refine hK.out _ _ hH27 (fun _ => ?_)
          try simp only [Act.put, List.setIfInBounds_toArray, List.set_cons_zero, List.set_cons_succ, List.getElem_toArray, List.getElem_cons_succ, List.getElem_cons_zero]
          refine wpAnyH_done (by kernel_rfl) ?_ _
          go_wp2_with fail
          go_meet
          exact ⟨kbD27, hH27⟩
      case rest =>
        obtain ⟨bD, k8⟩ := hcut
        have bR := bR.chg k8 (by simpa using hgdR)
        have bW := bW.chg k8 (by simpa using hgdW)
        have bO := bO.chg k8 (by simpa using hgO)
        have hT8 := hT7.chgS (fun b hb => by simp only [List.mem_singleton]; exact fun e => hgdA (e ▸ hb)) k8
        have kx8 := kx7.trans k8 (fun t ht => .inl (by simp at ht; simp [ht]))
        clear hbest2 hT7 kx7 k8 heqs
        generalize wc = w8 at *
        have c33 := bD.cell 33 (tc_33 kl hkl32 _ _ _)
        have hfork := fun w' (k : Chg [] w8 w') => hfork0 ⟨x.b, x.m, cA, x.bl ++ [gA]⟩ w' hx (hT8.chgS (by simp) k)
        clear hfork0
        go_upto_region 14 with fail
        go_cut [11] (fun s11 wx => s11 = .int .i64 ff ∧ Chg [] w8 wx)
        case first =>
          refine wp_region_held_drew (S := fun w' => Chg [] w8 w') (by kernel_rfl) ((Chg.refl _ _).drew) (fun hH41 => ?_)
          refine wpAnyH_take (i := 0) (v := .pointer (some ⟨rb, 0, none⟩)) rfl (by kernel_rfl) (by kernel_rfl) (by kernel_rfl) (fun _ _ _ h => h) (.inl ⟨by rfl, fun w' hw' => ?_⟩) hH41 ?_
          · go_simp
          try simp only [Act.put, List.setIfInBounds_toArray, List.set_cons_zero, List.set_cons_succ, List.getElem_toArray, List.getElem_cons_succ, List.getElem_cons_zero]
          refine wpAnyH_take (i := 1) (v := .pointer (some ⟨rb, 0, none⟩)) rfl (by kernel_rfl) (by kernel_rfl) (by kernel_rfl) (fun _ _ _ h => h) (.inl ⟨by rfl, fun w' hw' => ?_⟩) hH41 ?_
          · go_simp
          try simp only [Act.put, List.setIfInBounds_toArray, List.set_cons_zero, List.set_cons_succ, List.getElem_toArray, List.getElem_cons_succ, List.getElem_cons_zero]
          refine wpAnyH_take (i := 2) (v := .pointer (some ⟨rb, 72, none⟩)) rfl (by kernel_rfl) (by kernel_rfl) (by kernel_rfl) (fun _ _ _ h => h) (.inl ⟨by rfl, fun w' hw' => ?_⟩) hH41 ?_
          · go_simp
          try simp only [Act.put, List.setIfInBounds_toArray, List.set_cons_zero, List.set_cons_succ, List.getElem_toArray, List.getElem_cons_succ, List.getElem_cons_zero]
          refine wpAnyH_take (i := 3) (v := .pointer (some ⟨xb, 0, none⟩)) rfl (by kernel_rfl) (by kernel_rfl) (by kernel_rfl) (fun _ _ _ h => h) (.inl ⟨by rfl, fun w' hw' => ?_⟩) hH41 ?_
          · (have k9 := bR.chg hw' (by first | (simp; done) | simpa using hrS); have c0 := k9.cell 72 r72; go_simp)
          try simp only [Act.put, List.setIfInBounds_toArray, List.set_cons_zero, List.set_cons_succ, List.getElem_toArray, List.getElem_cons_succ, List.getElem_cons_zero]
          refine wpAnyH_take (i := 4) (v := .agg wl.toArray) rfl (by kernel_rfl) (by kernel_rfl) (by kernel_rfl) (fun _ _ _ h => h) (.inl ⟨by rfl, fun w' hw' => ?_⟩) hH41 ?_
          · (have k9 := bW.chg hw' (by first | (simp; done) | simpa using hwS); have l0 := load_blkC k9 32 hws32; go_simp)
          try simp only [Act.put, List.setIfInBounds_toArray, List.set_cons_zero, List.set_cons_succ, List.getElem_toArray, List.getElem_cons_succ, List.getElem_cons_zero]
          refine wpAnyH_take (i := 5) (v := .pointer (some ⟨gd, 0, none⟩)) rfl (by kernel_rfl) (by kernel_rfl) (by kernel_rfl) (fun _ _ _ h => h) (.inl ⟨by rfl, fun w' hw' => ?_⟩) hH41 ?_
          · go_simp
          try simp only [Act.put, List.setIfInBounds_toArray, List.set_cons_zero, List.set_cons_succ, List.getElem_toArray, List.getElem_cons_succ, List.getElem_cons_zero]
          refine wpAnyH_take (i := 6) (v := .agg kl.toArray) rfl (by kernel_rfl) (by kernel_rfl) (by kernel_rfl) (fun _ _ _ h => h) (.inl ⟨by rfl, fun w' hw' => ?_⟩) hH41 ?_
          · (have k9 := bD.chg hw' (by simp); have l0 := load_part k9 0 32 hks (tpart kl _ _ _); go_simp)
          try simp only [Act.put, List.setIfInBounds_toArray, List.set_cons_zero, List.set_cons_succ, List.getElem_toArray, List.getElem_cons_succ, List.getElem_cons_zero]
          refine wpAnyH_ready (rs := [7]) (by kernel_rfl) (by simp) (AllReadyH.cons rfl (fun K hK => ?_) AllReadyH.nil)
          try rw [if_pos (by rfl)]
          go_simp
          go_at_call 59
          refine (hfork _ hH41).mono ?_
          rintro e42 w42 ⟨rfl, hc42⟩
          dsimp only
          have hH42 := hH41.trans hc42 (by simp)
          refine hK.out _ _ hH42 (fun _ => ?_)
          try simp only [Act.put, List.setIfInBounds_toArray, List.set_cons_zero, List.set_cons_succ, List.getElem_toArray, List.getElem_cons_succ, List.getElem_cons_zero]
          refine wpAnyH_take (i := 8) (v := .tuple #[.int .i64 ff, .bool true]) rfl (by kernel_rfl) (by kernel_rfl) (by kernel_rfl) (fun _ _ _ h => h) (.inl ⟨by rfl, fun w' hw' => ?_⟩) hH42 ?_
          · go_simp
          try simp only [Act.put, List.setIfInBounds_toArray, List.set_cons_zero, List.set_cons_succ, List.getElem_toArray, List.getElem_cons_succ, List.getElem_cons_zero]
          refine wpAnyH_take (i := 9) (v := .int .i64 ff) rfl (by kernel_rfl) (by kernel_rfl) (by kernel_rfl) (fun _ _ _ h => h) (.inl ⟨by rfl, fun w' hw' => ?_⟩) hH42 ?_
          · go_simp
          try simp only [Act.put, List.setIfInBounds_toArray, List.set_cons_zero, List.set_cons_succ, List.getElem_toArray, List.getElem_cons_succ, List.getElem_cons_zero]
          refine wpAnyH_take (i := 10) (v := .bool true) rfl (by kernel_rfl) (by kernel_rfl) (by kernel_rfl) (fun _ _ _ h => h) (.inl ⟨by rfl, fun w' hw' => ?_⟩) hH42 ?_
          · go_simp
          try simp only [Act.put, List.setIfInBounds_toArray, List.set_cons_zero, List.set_cons_succ, List.getElem_toArray, List.getElem_cons_succ, List.getElem_cons_zero]
          refine wpAnyH_ready (rs := [11]) (by kernel_rfl) (by simp) (AllReadyH.cons rfl (fun K hK => ?_) AllReadyH.nil)
          go_simp
          refine hK.out _ _ hH42 (fun _ => ?_)
          try simp only [Act.put, List.setIfInBounds_toArray, List.set_cons_zero, List.set_cons_succ, List.getElem_toArray, List.getElem_cons_succ, List.getElem_cons_zero]
          refine wpAnyH_ready (rs := [12]) (by kernel_rfl) (by simp) (AllReadyH.cons rfl (fun K hK => ?_) AllReadyH.nil)
          go_simp
          refine hK.out _ _ hH42 (fun _ => ?_)
          try simp only [Act.put, List.setIfInBounds_toArray, List.set_cons_zero, List.set_cons_succ, List.getElem_toArray, List.getElem_cons_succ, List.getElem_cons_zero]
          refine wpAnyH_done (by kernel_rfl) ?_ _
          go_wp2_with fail
          go_meet
          exact ⟨rfl, hH42⟩
        case rest =>
          obtain ⟨rfl, k9⟩ := hcut
          have bR := bR.chg k9 (by simp)
          have bW := bW.chg k9 (by simp)
          have bO := bO.chg k9 (by simp)
          have bD := bD.chg k9 (by simp)
          have hT9 := hT8.chgS (S := []) (by simp) k9
          have kx9 := kx8.trans k9 (by simp)
          clear hfork hT8 kx8 k9 c33
          generalize wc = w9 at *
          have hheight2 := fun w' (k : Chg [] w9 w') => hheight20 ⟨x.b, x.m, cA, x.bl ++ [gA]⟩ w' hx (hT9.chgS (by simp) k)
          clear hheight20
          go_upto_region 15 with fail
          go_cut [13] (fun s13 wx => s13 = .int .i64 ff ∧ Chg [] w9 wx)
          case first =>
            refine wp_region_held_drew (S := fun w' => Chg [] w9 w') (by kernel_rfl) ((Chg.refl _ _).drew) (fun hH61 => ?_)
            refine wpAnyH_take (i := 0) (v := .pointer (some ⟨rb, 0, none⟩)) rfl (by kernel_rfl) (by kernel_rfl) (by kernel_rfl) (fun _ _ _ h => h) (.inl ⟨by rfl, fun w' hw' => ?_⟩) hH61 ?_
            · go_simp
            try simp only [Act.put, List.setIfInBounds_toArray, List.set_cons_zero, List.set_cons_succ, List.getElem_toArray, List.getElem_cons_succ, List.getElem_cons_zero]
            refine wpAnyH_take (i := 1) (v := .pointer (some ⟨rb, 0, none⟩)) rfl (by kernel_rfl) (by kernel_rfl) (by kernel_rfl) (fun _ _ _ h => h) (.inl ⟨by rfl, fun w' hw' => ?_⟩) hH61 ?_
            · go_simp
            try simp only [Act.put, List.setIfInBounds_toArray, List.set_cons_zero, List.set_cons_succ, List.getElem_toArray, List.getElem_cons_succ, List.getElem_cons_zero]
            refine wpAnyH_take (i := 2) (v := .pointer (some ⟨rb, 72, none⟩)) rfl (by kernel_rfl) (by kernel_rfl) (by kernel_rfl) (fun _ _ _ h => h) (.inl ⟨by rfl, fun w' hw' => ?_⟩) hH61 ?_
            · go_simp
            try simp only [Act.put, List.setIfInBounds_toArray, List.set_cons_zero, List.set_cons_succ, List.getElem_toArray, List.getElem_cons_succ, List.getElem_cons_zero]
            refine wpAnyH_take (i := 3) (v := .pointer (some ⟨xb, 0, none⟩)) rfl (by kernel_rfl) (by kernel_rfl) (by kernel_rfl) (fun _ _ _ h => h) (.inl ⟨by rfl, fun w' hw' => ?_⟩) hH61 ?_
            · (have k9 := bR.chg hw' (by first | (simp; done) | simpa using hrS); have c0 := k9.cell 72 r72; go_simp)
            try simp only [Act.put, List.setIfInBounds_toArray, List.set_cons_zero, List.set_cons_succ, List.getElem_toArray, List.getElem_cons_succ, List.getElem_cons_zero]
            refine wpAnyH_take (i := 4) (v := .agg wl.toArray) rfl (by kernel_rfl) (by kernel_rfl) (by kernel_rfl) (fun _ _ _ h => h) (.inl ⟨by rfl, fun w' hw' => ?_⟩) hH61 ?_
            · (have k9 := bW.chg hw' (by first | (simp; done) | simpa using hwS); have l0 := load_blkC k9 32 hws32; go_simp)
            try simp only [Act.put, List.setIfInBounds_toArray, List.set_cons_zero, List.set_cons_succ, List.getElem_toArray, List.getElem_cons_succ, List.getElem_cons_zero]
            refine wpAnyH_ready (rs := [5]) (by kernel_rfl) (by simp) (AllReadyH.cons rfl (fun K hK => ?_) AllReadyH.nil)
            try rw [if_pos (by rfl)]
            go_simp
            go_at_call 31
            refine (hheight2 _ hH61).mono ?_
            rintro e62 w62 ⟨rfl, hc62⟩
            dsimp only
            have hH62 := hH61.trans hc62 (by simp)
            refine hK.out _ _ hH62 (fun _ => ?_)
            try simp only [Act.put, List.setIfInBounds_toArray, List.set_cons_zero, List.set_cons_succ, List.getElem_toArray, List.getElem_cons_succ, List.getElem_cons_zero]
            refine wpAnyH_take (i := 6) (v := .tuple #[.int .i64 ff, .bool true]) rfl (by kernel_rfl) (by kernel_rfl) (by kernel_rfl) (fun _ _ _ h => h) (.inl ⟨by rfl, fun w' hw' => ?_⟩) hH62 ?_
            · go_simp
            try simp only [Act.put, List.setIfInBounds_toArray, List.set_cons_zero, List.set_cons_succ, List.getElem_toArray, List.getElem_cons_succ, List.getElem_cons_zero]
            refine wpAnyH_take (i := 7) (v := .int .i64 ff) rfl (by kernel_rfl) (by kernel_rfl) (by kernel_rfl) (fun _ _ _ h => h) (.inl ⟨by rfl, fun w' hw' => ?_⟩) hH62 ?_
            · go_simp
            try simp only [Act.put, List.setIfInBounds_toArray, List.set_cons_zero, List.set_cons_succ, List.getElem_toArray, List.getElem_cons_succ, List.getElem_cons_zero]
            refine wpAnyH_take (i := 8) (v := .bool true) rfl (by kernel_rfl) (by kernel_rfl) (by kernel_rfl) (fun _ _ _ h => h) (.inl ⟨by rfl, fun w' hw' => ?_⟩) hH62 ?_
            · go_simp
            try simp only [Act.put, List.setIfInBounds_toArray, List.set_cons_zero, List.set_cons_succ, List.getElem_toArray, List.getElem_cons_succ, List.getElem_cons_zero]
            refine wpAnyH_ready (rs := [9]) (by kernel_rfl) (by simp) (AllReadyH.cons rfl (fun K hK => ?_) AllReadyH.nil)
            go_simp
            refine hK.out _ _ hH62 (fun _ => ?_)
            try simp only [Act.put, List.setIfInBounds_toArray, List.set_cons_zero, List.set_cons_succ, List.getElem_toArray, List.getElem_cons_succ, List.getElem_cons_zero]
            refine wpAnyH_ready (rs := [10]) (by kernel_rfl) (by simp) (AllReadyH.cons rfl (fun K hK => ?_) AllReadyH.nil)
            go_simp
            refine hK.out _ _ hH62 (fun _ => ?_)
            try simp only [Act.put, List.setIfInBounds_toArray, List.set_cons_zero, List.set_cons_succ, List.getElem_toArray, List.getElem_cons_succ, List.getElem_cons_zero]
            refine wpAnyH_done (by kernel_rfl) ?_ _
            go_wp2_with fail
            go_meet
            exact ⟨rfl, hH62⟩
          case rest =>
            obtain ⟨rfl, k10⟩ := hcut
            have bR := bR.chg k10 (by simp)
            have bO := bO.chg k10 (by simp)
            have bD := bD.chg k10 (by simp)
            have hTa := hT9.chgS (S := []) (by simp) k10
            have kxa := kx9.trans k10 (by simp)
            clear hheight2 hT9 kx9 k10 bW
            generalize wc = wa at *
            have c34 := bD.cell 34 (tc_34 kl hkl32 _ _ _)
            have f34 := bD.free 34
            have hset := bD.set 34 (.int .i64 0)
            rw [ts_34 kl hkl32] at hset
            have hff : ff - ff = 0 := by omega
            have k11 : Chg [gd] wa (wa.setCell ⟨gd, 34, none⟩ (.int .i64 0)) := (Chg.refl _ _).setCell (.inl (by simp)) _
            have bRb := bR.chg k11 (by simpa using hgdR)
            have bOb := bO.chg k11 (by simpa using hgO)
            have hTb := hTa.chgS (fun b hb => by simp only [List.mem_singleton]; exact fun e => hgdA (e ▸ hb)) k11
            have kxb := kxa.trans k11 (fun t ht => .inl (by simp at ht; simp [ht]))
            have hcl : wa.setCell ⟨gd, 34, none⟩ (.int .i64 0) = wa.setCell ⟨gd, 34, none⟩ (.int .i64 0) := rfl
            clear bR bO hTa kxa k11
            go_upto_region 17 with fail
            have bD := hset
            clear hset c34 f34 hcl
            generalize wa.setCell ⟨gd, 34, none⟩ (.int .i64 0) = wb at *
            have c73 := bRb.cell 73 (r_cell hrl (.pointer (some ⟨xb, 0, none⟩)) (.int .i64 (d : Int))).2
            have c34 := bD.cell 34 (tc_34 kl hkl32 _ _ _)
            have hmx : max (d : Int) 0 = (d : Int) := by omega
            have e73 := bRb.drew.cell 73 (r_cell hrl (.pointer (some ⟨xb, 0, none⟩)) (.int .i64 (d : Int))).2
            have f73 := bRb.drew.free 73
            have hset := bRb.set 73 (.int .i64 (d : Int))
            rw [r_set73 hrl] at hset
            have hset2 := hset.drew
            have hd0 : ¬ (d : Int) < 0 := by omega
            have k12 : Chg [rb] wb (wb.setCell ⟨rb, 73, none⟩ (.int .i64 (d : Int))).drew := ((Chg.refl [rb] wb).setCell (.inl (by simp)) _).drew
            have hDR : gd ≠ rb := fun e => hgdR e.symm
            have hOR : w.heap.size ≠ rb := by omega
            have bDf := bD.chg k12 (by simpa using hDR)
            have bOf := bOb.chg k12 (by simpa using hOR)
            have hTf := hTb.chgS (S := [rb]) (fun b hb => by
              simp only [List.mem_singleton]
              intro e
              subst e
              simp only [Lt.all, List.mem_cons, List.mem_append, List.not_mem_nil, or_false] at hb
              rcases hb with h | h | h | h | h
              · exact hrx (by simp [Lt.all, h])
              · exact hrx (by simp [Lt.all, h])
              · rcases hcA with h2 | h2
                · exact hrx (by simp [Lt.all, h, h2])
                · omega
              · exact hrx (by simp [Lt.all, h])
              · omega) k12
            have kf : Chg (rb :: x.all) w (wb.setCell ⟨rb, 73, none⟩ (.int .i64 (d : Int))).drew := (kxb.mono (T := rb :: x.all) (fun t ht => by
              simp only [List.mem_cons] at ht ⊢
              rcases ht with h | h
              · exact .inr (by rw [h]; exact hgdw)
              · exact .inl (.inr h))).trans k12 (fun t ht => .inl (by simp at ht; simp [ht]))
            have tsz : (kl ++ [Value.int .i64 hh, Value.bool true, Value.int .i64 0]).toArray.size = 35 := by simp [hkl32]
            have tone : (kl ++ [Value.int .i64 hh, Value.bool true, Value.int .i64 0]).toArray.all (·.oneCell') = true := by
              rw [Array.all_eq_true_iff_forall_mem]
              intro v hv
              simp only [List.mem_toArray, List.mem_append, List.mem_cons, List.not_mem_nil, or_false] at hv
              rcases hv with hv | rfl | rfl | rfl
              · exact (Array.all_eq_true_iff_forall_mem.1 hko) v (by simpa using hv)
              · rfl
              · rfl
              · rfl
            go_still_tail 10, (by kernel_rfl)
            go_upto_region 18 with fail
            clear hset k12 c34 c73 e73 f73 bRb bD bOb hTb kxb hmx hd0
            generalize (wb.setCell ⟨rb, 73, none⟩ (.int .i64 (d : Int))).drew = wf at *
            obtain ⟨tv, htv⟩ : ∃ tv, tv = (kl ++ [Value.int .i64 hh, Value.bool true, Value.int .i64 0]).toArray := ⟨_, rfl⟩
            rw [← htv] at bDf tsz tone
            have htv' := Lib.hid htv
            clear htv
            have hldD := load_blkC bDf 35 tsz
            obtain ⟨W9, hst9, b9, kk9⟩ := store_cells bOf (cs := tv) (by rw [tsz, hts]) tone
            have hld9 := load_blkC b9 35 tsz
            have hTg := hTf.chgS (S := [w.heap.size]) (fun b hb => by
              simp only [List.mem_singleton]
              intro e
              simp only [Lt.all, List.mem_cons, List.mem_append, List.not_mem_nil, or_false] at hb
              rcases hb with h | h | h | h | h
              · have := hlow b (by simp [Lt.all, h]); omega
              · have := hlow b (by simp [Lt.all, h]); omega
              · rcases hcA with h2 | h2
                · have := hlow b (by simp [Lt.all, h, h2]); omega
                · omega
              · have := hlow b (by simp [Lt.all, h]); omega
              · omega) kk9
            have bRg := hset2.chg kk9 (by simp; omega)
            have kg := kf.trans kk9 (fun t ht => .inr (by simp at ht; omega))
            have hcg : cA = x.c ∨ w.heap.size ≤ cA := hcA.elim .inl (fun h => .inr (by omega))
            clear bDf bOf hTf hset2 kk9 kf b9
            go_wp2
            exact bodyPost_ret (v := .tuple #[.agg tv, .int .i64 0]) (by simp [results, Tryz.results23, go_sem, hld9]) rfl ⟨by rw [htv'.out], gA, cA, hTg, by omega, hcg, kg, bRg⟩
end Go.Proofs.YtmkgbinmilcojaaGreat

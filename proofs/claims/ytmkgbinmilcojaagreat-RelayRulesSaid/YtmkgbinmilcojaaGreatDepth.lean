/- Package relay: Depth, Confirmed, of a block of the best chain. Printed by depthgen.py. -/
import Derived.Test.YtmkgbinmilcojaaGreatRelay
namespace Go.Proofs.YtmkgbinmilcojaaGreat
open Go.RowKit Go.Maps
attribute [-go_sem] loadCellsFrom Instr.build

set_option maxRecDepth 100000 in
set_option maxHeartbeats 8000000 in
theorem relay_DepthW (rb xb ht bh : Nat) (tc : Array Value) (kl bl : List Value) (hks : kl.toArray.size = 32) (hko : kl.toArray.all (·.oneCell') = true) (r72 : tc[72]? = some (.pointer (some ⟨xb, 0, none⟩))) (hle : ht ≤ bh) (hbh : bh ≤ 4096) (w : World) (hR : Blk w rb tc 124)
    (hheight0 : ∀ w', Chg [] w w' → Calls Tryz.prog 31 #[.pointer (some ⟨xb, 0, none⟩), .agg kl.toArray] w' fun e w'' => e = .returned (.tuple #[.int .i64 (ht : Int), .bool true]) ∧ Chg [] w' w'')
    (hat : ∀ w', Chg [] w w' → Calls Tryz.prog 57 #[.pointer (some ⟨xb, 0, none⟩), .int .i64 (ht : Int)] w' fun e w'' => e = .returned (.tuple #[.agg kl.toArray, .bool true]) ∧ Chg [] w' w'')
    (heqs : ∀ w, (Op.equalIn 10000 26 (.agg kl.toArray) (.agg kl.toArray)).run Tryz.prog w = .ok true w)
    (hbest0 : ∀ w', Chg [] w w' → Calls Tryz.prog 14 #[.pointer (some ⟨xb, 0, none⟩)] w' fun e w'' => e = .returned (.agg bl.toArray) ∧ Chg [] w' w'')
    (hheightB0 : ∀ w', Chg [] w w' → Calls Tryz.prog 31 #[.pointer (some ⟨xb, 0, none⟩), .agg bl.toArray] w' fun e w'' => e = .returned (.tuple #[.int .i64 (bh : Int), .bool true]) ∧ Chg [] w' w'') :
    Calls Tryz.prog 26 #[.pointer (some ⟨rb, 0, none⟩), .agg kl.toArray] w fun e w' => e = .returned (.int .i64 ((bh : Int) - ht + 1)) ∧ Chg [] w w' := by
  have hzK := zeroHash
  have bK := Blk.new w kl.toArray 26
  have k0 : Chg [] w (w.alloc (.cells kl.toArray 26)) := (Chg.refl _ _).alloc _
  have bR := hR.chg k0 (by simp)
  go_enter Tryz.func26, Tryz.ntmps26
  go_upto_region 3 with fail
  obtain ⟨bk, hbk⟩ : ∃ bk, bk = w.heap.size := ⟨_, rfl⟩
  rw [← hbk] at bK ⊢
  clear hbk
  generalize w.alloc (.cells kl.toArray 26) = w0 at *
  have hheight := fun w' (k : Chg [] w0 w') => hheight0 w' (k0.trans k (by simp))
  go_cut [5, 6] (fun s5 s6 wx => s5 = .int .i64 (ht : Int) ∧ s6 = .bool true ∧ Chg [] w0 wx)
  case first =>
    refine wp_region_held_drew (S := fun w' => Chg [] w0 w') (by kernel_rfl) ((Chg.refl _ _).drew) (fun hH => ?_)
    refine wpAnyH_take (i := 0) (v := .pointer (some ⟨rb, 0, none⟩)) rfl (by kernel_rfl) (by kernel_rfl) (by kernel_rfl) (fun _ _ _ h => h) (.inl ⟨by rfl, fun w' hw' => ?_⟩) hH ?_
    · go_simp
    try simp only [Act.put, List.setIfInBounds_toArray, List.set_cons_zero, List.set_cons_succ, List.getElem_toArray, List.getElem_cons_succ, List.getElem_cons_zero]
    refine wpAnyH_take (i := 1) (v := .pointer (some ⟨rb, 0, none⟩)) rfl (by kernel_rfl) (by kernel_rfl) (by kernel_rfl) (fun _ _ _ h => h) (.inl ⟨by rfl, fun w' hw' => ?_⟩) hH ?_
    · go_simp
    try simp only [Act.put, List.setIfInBounds_toArray, List.set_cons_zero, List.set_cons_succ, List.getElem_toArray, List.getElem_cons_succ, List.getElem_cons_zero]
    refine wpAnyH_take (i := 2) (v := .pointer (some ⟨rb, 72, none⟩)) rfl (by kernel_rfl) (by kernel_rfl) (by kernel_rfl) (fun _ _ _ h => h) (.inl ⟨by rfl, fun w' hw' => ?_⟩) hH ?_
    · go_simp
    try simp only [Act.put, List.setIfInBounds_toArray, List.set_cons_zero, List.set_cons_succ, List.getElem_toArray, List.getElem_cons_succ, List.getElem_cons_zero]
    refine wpAnyH_take (i := 3) (v := .pointer (some ⟨xb, 0, none⟩)) rfl (by kernel_rfl) (by kernel_rfl) (by kernel_rfl) (fun _ _ _ h => h) (.inl ⟨by rfl, fun w' hw' => ?_⟩) hH ?_
    · (have k9 := bR.chg hw' (by simp); have c0 := k9.cell 72 r72; go_simp)
    try simp only [Act.put, List.setIfInBounds_toArray, List.set_cons_zero, List.set_cons_succ, List.getElem_toArray, List.getElem_cons_succ, List.getElem_cons_zero]
    refine wpAnyH_take (i := 4) (v := .agg kl.toArray) rfl (by kernel_rfl) (by kernel_rfl) (by kernel_rfl) (fun _ _ _ h => h) (.inl ⟨by rfl, fun w' hw' => ?_⟩) hH ?_
    · (have k9 := bK.chg hw' (by simp); have l0 := load_blkC k9 32 hks; go_simp)
    try simp only [Act.put, List.setIfInBounds_toArray, List.set_cons_zero, List.set_cons_succ, List.getElem_toArray, List.getElem_cons_succ, List.getElem_cons_zero]
    refine wpAnyH_ready (rs := [5]) (by kernel_rfl) (by simp) (AllReadyH.cons rfl (fun K hK => ?_) AllReadyH.nil)
    try rw [if_pos (by rfl)]
    go_simp
    go_at_call 31
    refine (hheight _ hH).mono ?_
    rintro e1 w1 ⟨rfl, hc1⟩
    dsimp only
    have hH1 := hH.trans hc1 (by simp)
    refine hK.out _ _ hH1 (fun _ => ?_)
    try simp only [Act.put, List.setIfInBounds_toArray, List.set_cons_zero, List.set_cons_succ, List.getElem_toArray, List.getElem_cons_succ, List.getElem_cons_zero]
    refine wpAnyH_take (i := 6) (v := .tuple #[.int .i64 (ht : Int), .bool true]) rfl (by kernel_rfl) (by kernel_rfl) (by kernel_rfl) (fun _ _ _ h => h) (.inl ⟨by rfl, fun w' hw' => ?_⟩) hH1 ?_
    · go_simp
    try simp only [Act.put, List.setIfInBounds_toArray, List.set_cons_zero, List.set_cons_succ, List.getElem_toArray, List.getElem_cons_succ, List.getElem_cons_zero]
    refine wpAnyH_take (i := 7) (v := .int .i64 (ht : Int)) rfl (by kernel_rfl) (by kernel_rfl) (by kernel_rfl) (fun _ _ _ h => h) (.inl ⟨by rfl, fun w' hw' => ?_⟩) hH1 ?_
    · go_simp
    try simp only [Act.put, List.setIfInBounds_toArray, List.set_cons_zero, List.set_cons_succ, List.getElem_toArray, List.getElem_cons_succ, List.getElem_cons_zero]
    refine wpAnyH_take (i := 8) (v := .bool true) rfl (by kernel_rfl) (by kernel_rfl) (by kernel_rfl) (fun _ _ _ h => h) (.inl ⟨by rfl, fun w' hw' => ?_⟩) hH1 ?_
    · go_simp
    try simp only [Act.put, List.setIfInBounds_toArray, List.set_cons_zero, List.set_cons_succ, List.getElem_toArray, List.getElem_cons_succ, List.getElem_cons_zero]
    refine wpAnyH_ready (rs := [9]) (by kernel_rfl) (by simp) (AllReadyH.cons rfl (fun K hK => ?_) AllReadyH.nil)
    go_simp
    refine hK.out _ _ hH1 (fun _ => ?_)
    try simp only [Act.put, List.setIfInBounds_toArray, List.set_cons_zero, List.set_cons_succ, List.getElem_toArray, List.getElem_cons_succ, List.getElem_cons_zero]
    refine wpAnyH_ready (rs := [10]) (by kernel_rfl) (by simp) (AllReadyH.cons rfl (fun K hK => ?_) AllReadyH.nil)
    go_simp
    refine hK.out _ _ hH1 (fun _ => ?_)
    try simp only [Act.put, List.setIfInBounds_toArray, List.set_cons_zero, List.set_cons_succ, List.getElem_toArray, List.getElem_cons_succ, List.getElem_cons_zero]
    refine wpAnyH_done (by kernel_rfl) ?_ _
    go_wp2_with fail
    go_meet
    exact ⟨rfl, rfl, hH1⟩
  case rest =>
    obtain ⟨rfl, rfl, k1⟩ := hcut
    have k01 := k0.trans k1 (by simp)
    have bR := bR.chg k1 (by simp)
    have bK := bK.chg k1 (by simp)
    have c72 := bR.cell 72 r72
    clear hheight hheight0 k0 k1
    generalize wc = w1 at *
    go_wp2_with fail
    refine (hat _ k01).mono ?_
    rintro e w2 ⟨rfl, k2⟩
    dsimp only
    have hst := run_storeCells_new (P := Tryz.prog) w2 26 z32 kl.toArray (by rw [hks]; exact infoHash) (by rw [hks]; rfl) hko
    have bT := Blk.new w2 kl.toArray 26
    have hl1 := load_blkC bT 32 hks
    have bK2 := (bK.chg k2 (by simp)).alloc (.cells kl.toArray 26)
    have hl2 := load_blkC bK2 32 hks
    have k03 := (k01.trans k2 (by simp)).alloc (.cells kl.toArray 26)
    have bR := hR.chg k03 (by simp)
    have hbest := fun w' (k : Chg [] (w2.alloc (.cells kl.toArray 26)) w') => hbest0 w' (k03.trans k (by simp))
    have hheightB := fun w' (k : Chg [] (w2.alloc (.cells kl.toArray 26)) w') => hheightB0 w' (k03.trans k (by simp))
    clear hat c72 hbest0 hheightB0 bK k01 k2
    go_upto_region 7 with fail
    clear hst hl1 hl2 bT bK2
    generalize w2.alloc (.cells kl.toArray 26) = w3 at *
    go_cut [9] (fun s9 wx => s9 = .int .i64 (bh : Int) ∧ Chg [] w3 wx)
    case first =>
      refine wp_region_held_drew (S := fun w' => Chg [] w3 w') (by kernel_rfl) ((Chg.refl _ _).drew) (fun hH31 => ?_)
      refine wpAnyH_take (i := 0) (v := .pointer (some ⟨rb, 0, none⟩)) rfl (by kernel_rfl) (by kernel_rfl) (by kernel_rfl) (fun _ _ _ h => h) (.inl ⟨by rfl, fun w' hw' => ?_⟩) hH31 ?_
      · go_simp
      try simp only [Act.put, List.setIfInBounds_toArray, List.set_cons_zero, List.set_cons_succ, List.getElem_toArray, List.getElem_cons_succ, List.getElem_cons_zero]
      refine wpAnyH_take (i := 1) (v := .pointer (some ⟨rb, 0, none⟩)) rfl (by kernel_rfl) (by kernel_rfl) (by kernel_rfl) (fun _ _ _ h => h) (.inl ⟨by rfl, fun w' hw' => ?_⟩) hH31 ?_
      · go_simp
      try simp only [Act.put, List.setIfInBounds_toArray, List.set_cons_zero, List.set_cons_succ, List.getElem_toArray, List.getElem_cons_succ, List.getElem_cons_zero]
      refine wpAnyH_take (i := 2) (v := .pointer (some ⟨rb, 72, none⟩)) rfl (by kernel_rfl) (by kernel_rfl) (by kernel_rfl) (fun _ _ _ h => h) (.inl ⟨by rfl, fun w' hw' => ?_⟩) hH31 ?_
      · go_simp
      try simp only [Act.put, List.setIfInBounds_toArray, List.set_cons_zero, List.set_cons_succ, List.getElem_toArray, List.getElem_cons_succ, List.getElem_cons_zero]
      refine wpAnyH_take (i := 3) (v := .pointer (some ⟨xb, 0, none⟩)) rfl (by kernel_rfl) (by kernel_rfl) (by kernel_rfl) (fun _ _ _ h => h) (.inl ⟨by rfl, fun w' hw' => ?_⟩) hH31 ?_
      · (have k9 := bR.chg hw' (by simp); have c0 := k9.cell 72 r72; go_simp)
      try simp only [Act.put, List.setIfInBounds_toArray, List.set_cons_zero, List.set_cons_succ, List.getElem_toArray, List.getElem_cons_succ, List.getElem_cons_zero]
      refine wpAnyH_take (i := 4) (v := .pointer (some ⟨rb, 0, none⟩)) rfl (by kernel_rfl) (by kernel_rfl) (by kernel_rfl) (fun _ _ _ h => h) (.inl ⟨by rfl, fun w' hw' => ?_⟩) hH31 ?_
      · go_simp
      try simp only [Act.put, List.setIfInBounds_toArray, List.set_cons_zero, List.set_cons_succ, List.getElem_toArray, List.getElem_cons_succ, List.getElem_cons_zero]
      refine wpAnyH_take (i := 5) (v := .pointer (some ⟨rb, 0, none⟩)) rfl (by kernel_rfl) (by kernel_rfl) (by kernel_rfl) (fun _ _ _ h => h) (.inl ⟨by rfl, fun w' hw' => ?_⟩) hH31 ?_
      · go_simp
      try simp only [Act.put, List.setIfInBounds_toArray, List.set_cons_zero, List.set_cons_succ, List.getElem_toArray, List.getElem_cons_succ, List.getElem_cons_zero]
      refine wpAnyH_take (i := 6) (v := .pointer (some ⟨rb, 72, none⟩)) rfl (by kernel_rfl) (by kernel_rfl) (by kernel_rfl) (fun _ _ _ h => h) (.inl ⟨by rfl, fun w' hw' => ?_⟩) hH31 ?_
      · go_simp
      try simp only [Act.put, List.setIfInBounds_toArray, List.set_cons_zero, List.set_cons_succ, List.getElem_toArray, List.getElem_cons_succ, List.getElem_cons_zero]
      refine wpAnyH_take (i := 7) (v := .pointer (some ⟨xb, 0, none⟩)) rfl (by kernel_rfl) (by kernel_rfl) (by kernel_rfl) (fun _ _ _ h => h) (.inl ⟨by rfl, fun w' hw' => ?_⟩) hH31 ?_
      · (have k9 := bR.chg hw' (by simp); have c0 := k9.cell 72 r72; go_simp)
      try simp only [Act.put, List.setIfInBounds_toArray, List.set_cons_zero, List.set_cons_succ, List.getElem_toArray, List.getElem_cons_succ, List.getElem_cons_zero]
      refine wpAnyH_ready (rs := [8]) (by kernel_rfl) (by simp) (AllReadyH.cons rfl (fun K hK => ?_) AllReadyH.nil)
      try rw [if_pos (by rfl)]
      go_simp
      go_at_call 14
      refine (hbest _ hH31).mono ?_
      rintro e32 w32 ⟨rfl, hc32⟩
      dsimp only
      have hH32 := hH31.trans hc32 (by simp)
      refine hK.out _ _ hH32 (fun _ => ?_)
      try simp only [Act.put, List.setIfInBounds_toArray, List.set_cons_zero, List.set_cons_succ, List.getElem_toArray, List.getElem_cons_succ, List.getElem_cons_zero]
      refine wpAnyH_ready (rs := [9]) (by kernel_rfl) (by simp) (AllReadyH.cons rfl (fun K hK => ?_) AllReadyH.nil)
      try rw [if_pos (by rfl)]
      go_simp
      go_at_call 31
      refine (hheightB _ hH32).mono ?_
      rintro e33 w33 ⟨rfl, hc33⟩
      dsimp only
      have hH33 := hH32.trans hc33 (by simp)
      refine hK.out _ _ hH33 (fun _ => ?_)
      try simp only [Act.put, List.setIfInBounds_toArray, List.set_cons_zero, List.set_cons_succ, List.getElem_toArray, List.getElem_cons_succ, List.getElem_cons_zero]
      refine wpAnyH_take (i := 10) (v := .tuple #[.int .i64 (bh : Int), .bool true]) rfl (by kernel_rfl) (by kernel_rfl) (by kernel_rfl) (fun _ _ _ h => h) (.inl ⟨by rfl, fun w' hw' => ?_⟩) hH33 ?_
      · go_simp
      try simp only [Act.put, List.setIfInBounds_toArray, List.set_cons_zero, List.set_cons_succ, List.getElem_toArray, List.getElem_cons_succ, List.getElem_cons_zero]
      refine wpAnyH_take (i := 11) (v := .int .i64 (bh : Int)) rfl (by kernel_rfl) (by kernel_rfl) (by kernel_rfl) (fun _ _ _ h => h) (.inl ⟨by rfl, fun w' hw' => ?_⟩) hH33 ?_
      · go_simp
      try simp only [Act.put, List.setIfInBounds_toArray, List.set_cons_zero, List.set_cons_succ, List.getElem_toArray, List.getElem_cons_succ, List.getElem_cons_zero]
      refine wpAnyH_take (i := 12) (v := .bool true) rfl (by kernel_rfl) (by kernel_rfl) (by kernel_rfl) (fun _ _ _ h => h) (.inl ⟨by rfl, fun w' hw' => ?_⟩) hH33 ?_
      · go_simp
      try simp only [Act.put, List.setIfInBounds_toArray, List.set_cons_zero, List.set_cons_succ, List.getElem_toArray, List.getElem_cons_succ, List.getElem_cons_zero]
      refine wpAnyH_ready (rs := [13]) (by kernel_rfl) (by simp) (AllReadyH.cons rfl (fun K hK => ?_) AllReadyH.nil)
      go_simp
      refine hK.out _ _ hH33 (fun _ => ?_)
      try simp only [Act.put, List.setIfInBounds_toArray, List.set_cons_zero, List.set_cons_succ, List.getElem_toArray, List.getElem_cons_succ, List.getElem_cons_zero]
      refine wpAnyH_ready (rs := [14]) (by kernel_rfl) (by simp) (AllReadyH.cons rfl (fun K hK => ?_) AllReadyH.nil)
      go_simp
      refine hK.out _ _ hH33 (fun _ => ?_)
      try simp only [Act.put, List.setIfInBounds_toArray, List.set_cons_zero, List.set_cons_succ, List.getElem_toArray, List.getElem_cons_succ, List.getElem_cons_zero]
      refine wpAnyH_done (by kernel_rfl) ?_ _
      go_wp2_with fail
      go_meet
      exact ⟨rfl, hH33⟩
    case rest =>
      obtain ⟨rfl, k4⟩ := hcut
      have v1 : IntKind.i64.wrap ((bh : Int) - ht) = (bh : Int) - ht := by rw [IntKind.wrap_i64]; omega
      have v2 : IntKind.i64.wrap ((bh : Int) - ht + 1) = (bh : Int) - ht + 1 := by rw [IntKind.wrap_i64]; omega
      have kf := k03.trans k4 (by simp)
      go_wp2
      go_ret
      exact ⟨rfl, kf⟩

set_option maxRecDepth 100000 in
set_option maxHeartbeats 8000000 in
theorem relay_ConfirmedW (rb xb ht : Nat) (dp cf Rv : Int) (hRv0 : Rv = if dp < cf then 13 else 0) (tc : Array Value) (kl : List Value) (hks : kl.toArray.size = 32) (r72 : tc[72]? = some (.pointer (some ⟨xb, 0, none⟩))) (r3 : tc[3]? = some (.int .i64 cf)) (w : World) (hR : Blk w rb tc 124)
    (hheight0 : ∀ w', Chg [] w w' → Calls Tryz.prog 31 #[.pointer (some ⟨xb, 0, none⟩), .agg kl.toArray] w' fun e w'' => e = .returned (.tuple #[.int .i64 (ht : Int), .bool true]) ∧ Chg [] w' w'')
    (hdepth0 : ∀ w', Chg [] w w' → Calls Tryz.prog 26 #[.pointer (some ⟨rb, 0, none⟩), .agg kl.toArray] w' fun e w'' => e = .returned (.int .i64 dp) ∧ Chg [] w' w'') :
    Calls Tryz.prog 30 #[.pointer (some ⟨rb, 0, none⟩), .agg kl.toArray] w fun e w' => e = .returned (.int .i64 Rv) ∧ Chg [] w w' := by
  have hRv := Lib.hid hRv0
  clear hRv0
  have bK := Blk.new w kl.toArray 26
  have k0 : Chg [] w (w.alloc (.cells kl.toArray 26)) := (Chg.refl _ _).alloc _
  have bR := hR.chg k0 (by simp)
  go_enter Tryz.func30, Tryz.ntmps30
  go_upto_region 3 with fail
  obtain ⟨bk, hbk⟩ : ∃ bk, bk = w.heap.size := ⟨_, rfl⟩
  rw [← hbk] at bK ⊢
  clear hbk
  generalize w.alloc (.cells kl.toArray 26) = w0 at *
  have hheight := fun w' (k : Chg [] w0 w') => hheight0 w' (k0.trans k (by simp))
  go_cut [5, 6] (fun s5 s6 wx => s5 = .int .i64 (ht : Int) ∧ s6 = .bool true ∧ Chg [] w0 wx)
  case first =>
    refine wp_region_held_drew (S := fun w' => Chg [] w0 w') (by kernel_rfl) ((Chg.refl _ _).drew) (fun hH => ?_)
    refine wpAnyH_take (i := 0) (v := .pointer (some ⟨rb, 0, none⟩)) rfl (by kernel_rfl) (by kernel_rfl) (by kernel_rfl) (fun _ _ _ h => h) (.inl ⟨by rfl, fun w' hw' => ?_⟩) hH ?_
    · go_simp
    try simp only [Act.put, List.setIfInBounds_toArray, List.set_cons_zero, List.set_cons_succ, List.getElem_toArray, List.getElem_cons_succ, List.getElem_cons_zero]
    refine wpAnyH_take (i := 1) (v := .pointer (some ⟨rb, 0, none⟩)) rfl (by kernel_rfl) (by kernel_rfl) (by kernel_rfl) (fun _ _ _ h => h) (.inl ⟨by rfl, fun w' hw' => ?_⟩) hH ?_
    · go_simp
    try simp only [Act.put, List.setIfInBounds_toArray, List.set_cons_zero, List.set_cons_succ, List.getElem_toArray, List.getElem_cons_succ, List.getElem_cons_zero]
    refine wpAnyH_take (i := 2) (v := .pointer (some ⟨rb, 72, none⟩)) rfl (by kernel_rfl) (by kernel_rfl) (by kernel_rfl) (fun _ _ _ h => h) (.inl ⟨by rfl, fun w' hw' => ?_⟩) hH ?_
    · go_simp
    try simp only [Act.put, List.setIfInBounds_toArray, List.set_cons_zero, List.set_cons_succ, List.getElem_toArray, List.getElem_cons_succ, List.getElem_cons_zero]
    refine wpAnyH_take (i := 3) (v := .pointer (some ⟨xb, 0, none⟩)) rfl (by kernel_rfl) (by kernel_rfl) (by kernel_rfl) (fun _ _ _ h => h) (.inl ⟨by rfl, fun w' hw' => ?_⟩) hH ?_
    · (have k9 := bR.chg hw' (by simp); have c0 := k9.cell 72 r72; go_simp)
    try simp only [Act.put, List.setIfInBounds_toArray, List.set_cons_zero, List.set_cons_succ, List.getElem_toArray, List.getElem_cons_succ, List.getElem_cons_zero]
    refine wpAnyH_take (i := 4) (v := .agg kl.toArray) rfl (by kernel_rfl) (by kernel_rfl) (by kernel_rfl) (fun _ _ _ h => h) (.inl ⟨by rfl, fun w' hw' => ?_⟩) hH ?_
    · (have k9 := bK.chg hw' (by simp); have l0 := load_blkC k9 32 hks; go_simp)
    try simp only [Act.put, List.setIfInBounds_toArray, List.set_cons_zero, List.set_cons_succ, List.getElem_toArray, List.getElem_cons_succ, List.getElem_cons_zero]
    refine wpAnyH_ready (rs := [5]) (by kernel_rfl) (by simp) (AllReadyH.cons rfl (fun K hK => ?_) AllReadyH.nil)
    try rw [if_pos (by rfl)]
    go_simp
    go_at_call 31
    refine (hheight _ hH).mono ?_
    rintro e1 w1 ⟨rfl, hc1⟩
    dsimp only
    have hH1 := hH.trans hc1 (by simp)
    refine hK.out _ _ hH1 (fun _ => ?_)
    try simp only [Act.put, List.setIfInBounds_toArray, List.set_cons_zero, List.set_cons_succ, List.getElem_toArray, List.getElem_cons_succ, List.getElem_cons_zero]
    refine wpAnyH_take (i := 6) (v := .tuple #[.int .i64 (ht : Int), .bool true]) rfl (by kernel_rfl) (by kernel_rfl) (by kernel_rfl) (fun _ _ _ h => h) (.inl ⟨by rfl, fun w' hw' => ?_⟩) hH1 ?_
    · go_simp
    try simp only [Act.put, List.setIfInBounds_toArray, List.set_cons_zero, List.set_cons_succ, List.getElem_toArray, List.getElem_cons_succ, List.getElem_cons_zero]
    refine wpAnyH_take (i := 7) (v := .int .i64 (ht : Int)) rfl (by kernel_rfl) (by kernel_rfl) (by kernel_rfl) (fun _ _ _ h => h) (.inl ⟨by rfl, fun w' hw' => ?_⟩) hH1 ?_
    · go_simp
    try simp only [Act.put, List.setIfInBounds_toArray, List.set_cons_zero, List.set_cons_succ, List.getElem_toArray, List.getElem_cons_succ, List.getElem_cons_zero]
    refine wpAnyH_take (i := 8) (v := .bool true) rfl (by kernel_rfl) (by kernel_rfl) (by kernel_rfl) (fun _ _ _ h => h) (.inl ⟨by rfl, fun w' hw' => ?_⟩) hH1 ?_
    · go_simp
    try simp only [Act.put, List.setIfInBounds_toArray, List.set_cons_zero, List.set_cons_succ, List.getElem_toArray, List.getElem_cons_succ, List.getElem_cons_zero]
    refine wpAnyH_ready (rs := [9]) (by kernel_rfl) (by simp) (AllReadyH.cons rfl (fun K hK => ?_) AllReadyH.nil)
    go_simp
    refine hK.out _ _ hH1 (fun _ => ?_)
    try simp only [Act.put, List.setIfInBounds_toArray, List.set_cons_zero, List.set_cons_succ, List.getElem_toArray, List.getElem_cons_succ, List.getElem_cons_zero]
    refine wpAnyH_ready (rs := [10]) (by kernel_rfl) (by simp) (AllReadyH.cons rfl (fun K hK => ?_) AllReadyH.nil)
    go_simp
    refine hK.out _ _ hH1 (fun _ => ?_)
    try simp only [Act.put, List.setIfInBounds_toArray, List.set_cons_zero, List.set_cons_succ, List.getElem_toArray, List.getElem_cons_succ, List.getElem_cons_zero]
    refine wpAnyH_done (by kernel_rfl) ?_ _
    go_wp2_with fail
    go_meet
    exact ⟨rfl, rfl, hH1⟩
  case rest =>
    obtain ⟨rfl, rfl, k1⟩ := hcut
    have k01 := k0.trans k1 (by simp)
    have bR := bR.chg k1 (by simp)
    have bK := bK.chg k1 (by simp)
    clear hheight hheight0 k0 k1
    generalize wc = w1 at *
    have hdepth := fun w' (k : Chg [] w1 w') => hdepth0 w' (k01.trans k (by simp))
    clear hdepth0
    go_upto_region 6 with fail
    go_cut [28] (fun s28 wx => s28 = .bool (decide (dp < cf)) ∧ Chg [] w1 wx)
    case first =>
      refine wp_region_held_drew (S := fun w' => Chg [] w1 w') (by kernel_rfl) ((Chg.refl _ _).drew) (fun hH61 => ?_)
      refine wpAnyH_take (i := 0) (v := .pointer (some ⟨rb, 0, none⟩)) rfl (by kernel_rfl) (by kernel_rfl) (by kernel_rfl) (fun _ _ _ h => h) (.inl ⟨by rfl, fun w' hw' => ?_⟩) hH61 ?_
      · go_simp
      try simp only [Act.put, List.setIfInBounds_toArray, List.set_cons_zero, List.set_cons_succ, List.getElem_toArray, List.getElem_cons_succ, List.getElem_cons_zero]
      refine wpAnyH_take (i := 1) (v := .agg kl.toArray) rfl (by kernel_rfl) (by kernel_rfl) (by kernel_rfl) (fun _ _ _ h => h) (.inl ⟨by rfl, fun w' hw' => ?_⟩) hH61 ?_
      · (have k9 := bK.chg hw' (by simp); have l0 := load_blkC k9 32 hks; go_simp)
      try simp only [Act.put, List.setIfInBounds_toArray, List.set_cons_zero, List.set_cons_succ, List.getElem_toArray, List.getElem_cons_succ, List.getElem_cons_zero]
      refine wpAnyH_take (i := 3) (v := .pointer (some ⟨rb, 0, none⟩)) rfl (by kernel_rfl) (by kernel_rfl) (by kernel_rfl) (fun _ _ _ h => h) (.inl ⟨by rfl, fun w' hw' => ?_⟩) hH61 ?_
      · go_simp
      try simp only [Act.put, List.setIfInBounds_toArray, List.set_cons_zero, List.set_cons_succ, List.getElem_toArray, List.getElem_cons_succ, List.getElem_cons_zero]
      refine wpAnyH_take (i := 4) (v := .pointer (some ⟨rb, 0, none⟩)) rfl (by kernel_rfl) (by kernel_rfl) (by kernel_rfl) (fun _ _ _ h => h) (.inl ⟨by rfl, fun w' hw' => ?_⟩) hH61 ?_
      · go_simp
      try simp only [Act.put, List.setIfInBounds_toArray, List.set_cons_zero, List.set_cons_succ, List.getElem_toArray, List.getElem_cons_succ, List.getElem_cons_zero]
      refine wpAnyH_take (i := 5) (v := .pointer (some ⟨rb, 0, none⟩)) rfl (by kernel_rfl) (by kernel_rfl) (by kernel_rfl) (fun _ _ _ h => h) (.inl ⟨by rfl, fun w' hw' => ?_⟩) hH61 ?_
      · go_simp
      try simp only [Act.put, List.setIfInBounds_toArray, List.set_cons_zero, List.set_cons_succ, List.getElem_toArray, List.getElem_cons_succ, List.getElem_cons_zero]
      refine wpAnyH_take (i := 6) (v := .pointer (some ⟨rb, 3, none⟩)) rfl (by kernel_rfl) (by kernel_rfl) (by kernel_rfl) (fun _ _ _ h => h) (.inl ⟨by rfl, fun w' hw' => ?_⟩) hH61 ?_
      · go_simp
      try simp only [Act.put, List.setIfInBounds_toArray, List.set_cons_zero, List.set_cons_succ, List.getElem_toArray, List.getElem_cons_succ, List.getElem_cons_zero]
      refine wpAnyH_take (i := 7) (v := .int .i64 cf) rfl (by kernel_rfl) (by kernel_rfl) (by kernel_rfl) (fun _ _ _ h => h) (.inl ⟨by rfl, fun w' hw' => ?_⟩) hH61 ?_
      · (have k9 := bR.chg hw' (by simp); have c0 := k9.cell 3 r3; go_simp)
      try simp only [Act.put, List.setIfInBounds_toArray, List.set_cons_zero, List.set_cons_succ, List.getElem_toArray, List.getElem_cons_succ, List.getElem_cons_zero]
      refine wpAnyH_ready (rs := [2]) (by kernel_rfl) (by simp) (AllReadyH.cons rfl (fun K hK => ?_) AllReadyH.nil)
      try rw [if_pos (by rfl)]
      go_simp
      go_at_call 26
      refine (hdepth _ hH61).mono ?_
      rintro e62 w62 ⟨rfl, hc62⟩
      dsimp only
      have hH62 := hH61.trans hc62 (by simp)
      refine hK.out _ _ hH62 (fun _ => ?_)
      try simp only [Act.put, List.setIfInBounds_toArray, List.set_cons_zero, List.set_cons_succ, List.getElem_toArray, List.getElem_cons_succ, List.getElem_cons_zero]
      refine wpAnyH_take (i := 8) (v := .bool (decide (dp < cf))) rfl (by kernel_rfl) (by kernel_rfl) (by kernel_rfl) (fun _ _ _ h => h) (.inl ⟨by rfl, fun w' hw' => ?_⟩) hH62 ?_
      · go_simp
      try simp only [Act.put, List.setIfInBounds_toArray, List.set_cons_zero, List.set_cons_succ, List.getElem_toArray, List.getElem_cons_succ, List.getElem_cons_zero]
      refine wpAnyH_done (by kernel_rfl) ?_ _
      go_wp2_with fail
      go_meet
      exact ⟨rfl, hH62⟩
    case rest =>
      obtain ⟨rfl, k2⟩ := hcut
      have kf := k01.trans k2 (by simp)
      by_cases h : dp < cf
      · have hd : decide (dp < cf) = true := by simpa using h
        have hq := Lib.hid (hRv.out.trans (if_pos h))
        rw [hd]
        clear h hd
        go_wp2
        go_ret
        exact ⟨congrArg (fun z => Ending.returned (Value.int .i64 z)) hq.out.symm, kf⟩
      · have hd : decide (dp < cf) = false := by simpa using h
        have hq := Lib.hid (hRv.out.trans (if_neg h))
        rw [hd]
        clear h hd
        go_wp2
        go_ret
        exact ⟨congrArg (fun z => Ending.returned (Value.int .i64 z)) hq.out.symm, kf⟩
end Go.Proofs.YtmkgbinmilcojaaGreat

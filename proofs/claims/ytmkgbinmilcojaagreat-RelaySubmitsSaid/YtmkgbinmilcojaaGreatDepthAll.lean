import Derived.Test.YtmkgbinmilcojaaGreatRelayS
import Derived.Test.YtmkgbinmilcojaaGreatSubmitAll

/- Package relay: Depth, Confirmed, of any block. Printed by depthgen.py. -/
namespace Go.Proofs.YtmkgbinmilcojaaGreat
open Go.RowKit Go.Maps
attribute [-go_sem] loadCellsFrom Instr.build

set_option maxRecDepth 100000 in
set_option maxHeartbeats 8000000 in
theorem relay_DepthG (rb xb ht bh : Nat) (th ab eb : Bool) (Rv : Int) (tc : Array Value) (kl bl al : List Value) (hks : kl.toArray.size = 32) (has : al.toArray.size = 32) (hao : al.toArray.all (·.oneCell') = true) (r72 : tc[72]? = some (.pointer (some ⟨xb, 0, none⟩))) (hht : ht ≤ 4096) (hbh : bh ≤ 4096) (hR0 : Rv = if (th && ab && eb) = true then (bh : Int) - ht + 1 else 0) (w : World) (hR : Blk w rb tc 124)
    (hheight0 : ∀ w', Chg [] w w' → Calls Tryz.prog 31 #[.pointer (some ⟨xb, 0, none⟩), .agg kl.toArray] w' fun e w'' => e = .returned (.tuple #[.int .i64 (ht : Int), .bool th]) ∧ Chg [] w' w'')
    (hat : ∀ w', Chg [] w w' → Calls Tryz.prog 57 #[.pointer (some ⟨xb, 0, none⟩), .int .i64 (ht : Int)] w' fun e w'' => e = .returned (.tuple #[.agg al.toArray, .bool ab]) ∧ Chg [] w' w'')
    (heqs : ∀ w, (Op.equalIn 10000 26 (.agg al.toArray) (.agg kl.toArray)).run Tryz.prog w = .ok eb w)
    (hbest0 : ∀ w', Chg [] w w' → Calls Tryz.prog 14 #[.pointer (some ⟨xb, 0, none⟩)] w' fun e w'' => e = .returned (.agg bl.toArray) ∧ Chg [] w' w'')
    (hheightB0 : ∀ w', Chg [] w w' → Calls Tryz.prog 31 #[.pointer (some ⟨xb, 0, none⟩), .agg bl.toArray] w' fun e w'' => e = .returned (.tuple #[.int .i64 (bh : Int), .bool true]) ∧ Chg [] w' w'') :
    Calls Tryz.prog 26 #[.pointer (some ⟨rb, 0, none⟩), .agg kl.toArray] w fun e w' => e = .returned (.int .i64 Rv) ∧ Chg [] w w' := by
  have hRv := Lib.hid hR0
  clear hR0
  have hzK := zeroHash
  have bK := Blk.new w kl.toArray 26
  have k0 : Chg [] w (w.alloc (.cells kl.toArray 26)) := (Chg.refl _ _).alloc _
  have bR := hR.chg k0 (by simp)
  go_enter Tryz.func26, Tryz.ntmps26
  go_upto_region 3 with fail
  obtain ⟨bk, hbk⟩ : ∃ bk, bk = w.heap.size := ⟨_, rfl⟩
  rw [← hbk] at bK ⊢
  clear hbk
  generalize w.alloc (.cells kl.toArray 26) = w0 at *
  have hheight := fun w' (k : Chg [] w0 w') => hheight0 w' (k0.trans k (by simp))
  go_cut [5, 6] (fun s5 s6 wx => s5 = .int .i64 (ht : Int) ∧ s6 = .bool th ∧ Chg [] w0 wx)
  case first =>
    refine wp_region_held_drew (S := fun w' => Chg [] w0 w') (by kernel_rfl) ((Chg.refl _ _).drew) (fun hH => ?_)
    refine TK 0 (.pointer (some ⟨rb, 0, none⟩)) rfl hH (fun w' hw' => ?_) ?_
    · go_simp
    try simp only [Act.put, Sa, Sb, Sc, Sd, Sf]
    refine TK 1 (.pointer (some ⟨rb, 0, none⟩)) rfl hH (fun w' hw' => ?_) ?_
    · go_simp
    try simp only [Act.put, Sa, Sb, Sc, Sd, Se, Sf]
    refine TK 2 (.pointer (some ⟨rb, 72, none⟩)) rfl hH (fun w' hw' => ?_) ?_
    · go_simp
    try simp only [Act.put, Sa, Sb, Sc, Sd, Se, Sf]
    refine TK 3 (.pointer (some ⟨xb, 0, none⟩)) rfl hH (fun w' hw' => ?_) ?_
    · (have k9 := bR.chg hw' (by simp); have c0 := k9.cell 72 r72; go_simp)
    try simp only [Act.put, Sa, Sb, Sc, Sd, Se, Sf]
    refine TK 4 (.agg kl.toArray) rfl hH (fun w' hw' => ?_) ?_
    · (have k9 := bK.chg hw' (by simp); have l0 := load_blkC k9 32 hks; go_simp)
    try simp only [Act.put, Sa, Sb, Sc, Sd, Se, Sf]
    refine RD 5 rfl (fun K hK => ?_)
    try rw [if_pos (by rfl)]
    go_simp
    go_at_call 31
    refine (hheight _ hH).mono ?_
    rintro e1 w1 ⟨rfl, hc1⟩
    dsimp only
    have hH1 := hH.trans hc1 (by simp)
    refine hK.out _ _ hH1 (fun _ => ?_)
    try simp only [Act.put, Sa, Sb, Sc, Sd, Se, Sf]
    refine TK 6 (.tuple #[.int .i64 (ht : Int), .bool th]) rfl hH1 (fun w' hw' => ?_) ?_
    · go_simp
    try simp only [Act.put, Sa, Sb, Sc, Sd, Se, Sf]
    refine TK 7 (.int .i64 (ht : Int)) rfl hH1 (fun w' hw' => ?_) ?_
    · go_simp
    try simp only [Act.put, Sa, Sb, Sc, Sd, Se, Sf]
    refine TK 8 (.bool th) rfl hH1 (fun w' hw' => ?_) ?_
    · go_simp
    try simp only [Act.put, Sa, Sb, Sc, Sd, Se, Sf]
    refine RD 9 rfl (fun K hK => ?_)
    go_simp
    refine hK.out _ _ hH1 (fun _ => ?_)
    try simp only [Act.put, Sa, Sb, Sc, Sd, Se, Sf]
    refine RD 10 rfl (fun K hK => ?_)
    go_simp
    refine hK.out _ _ hH1 (fun _ => ?_)
    try simp only [Act.put, Sa, Sb, Sc, Sd, Se, Sf]
    refine wpAnyH_done (by kernel_rfl) ?_ _
    go_wp2_with fail
    go_meet
    exact ⟨rfl, rfl, hH1⟩
  case rest =>
    obtain ⟨rfl, rfl, k1⟩ := hcut
    have k01 := k0.trans k1 (by simp)
    have bR := bR.chg k1 (by simp)
    have bK := bK.chg k1 (by simp)
    have c72 := bR.cell 72 r72
    clear hheight hheight0 k0 k1
    generalize wc = w1 at *
    go_wp2_with fail
    refine (hat _ k01).mono ?_
    rintro e w2 ⟨rfl, k2⟩
    dsimp only
    have hst := run_storeCells_new (P := Tryz.prog) w2 26 z32 al.toArray (by rw [has]; exact infoHash) (by rw [has]; rfl) hao
    have bT := Blk.new w2 al.toArray 26
    have hl1 := load_blkC bT 32 has
    have bK2 := (bK.chg k2 (by simp)).alloc (.cells al.toArray 26)
    have hl2 := load_blkC bK2 32 hks
    have k03 := (k01.trans k2 (by simp)).alloc (.cells al.toArray 26)
    have bR := hR.chg k03 (by simp)
    have hbest := fun w' (k : Chg [] (w2.alloc (.cells al.toArray 26)) w') => hbest0 w' (k03.trans k (by simp))
    have hheightB := fun w' (k : Chg [] (w2.alloc (.cells al.toArray 26)) w') => hheightB0 w' (k03.trans k (by simp))
    clear hat c72 hbest0 hheightB0 bK k01 k2
    cases th with
    | false =>
      have hq := Lib.hid (hRv.out.trans (if_neg (by simp)))
      go_wp2
      go_ret
      exact ⟨congrArg (fun z => Ending.returned (Value.int .i64 z)) hq.out.symm, k03⟩
    | true =>
    cases ab with
    | false =>
      have hq := Lib.hid (hRv.out.trans (if_neg (by simp)))
      go_wp2
      go_ret
      exact ⟨congrArg (fun z => Ending.returned (Value.int .i64 z)) hq.out.symm, k03⟩
    | true =>
    cases eb with
    | false =>
      have hq := Lib.hid (hRv.out.trans (if_neg (by simp)))
      go_wp2
      go_ret
      exact ⟨congrArg (fun z => Ending.returned (Value.int .i64 z)) hq.out.symm, k03⟩
    | true =>
    have hq := Lib.hid (hRv.out.trans (if_pos (by rfl)))
    go_upto_region 7 with fail
    clear hst hl1 hl2 bT bK2
    generalize w2.alloc (.cells al.toArray 26) = w3 at *
    go_cut [9] (fun s9 wx => s9 = .int .i64 (bh : Int) ∧ Chg [] w3 wx)
    case first =>
      refine wp_region_held_drew (S := fun w' => Chg [] w3 w') (by kernel_rfl) ((Chg.refl _ _).drew) (fun hH31 => ?_)
      refine TK 0 (.pointer (some ⟨rb, 0, none⟩)) rfl hH31 (fun w' hw' => ?_) ?_
      · go_simp
      try simp only [Act.put, Sa, Sb, Sc, Sd, Sf]
      refine TK 1 (.pointer (some ⟨rb, 0, none⟩)) rfl hH31 (fun w' hw' => ?_) ?_
      · go_simp
      try simp only [Act.put, Sa, Sb, Sc, Sd, Se, Sf]
      refine TK 2 (.pointer (some ⟨rb, 72, none⟩)) rfl hH31 (fun w' hw' => ?_) ?_
      · go_simp
      try simp only [Act.put, Sa, Sb, Sc, Sd, Se, Sf]
      refine TK 3 (.pointer (some ⟨xb, 0, none⟩)) rfl hH31 (fun w' hw' => ?_) ?_
      · (have k9 := bR.chg hw' (by simp); have c0 := k9.cell 72 r72; go_simp)
      try simp only [Act.put, Sa, Sb, Sc, Sd, Se, Sf]
      refine TK 4 (.pointer (some ⟨rb, 0, none⟩)) rfl hH31 (fun w' hw' => ?_) ?_
      · go_simp
      try simp only [Act.put, Sa, Sb, Sc, Sd, Se, Sf]
      refine TK 5 (.pointer (some ⟨rb, 0, none⟩)) rfl hH31 (fun w' hw' => ?_) ?_
      · go_simp
      try simp only [Act.put, Sa, Sb, Sc, Sd, Se, Sf]
      refine TK 6 (.pointer (some ⟨rb, 72, none⟩)) rfl hH31 (fun w' hw' => ?_) ?_
      · go_simp
      try simp only [Act.put, Sa, Sb, Sc, Sd, Se, Sf]
      refine TK 7 (.pointer (some ⟨xb, 0, none⟩)) rfl hH31 (fun w' hw' => ?_) ?_
      · (have k9 := bR.chg hw' (by simp); have c0 := k9.cell 72 r72; go_simp)
      try simp only [Act.put, Sa, Sb, Sc, Sd, Se, Sf]
      refine RD 8 rfl (fun K hK => ?_)
      try rw [if_pos (by rfl)]
      go_simp
      go_at_call 14
      refine (hbest _ hH31).mono ?_
      rintro e32 w32 ⟨rfl, hc32⟩
      dsimp only
      have hH32 := hH31.trans hc32 (by simp)
      refine hK.out _ _ hH32 (fun _ => ?_)
      try simp only [Act.put, Sa, Sb, Sc, Sd, Se, Sf]
      refine RD 9 rfl (fun K hK => ?_)
      try rw [if_pos (by rfl)]
      go_simp
      go_at_call 31
      refine (hheightB _ hH32).mono ?_
      rintro e33 w33 ⟨rfl, hc33⟩
      dsimp only
      have hH33 := hH32.trans hc33 (by simp)
      refine hK.out _ _ hH33 (fun _ => ?_)
      try simp only [Act.put, Sa, Sb, Sc, Sd, Se, Sf]
      refine TK 10 (.tuple #[.int .i64 (bh : Int), .bool true]) rfl hH33 (fun w' hw' => ?_) ?_
      · go_simp
      try simp only [Act.put, Sa, Sb, Sc, Sd, Se, Sf]
      refine TK 11 (.int .i64 (bh : Int)) rfl hH33 (fun w' hw' => ?_) ?_
      · go_simp
      try simp only [Act.put, Sa, Sb, Sc, Sd, Se, Sf]
      refine TK 12 (.bool true) rfl hH33 (fun w' hw' => ?_) ?_
      · go_simp
      try simp only [Act.put, Sa, Sb, Sc, Sd, Se, Sf]
      refine RD 13 rfl (fun K hK => ?_)
      go_simp
      refine hK.out _ _ hH33 (fun _ => ?_)
      try simp only [Act.put, Sa, Sb, Sc, Sd, Se, Sf]
      refine RD 14 rfl (fun K hK => ?_)
      go_simp
      refine hK.out _ _ hH33 (fun _ => ?_)
      try simp only [Act.put, Sa, Sb, Sc, Sd, Se, Sf]
      refine wpAnyH_done (by kernel_rfl) ?_ _
      go_wp2_with fail
      go_meet
      exact ⟨rfl, hH33⟩
    case rest =>
      obtain ⟨rfl, k4⟩ := hcut
      have v1 : IntKind.i64.wrap ((bh : Int) - ht) = (bh : Int) - ht := by rw [IntKind.wrap_i64]; omega
      have v2 : IntKind.i64.wrap ((bh : Int) - ht + 1) = (bh : Int) - ht + 1 := by rw [IntKind.wrap_i64]; omega
      have kf := k03.trans k4 (by simp)
      go_wp2
      go_ret
      exact ⟨congrArg (fun z => Ending.returned (Value.int .i64 z)) hq.out.symm, kf⟩
theorem relay_DepthW (rb xb ht bh : Nat) (tc : Array Value) (kl bl : List Value) (hks : kl.toArray.size = 32) (hko : kl.toArray.all (·.oneCell') = true) (r72 : tc[72]? = some (.pointer (some ⟨xb, 0, none⟩))) (hle : ht ≤ bh) (hbh : bh ≤ 4096) (w : World) (hR : Blk w rb tc 124)
    (hheight0 : ∀ w', Chg [] w w' → Calls Tryz.prog 31 #[.pointer (some ⟨xb, 0, none⟩), .agg kl.toArray] w' fun e w'' => e = .returned (.tuple #[.int .i64 (ht : Int), .bool true]) ∧ Chg [] w' w'')
    (hat : ∀ w', Chg [] w w' → Calls Tryz.prog 57 #[.pointer (some ⟨xb, 0, none⟩), .int .i64 (ht : Int)] w' fun e w'' => e = .returned (.tuple #[.agg kl.toArray, .bool true]) ∧ Chg [] w' w'')
    (heqs : ∀ w, (Op.equalIn 10000 26 (.agg kl.toArray) (.agg kl.toArray)).run Tryz.prog w = .ok true w)
    (hbest0 : ∀ w', Chg [] w w' → Calls Tryz.prog 14 #[.pointer (some ⟨xb, 0, none⟩)] w' fun e w'' => e = .returned (.agg bl.toArray) ∧ Chg [] w' w'')
    (hheightB0 : ∀ w', Chg [] w w' → Calls Tryz.prog 31 #[.pointer (some ⟨xb, 0, none⟩), .agg bl.toArray] w' fun e w'' => e = .returned (.tuple #[.int .i64 (bh : Int), .bool true]) ∧ Chg [] w' w'') :
    Calls Tryz.prog 26 #[.pointer (some ⟨rb, 0, none⟩), .agg kl.toArray] w fun e w' => e = .returned (.int .i64 ((bh : Int) - ht + 1)) ∧ Chg [] w w' :=
  relay_DepthG rb xb ht bh true true true _ tc kl bl kl hks hks hko r72 (by omega) hbh rfl w hR hheight0 hat heqs hbest0 hheightB0

set_option maxRecDepth 100000 in
set_option maxHeartbeats 8000000 in
theorem relay_ConfirmedG (rb xb ht : Nat) (th : Bool) (dp cf Rv : Int) (hRv0 : Rv = if th = true then if dp < cf then 13 else 0 else 12) (tc : Array Value) (kl : List Value) (hks : kl.toArray.size = 32) (r72 : tc[72]? = some (.pointer (some ⟨xb, 0, none⟩))) (r3 : tc[3]? = some (.int .i64 cf)) (w : World) (hR : Blk w rb tc 124)
    (hheight0 : ∀ w', Chg [] w w' → Calls Tryz.prog 31 #[.pointer (some ⟨xb, 0, none⟩), .agg kl.toArray] w' fun e w'' => e = .returned (.tuple #[.int .i64 (ht : Int), .bool th]) ∧ Chg [] w' w'')
    (hdepth0 : ∀ w', Chg [] w w' → Calls Tryz.prog 26 #[.pointer (some ⟨rb, 0, none⟩), .agg kl.toArray] w' fun e w'' => e = .returned (.int .i64 dp) ∧ Chg [] w' w'') :
    Calls Tryz.prog 30 #[.pointer (some ⟨rb, 0, none⟩), .agg kl.toArray] w fun e w' => e = .returned (.int .i64 Rv) ∧ Chg [] w w' := by
  have hRv := Lib.hid hRv0
  clear hRv0
  have bK := Blk.new w kl.toArray 26
  have k0 : Chg [] w (w.alloc (.cells kl.toArray 26)) := (Chg.refl _ _).alloc _
  have bR := hR.chg k0 (by simp)
  go_enter Tryz.func30, Tryz.ntmps30
  go_upto_region 3 with fail
  obtain ⟨bk, hbk⟩ : ∃ bk, bk = w.heap.size := ⟨_, rfl⟩
  rw [← hbk] at bK ⊢
  clear hbk
  generalize w.alloc (.cells kl.toArray 26) = w0 at *
  have hheight := fun w' (k : Chg [] w0 w') => hheight0 w' (k0.trans k (by simp))
  go_cut [5, 6] (fun s5 s6 wx => s5 = .int .i64 (ht : Int) ∧ s6 = .bool th ∧ Chg [] w0 wx)
  case first =>
    refine wp_region_held_drew (S := fun w' => Chg [] w0 w') (by kernel_rfl) ((Chg.refl _ _).drew) (fun hH => ?_)
    refine TK 0 (.pointer (some ⟨rb, 0, none⟩)) rfl hH (fun w' hw' => ?_) ?_
    · go_simp
    try simp only [Act.put, Sa, Sb, Sc, Sd, Sf]
    refine TK 1 (.pointer (some ⟨rb, 0, none⟩)) rfl hH (fun w' hw' => ?_) ?_
    · go_simp
    try simp only [Act.put, Sa, Sb, Sc, Sd, Se, Sf]
    refine TK 2 (.pointer (some ⟨rb, 72, none⟩)) rfl hH (fun w' hw' => ?_) ?_
    · go_simp
    try simp only [Act.put, Sa, Sb, Sc, Sd, Se, Sf]
    refine TK 3 (.pointer (some ⟨xb, 0, none⟩)) rfl hH (fun w' hw' => ?_) ?_
    · (have k9 := bR.chg hw' (by simp); have c0 := k9.cell 72 r72; go_simp)
    try simp only [Act.put, Sa, Sb, Sc, Sd, Se, Sf]
    refine TK 4 (.agg kl.toArray) rfl hH (fun w' hw' => ?_) ?_
    · (have k9 := bK.chg hw' (by simp); have l0 := load_blkC k9 32 hks; go_simp)
    try simp only [Act.put, Sa, Sb, Sc, Sd, Se, Sf]
    refine RD 5 rfl (fun K hK => ?_)
    try rw [if_pos (by rfl)]
    go_simp
    go_at_call 31
    refine (hheight _ hH).mono ?_
    rintro e1 w1 ⟨rfl, hc1⟩
    dsimp only
    have hH1 := hH.trans hc1 (by simp)
    refine hK.out _ _ hH1 (fun _ => ?_)
    try simp only [Act.put, Sa, Sb, Sc, Sd, Se, Sf]
    refine TK 6 (.tuple #[.int .i64 (ht : Int), .bool th]) rfl hH1 (fun w' hw' => ?_) ?_
    · go_simp
    try simp only [Act.put, Sa, Sb, Sc, Sd, Se, Sf]
    refine TK 7 (.int .i64 (ht : Int)) rfl hH1 (fun w' hw' => ?_) ?_
    · go_simp
    try simp only [Act.put, Sa, Sb, Sc, Sd, Se, Sf]
    refine TK 8 (.bool th) rfl hH1 (fun w' hw' => ?_) ?_
    · go_simp
    try simp only [Act.put, Sa, Sb, Sc, Sd, Se, Sf]
    refine RD 9 rfl (fun K hK => ?_)
    go_simp
    refine hK.out _ _ hH1 (fun _ => ?_)
    try simp only [Act.put, Sa, Sb, Sc, Sd, Se, Sf]
    refine RD 10 rfl (fun K hK => ?_)
    go_simp
    refine hK.out _ _ hH1 (fun _ => ?_)
    try simp only [Act.put, Sa, Sb, Sc, Sd, Se, Sf]
    refine wpAnyH_done (by kernel_rfl) ?_ _
    go_wp2_with fail
    go_meet
    exact ⟨rfl, rfl, hH1⟩
  case rest =>
    obtain ⟨rfl, rfl, k1⟩ := hcut
    have k01 := k0.trans k1 (by simp)
    have bR := bR.chg k1 (by simp)
    have bK := bK.chg k1 (by simp)
    clear hheight hheight0 k0 k1
    generalize wc = w1 at *
    have hdepth := fun w' (k : Chg [] w1 w') => hdepth0 w' (k01.trans k (by simp))
    clear hdepth0
    cases th with
    | false =>
      have hq := Lib.hid (hRv.out.trans (if_neg (by simp)))
      go_wp2
      go_ret
      exact ⟨congrArg (fun z => Ending.returned (Value.int .i64 z)) hq.out.symm, k01⟩
    | true =>
    replace hRv := Lib.hid (hRv.out.trans (if_pos rfl))
    go_upto_region 6 with fail
    go_cut [28] (fun s28 wx => s28 = .bool (decide (dp < cf)) ∧ Chg [] w1 wx)
    case first =>
      refine wp_region_held_drew (S := fun w' => Chg [] w1 w') (by kernel_rfl) ((Chg.refl _ _).drew) (fun hH61 => ?_)
      refine TK 0 (.pointer (some ⟨rb, 0, none⟩)) rfl hH61 (fun w' hw' => ?_) ?_
      · go_simp
      try simp only [Act.put, Sa, Sb, Sc, Sd, Sf]
      refine TK 1 (.agg kl.toArray) rfl hH61 (fun w' hw' => ?_) ?_
      · (have k9 := bK.chg hw' (by simp); have l0 := load_blkC k9 32 hks; go_simp)
      try simp only [Act.put, Sa, Sb, Sc, Sd, Se, Sf]
      refine TK 3 (.pointer (some ⟨rb, 0, none⟩)) rfl hH61 (fun w' hw' => ?_) ?_
      · go_simp
      try simp only [Act.put, Sa, Sb, Sc, Sd, Se, Sf]
      refine TK 4 (.pointer (some ⟨rb, 0, none⟩)) rfl hH61 (fun w' hw' => ?_) ?_
      · go_simp
      try simp only [Act.put, Sa, Sb, Sc, Sd, Se, Sf]
      refine TK 5 (.pointer (some ⟨rb, 0, none⟩)) rfl hH61 (fun w' hw' => ?_) ?_
      · go_simp
      try simp only [Act.put, Sa, Sb, Sc, Sd, Se, Sf]
      refine TK 6 (.pointer (some ⟨rb, 3, none⟩)) rfl hH61 (fun w' hw' => ?_) ?_
      · go_simp
      try simp only [Act.put, Sa, Sb, Sc, Sd, Se, Sf]
      refine TK 7 (.int .i64 cf) rfl hH61 (fun w' hw' => ?_) ?_
      · (have k9 := bR.chg hw' (by simp); have c0 := k9.cell 3 r3; go_simp)
      try simp only [Act.put, Sa, Sb, Sc, Sd, Se, Sf]
      refine RD 2 rfl (fun K hK => ?_)
      try rw [if_pos (by rfl)]
      go_simp
      go_at_call 26
      refine (hdepth _ hH61).mono ?_
      rintro e62 w62 ⟨rfl, hc62⟩
      dsimp only
      have hH62 := hH61.trans hc62 (by simp)
      refine hK.out _ _ hH62 (fun _ => ?_)
      try simp only [Act.put, Sa, Sb, Sc, Sd, Se, Sf]
      refine TK 8 (.bool (decide (dp < cf))) rfl hH62 (fun w' hw' => ?_) ?_
      · go_simp
      try simp only [Act.put, Sa, Sb, Sc, Sd, Se, Sf]
      refine wpAnyH_done (by kernel_rfl) ?_ _
      go_wp2_with fail
      go_meet
      exact ⟨rfl, hH62⟩
    case rest =>
      obtain ⟨rfl, k2⟩ := hcut
      have kf := k01.trans k2 (by simp)
      by_cases h : dp < cf
      · have hd : decide (dp < cf) = true := by simpa using h
        have hq := Lib.hid (hRv.out.trans (if_pos h))
        rw [hd]
        clear h hd
        go_wp2
        go_ret
        exact ⟨congrArg (fun z => Ending.returned (Value.int .i64 z)) hq.out.symm, kf⟩
      · have hd : decide (dp < cf) = false := by simpa using h
        have hq := Lib.hid (hRv.out.trans (if_neg h))
        rw [hd]
        clear h hd
        go_wp2
        go_ret
        exact ⟨congrArg (fun z => Ending.returned (Value.int .i64 z)) hq.out.symm, kf⟩
theorem relay_ConfirmedW (rb xb ht : Nat) (dp cf Rv : Int) (hRv0 : Rv = if dp < cf then 13 else 0) (tc : Array Value) (kl : List Value) (hks : kl.toArray.size = 32) (r72 : tc[72]? = some (.pointer (some ⟨xb, 0, none⟩))) (r3 : tc[3]? = some (.int .i64 cf)) (w : World) (hR : Blk w rb tc 124)
    (hheight0 : ∀ w', Chg [] w w' → Calls Tryz.prog 31 #[.pointer (some ⟨xb, 0, none⟩), .agg kl.toArray] w' fun e w'' => e = .returned (.tuple #[.int .i64 (ht : Int), .bool true]) ∧ Chg [] w' w'')
    (hdepth0 : ∀ w', Chg [] w w' → Calls Tryz.prog 26 #[.pointer (some ⟨rb, 0, none⟩), .agg kl.toArray] w' fun e w'' => e = .returned (.int .i64 dp) ∧ Chg [] w' w'') :
    Calls Tryz.prog 30 #[.pointer (some ⟨rb, 0, none⟩), .agg kl.toArray] w fun e w' => e = .returned (.int .i64 Rv) ∧ Chg [] w w' :=
  relay_ConfirmedG rb xb ht true dp cf Rv (by rw [if_pos rfl]; exact hRv0) tc kl hks r72 r3 w hR hheight0 hdepth0
end Go.Proofs.YtmkgbinmilcojaaGreat

/- Package tree: At of a height that isn't there; package relay: Depth, Confirmed, of any hash; what the best chain's hashes are. -/
namespace Go.Proofs.YtmkgbinmilcojaaGreat
open Go.RowKit Go.Maps
attribute [-go_sem] loadCellsFrom Instr.build

def z32l : List Nat := List.replicate 32 0
theorem z32l_ok : HK z32l := ⟨by simp [z32l], by intro x hx; simp [z32l] at hx; omega⟩
theorem z32l_v : (bytesV z32l).toArray = z32 := by rfl
set_option maxRecDepth 100000 in
theorem buildZ32 (w : World) : (Instr.build 26 #[]).run Tryz.prog w = .ok (.agg z32) w := by kernel_rfl
set_option maxRecDepth 100000 in
set_option maxHeartbeats 1000000 in
theorem tree_AtN (x : Lt) (T : Tr) (ok : TrOk T) (j : Nat) (hj : T.ch.length ≤ j) (w : World) (h : TreeAt w x T) :
    Calls Tryz.prog 57 #[.pointer (some ⟨x.b, 0, none⟩), .int .i64 j] w fun e w' => e = .returned (.tuple #[.agg (bytesV z32l).toArray, .bool false]) ∧ Chg [] w w' := by
  rw [z32l_v]
  have hz := zeroHash
  have hb := buildZ32
  have k0 : Chg [] w (w.alloc (.cells z32 26)) := (Chg.refl _ _).alloc _
  have h0 := h.chg ok k0
  obtain ⟨g, c, c72, c73, _, hc, hch⟩ := h0.slice ok
  have bO := Blk.new w z32 26
  have hzs : z32.size = 32 := rfl
  have hone : z32.all (·.oneCell') = true := by rw [← z32l_v]; exact bytesV_all _
  have hchl := ok.chl
  clear hch h h0
  generalize T.ch.length = m at *
  generalize z32 = zz at *
  have d1 : decide ((j : Int) < 0) = false := by simp
  have d2 : decide ((m : Int) ≤ j) = true := by simp; omega
  obtain ⟨W2, hst, b2, kk⟩ := store_cells bO (cs := zz) (by rfl) hone
  have hld2 := load_blkC b2 32 hzs
  go_enter Tryz.func57, Tryz.ntmps57
  go_wp2
  exact bodyPost_ret (v := .tuple #[.agg zz, .bool false]) (by simp [results, Tryz.results57, go_sem, hld2]) rfl ⟨rfl, k0.trans kk (by simp)⟩

/-- how many blocks of the best chain aren't below one. -/
def Tr.depth (T : Tr) (k : List Nat) : Int := match T.find k with
  | none => 0
  | some i => if T.ch[T.htOf i]? = some i then (T.ch.length : Int) - T.htOf i else 0
/-- the best chain's hashes. -/
def Tr.hash (T : Tr) (i : Nat) : List Nat := ((T.ns[i]?).map (fun p => hdH p.h)).getD z32l
def Tr.line (T : Tr) : List (List Nat) := T.ch.map T.hash
theorem Tr.hash_eq {T : Tr} {i : Nat} {p : Pn} (h : T.ns[i]? = some p) : T.hash i = hdH p.h := by simp [Tr.hash, h]
theorem Tr.hash_ok (T : Tr) (i : Nat) : HK (T.hash i) := by
  unfold Tr.hash
  cases T.ns[i]? with
  | none => exact z32l_ok
  | some p => exact HK_hash _
theorem Tr.line_len (T : Tr) : T.line.length = T.ch.length := by simp [Tr.line]
theorem Tr.line_ok {T : Tr} {k : List Nat} (h : k ∈ T.line) : HK k := by
  obtain ⟨i, _, rfl⟩ := List.mem_map.1 h
  exact T.hash_ok i
theorem Tr.depth_line {T : Tr} (ok : TrOk T) {i : Nat} {k : List Nat} (h : T.line[i]? = some k) : T.depth k = (T.line.length : Int) - i := by
  unfold Tr.line at h
  rw [List.getElem?_map, Option.map_eq_some_iff] at h
  obtain ⟨j, hj, rfl⟩ := h
  obtain ⟨p, hp, hpi⟩ := ok.ch i j hj
  rw [Tr.hash_eq hp, Tr.line_len]
  unfold Tr.depth
  rw [find_at ok hp]
  simp only
  rw [Tr.htOf_eq hp, hpi, if_pos hj]
theorem Tr.depth_out {T : Tr} {k : List Nat} (h : k ∉ T.line) : T.depth k = 0 := by
  unfold Tr.depth
  cases hf : T.find k with
  | none => rfl
  | some i =>
    simp only
    split
    · rename_i hc
      obtain ⟨p, hp, hk⟩ := Tr.find_some hf
      exact absurd (List.mem_map.2 ⟨i, List.mem_of_getElem? hc, (Tr.hash_eq hp).trans hk⟩) h
    · rfl
theorem Tr.depth_best {T : Tr} (ok : TrOk T) : T.depth T.best = 1 := by
  have hl := Tr.last_get ok
  obtain ⟨p, hp, _⟩ := ok.best
  have h0 := ok.ch0
  have := Tr.depth_line ok (i := T.ch.length - 1) (k := T.hash T.last) (by unfold Tr.line; rw [List.getElem?_map, hl]; rfl)
  rw [Tr.hash_eq hp] at this
  rw [show T.best = hdH p.h by simp [Tr.best, hp], this, Tr.line_len]
  omega
theorem relay_Depth (rb : Nat) (x : Lt) (T : Tr) (I : TrInv T) (d : Nat) (k : List Nat) (hk : HK k) (w : World) (h : RelAt w rb x T d) :
    Calls Tryz.prog 26 #[.pointer (some ⟨rb, 0, none⟩), hv k] w fun e w' => e = .returned (.int .i64 (T.depth k)) ∧ Chg [] w w' := by
  have ok := I.ok
  have ch0 := ok.ch0
  have chl := ok.chl
  obtain ⟨pb, hpb, hpbh⟩ := ok.best
  have hbest : ∀ w', Chg [] w w' → Calls Tryz.prog 14 #[.pointer (some ⟨x.b, 0, none⟩)] w' fun e w'' => e = .returned (.agg (bytesV T.best).toArray) ∧ Chg [] w' w'' := fun w' kc => tree_Best x T ok w' (h.t.chg ok kc)
  have hbestH : ∀ w', Chg [] w w' → Calls Tryz.prog 31 #[.pointer (some ⟨x.b, 0, none⟩), .agg (bytesV T.best).toArray] w' fun e w'' => e = .returned (.tuple #[.int .i64 ((T.ch.length - 1 : Nat) : Int), .bool true]) ∧ Chg [] w' w'' := fun w' kc => by
    have := tree_Height x T ok T.best (HK_best ok) w' (h.t.chg ok kc)
    rw [show T.node T.best = some pb by unfold Tr.node; rw [best_find ok]; exact hpb] at this
    rw [← hpbh]; exact this
  have hht : ∀ w', Chg [] w w' → Calls Tryz.prog 31 #[.pointer (some ⟨x.b, 0, none⟩), .agg (bytesV k).toArray] w' fun e w'' => e = .returned (.tuple #[.int .i64 (((T.node k).map (fun p => p.ht)).getD 0 : Nat), .bool (T.node k).isSome]) ∧ Chg [] w' w'' := fun w' kc => tree_Height x T ok k hk w' (h.t.chg ok kc)
  have hks : (bytesV k).toArray.size = 32 := by simp [bytesV_len, hk.1]
  cases hf : T.find k with
  | none =>
    have hn : T.node k = none := Tr.node_none hf
    obtain ⟨p, hp, hp0⟩ := I.at0
    rw [hn] at hht
    refine relay_DepthG rb x.b 0 (T.ch.length - 1) false true (decide (hdH p.h = k)) (T.depth k) _ (bytesV k) (bytesV T.best) (bytesV (hdH p.h)) hks (by simp [bytesV_len, hdH_len]) (bytesV_all _) (r_cell (Rl.len ok.r) _ _).1 (by omega) (by omega) (by simp [Tr.depth, hf]) w h.blk hht
      (fun w' kc => tree_At x T ok 0 0 p I.c0 hp w' (h.t.chg ok kc)) (fun w => hash_eq (HK_hash _) hk w) hbest hbestH
  | some i =>
    obtain ⟨p, hp, hn, hpk⟩ := Tr.node_some hf
    have hl := ok.ht p (List.mem_of_getElem? hp)
    have e1 := Tr.htOf_eq hp
    rw [hn] at hht
    by_cases hlt : p.ht < T.ch.length
    · obtain ⟨j, hj⟩ : ∃ j, T.ch[p.ht]? = some j := ⟨_, List.getElem?_eq_getElem hlt⟩
      obtain ⟨q, hq, hqh⟩ := ok.ch _ _ hj
      refine relay_DepthG rb x.b p.ht (T.ch.length - 1) true true (decide (hdH q.h = k)) (T.depth k) _ (bytesV k) (bytesV T.best) (bytesV (hdH q.h)) hks (by simp [bytesV_len, hdH_len]) (bytesV_all _) (r_cell (Rl.len ok.r) _ _).1 (by omega) (by omega) ?_ w h.blk hht
        (fun w' kc => tree_At x T ok p.ht j q hj hq w' (h.t.chg ok kc)) (fun w => hash_eq (HK_hash _) hk w) hbest hbestH
      unfold Tr.depth
      rw [hf]
      simp only
      rw [e1, hj]
      by_cases hjk : hdH q.h = k
      · have : j = i := by
          have := find_at ok hq
          rw [hjk, hf] at this
          simpa using this.symm
        rw [if_pos (by rw [this]), if_pos (by simp [hjk])]
        omega
      · have hne : ¬ (some j = some i) := fun e => by
          cases e
          rw [hp] at hq; cases hq
          exact hjk hpk
        rw [if_neg hne, if_neg (by simpa using hjk)]
    · refine relay_DepthG rb x.b p.ht (T.ch.length - 1) true false (decide (z32l = k)) (T.depth k) _ (bytesV k) (bytesV T.best) (bytesV z32l) hks (by simp [bytesV_len, z32l]) (bytesV_all _) (r_cell (Rl.len ok.r) _ _).1 (by omega) (by omega) ?_ w h.blk hht
        (fun w' kc => tree_AtN x T ok p.ht (by omega) w' (h.t.chg ok kc)) (fun w => hash_eq z32l_ok hk w) hbest hbestH
      unfold Tr.depth
      rw [hf]
      simp only
      rw [e1, if_neg (by rw [List.getElem?_eq_none (by omega)]; simp), if_neg (by simp)]
/-- is a block confirmed. -/
def Tr.conf (T : Tr) (k : List Nat) : Int := if (T.find k).isSome = true then if T.depth k < T.r.cf then 13 else 0 else 12
theorem relay_Confirmed (rb : Nat) (x : Lt) (T : Tr) (I : TrInv T) (d : Nat) (k : List Nat) (hk : HK k) (w : World) (h : RelAt w rb x T d) :
    Calls Tryz.prog 30 #[.pointer (some ⟨rb, 0, none⟩), hv k] w fun e w' => e = .returned (.int .i64 (T.conf k)) ∧ Chg [] w w' := by
  have ok := I.ok
  have hq : (T.node k).isSome = (T.find k).isSome := by
    cases hf : T.find k with
    | none => rw [Tr.node_none hf]; rfl
    | some i => obtain ⟨p, hp, hn, _⟩ := Tr.node_some hf; rw [hn]; rfl
  exact relay_ConfirmedG rb x.b _ (T.node k).isSome (T.depth k) T.r.cf (T.conf k) (by rw [hq]; rfl) _ (bytesV k) (by simp [bytesV_len, hk.1]) (r_cell (Rl.len ok.r) _ _).1 rfl w h.blk
    (fun w' kc => tree_Height x T ok k hk w' (h.t.chg ok kc))
    (fun w' kc => relay_Depth rb x T I d k hk w' ⟨h.blk.chg kc (by simp), h.t.chg ok kc⟩)
end Go.Proofs.YtmkgbinmilcojaaGreat

/- AdjustBounds: the walk. Printed by boundsgen.py. -/
import Derived.Test.YtbagkfeodjkdmaaStays
import Derived.Test.YtbagkfeodjkdmaaTargetE
import Derived.Deep.DeepCutAuto
namespace Go.Proofs.Ytbagkfeodjkdmaa
open Go.RowKit Go.Maps
attribute [local go_sem] Oper.semAt_some
attribute [-go_sem] loadCellsFrom

theorem wrap_u32 {x : Int} (h0 : 0 ≤ x) (h : x < 4294967296) : IntKind.u32.wrap x = x := by simp [IntKind.wrap, IntKind.bits, IntKind.signed]; omega
theorem wrap_u64 {x : Int} (h0 : 0 ≤ x) (h : x < 18446744073709551616) : IntKind.u64.wrap x = x := by simp [IntKind.wrap, IntKind.bits, IntKind.signed]; omega
set_option maxRecDepth 100000 in
set_option maxHeartbeats 40000000 in
/-- the walk, in words: t the target of bits, u that of the answer, m the greatest, f four times t, p a quarter, g what stands behind the quarter's bits. -/
theorem adjustBounds_walk (cs : Array Value) (s bits N G : Nat) (E k c1 c2 c3 c4 e1 e5 e6 : Int) (ov : Bool) (t0 t1 t2 t3 m0 m1 m2 m3 u0 u1 u2 u3 f0 f1 f2 f3 b0 b1 b2 b3 q0 q1 q2 q3 r0 r1 r2 r3 p0 p1 p2 p3 g0 g1 g2 g3 : Int) (w : World)
    (hcs : cs.size = 72) (c1s : cs[1]? = some (.int .u32 s)) (hs : s < 4294967296)
    (hn : ∀ w, Calls Try.prog 48 #[.agg cs, .int .u32 bits, .int .i64 k] w fun e w' => e = .returned (.tuple #[.int .u32 N, .int .i64 E]) ∧ Chg [] w w')
    (hz : E ≠ 0 → N = 0)
    (hdt : ∀ w, Calls Try.prog 52 #[.int .u32 bits] w fun e w' => e = .returned (.tuple #[V4 t0 t1 t2 t3, .int .i64 e1]) ∧ Chg [] w w')
    (hdu : E = 0 → ∀ w, Calls Try.prog 52 #[.int .u32 N] w fun e w' => e = .returned (.tuple #[V4 u0 u1 u2 u3, .int .i64 0]) ∧ Chg [] w w')
    (htop : ∀ w, Calls Try.prog 54 #[.agg cs] w fun e w' => e = .returned (V4 m0 m1 m2 m3) ∧ Chg [] w w')
    (hcmp1 : ∀ w, Calls Try.prog 53 #[V4 u0 u1 u2 u3, V4 m0 m1 m2 m3] w fun e w' => e = .returned (.int .i64 c1) ∧ Chg [] w w') (hc1 : E = 0 → decide (0 < c1) = false)
    (hmul : ∀ w, Calls Try.prog 55 #[V4 t0 t1 t2 t3, .int .u64 4] w fun e w' => e = .returned (.tuple #[V4 f0 f1 f2 f3, .bool ov]) ∧ Chg [] w w')
    (hcmp2 : ∀ w, Calls Try.prog 53 #[V4 u0 u1 u2 u3, V4 f0 f1 f2 f3] w fun e w' => e = .returned (.int .i64 c2) ∧ Chg [] w w') (hc2 : E = 0 → ov = false → c2 ≤ 0)
    (hof : ∀ w, Calls Try.prog 57 #[.int .u64 4] w fun e w' => e = .returned (V4 b0 b1 b2 b3) ∧ Chg [] w w')
    (hdiv : ∀ w, Calls Try.prog 56 #[V4 t0 t1 t2 t3, V4 b0 b1 b2 b3] w fun e w' => e = .returned (.tuple #[V4 q0 q1 q2 q3, V4 r0 r1 r2 r3, .int .i64 0]) ∧ Chg [] w w')
    (hp4 : s < 4 → p0 = 0 ∧ p1 = 0 ∧ p2 = 0 ∧ p3 = 0)
    (hsc : ¬ s < 4 → E = 0 → ∀ w, Calls Try.prog 58 #[V4 t0 t1 t2 t3, .int .u64 (s / 4 : Nat), .int .u64 s, V4 m0 m1 m2 m3] w fun e w' => e = .returned (.tuple #[V4 p0 p1 p2 p3, .int .i64 e6]) ∧ Chg [] w w')
    (hcmp3 : ∀ w, Calls Try.prog 53 #[V4 m0 m1 m2 m3, V4 p0 p1 p2 p3] w fun e w' => e = .returned (.int .i64 c3) ∧ Chg [] w w') (hc3 : E = 0 → decide (c3 < 0) = false)
    (henc : ∀ w, Calls Try.prog 59 #[V4 p0 p1 p2 p3] w fun e w' => e = .returned (.int .u32 G) ∧ Chg [] w w')
    (hdg : ∀ w, Calls Try.prog 52 #[.int .u32 G] w fun e w' => e = .returned (.tuple #[V4 g0 g1 g2 g3, .int .i64 e5]) ∧ Chg [] w w')
    (hcmp4 : ∀ w, Calls Try.prog 53 #[V4 u0 u1 u2 u3, V4 g0 g1 g2 g3] w fun e w' => e = .returned (.int .i64 c4) ∧ Chg [] w w') (hc4 : E = 0 → e5 = 0 → 0 ≤ c4) :
    Calls Try.prog 11 #[.agg cs, .int .u32 bits, .int .i64 k] w fun e w' => e = .returned (.bool true) ∧ Chg [] w w' := by
  unfold V4 at *
  go_enter Try.func11, Try.ntmps11
  go_wp2_with fail
  refine (law11_lives _).mono ?_
  rintro e w1 ⟨rfl, hc1'⟩
  have bR := (Blk.new w cs 83).chg hc1' (by simp)
  have hcc := ((Chg.refl [] w).alloc (.cells cs 83)).trans hc1' (by simp)
  have hld := load_rules bR hcs
  go_wp2_with fail
  refine (hn _).mono ?_
  rintro e w2 ⟨rfl, hc⟩
  replace hcc := hcc.trans hc (by simp)
  replace bR := bR.chg hc (by simp)
  clear hld hc
  dsimp only
  by_cases hE : E ≠ 0
  · obtain rfl := hz hE
    have hE2 : (E == 0) = false := by simpa using hE
    go_wp2
    go_ret
    exact ⟨rfl, hcc⟩
  obtain rfl : E = 0 := by omega
  replace hdu := hdu rfl
  have hc1p := hc1 rfl
  have hc2p := hc2 rfl
  have hc3p := hc3 rfl
  have hc4p := hc4 rfl
  replace hsc := fun h => hsc h rfl
  clear hc1 hc2 hc3 hc4 hn
  go_wp2_with fail
  refine (hdt _).mono ?_
  rintro e w3 ⟨rfl, hc⟩
  replace hcc := hcc.trans hc (by simp)
  replace bR := bR.chg hc (by simp)
  clear hc
  dsimp only
  go_upto_region 7 with fail
  have bT := Blk.new w3 #[.int .u64 t0, .int .u64 t1, .int .u64 t2, .int .u64 t3] 93
  have hcT := hcc.alloc (.cells #[.int .u64 t0, .int .u64 t1, .int .u64 t2, .int .u64 t3] 93)
  have hgeT := hcc.size
  obtain ⟨gT, hggT⟩ : ∃ g, g = w3.heap.size := ⟨_, rfl⟩
  have hneRT := bR.lt
  replace bR := bR.alloc (.cells #[.int .u64 t0, .int .u64 t1, .int .u64 t2, .int .u64 t3] 93)
  rw [← hggT] at bT hgeT hneRT ⊢
  generalize w3.alloc (.cells #[.int .u64 t0, .int .u64 t1, .int .u64 t2, .int .u64 t3] 93) = w4 at hcT bT bR ⊢
  clear hggT
  go_wp2_with fail
  refine (hdu _).mono ?_
  rintro e w5 ⟨rfl, hc⟩
  have hcc2 := hcT.trans hc (by simp)
  replace bR := bR.chg hc (by simp)
  replace bT := bT.chg hc (by simp)
  clear hc
  dsimp only
  go_upto_region 8 with fail
  have bU := Blk.new w5 #[.int .u64 u0, .int .u64 u1, .int .u64 u2, .int .u64 u3] 93
  have hcU := hcc2.alloc (.cells #[.int .u64 u0, .int .u64 u1, .int .u64 u2, .int .u64 u3] 93)
  have hgeU := hcc2.size
  obtain ⟨gU, hggU⟩ : ∃ g, g = w5.heap.size := ⟨_, rfl⟩
  have hneRU := bR.lt
  replace bR := bR.alloc (.cells #[.int .u64 u0, .int .u64 u1, .int .u64 u2, .int .u64 u3] 93)
  have hneTU := bT.lt
  replace bT := bT.alloc (.cells #[.int .u64 u0, .int .u64 u1, .int .u64 u2, .int .u64 u3] 93)
  rw [← hggU] at bU hgeU hneRU hneTU ⊢
  generalize w5.alloc (.cells #[.int .u64 u0, .int .u64 u1, .int .u64 u2, .int .u64 u3] 93) = W0 at hcU bU bR bT ⊢
  clear hggU
  refine wp_region_held_drew (S := fun w' => Chg [] W0 w') (by kernel_rfl) ((Chg.refl _ _).drew) (fun hH21 => ?_)
  refine wpAnyH_take (i := 0) (v := .int .i64 0) rfl (by kernel_rfl) (by kernel_rfl) (by kernel_rfl) (fun _ _ _ h => h) (.inl ⟨by rfl, fun w' hw' => ?_⟩) hH21 ?_
  · go_simp
  try simp only [Act.put, List.setIfInBounds_toArray, List.set_cons_zero, List.set_cons_succ, List.getElem_toArray, List.getElem_cons_zero]
  refine wpAnyH_take (i := 1) (v := .bool false) rfl (by kernel_rfl) (by kernel_rfl) (by kernel_rfl) (fun _ _ _ h => h) (.inl ⟨by rfl, fun w' hw' => ?_⟩) hH21 ?_
  · go_simp
  try simp only [Act.put, List.setIfInBounds_toArray, List.set_cons_zero, List.set_cons_succ, List.getElem_toArray, List.getElem_cons_succ, List.getElem_cons_zero]
  refine wpAnyH_take (i := 2) (v := .bool false) rfl (by kernel_rfl) (by kernel_rfl) (by kernel_rfl) (fun _ _ _ h => h) (.inl ⟨by rfl, fun w' hw' => ?_⟩) hH21 ?_
  · go_simp
  try simp only [Act.put, List.setIfInBounds_toArray, List.set_cons_zero, List.set_cons_succ, List.getElem_toArray, List.getElem_cons_succ, List.getElem_cons_zero]
  refine wpAnyH_take (i := 3) (v := .agg #[.int .u64 u0, .int .u64 u1, .int .u64 u2, .int .u64 u3]) rfl (by kernel_rfl) (by kernel_rfl) (by kernel_rfl) (fun _ _ _ h => h) (.inl ⟨by rfl, fun w' hw' => ?_⟩) hH21 ?_
  · (have hl := load_w (bU.chg hw' (by simp)); go_simp)
  try simp only [Act.put, List.setIfInBounds_toArray, List.set_cons_zero, List.set_cons_succ, List.getElem_toArray, List.getElem_cons_succ, List.getElem_cons_zero]
  refine wpAnyH_take (i := 4) (v := .agg cs) rfl (by kernel_rfl) (by kernel_rfl) (by kernel_rfl) (fun _ _ _ h => h) (.inl ⟨by rfl, fun w' hw' => ?_⟩) hH21 ?_
  · (have hl := load_rules (bR.chg hw' (by simp)) hcs; go_simp)
  try simp only [Act.put, List.setIfInBounds_toArray, List.set_cons_zero, List.set_cons_succ, List.getElem_toArray, List.getElem_cons_succ, List.getElem_cons_zero]
  refine wpAnyH_ready (rs := [5]) (by kernel_rfl) (by simp) (AllReadyH.cons rfl (fun K hK => ?_) AllReadyH.nil)
  try rw [if_pos (by rfl)]
  go_simp
  go_at_call 54
  refine (htop _).mono ?_
  rintro e22 w22 ⟨rfl, hc22⟩
  dsimp only
  have hH22 := hH21.trans hc22 (by simp)
  refine hK.out _ _ hH22 (fun _ => ?_)
  try simp only [Act.put, List.setIfInBounds_toArray, List.set_cons_zero, List.set_cons_succ, List.getElem_toArray, List.getElem_cons_succ, List.getElem_cons_zero]
  refine wpAnyH_ready (rs := [6]) (by kernel_rfl) (by simp) (AllReadyH.cons rfl (fun K hK => ?_) AllReadyH.nil)
  try rw [if_pos (by rfl)]
  go_simp
  go_at_call 53
  refine (hcmp1 _).mono ?_
  rintro e23 w23 ⟨rfl, hc23⟩
  dsimp only
  have hH23 := hH22.trans hc23 (by simp)
  refine hK.out _ _ hH23 (fun _ => ?_)
  try simp only [Act.put, List.setIfInBounds_toArray, List.set_cons_zero, List.set_cons_succ, List.getElem_toArray, List.getElem_cons_succ, List.getElem_cons_zero]
  refine wpAnyH_take (i := 7) (v := .bool false) rfl (by kernel_rfl) (by kernel_rfl) (by kernel_rfl) (fun _ _ _ h => h) (.inl ⟨by rfl, fun w' hw' => ?_⟩) hH23 ?_
  · (go_simp; try simp [hc1p])
  try simp only [Act.put, List.setIfInBounds_toArray, List.set_cons_zero, List.set_cons_succ, List.getElem_toArray, List.getElem_cons_succ, List.getElem_cons_zero]
  refine wpAnyH_take (i := 8) (v := .bool false) rfl (by kernel_rfl) (by kernel_rfl) (by kernel_rfl) (fun _ _ _ h => h) (.inl ⟨by rfl, fun w' hw' => ?_⟩) hH23 ?_
  · go_simp
  try simp only [Act.put, List.setIfInBounds_toArray, List.set_cons_zero, List.set_cons_succ, List.getElem_toArray, List.getElem_cons_succ, List.getElem_cons_zero]
  refine wpAnyH_done (by kernel_rfl) ?_ _
  have hc8 := hcU.trans hH23 (by simp)
  replace bR := bR.chg hH23 (by simp)
  replace bT := bT.chg hH23 (by simp)
  replace bU := bU.chg hH23 (by simp)
  have hlT := load_w bT
  go_wp2_with fail
  refine (hmul _).mono ?_
  rintro e wm ⟨rfl, hc⟩
  have hc9 := hc8.trans hc (by simp)
  replace bR := bR.chg hc (by simp)
  replace bT := bT.chg hc (by simp)
  replace bU := bU.chg hc (by simp)
  clear hc hlT
  dsimp only
  go_upto_region 11 with fail
  have bF := Blk.new wm #[.int .u64 f0, .int .u64 f1, .int .u64 f2, .int .u64 f3] 93
  have hcF := hc9.alloc (.cells #[.int .u64 f0, .int .u64 f1, .int .u64 f2, .int .u64 f3] 93)
  have hgeF := hc9.size
  obtain ⟨gF, hggF⟩ : ∃ g, g = wm.heap.size := ⟨_, rfl⟩
  have hneRF := bR.lt
  replace bR := bR.alloc (.cells #[.int .u64 f0, .int .u64 f1, .int .u64 f2, .int .u64 f3] 93)
  have hneTF := bT.lt
  replace bT := bT.alloc (.cells #[.int .u64 f0, .int .u64 f1, .int .u64 f2, .int .u64 f3] 93)
  have hneUF := bU.lt
  replace bU := bU.alloc (.cells #[.int .u64 f0, .int .u64 f1, .int .u64 f2, .int .u64 f3] 93)
  rw [← hggF] at bF hgeF hneRF hneTF hneUF ⊢
  generalize wm.alloc (.cells #[.int .u64 f0, .int .u64 f1, .int .u64 f2, .int .u64 f3] 93) = wf at hcF bF bR bT bU ⊢
  clear hggF
  cases ov
  case false =>
    have hl1 := load_w bU
    have hl2 := load_w bF
    have hc2p2 : decide (0 < c2) = false := by simpa using hc2p rfl
    go_wp2_with fail
    refine (hcmp2 _).mono ?_
    rintro e wk ⟨rfl, hc⟩
    have hcK := hcF.trans hc (by simp)
    replace bR := bR.chg hc (by simp)
    replace bT := bT.chg hc (by simp)
    replace bU := bU.chg hc (by simp)
    clear hc hl1 hl2
    dsimp only
    go_upto_region 13 with fail
    go_cut [15] (fun s15 wx => ∃ gA : Nat, s15 = .pointer (some ⟨gA, 0, none⟩) ∧ Blk wx gA #[.int .u64 q0, .int .u64 q1, .int .u64 q2, .int .u64 q3] 93 ∧ wk.heap.size ≤ gA ∧ Chg [] wk wx)
    case first =>
      refine wp_region_held_drew (S := fun w' => Chg [] wk w') (by kernel_rfl) ((Chg.refl _ _).drew) (fun hH => ?_)
      refine wpAnyH_take (i := 0) (v := .agg #[.int .u64 t0, .int .u64 t1, .int .u64 t2, .int .u64 t3]) rfl (by kernel_rfl) (by kernel_rfl) (by kernel_rfl) (fun _ _ _ h => h) (.inl ⟨by rfl, fun w' hw' => ?_⟩) hH ?_
      · (have hl := load_w (bT.chg hw' (by simp)); go_simp)
      try simp only [Act.put, List.setIfInBounds_toArray, List.set_cons_zero, List.set_cons_succ, List.getElem_toArray, List.getElem_cons_zero]
      refine wpAnyH_ready (rs := [1, 7, 8]) (by kernel_rfl) (by simp) (AllReadyH.cons rfl (fun K hK => ?_) (AllReadyH.cons rfl (fun K hK => ?_) (AllReadyH.cons rfl (fun K hK => ?_) AllReadyH.nil)))
      · try rw [if_pos (by rfl)]
        go_simp
        go_at_call 57
        refine (hof _).mono ?_
        rintro e1 w1 ⟨rfl, hc1⟩
        dsimp only
        have hH1 := hH.trans hc1 (by simp)
        refine hK.out _ _ hH1 (fun _ => ?_)
        try simp only [Act.put, List.setIfInBounds_toArray, List.set_cons_zero, List.set_cons_succ, List.getElem_toArray, List.getElem_cons_succ, List.getElem_cons_zero]
        refine wpAnyH_ready (rs := [2, 7, 8]) (by kernel_rfl) (by simp) (AllReadyH.cons rfl (fun K hK => ?_) (AllReadyH.cons rfl (fun K hK => ?_) (AllReadyH.cons rfl (fun K hK => ?_) AllReadyH.nil)))
        · try rw [if_pos (by rfl)]
          go_simp
          go_at_call 56
          refine (hdiv _).mono ?_
          rintro e2 w2 ⟨rfl, hc2⟩
          dsimp only
          have hH2 := hH1.trans hc2 (by simp)
          refine hK.out _ _ hH2 (fun _ => ?_)
          try simp only [Act.put, List.setIfInBounds_toArray, List.set_cons_zero, List.set_cons_succ, List.getElem_toArray, List.getElem_cons_succ, List.getElem_cons_zero]
          refine wpAnyH_take (i := 3) (v := .tuple #[.agg #[.int .u64 q0, .int .u64 q1, .int .u64 q2, .int .u64 q3], .agg #[.int .u64 r0, .int .u64 r1, .int .u64 r2, .int .u64 r3], .int .i64 0]) rfl (by kernel_rfl) (by kernel_rfl) (by kernel_rfl) (fun _ _ _ h => h) (.inl ⟨by rfl, fun w' hw' => ?_⟩) hH2 ?_
          · go_simp
          try simp only [Act.put, List.setIfInBounds_toArray, List.set_cons_zero, List.set_cons_succ, List.getElem_toArray, List.getElem_cons_succ, List.getElem_cons_zero]
          refine wpAnyH_take (i := 4) (v := .agg #[.int .u64 q0, .int .u64 q1, .int .u64 q2, .int .u64 q3]) rfl (by kernel_rfl) (by kernel_rfl) (by kernel_rfl) (fun _ _ _ h => h) (.inl ⟨by rfl, fun w' hw' => ?_⟩) hH2 ?_
          · go_simp
          try simp only [Act.put, List.setIfInBounds_toArray, List.set_cons_zero, List.set_cons_succ, List.getElem_toArray, List.getElem_cons_succ, List.getElem_cons_zero]
          refine wpAnyH_take (i := 5) (v := .agg #[.int .u64 r0, .int .u64 r1, .int .u64 r2, .int .u64 r3]) rfl (by kernel_rfl) (by kernel_rfl) (by kernel_rfl) (fun _ _ _ h => h) (.inl ⟨by rfl, fun w' hw' => ?_⟩) hH2 ?_
          · go_simp
          try simp only [Act.put, List.setIfInBounds_toArray, List.set_cons_zero, List.set_cons_succ, List.getElem_toArray, List.getElem_cons_succ, List.getElem_cons_zero]
          refine wpAnyH_take (i := 6) (v := .int .i64 0) rfl (by kernel_rfl) (by kernel_rfl) (by kernel_rfl) (fun _ _ _ h => h) (.inl ⟨by rfl, fun w' hw' => ?_⟩) hH2 ?_
          · go_simp
          try simp only [Act.put, List.setIfInBounds_toArray, List.set_cons_zero, List.set_cons_succ, List.getElem_toArray, List.getElem_cons_succ, List.getElem_cons_zero]
          refine wpAnyH_ready (rs := [7, 8]) (by kernel_rfl) (by simp) (AllReadyH.cons rfl (fun K hK => ?_) (AllReadyH.cons rfl (fun K hK => ?_) AllReadyH.nil))
          · rw [if_pos (by rfl)]
            refine op_alloc 93 15 (by kernel_rfl) (by kernel_rfl) zeroW ?_
            have kbA3 := Blk.new (w2) (#[.int .u64 0, .int .u64 0, .int .u64 0, .int .u64 0] : Array Value) 93
            have hH3 := hH2.alloc (.cells (#[.int .u64 0, .int .u64 0, .int .u64 0, .int .u64 0] : Array Value) 93)
            have hgeA3 := hH2.size
            obtain ⟨gA3, hgg3⟩ : ∃ g, g = (w2).heap.size := ⟨_, rfl⟩
            rw [← hgg3] at kbA3 hgeA3 ⊢
            generalize (w2).alloc (.cells (#[.int .u64 0, .int .u64 0, .int .u64 0, .int .u64 0] : Array Value) 93) = w3 at hH3 kbA3 ⊢
            clear hgg3
            refine hK.out _ _ hH3 (fun _ => ?_)
            try simp only [Act.put, List.setIfInBounds_toArray, List.set_cons_zero, List.set_cons_succ]
            refine wpAnyH_ready (rs := [8]) (by kernel_rfl) (by simp) (AllReadyH.cons rfl (fun K hK => ?_) AllReadyH.nil)
            rw [if_pos (by rfl)]
            refine op_alloc 93 16 (by kernel_rfl) (by kernel_rfl) zeroW ?_
            have kbB4 := Blk.new (w3) (#[.int .u64 0, .int .u64 0, .int .u64 0, .int .u64 0] : Array Value) 93
            have hH4 := hH3.alloc (.cells (#[.int .u64 0, .int .u64 0, .int .u64 0, .int .u64 0] : Array Value) 93)
            have hgeB4 := hH3.size
            have kbA4 := kbA3.alloc (.cells (#[.int .u64 0, .int .u64 0, .int .u64 0, .int .u64 0] : Array Value) 93)
            have hneAB4 := kbA3.lt
            obtain ⟨gB4, hgg4⟩ : ∃ g, g = (w3).heap.size := ⟨_, rfl⟩
            rw [← hgg4] at kbB4 hgeB4 hneAB4 ⊢
            generalize (w3).alloc (.cells (#[.int .u64 0, .int .u64 0, .int .u64 0, .int .u64 0] : Array Value) 93) = w4 at hH4 kbA4 kbB4 ⊢
            clear hgg4
            refine hK.out _ _ hH4 (fun _ => ?_)
            try simp only [Act.put, List.setIfInBounds_toArray, List.set_cons_zero, List.set_cons_succ]
            refine wpAnyH_ready (rs := [9]) (by kernel_rfl) (by simp) (AllReadyH.cons rfl (fun K hK => ?_) AllReadyH.nil)
            rw [if_pos (by rfl)]
            refine op_store 93 (.tmp 15) (.tmp 69) (by kernel_rfl) (by kernel_rfl) rfl (cs := [.int .u64 q0, .int .u64 q1, .int .u64 q2, .int .u64 q3]) rfl kbA4 (by simp) infoW (by simp [Value.oneCell']) ?_
            intro w5 kbA5 hc5
            have hH5 : Chg [] wk w5 := hH4.trans hc5 (by simp; omega)
            have kbB5 := kbB4.chg hc5 (by simp; omega)
            refine hK.out _ _ hH5 (fun _ => ?_)
            try simp only [Act.put, List.setIfInBounds_toArray, List.set_cons_zero, List.set_cons_succ, List.getElem_toArray, List.getElem_cons_succ, List.getElem_cons_zero]
            refine wpAnyH_ready (rs := [10]) (by kernel_rfl) (by simp) (AllReadyH.cons rfl (fun K hK => ?_) AllReadyH.nil)
            rw [if_pos (by rfl)]
            refine op_store 93 (.tmp 16) (.tmp 70) (by kernel_rfl) (by kernel_rfl) rfl (cs := [.int .u64 r0, .int .u64 r1, .int .u64 r2, .int .u64 r3]) rfl kbB5 (by simp) infoW (by simp [Value.oneCell']) ?_
            intro w6 kbB6 hc6
            have hH6 : Chg [] wk w6 := hH5.trans hc6 (by simp; omega)
            have kbA6 := kbA5.chg hc6 (by simp; omega)
            refine hK.out _ _ hH6 (fun _ => ?_)
            try simp only [Act.put, List.setIfInBounds_toArray, List.set_cons_zero, List.set_cons_succ, List.getElem_toArray, List.getElem_cons_succ, List.getElem_cons_zero]
            refine wpAnyH_ready (rs := [11]) (by kernel_rfl) (by simp) (AllReadyH.cons rfl (fun K hK => ?_) AllReadyH.nil)
            go_simp
            refine hK.out _ _ hH6 (fun _ => ?_)
            try simp only [Act.put, List.setIfInBounds_toArray, List.set_cons_zero, List.set_cons_succ, List.getElem_toArray, List.getElem_cons_succ, List.getElem_cons_zero]
            refine wpAnyH_done (by kernel_rfl) ?_ _
            go_wp2_with fail
            go_meet
            exact ⟨gA3, rfl, kbA6, by omega, hH6⟩
          · rw [if_pos (by rfl)]
            refine op_alloc 93 16 (by kernel_rfl) (by kernel_rfl) zeroW ?_
            have kbB8 := Blk.new (w2) (#[.int .u64 0, .int .u64 0, .int .u64 0, .int .u64 0] : Array Value) 93
            have hH8 := hH2.alloc (.cells (#[.int .u64 0, .int .u64 0, .int .u64 0, .int .u64 0] : Array Value) 93)
            have hgeB8 := hH2.size
            obtain ⟨gB8, hgg8⟩ : ∃ g, g = (w2).heap.size := ⟨_, rfl⟩
            rw [← hgg8] at kbB8 hgeB8 ⊢
            generalize (w2).alloc (.cells (#[.int .u64 0, .int .u64 0, .int .u64 0, .int .u64 0] : Array Value) 93) = w8 at hH8 kbB8 ⊢
            clear hgg8
            refine hK.out _ _ hH8 (fun _ => ?_)
            try simp only [Act.put, List.setIfInBounds_toArray, List.set_cons_zero, List.set_cons_succ]
            refine wpAnyH_ready (rs := [7]) (by kernel_rfl) (by simp) (AllReadyH.cons rfl (fun K hK => ?_) AllReadyH.nil)
            rw [if_pos (by rfl)]
            refine op_alloc 93 15 (by kernel_rfl) (by kernel_rfl) zeroW ?_
            have kbA9 := Blk.new (w8) (#[.int .u64 0, .int .u64 0, .int .u64 0, .int .u64 0] : Array Value) 93
            have hH9 := hH8.alloc (.cells (#[.int .u64 0, .int .u64 0, .int .u64 0, .int .u64 0] : Array Value) 93)
            have hgeA9 := hH8.size
            have kbB9 := kbB8.alloc (.cells (#[.int .u64 0, .int .u64 0, .int .u64 0, .int .u64 0] : Array Value) 93)
            have hneBA9 := kbB8.lt
            obtain ⟨gA9, hgg9⟩ : ∃ g, g = (w8).heap.size := ⟨_, rfl⟩
            rw [← hgg9] at kbA9 hgeA9 hneBA9 ⊢
            generalize (w8).alloc (.cells (#[.int .u64 0, .int .u64 0, .int .u64 0, .int .u64 0] : Array Value) 93) = w9 at hH9 kbB9 kbA9 ⊢
            clear hgg9
            refine hK.out _ _ hH9 (fun _ => ?_)
            try simp only [Act.put, List.setIfInBounds_toArray, List.set_cons_zero, List.set_cons_succ]
            refine wpAnyH_ready (rs := [9]) (by kernel_rfl) (by simp) (AllReadyH.cons rfl (fun K hK => ?_) AllReadyH.nil)
            rw [if_pos (by rfl)]
            refine op_store 93 (.tmp 15) (.tmp 69) (by kernel_rfl) (by kernel_rfl) rfl (cs := [.int .u64 q0, .int .u64 q1, .int .u64 q2, .int .u64 q3]) rfl kbA9 (by simp) infoW (by simp [Value.oneCell']) ?_
            intro w10 kbA10 hc10
            have hH10 : Chg [] wk w10 := hH9.trans hc10 (by simp; omega)
            have kbB10 := kbB9.chg hc10 (by simp; omega)
            refine hK.out _ _ hH10 (fun _ => ?_)
            try simp only [Act.put, List.setIfInBounds_toArray, List.set_cons_zero, List.set_cons_succ, List.getElem_toArray, List.getElem_cons_succ, List.getElem_cons_zero]
            refine wpAnyH_ready (rs := [10]) (by kernel_rfl) (by simp) (AllReadyH.cons rfl (fun K hK => ?_) AllReadyH.nil)
            rw [if_pos (by rfl)]
            refine op_store 93 (.tmp 16) (.tmp 70) (by kernel_rfl) (by kernel_rfl) rfl (cs := [.int .u64 r0, .int .u64 r1, .int .u64 r2, .int .u64 r3]) rfl kbB10 (by simp) infoW (by simp [Value.oneCell']) ?_
            intro w11 kbB11 hc11
            have hH11 : Chg [] wk w11 := hH10.trans hc11 (by simp; omega)
            have kbA11 := kbA10.chg hc11 (by simp; omega)
            refine hK.out _ _ hH11 (fun _ => ?_)
            try simp only [Act.put, List.setIfInBounds_toArray, List.set_cons_zero, List.set_cons_succ, List.getElem_toArray, List.getElem_cons_succ, List.getElem_cons_zero]
            refine wpAnyH_ready (rs := [11]) (by kernel_rfl) (by simp) (AllReadyH.cons rfl (fun K hK => ?_) AllReadyH.nil)
            go_simp
            refine hK.out _ _ hH11 (fun _ => ?_)
            try simp only [Act.put, List.setIfInBounds_toArray, List.set_cons_zero, List.set_cons_succ, List.getElem_toArray, List.getElem_cons_succ, List.getElem_cons_zero]
            refine wpAnyH_done (by kernel_rfl) ?_ _
            go_wp2_with fail
            go_meet
            exact ⟨gA9, rfl, kbA11, by omega, hH11⟩
        · rw [if_pos (by rfl)]
          refine op_alloc 93 15 (by kernel_rfl) (by kernel_rfl) zeroW ?_
          have kbA13 := Blk.new (w1) (#[.int .u64 0, .int .u64 0, .int .u64 0, .int .u64 0] : Array Value) 93
          have hH13 := hH1.alloc (.cells (#[.int .u64 0, .int .u64 0, .int .u64 0, .int .u64 0] : Array Value) 93)
          have hgeA13 := hH1.size
          obtain ⟨gA13, hgg13⟩ : ∃ g, g = (w1).heap.size := ⟨_, rfl⟩
          rw [← hgg13] at kbA13 hgeA13 ⊢
          generalize (w1).alloc (.cells (#[.int .u64 0, .int .u64 0, .int .u64 0, .int .u64 0] : Array Value) 93) = w13 at hH13 kbA13 ⊢
          clear hgg13
          refine hK.out _ _ hH13 (fun _ => ?_)
          try simp only [Act.put, List.setIfInBounds_toArray, List.set_cons_zero, List.set_cons_succ]
          refine wpAnyH_ready (rs := [2, 8]) (by kernel_rfl) (by simp) (AllReadyH.cons rfl (fun K hK => ?_) (AllReadyH.cons rfl (fun K hK => ?_) AllReadyH.nil))
          · try rw [if_pos (by rfl)]
            go_simp
            go_at_call 56
            refine (hdiv _).mono ?_
            rintro e14 w14 ⟨rfl, hc14⟩
            dsimp only
            have hH14 := hH13.trans hc14 (by simp)
            have kbA14 := kbA13.chg hc14 (by simp)
            refine hK.out _ _ hH14 (fun _ => ?_)
            try simp only [Act.put, List.setIfInBounds_toArray, List.set_cons_zero, List.set_cons_succ, List.getElem_toArray, List.getElem_cons_succ, List.getElem_cons_zero]
            refine wpAnyH_take (i := 3) (v := .tuple #[.agg #[.int .u64 q0, .int .u64 q1, .int .u64 q2, .int .u64 q3], .agg #[.int .u64 r0, .int .u64 r1, .int .u64 r2, .int .u64 r3], .int .i64 0]) rfl (by kernel_rfl) (by kernel_rfl) (by kernel_rfl) (fun _ _ _ h => h) (.inl ⟨by rfl, fun w' hw' => ?_⟩) hH14 ?_
            · go_simp
            try simp only [Act.put, List.setIfInBounds_toArray, List.set_cons_zero, List.set_cons_succ, List.getElem_toArray, List.getElem_cons_succ, List.getElem_cons_zero]
            refine wpAnyH_take (i := 4) (v := .agg #[.int .u64 q0, .int .u64 q1, .int .u64 q2, .int .u64 q3]) rfl (by kernel_rfl) (by kernel_rfl) (by kernel_rfl) (fun _ _ _ h => h) (.inl ⟨by rfl, fun w' hw' => ?_⟩) hH14 ?_
            · go_simp
            try simp only [Act.put, List.setIfInBounds_toArray, List.set_cons_zero, List.set_cons_succ, List.getElem_toArray, List.getElem_cons_succ, List.getElem_cons_zero]
            refine wpAnyH_take (i := 5) (v := .agg #[.int .u64 r0, .int .u64 r1, .int .u64 r2, .int .u64 r3]) rfl (by kernel_rfl) (by kernel_rfl) (by kernel_rfl) (fun _ _ _ h => h) (.inl ⟨by rfl, fun w' hw' => ?_⟩) hH14 ?_
            · go_simp
            try simp only [Act.put, List.setIfInBounds_toArray, List.set_cons_zero, List.set_cons_succ, List.getElem_toArray, List.getElem_cons_succ, List.getElem_cons_zero]
            refine wpAnyH_take (i := 6) (v := .int .i64 0) rfl (by kernel_rfl) (by kernel_rfl) (by kernel_rfl) (fun _ _ _ h => h) (.inl ⟨by rfl, fun w' hw' => ?_⟩) hH14 ?_
            · go_simp
            try simp only [Act.put, List.setIfInBounds_toArray, List.set_cons_zero, List.set_cons_succ, List.getElem_toArray, List.getElem_cons_succ, List.getElem_cons_zero]
            refine wpAnyH_ready (rs := [8]) (by kernel_rfl) (by simp) (AllReadyH.cons rfl (fun K hK => ?_) AllReadyH.nil)
            rw [if_pos (by rfl)]
            refine op_alloc 93 16 (by kernel_rfl) (by kernel_rfl) zeroW ?_
            have kbB15 := Blk.new (w14) (#[.int .u64 0, .int .u64 0, .int .u64 0, .int .u64 0] : Array Value) 93
            have hH15 := hH14.alloc (.cells (#[.int .u64 0, .int .u64 0, .int .u64 0, .int .u64 0] : Array Value) 93)
            have hgeB15 := hH14.size
            have kbA15 := kbA14.alloc (.cells (#[.int .u64 0, .int .u64 0, .int .u64 0, .int .u64 0] : Array Value) 93)
            have hneAB15 := kbA14.lt
            obtain ⟨gB15, hgg15⟩ : ∃ g, g = (w14).heap.size := ⟨_, rfl⟩
            rw [← hgg15] at kbB15 hgeB15 hneAB15 ⊢
            generalize (w14).alloc (.cells (#[.int .u64 0, .int .u64 0, .int .u64 0, .int .u64 0] : Array Value) 93) = w15 at hH15 kbA15 kbB15 ⊢
            clear hgg15
            refine hK.out _ _ hH15 (fun _ => ?_)
            try simp only [Act.put, List.setIfInBounds_toArray, List.set_cons_zero, List.set_cons_succ]
            refine wpAnyH_ready (rs := [9]) (by kernel_rfl) (by simp) (AllReadyH.cons rfl (fun K hK => ?_) AllReadyH.nil)
            rw [if_pos (by rfl)]
            refine op_store 93 (.tmp 15) (.tmp 69) (by kernel_rfl) (by kernel_rfl) rfl (cs := [.int .u64 q0, .int .u64 q1, .int .u64 q2, .int .u64 q3]) rfl kbA15 (by simp) infoW (by simp [Value.oneCell']) ?_
            intro w16 kbA16 hc16
            have hH16 : Chg [] wk w16 := hH15.trans hc16 (by simp; omega)
            have kbB16 := kbB15.chg hc16 (by simp; omega)
            refine hK.out _ _ hH16 (fun _ => ?_)
            try simp only [Act.put, List.setIfInBounds_toArray, List.set_cons_zero, List.set_cons_succ, List.getElem_toArray, List.getElem_cons_succ, List.getElem_cons_zero]
            refine wpAnyH_ready (rs := [10]) (by kernel_rfl) (by simp) (AllReadyH.cons rfl (fun K hK => ?_) AllReadyH.nil)
            rw [if_pos (by rfl)]
            refine op_store 93 (.tmp 16) (.tmp 70) (by kernel_rfl) (by kernel_rfl) rfl (cs := [.int .u64 r0, .int .u64 r1, .int .u64 r2, .int .u64 r3]) rfl kbB16 (by simp) infoW (by simp [Value.oneCell']) ?_
            intro w17 kbB17 hc17
            have hH17 : Chg [] wk w17 := hH16.trans hc17 (by simp; omega)
            have kbA17 := kbA16.chg hc17 (by simp; omega)
            refine hK.out _ _ hH17 (fun _ => ?_)
            try simp only [Act.put, List.setIfInBounds_toArray, List.set_cons_zero, List.set_cons_succ, List.getElem_toArray, List.getElem_cons_succ, List.getElem_cons_zero]
            refine wpAnyH_ready (rs := [11]) (by kernel_rfl) (by simp) (AllReadyH.cons rfl (fun K hK => ?_) AllReadyH.nil)
            go_simp
            refine hK.out _ _ hH17 (fun _ => ?_)
            try simp only [Act.put, List.setIfInBounds_toArray, List.set_cons_zero, List.set_cons_succ, List.getElem_toArray, List.getElem_cons_succ, List.getElem_cons_zero]
            refine wpAnyH_done (by kernel_rfl) ?_ _
            go_wp2_with fail
            go_meet
            exact ⟨gA13, rfl, kbA17, by omega, hH17⟩
          · rw [if_pos (by rfl)]
            refine op_alloc 93 16 (by kernel_rfl) (by kernel_rfl) zeroW ?_
            have kbB19 := Blk.new (w13) (#[.int .u64 0, .int .u64 0, .int .u64 0, .int .u64 0] : Array Value) 93
            have hH19 := hH13.alloc (.cells (#[.int .u64 0, .int .u64 0, .int .u64 0, .int .u64 0] : Array Value) 93)
            have hgeB19 := hH13.size
            have kbA19 := kbA13.alloc (.cells (#[.int .u64 0, .int .u64 0, .int .u64 0, .int .u64 0] : Array Value) 93)
            have hneAB19 := kbA13.lt
            obtain ⟨gB19, hgg19⟩ : ∃ g, g = (w13).heap.size := ⟨_, rfl⟩
            rw [← hgg19] at kbB19 hgeB19 hneAB19 ⊢
            generalize (w13).alloc (.cells (#[.int .u64 0, .int .u64 0, .int .u64 0, .int .u64 0] : Array Value) 93) = w19 at hH19 kbA19 kbB19 ⊢
            clear hgg19
            refine hK.out _ _ hH19 (fun _ => ?_)
            try simp only [Act.put, List.setIfInBounds_toArray, List.set_cons_zero, List.set_cons_succ]
            refine wpAnyH_ready (rs := [2]) (by kernel_rfl) (by simp) (AllReadyH.cons rfl (fun K hK => ?_) AllReadyH.nil)
            try rw [if_pos (by rfl)]
            go_simp
            go_at_call 56
            refine (hdiv _).mono ?_
            rintro e20 w20 ⟨rfl, hc20⟩
            dsimp only
            have hH20 := hH19.trans hc20 (by simp)
            have kbA20 := kbA19.chg hc20 (by simp)
            have kbB20 := kbB19.chg hc20 (by simp)
            refine hK.out _ _ hH20 (fun _ => ?_)
            try simp only [Act.put, List.setIfInBounds_toArray, List.set_cons_zero, List.set_cons_succ, List.getElem_toArray, List.getElem_cons_succ, List.getElem_cons_zero]
            refine wpAnyH_take (i := 3) (v := .tuple #[.agg #[.int .u64 q0, .int .u64 q1, .int .u64 q2, .int .u64 q3], .agg #[.int .u64 r0, .int .u64 r1, .int .u64 r2, .int .u64 r3], .int .i64 0]) rfl (by kernel_rfl) (by kernel_rfl) (by kernel_rfl) (fun _ _ _ h => h) (.inl ⟨by rfl, fun w' hw' => ?_⟩) hH20 ?_
            · go_simp
            try simp only [Act.put, List.setIfInBounds_toArray, List.set_cons_zero, List.set_cons_succ, List.getElem_toArray, List.getElem_cons_succ, List.getElem_cons_zero]
            refine wpAnyH_take (i := 4) (v := .agg #[.int .u64 q0, .int .u64 q1, .int .u64 q2, .int .u64 q3]) rfl (by kernel_rfl) (by kernel_rfl) (by kernel_rfl) (fun _ _ _ h => h) (.inl ⟨by rfl, fun w' hw' => ?_⟩) hH20 ?_
            · go_simp
            try simp only [Act.put, List.setIfInBounds_toArray, List.set_cons_zero, List.set_cons_succ, List.getElem_toArray, List.getElem_cons_succ, List.getElem_cons_zero]
            refine wpAnyH_take (i := 5) (v := .agg #[.int .u64 r0, .int .u64 r1, .int .u64 r2, .int .u64 r3]) rfl (by kernel_rfl) (by kernel_rfl) (by kernel_rfl) (fun _ _ _ h => h) (.inl ⟨by rfl, fun w' hw' => ?_⟩) hH20 ?_
            · go_simp
            try simp only [Act.put, List.setIfInBounds_toArray, List.set_cons_zero, List.set_cons_succ, List.getElem_toArray, List.getElem_cons_succ, List.getElem_cons_zero]
            refine wpAnyH_take (i := 6) (v := .int .i64 0) rfl (by kernel_rfl) (by kernel_rfl) (by kernel_rfl) (fun _ _ _ h => h) (.inl ⟨by rfl, fun w' hw' => ?_⟩) hH20 ?_
            · go_simp
            try simp only [Act.put, List.setIfInBounds_toArray, List.set_cons_zero, List.set_cons_succ, List.getElem_toArray, List.getElem_cons_succ, List.getElem_cons_zero]
            refine wpAnyH_ready (rs := [9]) (by kernel_rfl) (by simp) (AllReadyH.cons rfl (fun K hK => ?_) AllReadyH.nil)
            rw [if_pos (by rfl)]
            refine op_store 93 (.tmp 15) (.tmp 69) (by kernel_rfl) (by kernel_rfl) rfl (cs := [.int .u64 q0, .int .u64 q1, .int .u64 q2, .int .u64 q3]) rfl kbA20 (by simp) infoW (by simp [Value.oneCell']) ?_
            intro w21 kbA21 hc21
            have hH21 : Chg [] wk w21 := hH20.trans hc21 (by simp; omega)
            have kbB21 := kbB20.chg hc21 (by simp; omega)
            refine hK.out _ _ hH21 (fun _ => ?_)
            try simp only [Act.put, List.setIfInBounds_toArray, List.set_cons_zero, List.set_cons_succ, List.getElem_toArray, List.getElem_cons_succ, List.getElem_cons_zero]
            refine wpAnyH_ready (rs := [10]) (by kernel_rfl) (by simp) (AllReadyH.cons rfl (fun K hK => ?_) AllReadyH.nil)
            rw [if_pos (by rfl)]
            refine op_store 93 (.tmp 16) (.tmp 70) (by kernel_rfl) (by kernel_rfl) rfl (cs := [.int .u64 r0, .int .u64 r1, .int .u64 r2, .int .u64 r3]) rfl kbB21 (by simp) infoW (by simp [Value.oneCell']) ?_
            intro w22 kbB22 hc22
            have hH22 : Chg [] wk w22 := hH21.trans hc22 (by simp; omega)
            have kbA22 := kbA21.chg hc22 (by simp; omega)
            refine hK.out _ _ hH22 (fun _ => ?_)
            try simp only [Act.put, List.setIfInBounds_toArray, List.set_cons_zero, List.set_cons_succ, List.getElem_toArray, List.getElem_cons_succ, List.getElem_cons_zero]
            refine wpAnyH_ready (rs := [11]) (by kernel_rfl) (by simp) (AllReadyH.cons rfl (fun K hK => ?_) AllReadyH.nil)
            go_simp
            refine hK.out _ _ hH22 (fun _ => ?_)
            try simp only [Act.put, List.setIfInBounds_toArray, List.set_cons_zero, List.set_cons_succ, List.getElem_toArray, List.getElem_cons_succ, List.getElem_cons_zero]
            refine wpAnyH_done (by kernel_rfl) ?_ _
            go_wp2_with fail
            go_meet
            exact ⟨gA13, rfl, kbA22, by omega, hH22⟩
        · rw [if_pos (by rfl)]
          refine op_alloc 93 16 (by kernel_rfl) (by kernel_rfl) zeroW ?_
          have kbB24 := Blk.new (w1) (#[.int .u64 0, .int .u64 0, .int .u64 0, .int .u64 0] : Array Value) 93
          have hH24 := hH1.alloc (.cells (#[.int .u64 0, .int .u64 0, .int .u64 0, .int .u64 0] : Array Value) 93)
          have hgeB24 := hH1.size
          obtain ⟨gB24, hgg24⟩ : ∃ g, g = (w1).heap.size := ⟨_, rfl⟩
          rw [← hgg24] at kbB24 hgeB24 ⊢
          generalize (w1).alloc (.cells (#[.int .u64 0, .int .u64 0, .int .u64 0, .int .u64 0] : Array Value) 93) = w24 at hH24 kbB24 ⊢
          clear hgg24
          refine hK.out _ _ hH24 (fun _ => ?_)
          try simp only [Act.put, List.setIfInBounds_toArray, List.set_cons_zero, List.set_cons_succ]
          refine wpAnyH_ready (rs := [2, 7]) (by kernel_rfl) (by simp) (AllReadyH.cons rfl (fun K hK => ?_) (AllReadyH.cons rfl (fun K hK => ?_) AllReadyH.nil))
          · try rw [if_pos (by rfl)]
            go_simp
            go_at_call 56
            refine (hdiv _).mono ?_
            rintro e25 w25 ⟨rfl, hc25⟩
            dsimp only
            have hH25 := hH24.trans hc25 (by simp)
            have kbB25 := kbB24.chg hc25 (by simp)
            refine hK.out _ _ hH25 (fun _ => ?_)
            try simp only [Act.put, List.setIfInBounds_toArray, List.set_cons_zero, List.set_cons_succ, List.getElem_toArray, List.getElem_cons_succ, List.getElem_cons_zero]
            refine wpAnyH_take (i := 3) (v := .tuple #[.agg #[.int .u64 q0, .int .u64 q1, .int .u64 q2, .int .u64 q3], .agg #[.int .u64 r0, .int .u64 r1, .int .u64 r2, .int .u64 r3], .int .i64 0]) rfl (by kernel_rfl) (by kernel_rfl) (by kernel_rfl) (fun _ _ _ h => h) (.inl ⟨by rfl, fun w' hw' => ?_⟩) hH25 ?_
            · go_simp
            try simp only [Act.put, List.setIfInBounds_toArray, List.set_cons_zero, List.set_cons_succ, List.getElem_toArray, List.getElem_cons_succ, List.getElem_cons_zero]
            refine wpAnyH_take (i := 4) (v := .agg #[.int .u64 q0, .int .u64 q1, .int .u64 q2, .int .u64 q3]) rfl (by kernel_rfl) (by kernel_rfl) (by kernel_rfl) (fun _ _ _ h => h) (.inl ⟨by rfl, fun w' hw' => ?_⟩) hH25 ?_
            · go_simp
            try simp only [Act.put, List.setIfInBounds_toArray, List.set_cons_zero, List.set_cons_succ, List.getElem_toArray, List.getElem_cons_succ, List.getElem_cons_zero]
            refine wpAnyH_take (i := 5) (v := .agg #[.int .u64 r0, .int .u64 r1, .int .u64 r2, .int .u64 r3]) rfl (by kernel_rfl) (by kernel_rfl) (by kernel_rfl) (fun _ _ _ h => h) (.inl ⟨by rfl, fun w' hw' => ?_⟩) hH25 ?_
            · go_simp
            try simp only [Act.put, List.setIfInBounds_toArray, List.set_cons_zero, List.set_cons_succ, List.getElem_toArray, List.getElem_cons_succ, List.getElem_cons_zero]
            refine wpAnyH_take (i := 6) (v := .int .i64 0) rfl (by kernel_rfl) (by kernel_rfl) (by kernel_rfl) (fun _ _ _ h => h) (.inl ⟨by rfl, fun w' hw' => ?_⟩) hH25 ?_
            · go_simp
            try simp only [Act.put, List.setIfInBounds_toArray, List.set_cons_zero, List.set_cons_succ, List.getElem_toArray, List.getElem_cons_succ, List.getElem_cons_zero]
            refine wpAnyH_ready (rs := [7]) (by kernel_rfl) (by simp) (AllReadyH.cons rfl (fun K hK => ?_) AllReadyH.nil)
            rw [if_pos (by rfl)]
            refine op_alloc 93 15 (by kernel_rfl) (by kernel_rfl) zeroW ?_
            have kbA26 := Blk.new (w25) (#[.int .u64 0, .int .u64 0, .int .u64 0, .int .u64 0] : Array Value) 93
            have hH26 := hH25.alloc (.cells (#[.int .u64 0, .int .u64 0, .int .u64 0, .int .u64 0] : Array Value) 93)
            have hgeA26 := hH25.size
            have kbB26 := kbB25.alloc (.cells (#[.int .u64 0, .int .u64 0, .int .u64 0, .int .u64 0] : Array Value) 93)
            have hneBA26 := kbB25.lt
            obtain ⟨gA26, hgg26⟩ : ∃ g, g = (w25).heap.size := ⟨_, rfl⟩
            rw [← hgg26] at kbA26 hgeA26 hneBA26 ⊢
            generalize (w25).alloc (.cells (#[.int .u64 0, .int .u64 0, .int .u64 0, .int .u64 0] : Array Value) 93) = w26 at hH26 kbB26 kbA26 ⊢
            clear hgg26
            refine hK.out _ _ hH26 (fun _ => ?_)
            try simp only [Act.put, List.setIfInBounds_toArray, List.set_cons_zero, List.set_cons_succ]
            refine wpAnyH_ready (rs := [9]) (by kernel_rfl) (by simp) (AllReadyH.cons rfl (fun K hK => ?_) AllReadyH.nil)
            rw [if_pos (by rfl)]
            refine op_store 93 (.tmp 15) (.tmp 69) (by kernel_rfl) (by kernel_rfl) rfl (cs := [.int .u64 q0, .int .u64 q1, .int .u64 q2, .int .u64 q3]) rfl kbA26 (by simp) infoW (by simp [Value.oneCell']) ?_
            intro w27 kbA27 hc27
            have hH27 : Chg [] wk w27 := hH26.trans hc27 (by simp; omega)
            have kbB27 := kbB26.chg hc27 (by simp; omega)
            refine hK.out _ _ hH27 (fun _ => ?_)
            try simp only [Act.put, List.setIfInBounds_toArray, List.set_cons_zero, List.set_cons_succ, List.getElem_toArray, List.getElem_cons_succ, List.getElem_cons_zero]
            refine wpAnyH_ready (rs := [10]) (by kernel_rfl) (by simp) (AllReadyH.cons rfl (fun K hK => ?_) AllReadyH.nil)
            rw [if_pos (by rfl)]
            refine op_store 93 (.tmp 16) (.tmp 70) (by kernel_rfl) (by kernel_rfl) rfl (cs := [.int .u64 r0, .int .u64 r1, .int .u64 r2, .int .u64 r3]) rfl kbB27 (by simp) infoW (by simp [Value.oneCell']) ?_
            intro w28 kbB28 hc28
            have hH28 : Chg [] wk w28 := hH27.trans hc28 (by simp; omega)
            have kbA28 := kbA27.chg hc28 (by simp; omega)
            refine hK.out _ _ hH28 (fun _ => ?_)
            try simp only [Act.put, List.setIfInBounds_toArray, List.set_cons_zero, List.set_cons_succ, List.getElem_toArray, List.getElem_cons_succ, List.getElem_cons_zero]
            refine wpAnyH_ready (rs := [11]) (by kernel_rfl) (by simp) (AllReadyH.cons rfl (fun K hK => ?_) AllReadyH.nil)
            go_simp
            refine hK.out _ _ hH28 (fun _ => ?_)
            try simp only [Act.put, List.setIfInBounds_toArray, List.set_cons_zero, List.set_cons_succ, List.getElem_toArray, List.getElem_cons_succ, List.getElem_cons_zero]
            refine wpAnyH_done (by kernel_rfl) ?_ _
            go_wp2_with fail
            go_meet
            exact ⟨gA26, rfl, kbA28, by omega, hH28⟩
          · rw [if_pos (by rfl)]
            refine op_alloc 93 15 (by kernel_rfl) (by kernel_rfl) zeroW ?_
            have kbA30 := Blk.new (w24) (#[.int .u64 0, .int .u64 0, .int .u64 0, .int .u64 0] : Array Value) 93
            have hH30 := hH24.alloc (.cells (#[.int .u64 0, .int .u64 0, .int .u64 0, .int .u64 0] : Array Value) 93)
            have hgeA30 := hH24.size
            have kbB30 := kbB24.alloc (.cells (#[.int .u64 0, .int .u64 0, .int .u64 0, .int .u64 0] : Array Value) 93)
            have hneBA30 := kbB24.lt
            obtain ⟨gA30, hgg30⟩ : ∃ g, g = (w24).heap.size := ⟨_, rfl⟩
            rw [← hgg30] at kbA30 hgeA30 hneBA30 ⊢
            generalize (w24).alloc (.cells (#[.int .u64 0, .int .u64 0, .int .u64 0, .int .u64 0] : Array Value) 93) = w30 at hH30 kbB30 kbA30 ⊢
            clear hgg30
            refine hK.out _ _ hH30 (fun _ => ?_)
            try simp only [Act.put, List.setIfInBounds_toArray, List.set_cons_zero, List.set_cons_succ]
            refine wpAnyH_ready (rs := [2]) (by kernel_rfl) (by simp) (AllReadyH.cons rfl (fun K hK => ?_) AllReadyH.nil)
            try rw [if_pos (by rfl)]
            go_simp
            go_at_call 56
            refine (hdiv _).mono ?_
            rintro e31 w31 ⟨rfl, hc31⟩
            dsimp only
            have hH31 := hH30.trans hc31 (by simp)
            have kbB31 := kbB30.chg hc31 (by simp)
            have kbA31 := kbA30.chg hc31 (by simp)
            refine hK.out _ _ hH31 (fun _ => ?_)
            try simp only [Act.put, List.setIfInBounds_toArray, List.set_cons_zero, List.set_cons_succ, List.getElem_toArray, List.getElem_cons_succ, List.getElem_cons_zero]
            refine wpAnyH_take (i := 3) (v := .tuple #[.agg #[.int .u64 q0, .int .u64 q1, .int .u64 q2, .int .u64 q3], .agg #[.int .u64 r0, .int .u64 r1, .int .u64 r2, .int .u64 r3], .int .i64 0]) rfl (by kernel_rfl) (by kernel_rfl) (by kernel_rfl) (fun _ _ _ h => h) (.inl ⟨by rfl, fun w' hw' => ?_⟩) hH31 ?_
            · go_simp
            try simp only [Act.put, List.setIfInBounds_toArray, List.set_cons_zero, List.set_cons_succ, List.getElem_toArray, List.getElem_cons_succ, List.getElem_cons_zero]
            refine wpAnyH_take (i := 4) (v := .agg #[.int .u64 q0, .int .u64 q1, .int .u64 q2, .int .u64 q3]) rfl (by kernel_rfl) (by kernel_rfl) (by kernel_rfl) (fun _ _ _ h => h) (.inl ⟨by rfl, fun w' hw' => ?_⟩) hH31 ?_
            · go_simp
            try simp only [Act.put, List.setIfInBounds_toArray, List.set_cons_zero, List.set_cons_succ, List.getElem_toArray, List.getElem_cons_succ, List.getElem_cons_zero]
            refine wpAnyH_take (i := 5) (v := .agg #[.int .u64 r0, .int .u64 r1, .int .u64 r2, .int .u64 r3]) rfl (by kernel_rfl) (by kernel_rfl) (by kernel_rfl) (fun _ _ _ h => h) (.inl ⟨by rfl, fun w' hw' => ?_⟩) hH31 ?_
            · go_simp
            try simp only [Act.put, List.setIfInBounds_toArray, List.set_cons_zero, List.set_cons_succ, List.getElem_toArray, List.getElem_cons_succ, List.getElem_cons_zero]
            refine wpAnyH_take (i := 6) (v := .int .i64 0) rfl (by kernel_rfl) (by kernel_rfl) (by kernel_rfl) (fun _ _ _ h => h) (.inl ⟨by rfl, fun w' hw' => ?_⟩) hH31 ?_
            · go_simp
            try simp only [Act.put, List.setIfInBounds_toArray, List.set_cons_zero, List.set_cons_succ, List.getElem_toArray, List.getElem_cons_succ, List.getElem_cons_zero]
            refine wpAnyH_ready (rs := [9]) (by kernel_rfl) (by simp) (AllReadyH.cons rfl (fun K hK => ?_) AllReadyH.nil)
            rw [if_pos (by rfl)]
            refine op_store 93 (.tmp 15) (.tmp 69) (by kernel_rfl) (by kernel_rfl) rfl (cs := [.int .u64 q0, .int .u64 q1, .int .u64 q2, .int .u64 q3]) rfl kbA31 (by simp) infoW (by simp [Value.oneCell']) ?_
            intro w32 kbA32 hc32
            have hH32 : Chg [] wk w32 := hH31.trans hc32 (by simp; omega)
            have kbB32 := kbB31.chg hc32 (by simp; omega)
            refine hK.out _ _ hH32 (fun _ => ?_)
            try simp only [Act.put, List.setIfInBounds_toArray, List.set_cons_zero, List.set_cons_succ, List.getElem_toArray, List.getElem_cons_succ, List.getElem_cons_zero]
            refine wpAnyH_ready (rs := [10]) (by kernel_rfl) (by simp) (AllReadyH.cons rfl (fun K hK => ?_) AllReadyH.nil)
            rw [if_pos (by rfl)]
            refine op_store 93 (.tmp 16) (.tmp 70) (by kernel_rfl) (by kernel_rfl) rfl (cs := [.int .u64 r0, .int .u64 r1, .int .u64 r2, .int .u64 r3]) rfl kbB32 (by simp) infoW (by simp [Value.oneCell']) ?_
            intro w33 kbB33 hc33
            have hH33 : Chg [] wk w33 := hH32.trans hc33 (by simp; omega)
            have kbA33 := kbA32.chg hc33 (by simp; omega)
            refine hK.out _ _ hH33 (fun _ => ?_)
            try simp only [Act.put, List.setIfInBounds_toArray, List.set_cons_zero, List.set_cons_succ, List.getElem_toArray, List.getElem_cons_succ, List.getElem_cons_zero]
            refine wpAnyH_ready (rs := [11]) (by kernel_rfl) (by simp) (AllReadyH.cons rfl (fun K hK => ?_) AllReadyH.nil)
            go_simp
            refine hK.out _ _ hH33 (fun _ => ?_)
            try simp only [Act.put, List.setIfInBounds_toArray, List.set_cons_zero, List.set_cons_succ, List.getElem_toArray, List.getElem_cons_succ, List.getElem_cons_zero]
            refine wpAnyH_done (by kernel_rfl) ?_ _
            go_wp2_with fail
            go_meet
            exact ⟨gA30, rfl, kbA33, by omega, hH33⟩
      · rw [if_pos (by rfl)]
        refine op_alloc 93 15 (by kernel_rfl) (by kernel_rfl) zeroW ?_
        have kbA35 := Blk.new ((wk).drew) (#[.int .u64 0, .int .u64 0, .int .u64 0, .int .u64 0] : Array Value) 93
        have hH35 := hH.alloc (.cells (#[.int .u64 0, .int .u64 0, .int .u64 0, .int .u64 0] : Array Value) 93)
        have hgeA35 := hH.size
        obtain ⟨gA35, hgg35⟩ : ∃ g, g = ((wk).drew).heap.size := ⟨_, rfl⟩
        rw [← hgg35] at kbA35 hgeA35 ⊢
        generalize ((wk).drew).alloc (.cells (#[.int .u64 0, .int .u64 0, .int .u64 0, .int .u64 0] : Array Value) 93) = w35 at hH35 kbA35 ⊢
        clear hgg35
        refine hK.out _ _ hH35 (fun _ => ?_)
        try simp only [Act.put, List.setIfInBounds_toArray, List.set_cons_zero, List.set_cons_succ]
        refine wpAnyH_ready (rs := [1, 8]) (by kernel_rfl) (by simp) (AllReadyH.cons rfl (fun K hK => ?_) (AllReadyH.cons rfl (fun K hK => ?_) AllReadyH.nil))
        · try rw [if_pos (by rfl)]
          go_simp
          go_at_call 57
          refine (hof _).mono ?_
          rintro e36 w36 ⟨rfl, hc36⟩
          dsimp only
          have hH36 := hH35.trans hc36 (by simp)
          have kbA36 := kbA35.chg hc36 (by simp)
          refine hK.out _ _ hH36 (fun _ => ?_)
          try simp only [Act.put, List.setIfInBounds_toArray, List.set_cons_zero, List.set_cons_succ, List.getElem_toArray, List.getElem_cons_succ, List.getElem_cons_zero]
          refine wpAnyH_ready (rs := [2, 8]) (by kernel_rfl) (by simp) (AllReadyH.cons rfl (fun K hK => ?_) (AllReadyH.cons rfl (fun K hK => ?_) AllReadyH.nil))
          · try rw [if_pos (by rfl)]
            go_simp
            go_at_call 56
            refine (hdiv _).mono ?_
            rintro e37 w37 ⟨rfl, hc37⟩
            dsimp only
            have hH37 := hH36.trans hc37 (by simp)
            have kbA37 := kbA36.chg hc37 (by simp)
            refine hK.out _ _ hH37 (fun _ => ?_)
            try simp only [Act.put, List.setIfInBounds_toArray, List.set_cons_zero, List.set_cons_succ, List.getElem_toArray, List.getElem_cons_succ, List.getElem_cons_zero]
            refine wpAnyH_take (i := 3) (v := .tuple #[.agg #[.int .u64 q0, .int .u64 q1, .int .u64 q2, .int .u64 q3], .agg #[.int .u64 r0, .int .u64 r1, .int .u64 r2, .int .u64 r3], .int .i64 0]) rfl (by kernel_rfl) (by kernel_rfl) (by kernel_rfl) (fun _ _ _ h => h) (.inl ⟨by rfl, fun w' hw' => ?_⟩) hH37 ?_
            · go_simp
            try simp only [Act.put, List.setIfInBounds_toArray, List.set_cons_zero, List.set_cons_succ, List.getElem_toArray, List.getElem_cons_succ, List.getElem_cons_zero]
            refine wpAnyH_take (i := 4) (v := .agg #[.int .u64 q0, .int .u64 q1, .int .u64 q2, .int .u64 q3]) rfl (by kernel_rfl) (by kernel_rfl) (by kernel_rfl) (fun _ _ _ h => h) (.inl ⟨by rfl, fun w' hw' => ?_⟩) hH37 ?_
            · go_simp
            try simp only [Act.put, List.setIfInBounds_toArray, List.set_cons_zero, List.set_cons_succ, List.getElem_toArray, List.getElem_cons_succ, List.getElem_cons_zero]
            refine wpAnyH_take (i := 5) (v := .agg #[.int .u64 r0, .int .u64 r1, .int .u64 r2, .int .u64 r3]) rfl (by kernel_rfl) (by kernel_rfl) (by kernel_rfl) (fun _ _ _ h => h) (.inl ⟨by rfl, fun w' hw' => ?_⟩) hH37 ?_
            · go_simp
            try simp only [Act.put, List.setIfInBounds_toArray, List.set_cons_zero, List.set_cons_succ, List.getElem_toArray, List.getElem_cons_succ, List.getElem_cons_zero]
            refine wpAnyH_take (i := 6) (v := .int .i64 0) rfl (by kernel_rfl) (by kernel_rfl) (by kernel_rfl) (fun _ _ _ h => h) (.inl ⟨by rfl, fun w' hw' => ?_⟩) hH37 ?_
            · go_simp
            try simp only [Act.put, List.setIfInBounds_toArray, List.set_cons_zero, List.set_cons_succ, List.getElem_toArray, List.getElem_cons_succ, List.getElem_cons_zero]
            refine wpAnyH_ready (rs := [8]) (by kernel_rfl) (by simp) (AllReadyH.cons rfl (fun K hK => ?_) AllReadyH.nil)
            rw [if_pos (by rfl)]
            refine op_alloc 93 16 (by kernel_rfl) (by kernel_rfl) zeroW ?_
            have kbB38 := Blk.new (w37) (#[.int .u64 0, .int .u64 0, .int .u64 0, .int .u64 0] : Array Value) 93
            have hH38 := hH37.alloc (.cells (#[.int .u64 0, .int .u64 0, .int .u64 0, .int .u64 0] : Array Value) 93)
            have hgeB38 := hH37.size
            have kbA38 := kbA37.alloc (.cells (#[.int .u64 0, .int .u64 0, .int .u64 0, .int .u64 0] : Array Value) 93)
            have hneAB38 := kbA37.lt
            obtain ⟨gB38, hgg38⟩ : ∃ g, g = (w37).heap.size := ⟨_, rfl⟩
            rw [← hgg38] at kbB38 hgeB38 hneAB38 ⊢
            generalize (w37).alloc (.cells (#[.int .u64 0, .int .u64 0, .int .u64 0, .int .u64 0] : Array Value) 93) = w38 at hH38 kbA38 kbB38 ⊢
            clear hgg38
            refine hK.out _ _ hH38 (fun _ => ?_)
            try simp only [Act.put, List.setIfInBounds_toArray, List.set_cons_zero, List.set_cons_succ]
            refine wpAnyH_ready (rs := [9]) (by kernel_rfl) (by simp) (AllReadyH.cons rfl (fun K hK => ?_) AllReadyH.nil)
            rw [if_pos (by rfl)]
            refine op_store 93 (.tmp 15) (.tmp 69) (by kernel_rfl) (by kernel_rfl) rfl (cs := [.int .u64 q0, .int .u64 q1, .int .u64 q2, .int .u64 q3]) rfl kbA38 (by simp) infoW (by simp [Value.oneCell']) ?_
            intro w39 kbA39 hc39
            have hH39 : Chg [] wk w39 := hH38.trans hc39 (by simp; omega)
            have kbB39 := kbB38.chg hc39 (by simp; omega)
            refine hK.out _ _ hH39 (fun _ => ?_)
            try simp only [Act.put, List.setIfInBounds_toArray, List.set_cons_zero, List.set_cons_succ, List.getElem_toArray, List.getElem_cons_succ, List.getElem_cons_zero]
            refine wpAnyH_ready (rs := [10]) (by kernel_rfl) (by simp) (AllReadyH.cons rfl (fun K hK => ?_) AllReadyH.nil)
            rw [if_pos (by rfl)]
            refine op_store 93 (.tmp 16) (.tmp 70) (by kernel_rfl) (by kernel_rfl) rfl (cs := [.int .u64 r0, .int .u64 r1, .int .u64 r2, .int .u64 r3]) rfl kbB39 (by simp) infoW (by simp [Value.oneCell']) ?_
            intro w40 kbB40 hc40
            have hH40 : Chg [] wk w40 := hH39.trans hc40 (by simp; omega)
            have kbA40 := kbA39.chg hc40 (by simp; omega)
            refine hK.out _ _ hH40 (fun _ => ?_)
            try simp only [Act.put, List.setIfInBounds_toArray, List.set_cons_zero, List.set_cons_succ, List.getElem_toArray, List.getElem_cons_succ, List.getElem_cons_zero]
            refine wpAnyH_ready (rs := [11]) (by kernel_rfl) (by simp) (AllReadyH.cons rfl (fun K hK => ?_) AllReadyH.nil)
            go_simp
            refine hK.out _ _ hH40 (fun _ => ?_)
            try simp only [Act.put, List.setIfInBounds_toArray, List.set_cons_zero, List.set_cons_succ, List.getElem_toArray, List.getElem_cons_succ, List.getElem_cons_zero]
            refine wpAnyH_done (by kernel_rfl) ?_ _
            go_wp2_with fail
            go_meet
            exact ⟨gA35, rfl, kbA40, by omega, hH40⟩
          · rw [if_pos (by rfl)]
            refine op_alloc 93 16 (by kernel_rfl) (by kernel_rfl) zeroW ?_
            have kbB42 := Blk.new (w36) (#[.int .u64 0, .int .u64 0, .int .u64 0, .int .u64 0] : Array Value) 93
            have hH42 := hH36.alloc (.cells (#[.int .u64 0, .int .u64 0, .int .u64 0, .int .u64 0] : Array Value) 93)
            have hgeB42 := hH36.size
            have kbA42 := kbA36.alloc (.cells (#[.int .u64 0, .int .u64 0, .int .u64 0, .int .u64 0] : Array Value) 93)
            have hneAB42 := kbA36.lt
            obtain ⟨gB42, hgg42⟩ : ∃ g, g = (w36).heap.size := ⟨_, rfl⟩
            rw [← hgg42] at kbB42 hgeB42 hneAB42 ⊢
            generalize (w36).alloc (.cells (#[.int .u64 0, .int .u64 0, .int .u64 0, .int .u64 0] : Array Value) 93) = w42 at hH42 kbA42 kbB42 ⊢
            clear hgg42
            refine hK.out _ _ hH42 (fun _ => ?_)
            try simp only [Act.put, List.setIfInBounds_toArray, List.set_cons_zero, List.set_cons_succ]
            refine wpAnyH_ready (rs := [2]) (by kernel_rfl) (by simp) (AllReadyH.cons rfl (fun K hK => ?_) AllReadyH.nil)
            try rw [if_pos (by rfl)]
            go_simp
            go_at_call 56
            refine (hdiv _).mono ?_
            rintro e43 w43 ⟨rfl, hc43⟩
            dsimp only
            have hH43 := hH42.trans hc43 (by simp)
            have kbA43 := kbA42.chg hc43 (by simp)
            have kbB43 := kbB42.chg hc43 (by simp)
            refine hK.out _ _ hH43 (fun _ => ?_)
            try simp only [Act.put, List.setIfInBounds_toArray, List.set_cons_zero, List.set_cons_succ, List.getElem_toArray, List.getElem_cons_succ, List.getElem_cons_zero]
            refine wpAnyH_take (i := 3) (v := .tuple #[.agg #[.int .u64 q0, .int .u64 q1, .int .u64 q2, .int .u64 q3], .agg #[.int .u64 r0, .int .u64 r1, .int .u64 r2, .int .u64 r3], .int .i64 0]) rfl (by kernel_rfl) (by kernel_rfl) (by kernel_rfl) (fun _ _ _ h => h) (.inl ⟨by rfl, fun w' hw' => ?_⟩) hH43 ?_
            · go_simp
            try simp only [Act.put, List.setIfInBounds_toArray, List.set_cons_zero, List.set_cons_succ, List.getElem_toArray, List.getElem_cons_succ, List.getElem_cons_zero]
            refine wpAnyH_take (i := 4) (v := .agg #[.int .u64 q0, .int .u64 q1, .int .u64 q2, .int .u64 q3]) rfl (by kernel_rfl) (by kernel_rfl) (by kernel_rfl) (fun _ _ _ h => h) (.inl ⟨by rfl, fun w' hw' => ?_⟩) hH43 ?_
            · go_simp
            try simp only [Act.put, List.setIfInBounds_toArray, List.set_cons_zero, List.set_cons_succ, List.getElem_toArray, List.getElem_cons_succ, List.getElem_cons_zero]
            refine wpAnyH_take (i := 5) (v := .agg #[.int .u64 r0, .int .u64 r1, .int .u64 r2, .int .u64 r3]) rfl (by kernel_rfl) (by kernel_rfl) (by kernel_rfl) (fun _ _ _ h => h) (.inl ⟨by rfl, fun w' hw' => ?_⟩) hH43 ?_
            · go_simp
            try simp only [Act.put, List.setIfInBounds_toArray, List.set_cons_zero, List.set_cons_succ, List.getElem_toArray, List.getElem_cons_succ, List.getElem_cons_zero]
            refine wpAnyH_take (i := 6) (v := .int .i64 0) rfl (by kernel_rfl) (by kernel_rfl) (by kernel_rfl) (fun _ _ _ h => h) (.inl ⟨by rfl, fun w' hw' => ?_⟩) hH43 ?_
            · go_simp
            try simp only [Act.put, List.setIfInBounds_toArray, List.set_cons_zero, List.set_cons_succ, List.getElem_toArray, List.getElem_cons_succ, List.getElem_cons_zero]
            refine wpAnyH_ready (rs := [9]) (by kernel_rfl) (by simp) (AllReadyH.cons rfl (fun K hK => ?_) AllReadyH.nil)
            rw [if_pos (by rfl)]
            refine op_store 93 (.tmp 15) (.tmp 69) (by kernel_rfl) (by kernel_rfl) rfl (cs := [.int .u64 q0, .int .u64 q1, .int .u64 q2, .int .u64 q3]) rfl kbA43 (by simp) infoW (by simp [Value.oneCell']) ?_
            intro w44 kbA44 hc44
            have hH44 : Chg [] wk w44 := hH43.trans hc44 (by simp; omega)
            have kbB44 := kbB43.chg hc44 (by simp; omega)
            refine hK.out _ _ hH44 (fun _ => ?_)
            try simp only [Act.put, List.setIfInBounds_toArray, List.set_cons_zero, List.set_cons_succ, List.getElem_toArray, List.getElem_cons_succ, List.getElem_cons_zero]
            refine wpAnyH_ready (rs := [10]) (by kernel_rfl) (by simp) (AllReadyH.cons rfl (fun K hK => ?_) AllReadyH.nil)
            rw [if_pos (by rfl)]
            refine op_store 93 (.tmp 16) (.tmp 70) (by kernel_rfl) (by kernel_rfl) rfl (cs := [.int .u64 r0, .int .u64 r1, .int .u64 r2, .int .u64 r3]) rfl kbB44 (by simp) infoW (by simp [Value.oneCell']) ?_
            intro w45 kbB45 hc45
            have hH45 : Chg [] wk w45 := hH44.trans hc45 (by simp; omega)
            have kbA45 := kbA44.chg hc45 (by simp; omega)
            refine hK.out _ _ hH45 (fun _ => ?_)
            try simp only [Act.put, List.setIfInBounds_toArray, List.set_cons_zero, List.set_cons_succ, List.getElem_toArray, List.getElem_cons_succ, List.getElem_cons_zero]
            refine wpAnyH_ready (rs := [11]) (by kernel_rfl) (by simp) (AllReadyH.cons rfl (fun K hK => ?_) AllReadyH.nil)
            go_simp
            refine hK.out _ _ hH45 (fun _ => ?_)
            try simp only [Act.put, List.setIfInBounds_toArray, List.set_cons_zero, List.set_cons_succ, List.getElem_toArray, List.getElem_cons_succ, List.getElem_cons_zero]
            refine wpAnyH_done (by kernel_rfl) ?_ _
            go_wp2_with fail
            go_meet
            exact ⟨gA35, rfl, kbA45, by omega, hH45⟩
        · rw [if_pos (by rfl)]
          refine op_alloc 93 16 (by kernel_rfl) (by kernel_rfl) zeroW ?_
          have kbB47 := Blk.new (w35) (#[.int .u64 0, .int .u64 0, .int .u64 0, .int .u64 0] : Array Value) 93
          have hH47 := hH35.alloc (.cells (#[.int .u64 0, .int .u64 0, .int .u64 0, .int .u64 0] : Array Value) 93)
          have hgeB47 := hH35.size
          have kbA47 := kbA35.alloc (.cells (#[.int .u64 0, .int .u64 0, .int .u64 0, .int .u64 0] : Array Value) 93)
          have hneAB47 := kbA35.lt
          obtain ⟨gB47, hgg47⟩ : ∃ g, g = (w35).heap.size := ⟨_, rfl⟩
          rw [← hgg47] at kbB47 hgeB47 hneAB47 ⊢
          generalize (w35).alloc (.cells (#[.int .u64 0, .int .u64 0, .int .u64 0, .int .u64 0] : Array Value) 93) = w47 at hH47 kbA47 kbB47 ⊢
          clear hgg47
          refine hK.out _ _ hH47 (fun _ => ?_)
          try simp only [Act.put, List.setIfInBounds_toArray, List.set_cons_zero, List.set_cons_succ]
          refine wpAnyH_ready (rs := [1]) (by kernel_rfl) (by simp) (AllReadyH.cons rfl (fun K hK => ?_) AllReadyH.nil)
          try rw [if_pos (by rfl)]
          go_simp
          go_at_call 57
          refine (hof _).mono ?_
          rintro e48 w48 ⟨rfl, hc48⟩
          dsimp only
          have hH48 := hH47.trans hc48 (by simp)
          have kbA48 := kbA47.chg hc48 (by simp)
          have kbB48 := kbB47.chg hc48 (by simp)
          refine hK.out _ _ hH48 (fun _ => ?_)
          try simp only [Act.put, List.setIfInBounds_toArray, List.set_cons_zero, List.set_cons_succ, List.getElem_toArray, List.getElem_cons_succ, List.getElem_cons_zero]
          refine wpAnyH_ready (rs := [2]) (by kernel_rfl) (by simp) (AllReadyH.cons rfl (fun K hK => ?_) AllReadyH.nil)
          try rw [if_pos (by rfl)]
          go_simp
          go_at_call 56
          refine (hdiv _).mono ?_
          rintro e49 w49 ⟨rfl, hc49⟩
          dsimp only
          have hH49 := hH48.trans hc49 (by simp)
          have kbA49 := kbA48.chg hc49 (by simp)
          have kbB49 := kbB48.chg hc49 (by simp)
          refine hK.out _ _ hH49 (fun _ => ?_)
          try simp only [Act.put, List.setIfInBounds_toArray, List.set_cons_zero, List.set_cons_succ, List.getElem_toArray, List.getElem_cons_succ, List.getElem_cons_zero]
          refine wpAnyH_take (i := 3) (v := .tuple #[.agg #[.int .u64 q0, .int .u64 q1, .int .u64 q2, .int .u64 q3], .agg #[.int .u64 r0, .int .u64 r1, .int .u64 r2, .int .u64 r3], .int .i64 0]) rfl (by kernel_rfl) (by kernel_rfl) (by kernel_rfl) (fun _ _ _ h => h) (.inl ⟨by rfl, fun w' hw' => ?_⟩) hH49 ?_
          · go_simp
          try simp only [Act.put, List.setIfInBounds_toArray, List.set_cons_zero, List.set_cons_succ, List.getElem_toArray, List.getElem_cons_succ, List.getElem_cons_zero]
          refine wpAnyH_take (i := 4) (v := .agg #[.int .u64 q0, .int .u64 q1, .int .u64 q2, .int .u64 q3]) rfl (by kernel_rfl) (by kernel_rfl) (by kernel_rfl) (fun _ _ _ h => h) (.inl ⟨by rfl, fun w' hw' => ?_⟩) hH49 ?_
          · go_simp
          try simp only [Act.put, List.setIfInBounds_toArray, List.set_cons_zero, List.set_cons_succ, List.getElem_toArray, List.getElem_cons_succ, List.getElem_cons_zero]
          refine wpAnyH_take (i := 5) (v := .agg #[.int .u64 r0, .int .u64 r1, .int .u64 r2, .int .u64 r3]) rfl (by kernel_rfl) (by kernel_rfl) (by kernel_rfl) (fun _ _ _ h => h) (.inl ⟨by rfl, fun w' hw' => ?_⟩) hH49 ?_
          · go_simp
          try simp only [Act.put, List.setIfInBounds_toArray, List.set_cons_zero, List.set_cons_succ, List.getElem_toArray, List.getElem_cons_succ, List.getElem_cons_zero]
          refine wpAnyH_take (i := 6) (v := .int .i64 0) rfl (by kernel_rfl) (by kernel_rfl) (by kernel_rfl) (fun _ _ _ h => h) (.inl ⟨by rfl, fun w' hw' => ?_⟩) hH49 ?_
          · go_simp
          try simp only [Act.put, List.setIfInBounds_toArray, List.set_cons_zero, List.set_cons_succ, List.getElem_toArray, List.getElem_cons_succ, List.getElem_cons_zero]
          refine wpAnyH_ready (rs := [9]) (by kernel_rfl) (by simp) (AllReadyH.cons rfl (fun K hK => ?_) AllReadyH.nil)
          rw [if_pos (by rfl)]
          refine op_store 93 (.tmp 15) (.tmp 69) (by kernel_rfl) (by kernel_rfl) rfl (cs := [.int .u64 q0, .int .u64 q1, .int .u64 q2, .int .u64 q3]) rfl kbA49 (by simp) infoW (by simp [Value.oneCell']) ?_
          intro w50 kbA50 hc50
          have hH50 : Chg [] wk w50 := hH49.trans hc50 (by simp; omega)
          have kbB50 := kbB49.chg hc50 (by simp; omega)
          refine hK.out _ _ hH50 (fun _ => ?_)
          try simp only [Act.put, List.setIfInBounds_toArray, List.set_cons_zero, List.set_cons_succ, List.getElem_toArray, List.getElem_cons_succ, List.getElem_cons_zero]
          refine wpAnyH_ready (rs := [10]) (by kernel_rfl) (by simp) (AllReadyH.cons rfl (fun K hK => ?_) AllReadyH.nil)
          rw [if_pos (by rfl)]
          refine op_store 93 (.tmp 16) (.tmp 70) (by kernel_rfl) (by kernel_rfl) rfl (cs := [.int .u64 r0, .int .u64 r1, .int .u64 r2, .int .u64 r3]) rfl kbB50 (by simp) infoW (by simp [Value.oneCell']) ?_
          intro w51 kbB51 hc51
          have hH51 : Chg [] wk w51 := hH50.trans hc51 (by simp; omega)
          have kbA51 := kbA50.chg hc51 (by simp; omega)
          refine hK.out _ _ hH51 (fun _ => ?_)
          try simp only [Act.put, List.setIfInBounds_toArray, List.set_cons_zero, List.set_cons_succ, List.getElem_toArray, List.getElem_cons_succ, List.getElem_cons_zero]
          refine wpAnyH_ready (rs := [11]) (by kernel_rfl) (by simp) (AllReadyH.cons rfl (fun K hK => ?_) AllReadyH.nil)
          go_simp
          refine hK.out _ _ hH51 (fun _ => ?_)
          try simp only [Act.put, List.setIfInBounds_toArray, List.set_cons_zero, List.set_cons_succ, List.getElem_toArray, List.getElem_cons_succ, List.getElem_cons_zero]
          refine wpAnyH_done (by kernel_rfl) ?_ _
          go_wp2_with fail
          go_meet
          exact ⟨gA35, rfl, kbA51, by omega, hH51⟩
      · rw [if_pos (by rfl)]
        refine op_alloc 93 16 (by kernel_rfl) (by kernel_rfl) zeroW ?_
        have kbB53 := Blk.new ((wk).drew) (#[.int .u64 0, .int .u64 0, .int .u64 0, .int .u64 0] : Array Value) 93
        have hH53 := hH.alloc (.cells (#[.int .u64 0, .int .u64 0, .int .u64 0, .int .u64 0] : Array Value) 93)
        have hgeB53 := hH.size
        obtain ⟨gB53, hgg53⟩ : ∃ g, g = ((wk).drew).heap.size := ⟨_, rfl⟩
        rw [← hgg53] at kbB53 hgeB53 ⊢
        generalize ((wk).drew).alloc (.cells (#[.int .u64 0, .int .u64 0, .int .u64 0, .int .u64 0] : Array Value) 93) = w53 at hH53 kbB53 ⊢
        clear hgg53
        refine hK.out _ _ hH53 (fun _ => ?_)
        try simp only [Act.put, List.setIfInBounds_toArray, List.set_cons_zero, List.set_cons_succ]
        refine wpAnyH_ready (rs := [1, 7]) (by kernel_rfl) (by simp) (AllReadyH.cons rfl (fun K hK => ?_) (AllReadyH.cons rfl (fun K hK => ?_) AllReadyH.nil))
        · try rw [if_pos (by rfl)]
          go_simp
          go_at_call 57
          refine (hof _).mono ?_
          rintro e54 w54 ⟨rfl, hc54⟩
          dsimp only
          have hH54 := hH53.trans hc54 (by simp)
          have kbB54 := kbB53.chg hc54 (by simp)
          refine hK.out _ _ hH54 (fun _ => ?_)
          try simp only [Act.put, List.setIfInBounds_toArray, List.set_cons_zero, List.set_cons_succ, List.getElem_toArray, List.getElem_cons_succ, List.getElem_cons_zero]
          refine wpAnyH_ready (rs := [2, 7]) (by kernel_rfl) (by simp) (AllReadyH.cons rfl (fun K hK => ?_) (AllReadyH.cons rfl (fun K hK => ?_) AllReadyH.nil))
          · try rw [if_pos (by rfl)]
            go_simp
            go_at_call 56
            refine (hdiv _).mono ?_
            rintro e55 w55 ⟨rfl, hc55⟩
            dsimp only
            have hH55 := hH54.trans hc55 (by simp)
            have kbB55 := kbB54.chg hc55 (by simp)
            refine hK.out _ _ hH55 (fun _ => ?_)
            try simp only [Act.put, List.setIfInBounds_toArray, List.set_cons_zero, List.set_cons_succ, List.getElem_toArray, List.getElem_cons_succ, List.getElem_cons_zero]
            refine wpAnyH_take (i := 3) (v := .tuple #[.agg #[.int .u64 q0, .int .u64 q1, .int .u64 q2, .int .u64 q3], .agg #[.int .u64 r0, .int .u64 r1, .int .u64 r2, .int .u64 r3], .int .i64 0]) rfl (by kernel_rfl) (by kernel_rfl) (by kernel_rfl) (fun _ _ _ h => h) (.inl ⟨by rfl, fun w' hw' => ?_⟩) hH55 ?_
            · go_simp
            try simp only [Act.put, List.setIfInBounds_toArray, List.set_cons_zero, List.set_cons_succ, List.getElem_toArray, List.getElem_cons_succ, List.getElem_cons_zero]
            refine wpAnyH_take (i := 4) (v := .agg #[.int .u64 q0, .int .u64 q1, .int .u64 q2, .int .u64 q3]) rfl (by kernel_rfl) (by kernel_rfl) (by kernel_rfl) (fun _ _ _ h => h) (.inl ⟨by rfl, fun w' hw' => ?_⟩) hH55 ?_
            · go_simp
            try simp only [Act.put, List.setIfInBounds_toArray, List.set_cons_zero, List.set_cons_succ, List.getElem_toArray, List.getElem_cons_succ, List.getElem_cons_zero]
            refine wpAnyH_take (i := 5) (v := .agg #[.int .u64 r0, .int .u64 r1, .int .u64 r2, .int .u64 r3]) rfl (by kernel_rfl) (by kernel_rfl) (by kernel_rfl) (fun _ _ _ h => h) (.inl ⟨by rfl, fun w' hw' => ?_⟩) hH55 ?_
            · go_simp
            try simp only [Act.put, List.setIfInBounds_toArray, List.set_cons_zero, List.set_cons_succ, List.getElem_toArray, List.getElem_cons_succ, List.getElem_cons_zero]
            refine wpAnyH_take (i := 6) (v := .int .i64 0) rfl (by kernel_rfl) (by kernel_rfl) (by kernel_rfl) (fun _ _ _ h => h) (.inl ⟨by rfl, fun w' hw' => ?_⟩) hH55 ?_
            · go_simp
            try simp only [Act.put, List.setIfInBounds_toArray, List.set_cons_zero, List.set_cons_succ, List.getElem_toArray, List.getElem_cons_succ, List.getElem_cons_zero]
            refine wpAnyH_ready (rs := [7]) (by kernel_rfl) (by simp) (AllReadyH.cons rfl (fun K hK => ?_) AllReadyH.nil)
            rw [if_pos (by rfl)]
            refine op_alloc 93 15 (by kernel_rfl) (by kernel_rfl) zeroW ?_
            have kbA56 := Blk.new (w55) (#[.int .u64 0, .int .u64 0, .int .u64 0, .int .u64 0] : Array Value) 93
            have hH56 := hH55.alloc (.cells (#[.int .u64 0, .int .u64 0, .int .u64 0, .int .u64 0] : Array Value) 93)
            have hgeA56 := hH55.size
            have kbB56 := kbB55.alloc (.cells (#[.int .u64 0, .int .u64 0, .int .u64 0, .int .u64 0] : Array Value) 93)
            have hneBA56 := kbB55.lt
            obtain ⟨gA56, hgg56⟩ : ∃ g, g = (w55).heap.size := ⟨_, rfl⟩
            rw [← hgg56] at kbA56 hgeA56 hneBA56 ⊢
            generalize (w55).alloc (.cells (#[.int .u64 0, .int .u64 0, .int .u64 0, .int .u64 0] : Array Value) 93) = w56 at hH56 kbB56 kbA56 ⊢
            clear hgg56
            refine hK.out _ _ hH56 (fun _ => ?_)
            try simp only [Act.put, List.setIfInBounds_toArray, List.set_cons_zero, List.set_cons_succ]
            refine wpAnyH_ready (rs := [9]) (by kernel_rfl) (by simp) (AllReadyH.cons rfl (fun K hK => ?_) AllReadyH.nil)
            rw [if_pos (by rfl)]
            refine op_store 93 (.tmp 15) (.tmp 69) (by kernel_rfl) (by kernel_rfl) rfl (cs := [.int .u64 q0, .int .u64 q1, .int .u64 q2, .int .u64 q3]) rfl kbA56 (by simp) infoW (by simp [Value.oneCell']) ?_
            intro w57 kbA57 hc57
            have hH57 : Chg [] wk w57 := hH56.trans hc57 (by simp; omega)
            have kbB57 := kbB56.chg hc57 (by simp; omega)
            refine hK.out _ _ hH57 (fun _ => ?_)
            try simp only [Act.put, List.setIfInBounds_toArray, List.set_cons_zero, List.set_cons_succ, List.getElem_toArray, List.getElem_cons_succ, List.getElem_cons_zero]
            refine wpAnyH_ready (rs := [10]) (by kernel_rfl) (by simp) (AllReadyH.cons rfl (fun K hK => ?_) AllReadyH.nil)
            rw [if_pos (by rfl)]
            refine op_store 93 (.tmp 16) (.tmp 70) (by kernel_rfl) (by kernel_rfl) rfl (cs := [.int .u64 r0, .int .u64 r1, .int .u64 r2, .int .u64 r3]) rfl kbB57 (by simp) infoW (by simp [Value.oneCell']) ?_
            intro w58 kbB58 hc58
            have hH58 : Chg [] wk w58 := hH57.trans hc58 (by simp; omega)
            have kbA58 := kbA57.chg hc58 (by simp; omega)
            refine hK.out _ _ hH58 (fun _ => ?_)
            try simp only [Act.put, List.setIfInBounds_toArray, List.set_cons_zero, List.set_cons_succ, List.getElem_toArray, List.getElem_cons_succ, List.getElem_cons_zero]
            refine wpAnyH_ready (rs := [11]) (by kernel_rfl) (by simp) (AllReadyH.cons rfl (fun K hK => ?_) AllReadyH.nil)
            go_simp
            refine hK.out _ _ hH58 (fun _ => ?_)
            try simp only [Act.put, List.setIfInBounds_toArray, List.set_cons_zero, List.set_cons_succ, List.getElem_toArray, List.getElem_cons_succ, List.getElem_cons_zero]
            refine wpAnyH_done (by kernel_rfl) ?_ _
            go_wp2_with fail
            go_meet
            exact ⟨gA56, rfl, kbA58, by omega, hH58⟩
          · rw [if_pos (by rfl)]
            refine op_alloc 93 15 (by kernel_rfl) (by kernel_rfl) zeroW ?_
            have kbA60 := Blk.new (w54) (#[.int .u64 0, .int .u64 0, .int .u64 0, .int .u64 0] : Array Value) 93
            have hH60 := hH54.alloc (.cells (#[.int .u64 0, .int .u64 0, .int .u64 0, .int .u64 0] : Array Value) 93)
            have hgeA60 := hH54.size
            have kbB60 := kbB54.alloc (.cells (#[.int .u64 0, .int .u64 0, .int .u64 0, .int .u64 0] : Array Value) 93)
            have hneBA60 := kbB54.lt
            obtain ⟨gA60, hgg60⟩ : ∃ g, g = (w54).heap.size := ⟨_, rfl⟩
            rw [← hgg60] at kbA60 hgeA60 hneBA60 ⊢
            generalize (w54).alloc (.cells (#[.int .u64 0, .int .u64 0, .int .u64 0, .int .u64 0] : Array Value) 93) = w60 at hH60 kbB60 kbA60 ⊢
            clear hgg60
            refine hK.out _ _ hH60 (fun _ => ?_)
            try simp only [Act.put, List.setIfInBounds_toArray, List.set_cons_zero, List.set_cons_succ]
            refine wpAnyH_ready (rs := [2]) (by kernel_rfl) (by simp) (AllReadyH.cons rfl (fun K hK => ?_) AllReadyH.nil)
            try rw [if_pos (by rfl)]
            go_simp
            go_at_call 56
            refine (hdiv _).mono ?_
            rintro e61 w61 ⟨rfl, hc61⟩
            dsimp only
            have hH61 := hH60.trans hc61 (by simp)
            have kbB61 := kbB60.chg hc61 (by simp)
            have kbA61 := kbA60.chg hc61 (by simp)
            refine hK.out _ _ hH61 (fun _ => ?_)
            try simp only [Act.put, List.setIfInBounds_toArray, List.set_cons_zero, List.set_cons_succ, List.getElem_toArray, List.getElem_cons_succ, List.getElem_cons_zero]
            refine wpAnyH_take (i := 3) (v := .tuple #[.agg #[.int .u64 q0, .int .u64 q1, .int .u64 q2, .int .u64 q3], .agg #[.int .u64 r0, .int .u64 r1, .int .u64 r2, .int .u64 r3], .int .i64 0]) rfl (by kernel_rfl) (by kernel_rfl) (by kernel_rfl) (fun _ _ _ h => h) (.inl ⟨by rfl, fun w' hw' => ?_⟩) hH61 ?_
            · go_simp
            try simp only [Act.put, List.setIfInBounds_toArray, List.set_cons_zero, List.set_cons_succ, List.getElem_toArray, List.getElem_cons_succ, List.getElem_cons_zero]
            refine wpAnyH_take (i := 4) (v := .agg #[.int .u64 q0, .int .u64 q1, .int .u64 q2, .int .u64 q3]) rfl (by kernel_rfl) (by kernel_rfl) (by kernel_rfl) (fun _ _ _ h => h) (.inl ⟨by rfl, fun w' hw' => ?_⟩) hH61 ?_
            · go_simp
            try simp only [Act.put, List.setIfInBounds_toArray, List.set_cons_zero, List.set_cons_succ, List.getElem_toArray, List.getElem_cons_succ, List.getElem_cons_zero]
            refine wpAnyH_take (i := 5) (v := .agg #[.int .u64 r0, .int .u64 r1, .int .u64 r2, .int .u64 r3]) rfl (by kernel_rfl) (by kernel_rfl) (by kernel_rfl) (fun _ _ _ h => h) (.inl ⟨by rfl, fun w' hw' => ?_⟩) hH61 ?_
            · go_simp
            try simp only [Act.put, List.setIfInBounds_toArray, List.set_cons_zero, List.set_cons_succ, List.getElem_toArray, List.getElem_cons_succ, List.getElem_cons_zero]
            refine wpAnyH_take (i := 6) (v := .int .i64 0) rfl (by kernel_rfl) (by kernel_rfl) (by kernel_rfl) (fun _ _ _ h => h) (.inl ⟨by rfl, fun w' hw' => ?_⟩) hH61 ?_
            · go_simp
            try simp only [Act.put, List.setIfInBounds_toArray, List.set_cons_zero, List.set_cons_succ, List.getElem_toArray, List.getElem_cons_succ, List.getElem_cons_zero]
            refine wpAnyH_ready (rs := [9]) (by kernel_rfl) (by simp) (AllReadyH.cons rfl (fun K hK => ?_) AllReadyH.nil)
            rw [if_pos (by rfl)]
            refine op_store 93 (.tmp 15) (.tmp 69) (by kernel_rfl) (by kernel_rfl) rfl (cs := [.int .u64 q0, .int .u64 q1, .int .u64 q2, .int .u64 q3]) rfl kbA61 (by simp) infoW (by simp [Value.oneCell']) ?_
            intro w62 kbA62 hc62
            have hH62 : Chg [] wk w62 := hH61.trans hc62 (by simp; omega)
            have kbB62 := kbB61.chg hc62 (by simp; omega)
            refine hK.out _ _ hH62 (fun _ => ?_)
            try simp only [Act.put, List.setIfInBounds_toArray, List.set_cons_zero, List.set_cons_succ, List.getElem_toArray, List.getElem_cons_succ, List.getElem_cons_zero]
            refine wpAnyH_ready (rs := [10]) (by kernel_rfl) (by simp) (AllReadyH.cons rfl (fun K hK => ?_) AllReadyH.nil)
            rw [if_pos (by rfl)]
            refine op_store 93 (.tmp 16) (.tmp 70) (by kernel_rfl) (by kernel_rfl) rfl (cs := [.int .u64 r0, .int .u64 r1, .int .u64 r2, .int .u64 r3]) rfl kbB62 (by simp) infoW (by simp [Value.oneCell']) ?_
            intro w63 kbB63 hc63
            have hH63 : Chg [] wk w63 := hH62.trans hc63 (by simp; omega)
            have kbA63 := kbA62.chg hc63 (by simp; omega)
            refine hK.out _ _ hH63 (fun _ => ?_)
            try simp only [Act.put, List.setIfInBounds_toArray, List.set_cons_zero, List.set_cons_succ, List.getElem_toArray, List.getElem_cons_succ, List.getElem_cons_zero]
            refine wpAnyH_ready (rs := [11]) (by kernel_rfl) (by simp) (AllReadyH.cons rfl (fun K hK => ?_) AllReadyH.nil)
            go_simp
            refine hK.out _ _ hH63 (fun _ => ?_)
            try simp only [Act.put, List.setIfInBounds_toArray, List.set_cons_zero, List.set_cons_succ, List.getElem_toArray, List.getElem_cons_succ, List.getElem_cons_zero]
            refine wpAnyH_done (by kernel_rfl) ?_ _
            go_wp2_with fail
            go_meet
            exact ⟨gA60, rfl, kbA63, by omega, hH63⟩
        · rw [if_pos (by rfl)]
          refine op_alloc 93 15 (by kernel_rfl) (by kernel_rfl) zeroW ?_
          have kbA65 := Blk.new (w53) (#[.int .u64 0, .int .u64 0, .int .u64 0, .int .u64 0] : Array Value) 93
          have hH65 := hH53.alloc (.cells (#[.int .u64 0, .int .u64 0, .int .u64 0, .int .u64 0] : Array Value) 93)
          have hgeA65 := hH53.size
          have kbB65 := kbB53.alloc (.cells (#[.int .u64 0, .int .u64 0, .int .u64 0, .int .u64 0] : Array Value) 93)
          have hneBA65 := kbB53.lt
          obtain ⟨gA65, hgg65⟩ : ∃ g, g = (w53).heap.size := ⟨_, rfl⟩
          rw [← hgg65] at kbA65 hgeA65 hneBA65 ⊢
          generalize (w53).alloc (.cells (#[.int .u64 0, .int .u64 0, .int .u64 0, .int .u64 0] : Array Value) 93) = w65 at hH65 kbB65 kbA65 ⊢
          clear hgg65
          refine hK.out _ _ hH65 (fun _ => ?_)
          try simp only [Act.put, List.setIfInBounds_toArray, List.set_cons_zero, List.set_cons_succ]
          refine wpAnyH_ready (rs := [1]) (by kernel_rfl) (by simp) (AllReadyH.cons rfl (fun K hK => ?_) AllReadyH.nil)
          try rw [if_pos (by rfl)]
          go_simp
          go_at_call 57
          refine (hof _).mono ?_
          rintro e66 w66 ⟨rfl, hc66⟩
          dsimp only
          have hH66 := hH65.trans hc66 (by simp)
          have kbB66 := kbB65.chg hc66 (by simp)
          have kbA66 := kbA65.chg hc66 (by simp)
          refine hK.out _ _ hH66 (fun _ => ?_)
          try simp only [Act.put, List.setIfInBounds_toArray, List.set_cons_zero, List.set_cons_succ, List.getElem_toArray, List.getElem_cons_succ, List.getElem_cons_zero]
          refine wpAnyH_ready (rs := [2]) (by kernel_rfl) (by simp) (AllReadyH.cons rfl (fun K hK => ?_) AllReadyH.nil)
          try rw [if_pos (by rfl)]
          go_simp
          go_at_call 56
          refine (hdiv _).mono ?_
          rintro e67 w67 ⟨rfl, hc67⟩
          dsimp only
          have hH67 := hH66.trans hc67 (by simp)
          have kbB67 := kbB66.chg hc67 (by simp)
          have kbA67 := kbA66.chg hc67 (by simp)
          refine hK.out _ _ hH67 (fun _ => ?_)
          try simp only [Act.put, List.setIfInBounds_toArray, List.set_cons_zero, List.set_cons_succ, List.getElem_toArray, List.getElem_cons_succ, List.getElem_cons_zero]
          refine wpAnyH_take (i := 3) (v := .tuple #[.agg #[.int .u64 q0, .int .u64 q1, .int .u64 q2, .int .u64 q3], .agg #[.int .u64 r0, .int .u64 r1, .int .u64 r2, .int .u64 r3], .int .i64 0]) rfl (by kernel_rfl) (by kernel_rfl) (by kernel_rfl) (fun _ _ _ h => h) (.inl ⟨by rfl, fun w' hw' => ?_⟩) hH67 ?_
          · go_simp
          try simp only [Act.put, List.setIfInBounds_toArray, List.set_cons_zero, List.set_cons_succ, List.getElem_toArray, List.getElem_cons_succ, List.getElem_cons_zero]
          refine wpAnyH_take (i := 4) (v := .agg #[.int .u64 q0, .int .u64 q1, .int .u64 q2, .int .u64 q3]) rfl (by kernel_rfl) (by kernel_rfl) (by kernel_rfl) (fun _ _ _ h => h) (.inl ⟨by rfl, fun w' hw' => ?_⟩) hH67 ?_
          · go_simp
          try simp only [Act.put, List.setIfInBounds_toArray, List.set_cons_zero, List.set_cons_succ, List.getElem_toArray, List.getElem_cons_succ, List.getElem_cons_zero]
          refine wpAnyH_take (i := 5) (v := .agg #[.int .u64 r0, .int .u64 r1, .int .u64 r2, .int .u64 r3]) rfl (by kernel_rfl) (by kernel_rfl) (by kernel_rfl) (fun _ _ _ h => h) (.inl ⟨by rfl, fun w' hw' => ?_⟩) hH67 ?_
          · go_simp
          try simp only [Act.put, List.setIfInBounds_toArray, List.set_cons_zero, List.set_cons_succ, List.getElem_toArray, List.getElem_cons_succ, List.getElem_cons_zero]
          refine wpAnyH_take (i := 6) (v := .int .i64 0) rfl (by kernel_rfl) (by kernel_rfl) (by kernel_rfl) (fun _ _ _ h => h) (.inl ⟨by rfl, fun w' hw' => ?_⟩) hH67 ?_
          · go_simp
          try simp only [Act.put, List.setIfInBounds_toArray, List.set_cons_zero, List.set_cons_succ, List.getElem_toArray, List.getElem_cons_succ, List.getElem_cons_zero]
          refine wpAnyH_ready (rs := [9]) (by kernel_rfl) (by simp) (AllReadyH.cons rfl (fun K hK => ?_) AllReadyH.nil)
          rw [if_pos (by rfl)]
          refine op_store 93 (.tmp 15) (.tmp 69) (by kernel_rfl) (by kernel_rfl) rfl (cs := [.int .u64 q0, .int .u64 q1, .int .u64 q2, .int .u64 q3]) rfl kbA67 (by simp) infoW (by simp [Value.oneCell']) ?_
          intro w68 kbA68 hc68
          have hH68 : Chg [] wk w68 := hH67.trans hc68 (by simp; omega)
          have kbB68 := kbB67.chg hc68 (by simp; omega)
          refine hK.out _ _ hH68 (fun _ => ?_)
          try simp only [Act.put, List.setIfInBounds_toArray, List.set_cons_zero, List.set_cons_succ, List.getElem_toArray, List.getElem_cons_succ, List.getElem_cons_zero]
          refine wpAnyH_ready (rs := [10]) (by kernel_rfl) (by simp) (AllReadyH.cons rfl (fun K hK => ?_) AllReadyH.nil)
          rw [if_pos (by rfl)]
          refine op_store 93 (.tmp 16) (.tmp 70) (by kernel_rfl) (by kernel_rfl) rfl (cs := [.int .u64 r0, .int .u64 r1, .int .u64 r2, .int .u64 r3]) rfl kbB68 (by simp) infoW (by simp [Value.oneCell']) ?_
          intro w69 kbB69 hc69
          have hH69 : Chg [] wk w69 := hH68.trans hc69 (by simp; omega)
          have kbA69 := kbA68.chg hc69 (by simp; omega)
          refine hK.out _ _ hH69 (fun _ => ?_)
          try simp only [Act.put, List.setIfInBounds_toArray, List.set_cons_zero, List.set_cons_succ, List.getElem_toArray, List.getElem_cons_succ, List.getElem_cons_zero]
          refine wpAnyH_ready (rs := [11]) (by kernel_rfl) (by simp) (AllReadyH.cons rfl (fun K hK => ?_) AllReadyH.nil)
          go_simp
          refine hK.out _ _ hH69 (fun _ => ?_)
          try simp only [Act.put, List.setIfInBounds_toArray, List.set_cons_zero, List.set_cons_succ, List.getElem_toArray, List.getElem_cons_succ, List.getElem_cons_zero]
          refine wpAnyH_done (by kernel_rfl) ?_ _
          go_wp2_with fail
          go_meet
          exact ⟨gA65, rfl, kbA69, by omega, hH69⟩
    obtain ⟨gA, rfl, bA, hgA, hc13⟩ := hcut
    have hcA := hcK.trans hc13 (by simp)
    have hltU := bU.lt; have hltR := bR.lt; have hltT := bT.lt
    have bR0 := bR; have bT0 := bT
    replace bR := bR.chg hc13 (by simp)
    replace bT := bT.chg hc13 (by simp)
    replace bU := bU.chg hc13 (by simp)
    have r1 := bR.cell 1 c1s
    have neR : w.heap.size ≠ gA := by omega
    have neU : gU ≠ gA := by omega
    have neT : gT ≠ gA := by omega
    by_cases h4 : s < 4
    · have h4a : (s : Int) < 4 := by omega
      have h4b : decide ((s : Int) < 4) = true := decide_eq_true h4a
      obtain ⟨rfl, rfl, rfl, rfl⟩ := hp4 h4
      have f0 := bA.free 0; have f1 := bA.free 1; have f2 := bA.free 2; have f3 := bA.free 3
      have d0 := bA.cell 0 rfl; have d1 := bA.cell 1 rfl; have d2 := bA.cell 2 rfl; have d3 := bA.cell 3 rfl
      go_upto_region 17 with fail
      have bA2 : Blk (((((wc).setCell ⟨gA, 0, none⟩ (.int .u64 0)).setCell ⟨gA, 1, none⟩ (.int .u64 0)).setCell ⟨gA, 2, none⟩ (.int .u64 0)).setCell ⟨gA, 3, none⟩ (.int .u64 0)) gA #[.int .u64 0, .int .u64 0, .int .u64 0, .int .u64 0] 93 := (((bA.set 0 (.int .u64 0)).set 1 (.int .u64 0)).set 2 (.int .u64 0)).set 3 (.int .u64 0)
      have hst : Chg [gA] wc (((((wc).setCell ⟨gA, 0, none⟩ (.int .u64 0)).setCell ⟨gA, 1, none⟩ (.int .u64 0)).setCell ⟨gA, 2, none⟩ (.int .u64 0)).setCell ⟨gA, 3, none⟩ (.int .u64 0)) := ((((Chg.refl _ _).setCell (.inl (by simp)) _).setCell (.inl (by simp)) _).setCell (.inl (by simp)) _).setCell (.inl (by simp)) _
      have hcX : Chg [] w (((((wc).setCell ⟨gA, 0, none⟩ (.int .u64 0)).setCell ⟨gA, 1, none⟩ (.int .u64 0)).setCell ⟨gA, 2, none⟩ (.int .u64 0)).setCell ⟨gA, 3, none⟩ (.int .u64 0)) := hcA.trans hst (by simp; omega)
      replace bR := bR.chg hst (by simp; omega)
      replace bU := bU.chg hst (by simp; omega)
      clear hst bA bT d0 d1 d2 d3 f0 f1 f2 f3
      have bA := bA2
      clear bA2
      generalize ((((wc).setCell ⟨gA, 0, none⟩ (.int .u64 0)).setCell ⟨gA, 1, none⟩ (.int .u64 0)).setCell ⟨gA, 2, none⟩ (.int .u64 0)).setCell ⟨gA, 3, none⟩ (.int .u64 0) = w15 at bA hcX bR bU ⊢
      refine wp_region_held_drew (S := fun w' => Chg [] w15 w') (by kernel_rfl) ((Chg.refl _ _).drew) (fun hH61 => ?_)
      refine wpAnyH_take (i := 0) (v := .agg cs) rfl (by kernel_rfl) (by kernel_rfl) (by kernel_rfl) (fun _ _ _ h => h) (.inl ⟨by rfl, fun w' hw' => ?_⟩) hH61 ?_
      · (have hl := load_rules (bR.chg hw' (by simp)) hcs; go_simp)
      try simp only [Act.put, List.setIfInBounds_toArray, List.set_cons_zero, List.set_cons_succ, List.getElem_toArray, List.getElem_cons_zero]
      refine wpAnyH_take (i := 2) (v := .agg #[.int .u64 0, .int .u64 0, .int .u64 0, .int .u64 0]) rfl (by kernel_rfl) (by kernel_rfl) (by kernel_rfl) (fun _ _ _ h => h) (.inl ⟨by rfl, fun w' hw' => ?_⟩) hH61 ?_
      · (have hl := load_w (bA.chg hw' (by simp)); go_simp)
      try simp only [Act.put, List.setIfInBounds_toArray, List.set_cons_zero, List.set_cons_succ, List.getElem_toArray, List.getElem_cons_succ, List.getElem_cons_zero]
      refine wpAnyH_ready (rs := [1]) (by kernel_rfl) (by simp) (AllReadyH.cons rfl (fun K hK => ?_) AllReadyH.nil)
      try rw [if_pos (by rfl)]
      go_simp
      go_at_call 54
      refine (htop _).mono ?_
      rintro e62 w62 ⟨rfl, hc62⟩
      dsimp only
      have hH62 := hH61.trans hc62 (by simp)
      refine hK.out _ _ hH62 (fun _ => ?_)
      try simp only [Act.put, List.setIfInBounds_toArray, List.set_cons_zero, List.set_cons_succ, List.getElem_toArray, List.getElem_cons_succ, List.getElem_cons_zero]
      refine wpAnyH_ready (rs := [3]) (by kernel_rfl) (by simp) (AllReadyH.cons rfl (fun K hK => ?_) AllReadyH.nil)
      try rw [if_pos (by rfl)]
      go_simp
      go_at_call 53
      refine (hcmp3 _).mono ?_
      rintro e63 w63 ⟨rfl, hc63⟩
      dsimp only
      have hH63 := hH62.trans hc63 (by simp)
      refine hK.out _ _ hH63 (fun _ => ?_)
      try simp only [Act.put, List.setIfInBounds_toArray, List.set_cons_zero, List.set_cons_succ, List.getElem_toArray, List.getElem_cons_succ, List.getElem_cons_zero]
      refine wpAnyH_take (i := 4) (v := .bool false) rfl (by kernel_rfl) (by kernel_rfl) (by kernel_rfl) (fun _ _ _ h => h) (.inl ⟨by rfl, fun w' hw' => ?_⟩) hH63 ?_
      · (go_simp; try simp [hc3p])
      try simp only [Act.put, List.setIfInBounds_toArray, List.set_cons_zero, List.set_cons_succ, List.getElem_toArray, List.getElem_cons_succ, List.getElem_cons_zero]
      refine wpAnyH_done (by kernel_rfl) ?_ _
      have hc17 := hcX.trans hH63 (by simp)
      have bA17 := bA.chg hH63 (by simp)
      have bU17 := bU.chg hH63 (by simp)
      have hlA := load_w bA17
      go_wp2_with fail
      refine (henc _).mono ?_
      rintro e wa ⟨rfl, hc⟩
      have hc18 := hc17.trans hc (by simp)
      have bU18 := bU17.chg hc (by simp)
      clear hc hlA
      dsimp only
      go_wp2_with fail
      refine (hdg _).mono ?_
      rintro e wb ⟨rfl, hc⟩
      have hc19 := hc18.trans hc (by simp)
      have bV := bU18.chg hc (by simp)
      clear hc
      dsimp only
      go_upto_region 20 with fail
      have bG := Blk.new wb #[.int .u64 g0, .int .u64 g1, .int .u64 g2, .int .u64 g3] 93
      have hcG := hc19.alloc (.cells #[.int .u64 g0, .int .u64 g1, .int .u64 g2, .int .u64 g3] 93)
      have hgeG := hc19.size
      obtain ⟨gG, hggG⟩ : ∃ g, g = wb.heap.size := ⟨_, rfl⟩
      have hneVG := bV.lt
      replace bV := bV.alloc (.cells #[.int .u64 g0, .int .u64 g1, .int .u64 g2, .int .u64 g3] 93)
      rw [← hggG] at bG hgeG hneVG ⊢
      generalize wb.alloc (.cells #[.int .u64 g0, .int .u64 g1, .int .u64 g2, .int .u64 g3] 93) = wg at hcG bG bV ⊢
      clear hggG
      by_cases h5 : e5 = 0
      · subst h5
        have hl1 := load_w bV
        have hl2 := load_w bG
        have hc4 : decide (0 ≤ c4) = true := by simpa using hc4p rfl
        go_wp2_with fail
        refine (hcmp4 _).mono ?_
        rintro e wz ⟨rfl, hc⟩
        go_wp2
        go_ret
        exact ⟨rfl, hcG.trans hc (by simp)⟩
      have h52 : (e5 == 0) = false := by simpa using h5
      go_wp2
      go_ret
      exact ⟨rfl, hcG⟩
    have h4c : ¬ (s : Int) < 4 := by omega
    have h4b : decide ((s : Int) < 4) = false := decide_eq_false h4c
    have hsc2 := hsc h4
    have wr1 : IntKind.u32.wrap ((s : Int) / 4) = (s : Int) / 4 := wrap_u32 (by omega) (by omega)
    have wr2 : IntKind.u64.wrap ((s : Int) / 4) = (s : Int) / 4 := wrap_u64 (by omega) (by omega)
    have wr3 : IntKind.u64.wrap (s : Int) = (s : Int) := wrap_u64 (by omega) (by omega)
    go_upto_region 16 with fail
    refine wp_region_held_drew (S := fun w' => Chg [] wk w') (by kernel_rfl) (hc13.drew) (fun hH41 => ?_)
    have kdA41 := bA.chg ((Chg.refl [] _).drew) (by simp)
    have kdR41 := bR.chg ((Chg.refl [] _).drew) (by simp)
    have kdU41 := bU.chg ((Chg.refl [] _).drew) (by simp)
    refine wpAnyH_take (i := 0) (v := .agg #[.int .u64 t0, .int .u64 t1, .int .u64 t2, .int .u64 t3]) rfl (by kernel_rfl) (by kernel_rfl) (by kernel_rfl) (fun _ _ _ h => h) (.inl ⟨by rfl, fun w' hw' => ?_⟩) hH41 ?_
    · (have hl := load_w (bT0.chg hw' (by simp)); go_simp)
    try simp only [Act.put, List.setIfInBounds_toArray, List.set_cons_zero, List.set_cons_succ, List.getElem_toArray, List.getElem_cons_zero]
    refine wpAnyH_take (i := 1) (v := .pointer (some ⟨w.heap.size, 1, none⟩)) rfl (by kernel_rfl) (by kernel_rfl) (by kernel_rfl) (fun _ _ _ h => h) (.inl ⟨by rfl, fun w' hw' => ?_⟩) hH41 ?_
    · go_simp
    try simp only [Act.put, List.setIfInBounds_toArray, List.set_cons_zero, List.set_cons_succ, List.getElem_toArray, List.getElem_cons_succ, List.getElem_cons_zero]
    refine wpAnyH_take (i := 2) (v := .int .u32 s) rfl (by kernel_rfl) (by kernel_rfl) (by kernel_rfl) (fun _ _ _ h => h) (.inl ⟨by rfl, fun w' hw' => ?_⟩) hH41 ?_
    · (have k1 := (bR0.chg hw' (by simp)).cell 1 c1s; go_simp)
    try simp only [Act.put, List.setIfInBounds_toArray, List.set_cons_zero, List.set_cons_succ, List.getElem_toArray, List.getElem_cons_succ, List.getElem_cons_zero]
    refine wpAnyH_take (i := 3) (v := .int .u32 (s / 4 : Nat)) rfl (by kernel_rfl) (by kernel_rfl) (by kernel_rfl) (fun _ _ _ h => h) (.inl ⟨by rfl, fun w' hw' => ?_⟩) hH41 ?_
    · (go_simp; try omega)
    try simp only [Act.put, List.setIfInBounds_toArray, List.set_cons_zero, List.set_cons_succ, List.getElem_toArray, List.getElem_cons_succ, List.getElem_cons_zero]
    refine wpAnyH_take (i := 4) (v := .int .u64 (s / 4 : Nat)) rfl (by kernel_rfl) (by kernel_rfl) (by kernel_rfl) (fun _ _ _ h => h) (.inl ⟨by rfl, fun w' hw' => ?_⟩) hH41 ?_
    · (go_simp; try omega)
    try simp only [Act.put, List.setIfInBounds_toArray, List.set_cons_zero, List.set_cons_succ, List.getElem_toArray, List.getElem_cons_succ, List.getElem_cons_zero]
    refine wpAnyH_take (i := 5) (v := .pointer (some ⟨w.heap.size, 1, none⟩)) rfl (by kernel_rfl) (by kernel_rfl) (by kernel_rfl) (fun _ _ _ h => h) (.inl ⟨by rfl, fun w' hw' => ?_⟩) hH41 ?_
    · go_simp
    try simp only [Act.put, List.setIfInBounds_toArray, List.set_cons_zero, List.set_cons_succ, List.getElem_toArray, List.getElem_cons_succ, List.getElem_cons_zero]
    refine wpAnyH_take (i := 6) (v := .int .u32 s) rfl (by kernel_rfl) (by kernel_rfl) (by kernel_rfl) (fun _ _ _ h => h) (.inl ⟨by rfl, fun w' hw' => ?_⟩) hH41 ?_
    · (have k1 := (bR0.chg hw' (by simp)).cell 1 c1s; go_simp)
    try simp only [Act.put, List.setIfInBounds_toArray, List.set_cons_zero, List.set_cons_succ, List.getElem_toArray, List.getElem_cons_succ, List.getElem_cons_zero]
    refine wpAnyH_take (i := 7) (v := .int .u64 s) rfl (by kernel_rfl) (by kernel_rfl) (by kernel_rfl) (fun _ _ _ h => h) (.inl ⟨by rfl, fun w' hw' => ?_⟩) hH41 ?_
    · (go_simp; try omega)
    try simp only [Act.put, List.setIfInBounds_toArray, List.set_cons_zero, List.set_cons_succ, List.getElem_toArray, List.getElem_cons_succ, List.getElem_cons_zero]
    refine wpAnyH_take (i := 8) (v := .agg cs) rfl (by kernel_rfl) (by kernel_rfl) (by kernel_rfl) (fun _ _ _ h => h) (.inl ⟨by rfl, fun w' hw' => ?_⟩) hH41 ?_
    · (have hl := load_rules (bR0.chg hw' (by simp)) hcs; go_simp)
    try simp only [Act.put, List.setIfInBounds_toArray, List.set_cons_zero, List.set_cons_succ, List.getElem_toArray, List.getElem_cons_succ, List.getElem_cons_zero]
    refine wpAnyH_ready (rs := [9]) (by kernel_rfl) (by simp) (AllReadyH.cons rfl (fun K hK => ?_) AllReadyH.nil)
    try rw [if_pos (by rfl)]
    go_simp
    go_at_call 54
    refine (htop _).mono ?_
    rintro e42 w42 ⟨rfl, hc42⟩
    dsimp only
    have hH42 := hH41.trans hc42 (by simp)
    have kbA42 := kdA41.chg hc42 (by simp)
    have kbR42 := kdR41.chg hc42 (by simp)
    have kbU42 := kdU41.chg hc42 (by simp)
    refine hK.out _ _ hH42 (fun _ => ?_)
    try simp only [Act.put, List.setIfInBounds_toArray, List.set_cons_zero, List.set_cons_succ, List.getElem_toArray, List.getElem_cons_succ, List.getElem_cons_zero]
    refine wpAnyH_ready (rs := [10]) (by kernel_rfl) (by simp) (AllReadyH.cons rfl (fun K hK => ?_) AllReadyH.nil)
    try rw [if_pos (by rfl)]
    go_simp
    go_at_call 58
    refine (hsc2 _).mono ?_
    rintro e43 w43 ⟨rfl, hc43⟩
    dsimp only
    have hH43 := hH42.trans hc43 (by simp)
    have kbA43 := kbA42.chg hc43 (by simp)
    have kbR43 := kbR42.chg hc43 (by simp)
    have kbU43 := kbU42.chg hc43 (by simp)
    refine hK.out _ _ hH43 (fun _ => ?_)
    try simp only [Act.put, List.setIfInBounds_toArray, List.set_cons_zero, List.set_cons_succ, List.getElem_toArray, List.getElem_cons_succ, List.getElem_cons_zero]
    refine wpAnyH_take (i := 11) (v := .tuple #[.agg #[.int .u64 p0, .int .u64 p1, .int .u64 p2, .int .u64 p3], .int .i64 e6]) rfl (by kernel_rfl) (by kernel_rfl) (by kernel_rfl) (fun _ _ _ h => h) (.inl ⟨by rfl, fun w' hw' => ?_⟩) hH43 ?_
    · go_simp
    try simp only [Act.put, List.setIfInBounds_toArray, List.set_cons_zero, List.set_cons_succ, List.getElem_toArray, List.getElem_cons_succ, List.getElem_cons_zero]
    refine wpAnyH_take (i := 12) (v := .agg #[.int .u64 p0, .int .u64 p1, .int .u64 p2, .int .u64 p3]) rfl (by kernel_rfl) (by kernel_rfl) (by kernel_rfl) (fun _ _ _ h => h) (.inl ⟨by rfl, fun w' hw' => ?_⟩) hH43 ?_
    · go_simp
    try simp only [Act.put, List.setIfInBounds_toArray, List.set_cons_zero, List.set_cons_succ, List.getElem_toArray, List.getElem_cons_succ, List.getElem_cons_zero]
    refine wpAnyH_take (i := 13) (v := .int .i64 e6) rfl (by kernel_rfl) (by kernel_rfl) (by kernel_rfl) (fun _ _ _ h => h) (.inl ⟨by rfl, fun w' hw' => ?_⟩) hH43 ?_
    · go_simp
    try simp only [Act.put, List.setIfInBounds_toArray, List.set_cons_zero, List.set_cons_succ, List.getElem_toArray, List.getElem_cons_succ, List.getElem_cons_zero]
    refine wpAnyH_ready (rs := [14]) (by kernel_rfl) (by simp) (AllReadyH.cons rfl (fun K hK => ?_) AllReadyH.nil)
    rw [if_pos (by rfl)]
    refine op_store 93 (.tmp 15) (.tmp 88) (by kernel_rfl) (by kernel_rfl) rfl (cs := [.int .u64 p0, .int .u64 p1, .int .u64 p2, .int .u64 p3]) rfl kbA43 (by simp) infoW (by simp [Value.oneCell']) ?_
    intro w44 kbA44 hc44
    have hH44 : Chg [] wk w44 := hH43.trans hc44 (by simp; omega)
    have kbR44 := kbR43.chg hc44 (by simp; omega)
    have kbU44 := kbU43.chg hc44 (by simp; omega)
    refine hK.out _ _ hH44 (fun _ => ?_)
    try simp only [Act.put, List.setIfInBounds_toArray, List.set_cons_zero, List.set_cons_succ, List.getElem_toArray, List.getElem_cons_succ, List.getElem_cons_zero]
    refine wpAnyH_done (by kernel_rfl) ?_ _
    have hc16 := hH44
    replace bA := kbA44
    replace bR := kbR44
    replace bU := kbU44
    have hcX := hcK.trans hc16 (by simp)
    go_upto_region 17 with fail
    skip
    refine wp_region_held_drew (S := fun w' => Chg [] w44 w') (by kernel_rfl) ((Chg.refl _ _).drew) (fun hH61 => ?_)
    refine wpAnyH_take (i := 0) (v := .agg cs) rfl (by kernel_rfl) (by kernel_rfl) (by kernel_rfl) (fun _ _ _ h => h) (.inl ⟨by rfl, fun w' hw' => ?_⟩) hH61 ?_
    · (have hl := load_rules (bR.chg hw' (by simp)) hcs; go_simp)
    try simp only [Act.put, List.setIfInBounds_toArray, List.set_cons_zero, List.set_cons_succ, List.getElem_toArray, List.getElem_cons_zero]
    refine wpAnyH_take (i := 2) (v := .agg #[.int .u64 p0, .int .u64 p1, .int .u64 p2, .int .u64 p3]) rfl (by kernel_rfl) (by kernel_rfl) (by kernel_rfl) (fun _ _ _ h => h) (.inl ⟨by rfl, fun w' hw' => ?_⟩) hH61 ?_
    · (have hl := load_w (bA.chg hw' (by simp)); go_simp)
    try simp only [Act.put, List.setIfInBounds_toArray, List.set_cons_zero, List.set_cons_succ, List.getElem_toArray, List.getElem_cons_succ, List.getElem_cons_zero]
    refine wpAnyH_ready (rs := [1]) (by kernel_rfl) (by simp) (AllReadyH.cons rfl (fun K hK => ?_) AllReadyH.nil)
    try rw [if_pos (by rfl)]
    go_simp
    go_at_call 54
    refine (htop _).mono ?_
    rintro e62 w62 ⟨rfl, hc62⟩
    dsimp only
    have hH62 := hH61.trans hc62 (by simp)
    refine hK.out _ _ hH62 (fun _ => ?_)
    try simp only [Act.put, List.setIfInBounds_toArray, List.set_cons_zero, List.set_cons_succ, List.getElem_toArray, List.getElem_cons_succ, List.getElem_cons_zero]
    refine wpAnyH_ready (rs := [3]) (by kernel_rfl) (by simp) (AllReadyH.cons rfl (fun K hK => ?_) AllReadyH.nil)
    try rw [if_pos (by rfl)]
    go_simp
    go_at_call 53
    refine (hcmp3 _).mono ?_
    rintro e63 w63 ⟨rfl, hc63⟩
    dsimp only
    have hH63 := hH62.trans hc63 (by simp)
    refine hK.out _ _ hH63 (fun _ => ?_)
    try simp only [Act.put, List.setIfInBounds_toArray, List.set_cons_zero, List.set_cons_succ, List.getElem_toArray, List.getElem_cons_succ, List.getElem_cons_zero]
    refine wpAnyH_take (i := 4) (v := .bool false) rfl (by kernel_rfl) (by kernel_rfl) (by kernel_rfl) (fun _ _ _ h => h) (.inl ⟨by rfl, fun w' hw' => ?_⟩) hH63 ?_
    · (go_simp; try simp [hc3p])
    try simp only [Act.put, List.setIfInBounds_toArray, List.set_cons_zero, List.set_cons_succ, List.getElem_toArray, List.getElem_cons_succ, List.getElem_cons_zero]
    refine wpAnyH_done (by kernel_rfl) ?_ _
    have hc17 := hcX.trans hH63 (by simp)
    have bA17 := bA.chg hH63 (by simp)
    have bU17 := bU.chg hH63 (by simp)
    have hlA := load_w bA17
    go_wp2_with fail
    refine (henc _).mono ?_
    rintro e wa ⟨rfl, hc⟩
    have hc18 := hc17.trans hc (by simp)
    have bU18 := bU17.chg hc (by simp)
    clear hc hlA
    dsimp only
    go_wp2_with fail
    refine (hdg _).mono ?_
    rintro e wb ⟨rfl, hc⟩
    have hc19 := hc18.trans hc (by simp)
    have bV := bU18.chg hc (by simp)
    clear hc
    dsimp only
    go_upto_region 20 with fail
    have bG := Blk.new wb #[.int .u64 g0, .int .u64 g1, .int .u64 g2, .int .u64 g3] 93
    have hcG := hc19.alloc (.cells #[.int .u64 g0, .int .u64 g1, .int .u64 g2, .int .u64 g3] 93)
    have hgeG := hc19.size
    obtain ⟨gG, hggG⟩ : ∃ g, g = wb.heap.size := ⟨_, rfl⟩
    have hneVG := bV.lt
    replace bV := bV.alloc (.cells #[.int .u64 g0, .int .u64 g1, .int .u64 g2, .int .u64 g3] 93)
    rw [← hggG] at bG hgeG hneVG ⊢
    generalize wb.alloc (.cells #[.int .u64 g0, .int .u64 g1, .int .u64 g2, .int .u64 g3] 93) = wg at hcG bG bV ⊢
    clear hggG
    by_cases h5 : e5 = 0
    · subst h5
      have hl1 := load_w bV
      have hl2 := load_w bG
      have hc4 : decide (0 ≤ c4) = true := by simpa using hc4p rfl
      go_wp2_with fail
      refine (hcmp4 _).mono ?_
      rintro e wz ⟨rfl, hc⟩
      go_wp2
      go_ret
      exact ⟨rfl, hcG.trans hc (by simp)⟩
    have h52 : (e5 == 0) = false := by simpa using h5
    go_wp2
    go_ret
    exact ⟨rfl, hcG⟩
  case true =>
    go_upto_region 13 with fail
    go_cut [15] (fun s15 wx => ∃ gA : Nat, s15 = .pointer (some ⟨gA, 0, none⟩) ∧ Blk wx gA #[.int .u64 q0, .int .u64 q1, .int .u64 q2, .int .u64 q3] 93 ∧ wf.heap.size ≤ gA ∧ Chg [] wf wx)
    case first =>
      refine wp_region_held_drew (S := fun w' => Chg [] wf w') (by kernel_rfl) ((Chg.refl _ _).drew) (fun hH => ?_)
      refine wpAnyH_take (i := 0) (v := .agg #[.int .u64 t0, .int .u64 t1, .int .u64 t2, .int .u64 t3]) rfl (by kernel_rfl) (by kernel_rfl) (by kernel_rfl) (fun _ _ _ h => h) (.inl ⟨by rfl, fun w' hw' => ?_⟩) hH ?_
      · (have hl := load_w (bT.chg hw' (by simp)); go_simp)
      try simp only [Act.put, List.setIfInBounds_toArray, List.set_cons_zero, List.set_cons_succ, List.getElem_toArray, List.getElem_cons_zero]
      refine wpAnyH_ready (rs := [1, 7, 8]) (by kernel_rfl) (by simp) (AllReadyH.cons rfl (fun K hK => ?_) (AllReadyH.cons rfl (fun K hK => ?_) (AllReadyH.cons rfl (fun K hK => ?_) AllReadyH.nil)))
      · try rw [if_pos (by rfl)]
        go_simp
        go_at_call 57
        refine (hof _).mono ?_
        rintro e1 w1 ⟨rfl, hc1⟩
        dsimp only
        have hH1 := hH.trans hc1 (by simp)
        refine hK.out _ _ hH1 (fun _ => ?_)
        try simp only [Act.put, List.setIfInBounds_toArray, List.set_cons_zero, List.set_cons_succ, List.getElem_toArray, List.getElem_cons_succ, List.getElem_cons_zero]
        refine wpAnyH_ready (rs := [2, 7, 8]) (by kernel_rfl) (by simp) (AllReadyH.cons rfl (fun K hK => ?_) (AllReadyH.cons rfl (fun K hK => ?_) (AllReadyH.cons rfl (fun K hK => ?_) AllReadyH.nil)))
        · try rw [if_pos (by rfl)]
          go_simp
          go_at_call 56
          refine (hdiv _).mono ?_
          rintro e2 w2 ⟨rfl, hc2⟩
          dsimp only
          have hH2 := hH1.trans hc2 (by simp)
          refine hK.out _ _ hH2 (fun _ => ?_)
          try simp only [Act.put, List.setIfInBounds_toArray, List.set_cons_zero, List.set_cons_succ, List.getElem_toArray, List.getElem_cons_succ, List.getElem_cons_zero]
          refine wpAnyH_take (i := 3) (v := .tuple #[.agg #[.int .u64 q0, .int .u64 q1, .int .u64 q2, .int .u64 q3], .agg #[.int .u64 r0, .int .u64 r1, .int .u64 r2, .int .u64 r3], .int .i64 0]) rfl (by kernel_rfl) (by kernel_rfl) (by kernel_rfl) (fun _ _ _ h => h) (.inl ⟨by rfl, fun w' hw' => ?_⟩) hH2 ?_
          · go_simp
          try simp only [Act.put, List.setIfInBounds_toArray, List.set_cons_zero, List.set_cons_succ, List.getElem_toArray, List.getElem_cons_succ, List.getElem_cons_zero]
          refine wpAnyH_take (i := 4) (v := .agg #[.int .u64 q0, .int .u64 q1, .int .u64 q2, .int .u64 q3]) rfl (by kernel_rfl) (by kernel_rfl) (by kernel_rfl) (fun _ _ _ h => h) (.inl ⟨by rfl, fun w' hw' => ?_⟩) hH2 ?_
          · go_simp
          try simp only [Act.put, List.setIfInBounds_toArray, List.set_cons_zero, List.set_cons_succ, List.getElem_toArray, List.getElem_cons_succ, List.getElem_cons_zero]
          refine wpAnyH_take (i := 5) (v := .agg #[.int .u64 r0, .int .u64 r1, .int .u64 r2, .int .u64 r3]) rfl (by kernel_rfl) (by kernel_rfl) (by kernel_rfl) (fun _ _ _ h => h) (.inl ⟨by rfl, fun w' hw' => ?_⟩) hH2 ?_
          · go_simp
          try simp only [Act.put, List.setIfInBounds_toArray, List.set_cons_zero, List.set_cons_succ, List.getElem_toArray, List.getElem_cons_succ, List.getElem_cons_zero]
          refine wpAnyH_take (i := 6) (v := .int .i64 0) rfl (by kernel_rfl) (by kernel_rfl) (by kernel_rfl) (fun _ _ _ h => h) (.inl ⟨by rfl, fun w' hw' => ?_⟩) hH2 ?_
          · go_simp
          try simp only [Act.put, List.setIfInBounds_toArray, List.set_cons_zero, List.set_cons_succ, List.getElem_toArray, List.getElem_cons_succ, List.getElem_cons_zero]
          refine wpAnyH_ready (rs := [7, 8]) (by kernel_rfl) (by simp) (AllReadyH.cons rfl (fun K hK => ?_) (AllReadyH.cons rfl (fun K hK => ?_) AllReadyH.nil))
          · rw [if_pos (by rfl)]
            refine op_alloc 93 15 (by kernel_rfl) (by kernel_rfl) zeroW ?_
            have kbA3 := Blk.new (w2) (#[.int .u64 0, .int .u64 0, .int .u64 0, .int .u64 0] : Array Value) 93
            have hH3 := hH2.alloc (.cells (#[.int .u64 0, .int .u64 0, .int .u64 0, .int .u64 0] : Array Value) 93)
            have hgeA3 := hH2.size
            obtain ⟨gA3, hgg3⟩ : ∃ g, g = (w2).heap.size := ⟨_, rfl⟩
            rw [← hgg3] at kbA3 hgeA3 ⊢
            generalize (w2).alloc (.cells (#[.int .u64 0, .int .u64 0, .int .u64 0, .int .u64 0] : Array Value) 93) = w3 at hH3 kbA3 ⊢
            clear hgg3
            refine hK.out _ _ hH3 (fun _ => ?_)
            try simp only [Act.put, List.setIfInBounds_toArray, List.set_cons_zero, List.set_cons_succ]
            refine wpAnyH_ready (rs := [8]) (by kernel_rfl) (by simp) (AllReadyH.cons rfl (fun K hK => ?_) AllReadyH.nil)
            rw [if_pos (by rfl)]
            refine op_alloc 93 16 (by kernel_rfl) (by kernel_rfl) zeroW ?_
            have kbB4 := Blk.new (w3) (#[.int .u64 0, .int .u64 0, .int .u64 0, .int .u64 0] : Array Value) 93
            have hH4 := hH3.alloc (.cells (#[.int .u64 0, .int .u64 0, .int .u64 0, .int .u64 0] : Array Value) 93)
            have hgeB4 := hH3.size
            have kbA4 := kbA3.alloc (.cells (#[.int .u64 0, .int .u64 0, .int .u64 0, .int .u64 0] : Array Value) 93)
            have hneAB4 := kbA3.lt
            obtain ⟨gB4, hgg4⟩ : ∃ g, g = (w3).heap.size := ⟨_, rfl⟩
            rw [← hgg4] at kbB4 hgeB4 hneAB4 ⊢
            generalize (w3).alloc (.cells (#[.int .u64 0, .int .u64 0, .int .u64 0, .int .u64 0] : Array Value) 93) = w4 at hH4 kbA4 kbB4 ⊢
            clear hgg4
            refine hK.out _ _ hH4 (fun _ => ?_)
            try simp only [Act.put, List.setIfInBounds_toArray, List.set_cons_zero, List.set_cons_succ]
            refine wpAnyH_ready (rs := [9]) (by kernel_rfl) (by simp) (AllReadyH.cons rfl (fun K hK => ?_) AllReadyH.nil)
            rw [if_pos (by rfl)]
            refine op_store 93 (.tmp 15) (.tmp 69) (by kernel_rfl) (by kernel_rfl) rfl (cs := [.int .u64 q0, .int .u64 q1, .int .u64 q2, .int .u64 q3]) rfl kbA4 (by simp) infoW (by simp [Value.oneCell']) ?_
            intro w5 kbA5 hc5
            have hH5 : Chg [] wf w5 := hH4.trans hc5 (by simp; omega)
            have kbB5 := kbB4.chg hc5 (by simp; omega)
            refine hK.out _ _ hH5 (fun _ => ?_)
            try simp only [Act.put, List.setIfInBounds_toArray, List.set_cons_zero, List.set_cons_succ, List.getElem_toArray, List.getElem_cons_succ, List.getElem_cons_zero]
            refine wpAnyH_ready (rs := [10]) (by kernel_rfl) (by simp) (AllReadyH.cons rfl (fun K hK => ?_) AllReadyH.nil)
            rw [if_pos (by rfl)]
            refine op_store 93 (.tmp 16) (.tmp 70) (by kernel_rfl) (by kernel_rfl) rfl (cs := [.int .u64 r0, .int .u64 r1, .int .u64 r2, .int .u64 r3]) rfl kbB5 (by simp) infoW (by simp [Value.oneCell']) ?_
            intro w6 kbB6 hc6
            have hH6 : Chg [] wf w6 := hH5.trans hc6 (by simp; omega)
            have kbA6 := kbA5.chg hc6 (by simp; omega)
            refine hK.out _ _ hH6 (fun _ => ?_)
            try simp only [Act.put, List.setIfInBounds_toArray, List.set_cons_zero, List.set_cons_succ, List.getElem_toArray, List.getElem_cons_succ, List.getElem_cons_zero]
            refine wpAnyH_ready (rs := [11]) (by kernel_rfl) (by simp) (AllReadyH.cons rfl (fun K hK => ?_) AllReadyH.nil)
            go_simp
            refine hK.out _ _ hH6 (fun _ => ?_)
            try simp only [Act.put, List.setIfInBounds_toArray, List.set_cons_zero, List.set_cons_succ, List.getElem_toArray, List.getElem_cons_succ, List.getElem_cons_zero]
            refine wpAnyH_done (by kernel_rfl) ?_ _
            go_wp2_with fail
            go_meet
            exact ⟨gA3, rfl, kbA6, by omega, hH6⟩
          · rw [if_pos (by rfl)]
            refine op_alloc 93 16 (by kernel_rfl) (by kernel_rfl) zeroW ?_
            have kbB8 := Blk.new (w2) (#[.int .u64 0, .int .u64 0, .int .u64 0, .int .u64 0] : Array Value) 93
            have hH8 := hH2.alloc (.cells (#[.int .u64 0, .int .u64 0, .int .u64 0, .int .u64 0] : Array Value) 93)
            have hgeB8 := hH2.size
            obtain ⟨gB8, hgg8⟩ : ∃ g, g = (w2).heap.size := ⟨_, rfl⟩
            rw [← hgg8] at kbB8 hgeB8 ⊢
            generalize (w2).alloc (.cells (#[.int .u64 0, .int .u64 0, .int .u64 0, .int .u64 0] : Array Value) 93) = w8 at hH8 kbB8 ⊢
            clear hgg8
            refine hK.out _ _ hH8 (fun _ => ?_)
            try simp only [Act.put, List.setIfInBounds_toArray, List.set_cons_zero, List.set_cons_succ]
            refine wpAnyH_ready (rs := [7]) (by kernel_rfl) (by simp) (AllReadyH.cons rfl (fun K hK => ?_) AllReadyH.nil)
            rw [if_pos (by rfl)]
            refine op_alloc 93 15 (by kernel_rfl) (by kernel_rfl) zeroW ?_
            have kbA9 := Blk.new (w8) (#[.int .u64 0, .int .u64 0, .int .u64 0, .int .u64 0] : Array Value) 93
            have hH9 := hH8.alloc (.cells (#[.int .u64 0, .int .u64 0, .int .u64 0, .int .u64 0] : Array Value) 93)
            have hgeA9 := hH8.size
            have kbB9 := kbB8.alloc (.cells (#[.int .u64 0, .int .u64 0, .int .u64 0, .int .u64 0] : Array Value) 93)
            have hneBA9 := kbB8.lt
            obtain ⟨gA9, hgg9⟩ : ∃ g, g = (w8).heap.size := ⟨_, rfl⟩
            rw [← hgg9] at kbA9 hgeA9 hneBA9 ⊢
            generalize (w8).alloc (.cells (#[.int .u64 0, .int .u64 0, .int .u64 0, .int .u64 0] : Array Value) 93) = w9 at hH9 kbB9 kbA9 ⊢
            clear hgg9
            refine hK.out _ _ hH9 (fun _ => ?_)
            try simp only [Act.put, List.setIfInBounds_toArray, List.set_cons_zero, List.set_cons_succ]
            refine wpAnyH_ready (rs := [9]) (by kernel_rfl) (by simp) (AllReadyH.cons rfl (fun K hK => ?_) AllReadyH.nil)
            rw [if_pos (by rfl)]
            refine op_store 93 (.tmp 15) (.tmp 69) (by kernel_rfl) (by kernel_rfl) rfl (cs := [.int .u64 q0, .int .u64 q1, .int .u64 q2, .int .u64 q3]) rfl kbA9 (by simp) infoW (by simp [Value.oneCell']) ?_
            intro w10 kbA10 hc10
            have hH10 : Chg [] wf w10 := hH9.trans hc10 (by simp; omega)
            have kbB10 := kbB9.chg hc10 (by simp; omega)
            refine hK.out _ _ hH10 (fun _ => ?_)
            try simp only [Act.put, List.setIfInBounds_toArray, List.set_cons_zero, List.set_cons_succ, List.getElem_toArray, List.getElem_cons_succ, List.getElem_cons_zero]
            refine wpAnyH_ready (rs := [10]) (by kernel_rfl) (by simp) (AllReadyH.cons rfl (fun K hK => ?_) AllReadyH.nil)
            rw [if_pos (by rfl)]
            refine op_store 93 (.tmp 16) (.tmp 70) (by kernel_rfl) (by kernel_rfl) rfl (cs := [.int .u64 r0, .int .u64 r1, .int .u64 r2, .int .u64 r3]) rfl kbB10 (by simp) infoW (by simp [Value.oneCell']) ?_
            intro w11 kbB11 hc11
            have hH11 : Chg [] wf w11 := hH10.trans hc11 (by simp; omega)
            have kbA11 := kbA10.chg hc11 (by simp; omega)
            refine hK.out _ _ hH11 (fun _ => ?_)
            try simp only [Act.put, List.setIfInBounds_toArray, List.set_cons_zero, List.set_cons_succ, List.getElem_toArray, List.getElem_cons_succ, List.getElem_cons_zero]
            refine wpAnyH_ready (rs := [11]) (by kernel_rfl) (by simp) (AllReadyH.cons rfl (fun K hK => ?_) AllReadyH.nil)
            go_simp
            refine hK.out _ _ hH11 (fun _ => ?_)
            try simp only [Act.put, List.setIfInBounds_toArray, List.set_cons_zero, List.set_cons_succ, List.getElem_toArray, List.getElem_cons_succ, List.getElem_cons_zero]
            refine wpAnyH_done (by kernel_rfl) ?_ _
            go_wp2_with fail
            go_meet
            exact ⟨gA9, rfl, kbA11, by omega, hH11⟩
        · rw [if_pos (by rfl)]
          refine op_alloc 93 15 (by kernel_rfl) (by kernel_rfl) zeroW ?_
          have kbA13 := Blk.new (w1) (#[.int .u64 0, .int .u64 0, .int .u64 0, .int .u64 0] : Array Value) 93
          have hH13 := hH1.alloc (.cells (#[.int .u64 0, .int .u64 0, .int .u64 0, .int .u64 0] : Array Value) 93)
          have hgeA13 := hH1.size
          obtain ⟨gA13, hgg13⟩ : ∃ g, g = (w1).heap.size := ⟨_, rfl⟩
          rw [← hgg13] at kbA13 hgeA13 ⊢
          generalize (w1).alloc (.cells (#[.int .u64 0, .int .u64 0, .int .u64 0, .int .u64 0] : Array Value) 93) = w13 at hH13 kbA13 ⊢
          clear hgg13
          refine hK.out _ _ hH13 (fun _ => ?_)
          try simp only [Act.put, List.setIfInBounds_toArray, List.set_cons_zero, List.set_cons_succ]
          refine wpAnyH_ready (rs := [2, 8]) (by kernel_rfl) (by simp) (AllReadyH.cons rfl (fun K hK => ?_) (AllReadyH.cons rfl (fun K hK => ?_) AllReadyH.nil))
          · try rw [if_pos (by rfl)]
            go_simp
            go_at_call 56
            refine (hdiv _).mono ?_
            rintro e14 w14 ⟨rfl, hc14⟩
            dsimp only
            have hH14 := hH13.trans hc14 (by simp)
            have kbA14 := kbA13.chg hc14 (by simp)
            refine hK.out _ _ hH14 (fun _ => ?_)
            try simp only [Act.put, List.setIfInBounds_toArray, List.set_cons_zero, List.set_cons_succ, List.getElem_toArray, List.getElem_cons_succ, List.getElem_cons_zero]
            refine wpAnyH_take (i := 3) (v := .tuple #[.agg #[.int .u64 q0, .int .u64 q1, .int .u64 q2, .int .u64 q3], .agg #[.int .u64 r0, .int .u64 r1, .int .u64 r2, .int .u64 r3], .int .i64 0]) rfl (by kernel_rfl) (by kernel_rfl) (by kernel_rfl) (fun _ _ _ h => h) (.inl ⟨by rfl, fun w' hw' => ?_⟩) hH14 ?_
            · go_simp
            try simp only [Act.put, List.setIfInBounds_toArray, List.set_cons_zero, List.set_cons_succ, List.getElem_toArray, List.getElem_cons_succ, List.getElem_cons_zero]
            refine wpAnyH_take (i := 4) (v := .agg #[.int .u64 q0, .int .u64 q1, .int .u64 q2, .int .u64 q3]) rfl (by kernel_rfl) (by kernel_rfl) (by kernel_rfl) (fun _ _ _ h => h) (.inl ⟨by rfl, fun w' hw' => ?_⟩) hH14 ?_
            · go_simp
            try simp only [Act.put, List.setIfInBounds_toArray, List.set_cons_zero, List.set_cons_succ, List.getElem_toArray, List.getElem_cons_succ, List.getElem_cons_zero]
            refine wpAnyH_take (i := 5) (v := .agg #[.int .u64 r0, .int .u64 r1, .int .u64 r2, .int .u64 r3]) rfl (by kernel_rfl) (by kernel_rfl) (by kernel_rfl) (fun _ _ _ h => h) (.inl ⟨by rfl, fun w' hw' => ?_⟩) hH14 ?_
            · go_simp
            try simp only [Act.put, List.setIfInBounds_toArray, List.set_cons_zero, List.set_cons_succ, List.getElem_toArray, List.getElem_cons_succ, List.getElem_cons_zero]
            refine wpAnyH_take (i := 6) (v := .int .i64 0) rfl (by kernel_rfl) (by kernel_rfl) (by kernel_rfl) (fun _ _ _ h => h) (.inl ⟨by rfl, fun w' hw' => ?_⟩) hH14 ?_
            · go_simp
            try simp only [Act.put, List.setIfInBounds_toArray, List.set_cons_zero, List.set_cons_succ, List.getElem_toArray, List.getElem_cons_succ, List.getElem_cons_zero]
            refine wpAnyH_ready (rs := [8]) (by kernel_rfl) (by simp) (AllReadyH.cons rfl (fun K hK => ?_) AllReadyH.nil)
            rw [if_pos (by rfl)]
            refine op_alloc 93 16 (by kernel_rfl) (by kernel_rfl) zeroW ?_
            have kbB15 := Blk.new (w14) (#[.int .u64 0, .int .u64 0, .int .u64 0, .int .u64 0] : Array Value) 93
            have hH15 := hH14.alloc (.cells (#[.int .u64 0, .int .u64 0, .int .u64 0, .int .u64 0] : Array Value) 93)
            have hgeB15 := hH14.size
            have kbA15 := kbA14.alloc (.cells (#[.int .u64 0, .int .u64 0, .int .u64 0, .int .u64 0] : Array Value) 93)
            have hneAB15 := kbA14.lt
            obtain ⟨gB15, hgg15⟩ : ∃ g, g = (w14).heap.size := ⟨_, rfl⟩
            rw [← hgg15] at kbB15 hgeB15 hneAB15 ⊢
            generalize (w14).alloc (.cells (#[.int .u64 0, .int .u64 0, .int .u64 0, .int .u64 0] : Array Value) 93) = w15 at hH15 kbA15 kbB15 ⊢
            clear hgg15
            refine hK.out _ _ hH15 (fun _ => ?_)
            try simp only [Act.put, List.setIfInBounds_toArray, List.set_cons_zero, List.set_cons_succ]
            refine wpAnyH_ready (rs := [9]) (by kernel_rfl) (by simp) (AllReadyH.cons rfl (fun K hK => ?_) AllReadyH.nil)
            rw [if_pos (by rfl)]
            refine op_store 93 (.tmp 15) (.tmp 69) (by kernel_rfl) (by kernel_rfl) rfl (cs := [.int .u64 q0, .int .u64 q1, .int .u64 q2, .int .u64 q3]) rfl kbA15 (by simp) infoW (by simp [Value.oneCell']) ?_
            intro w16 kbA16 hc16
            have hH16 : Chg [] wf w16 := hH15.trans hc16 (by simp; omega)
            have kbB16 := kbB15.chg hc16 (by simp; omega)
            refine hK.out _ _ hH16 (fun _ => ?_)
            try simp only [Act.put, List.setIfInBounds_toArray, List.set_cons_zero, List.set_cons_succ, List.getElem_toArray, List.getElem_cons_succ, List.getElem_cons_zero]
            refine wpAnyH_ready (rs := [10]) (by kernel_rfl) (by simp) (AllReadyH.cons rfl (fun K hK => ?_) AllReadyH.nil)
            rw [if_pos (by rfl)]
            refine op_store 93 (.tmp 16) (.tmp 70) (by kernel_rfl) (by kernel_rfl) rfl (cs := [.int .u64 r0, .int .u64 r1, .int .u64 r2, .int .u64 r3]) rfl kbB16 (by simp) infoW (by simp [Value.oneCell']) ?_
            intro w17 kbB17 hc17
            have hH17 : Chg [] wf w17 := hH16.trans hc17 (by simp; omega)
            have kbA17 := kbA16.chg hc17 (by simp; omega)
            refine hK.out _ _ hH17 (fun _ => ?_)
            try simp only [Act.put, List.setIfInBounds_toArray, List.set_cons_zero, List.set_cons_succ, List.getElem_toArray, List.getElem_cons_succ, List.getElem_cons_zero]
            refine wpAnyH_ready (rs := [11]) (by kernel_rfl) (by simp) (AllReadyH.cons rfl (fun K hK => ?_) AllReadyH.nil)
            go_simp
            refine hK.out _ _ hH17 (fun _ => ?_)
            try simp only [Act.put, List.setIfInBounds_toArray, List.set_cons_zero, List.set_cons_succ, List.getElem_toArray, List.getElem_cons_succ, List.getElem_cons_zero]
            refine wpAnyH_done (by kernel_rfl) ?_ _
            go_wp2_with fail
            go_meet
            exact ⟨gA13, rfl, kbA17, by omega, hH17⟩
          · rw [if_pos (by rfl)]
            refine op_alloc 93 16 (by kernel_rfl) (by kernel_rfl) zeroW ?_
            have kbB19 := Blk.new (w13) (#[.int .u64 0, .int .u64 0, .int .u64 0, .int .u64 0] : Array Value) 93
            have hH19 := hH13.alloc (.cells (#[.int .u64 0, .int .u64 0, .int .u64 0, .int .u64 0] : Array Value) 93)
            have hgeB19 := hH13.size
            have kbA19 := kbA13.alloc (.cells (#[.int .u64 0, .int .u64 0, .int .u64 0, .int .u64 0] : Array Value) 93)
            have hneAB19 := kbA13.lt
            obtain ⟨gB19, hgg19⟩ : ∃ g, g = (w13).heap.size := ⟨_, rfl⟩
            rw [← hgg19] at kbB19 hgeB19 hneAB19 ⊢
            generalize (w13).alloc (.cells (#[.int .u64 0, .int .u64 0, .int .u64 0, .int .u64 0] : Array Value) 93) = w19 at hH19 kbA19 kbB19 ⊢
            clear hgg19
            refine hK.out _ _ hH19 (fun _ => ?_)
            try simp only [Act.put, List.setIfInBounds_toArray, List.set_cons_zero, List.set_cons_succ]
            refine wpAnyH_ready (rs := [2]) (by kernel_rfl) (by simp) (AllReadyH.cons rfl (fun K hK => ?_) AllReadyH.nil)
            try rw [if_pos (by rfl)]
            go_simp
            go_at_call 56
            refine (hdiv _).mono ?_
            rintro e20 w20 ⟨rfl, hc20⟩
            dsimp only
            have hH20 := hH19.trans hc20 (by simp)
            have kbA20 := kbA19.chg hc20 (by simp)
            have kbB20 := kbB19.chg hc20 (by simp)
            refine hK.out _ _ hH20 (fun _ => ?_)
            try simp only [Act.put, List.setIfInBounds_toArray, List.set_cons_zero, List.set_cons_succ, List.getElem_toArray, List.getElem_cons_succ, List.getElem_cons_zero]
            refine wpAnyH_take (i := 3) (v := .tuple #[.agg #[.int .u64 q0, .int .u64 q1, .int .u64 q2, .int .u64 q3], .agg #[.int .u64 r0, .int .u64 r1, .int .u64 r2, .int .u64 r3], .int .i64 0]) rfl (by kernel_rfl) (by kernel_rfl) (by kernel_rfl) (fun _ _ _ h => h) (.inl ⟨by rfl, fun w' hw' => ?_⟩) hH20 ?_
            · go_simp
            try simp only [Act.put, List.setIfInBounds_toArray, List.set_cons_zero, List.set_cons_succ, List.getElem_toArray, List.getElem_cons_succ, List.getElem_cons_zero]
            refine wpAnyH_take (i := 4) (v := .agg #[.int .u64 q0, .int .u64 q1, .int .u64 q2, .int .u64 q3]) rfl (by kernel_rfl) (by kernel_rfl) (by kernel_rfl) (fun _ _ _ h => h) (.inl ⟨by rfl, fun w' hw' => ?_⟩) hH20 ?_
            · go_simp
            try simp only [Act.put, List.setIfInBounds_toArray, List.set_cons_zero, List.set_cons_succ, List.getElem_toArray, List.getElem_cons_succ, List.getElem_cons_zero]
            refine wpAnyH_take (i := 5) (v := .agg #[.int .u64 r0, .int .u64 r1, .int .u64 r2, .int .u64 r3]) rfl (by kernel_rfl) (by kernel_rfl) (by kernel_rfl) (fun _ _ _ h => h) (.inl ⟨by rfl, fun w' hw' => ?_⟩) hH20 ?_
            · go_simp
            try simp only [Act.put, List.setIfInBounds_toArray, List.set_cons_zero, List.set_cons_succ, List.getElem_toArray, List.getElem_cons_succ, List.getElem_cons_zero]
            refine wpAnyH_take (i := 6) (v := .int .i64 0) rfl (by kernel_rfl) (by kernel_rfl) (by kernel_rfl) (fun _ _ _ h => h) (.inl ⟨by rfl, fun w' hw' => ?_⟩) hH20 ?_
            · go_simp
            try simp only [Act.put, List.setIfInBounds_toArray, List.set_cons_zero, List.set_cons_succ, List.getElem_toArray, List.getElem_cons_succ, List.getElem_cons_zero]
            refine wpAnyH_ready (rs := [9]) (by kernel_rfl) (by simp) (AllReadyH.cons rfl (fun K hK => ?_) AllReadyH.nil)
            rw [if_pos (by rfl)]
            refine op_store 93 (.tmp 15) (.tmp 69) (by kernel_rfl) (by kernel_rfl) rfl (cs := [.int .u64 q0, .int .u64 q1, .int .u64 q2, .int .u64 q3]) rfl kbA20 (by simp) infoW (by simp [Value.oneCell']) ?_
            intro w21 kbA21 hc21
            have hH21 : Chg [] wf w21 := hH20.trans hc21 (by simp; omega)
            have kbB21 := kbB20.chg hc21 (by simp; omega)
            refine hK.out _ _ hH21 (fun _ => ?_)
            try simp only [Act.put, List.setIfInBounds_toArray, List.set_cons_zero, List.set_cons_succ, List.getElem_toArray, List.getElem_cons_succ, List.getElem_cons_zero]
            refine wpAnyH_ready (rs := [10]) (by kernel_rfl) (by simp) (AllReadyH.cons rfl (fun K hK => ?_) AllReadyH.nil)
            rw [if_pos (by rfl)]
            refine op_store 93 (.tmp 16) (.tmp 70) (by kernel_rfl) (by kernel_rfl) rfl (cs := [.int .u64 r0, .int .u64 r1, .int .u64 r2, .int .u64 r3]) rfl kbB21 (by simp) infoW (by simp [Value.oneCell']) ?_
            intro w22 kbB22 hc22
            have hH22 : Chg [] wf w22 := hH21.trans hc22 (by simp; omega)
            have kbA22 := kbA21.chg hc22 (by simp; omega)
            refine hK.out _ _ hH22 (fun _ => ?_)
            try simp only [Act.put, List.setIfInBounds_toArray, List.set_cons_zero, List.set_cons_succ, List.getElem_toArray, List.getElem_cons_succ, List.getElem_cons_zero]
            refine wpAnyH_ready (rs := [11]) (by kernel_rfl) (by simp) (AllReadyH.cons rfl (fun K hK => ?_) AllReadyH.nil)
            go_simp
            refine hK.out _ _ hH22 (fun _ => ?_)
            try simp only [Act.put, List.setIfInBounds_toArray, List.set_cons_zero, List.set_cons_succ, List.getElem_toArray, List.getElem_cons_succ, List.getElem_cons_zero]
            refine wpAnyH_done (by kernel_rfl) ?_ _
            go_wp2_with fail
            go_meet
            exact ⟨gA13, rfl, kbA22, by omega, hH22⟩
        · rw [if_pos (by rfl)]
          refine op_alloc 93 16 (by kernel_rfl) (by kernel_rfl) zeroW ?_
          have kbB24 := Blk.new (w1) (#[.int .u64 0, .int .u64 0, .int .u64 0, .int .u64 0] : Array Value) 93
          have hH24 := hH1.alloc (.cells (#[.int .u64 0, .int .u64 0, .int .u64 0, .int .u64 0] : Array Value) 93)
          have hgeB24 := hH1.size
          obtain ⟨gB24, hgg24⟩ : ∃ g, g = (w1).heap.size := ⟨_, rfl⟩
          rw [← hgg24] at kbB24 hgeB24 ⊢
          generalize (w1).alloc (.cells (#[.int .u64 0, .int .u64 0, .int .u64 0, .int .u64 0] : Array Value) 93) = w24 at hH24 kbB24 ⊢
          clear hgg24
          refine hK.out _ _ hH24 (fun _ => ?_)
          try simp only [Act.put, List.setIfInBounds_toArray, List.set_cons_zero, List.set_cons_succ]
          refine wpAnyH_ready (rs := [2, 7]) (by kernel_rfl) (by simp) (AllReadyH.cons rfl (fun K hK => ?_) (AllReadyH.cons rfl (fun K hK => ?_) AllReadyH.nil))
          · try rw [if_pos (by rfl)]
            go_simp
            go_at_call 56
            refine (hdiv _).mono ?_
            rintro e25 w25 ⟨rfl, hc25⟩
            dsimp only
            have hH25 := hH24.trans hc25 (by simp)
            have kbB25 := kbB24.chg hc25 (by simp)
            refine hK.out _ _ hH25 (fun _ => ?_)
            try simp only [Act.put, List.setIfInBounds_toArray, List.set_cons_zero, List.set_cons_succ, List.getElem_toArray, List.getElem_cons_succ, List.getElem_cons_zero]
            refine wpAnyH_take (i := 3) (v := .tuple #[.agg #[.int .u64 q0, .int .u64 q1, .int .u64 q2, .int .u64 q3], .agg #[.int .u64 r0, .int .u64 r1, .int .u64 r2, .int .u64 r3], .int .i64 0]) rfl (by kernel_rfl) (by kernel_rfl) (by kernel_rfl) (fun _ _ _ h => h) (.inl ⟨by rfl, fun w' hw' => ?_⟩) hH25 ?_
            · go_simp
            try simp only [Act.put, List.setIfInBounds_toArray, List.set_cons_zero, List.set_cons_succ, List.getElem_toArray, List.getElem_cons_succ, List.getElem_cons_zero]
            refine wpAnyH_take (i := 4) (v := .agg #[.int .u64 q0, .int .u64 q1, .int .u64 q2, .int .u64 q3]) rfl (by kernel_rfl) (by kernel_rfl) (by kernel_rfl) (fun _ _ _ h => h) (.inl ⟨by rfl, fun w' hw' => ?_⟩) hH25 ?_
            · go_simp
            try simp only [Act.put, List.setIfInBounds_toArray, List.set_cons_zero, List.set_cons_succ, List.getElem_toArray, List.getElem_cons_succ, List.getElem_cons_zero]
            refine wpAnyH_take (i := 5) (v := .agg #[.int .u64 r0, .int .u64 r1, .int .u64 r2, .int .u64 r3]) rfl (by kernel_rfl) (by kernel_rfl) (by kernel_rfl) (fun _ _ _ h => h) (.inl ⟨by rfl, fun w' hw' => ?_⟩) hH25 ?_
            · go_simp
            try simp only [Act.put, List.setIfInBounds_toArray, List.set_cons_zero, List.set_cons_succ, List.getElem_toArray, List.getElem_cons_succ, List.getElem_cons_zero]
            refine wpAnyH_take (i := 6) (v := .int .i64 0) rfl (by kernel_rfl) (by kernel_rfl) (by kernel_rfl) (fun _ _ _ h => h) (.inl ⟨by rfl, fun w' hw' => ?_⟩) hH25 ?_
            · go_simp
            try simp only [Act.put, List.setIfInBounds_toArray, List.set_cons_zero, List.set_cons_succ, List.getElem_toArray, List.getElem_cons_succ, List.getElem_cons_zero]
            refine wpAnyH_ready (rs := [7]) (by kernel_rfl) (by simp) (AllReadyH.cons rfl (fun K hK => ?_) AllReadyH.nil)
            rw [if_pos (by rfl)]
            refine op_alloc 93 15 (by kernel_rfl) (by kernel_rfl) zeroW ?_
            have kbA26 := Blk.new (w25) (#[.int .u64 0, .int .u64 0, .int .u64 0, .int .u64 0] : Array Value) 93
            have hH26 := hH25.alloc (.cells (#[.int .u64 0, .int .u64 0, .int .u64 0, .int .u64 0] : Array Value) 93)
            have hgeA26 := hH25.size
            have kbB26 := kbB25.alloc (.cells (#[.int .u64 0, .int .u64 0, .int .u64 0, .int .u64 0] : Array Value) 93)
            have hneBA26 := kbB25.lt
            obtain ⟨gA26, hgg26⟩ : ∃ g, g = (w25).heap.size := ⟨_, rfl⟩
            rw [← hgg26] at kbA26 hgeA26 hneBA26 ⊢
            generalize (w25).alloc (.cells (#[.int .u64 0, .int .u64 0, .int .u64 0, .int .u64 0] : Array Value) 93) = w26 at hH26 kbB26 kbA26 ⊢
            clear hgg26
            refine hK.out _ _ hH26 (fun _ => ?_)
            try simp only [Act.put, List.setIfInBounds_toArray, List.set_cons_zero, List.set_cons_succ]
            refine wpAnyH_ready (rs := [9]) (by kernel_rfl) (by simp) (AllReadyH.cons rfl (fun K hK => ?_) AllReadyH.nil)
            rw [if_pos (by rfl)]
            refine op_store 93 (.tmp 15) (.tmp 69) (by kernel_rfl) (by kernel_rfl) rfl (cs := [.int .u64 q0, .int .u64 q1, .int .u64 q2, .int .u64 q3]) rfl kbA26 (by simp) infoW (by simp [Value.oneCell']) ?_
            intro w27 kbA27 hc27
            have hH27 : Chg [] wf w27 := hH26.trans hc27 (by simp; omega)
            have kbB27 := kbB26.chg hc27 (by simp; omega)
            refine hK.out _ _ hH27 (fun _ => ?_)
            try simp only [Act.put, List.setIfInBounds_toArray, List.set_cons_zero, List.set_cons_succ, List.getElem_toArray, List.getElem_cons_succ, List.getElem_cons_zero]
            refine wpAnyH_ready (rs := [10]) (by kernel_rfl) (by simp) (AllReadyH.cons rfl (fun K hK => ?_) AllReadyH.nil)
            rw [if_pos (by rfl)]
            refine op_store 93 (.tmp 16) (.tmp 70) (by kernel_rfl) (by kernel_rfl) rfl (cs := [.int .u64 r0, .int .u64 r1, .int .u64 r2, .int .u64 r3]) rfl kbB27 (by simp) infoW (by simp [Value.oneCell']) ?_
            intro w28 kbB28 hc28
            have hH28 : Chg [] wf w28 := hH27.trans hc28 (by simp; omega)
            have kbA28 := kbA27.chg hc28 (by simp; omega)
            refine hK.out _ _ hH28 (fun _ => ?_)
            try simp only [Act.put, List.setIfInBounds_toArray, List.set_cons_zero, List.set_cons_succ, List.getElem_toArray, List.getElem_cons_succ, List.getElem_cons_zero]
            refine wpAnyH_ready (rs := [11]) (by kernel_rfl) (by simp) (AllReadyH.cons rfl (fun K hK => ?_) AllReadyH.nil)
            go_simp
            refine hK.out _ _ hH28 (fun _ => ?_)
            try simp only [Act.put, List.setIfInBounds_toArray, List.set_cons_zero, List.set_cons_succ, List.getElem_toArray, List.getElem_cons_succ, List.getElem_cons_zero]
            refine wpAnyH_done (by kernel_rfl) ?_ _
            go_wp2_with fail
            go_meet
            exact ⟨gA26, rfl, kbA28, by omega, hH28⟩
          · rw [if_pos (by rfl)]
            refine op_alloc 93 15 (by kernel_rfl) (by kernel_rfl) zeroW ?_
            have kbA30 := Blk.new (w24) (#[.int .u64 0, .int .u64 0, .int .u64 0, .int .u64 0] : Array Value) 93
            have hH30 := hH24.alloc (.cells (#[.int .u64 0, .int .u64 0, .int .u64 0, .int .u64 0] : Array Value) 93)
            have hgeA30 := hH24.size
            have kbB30 := kbB24.alloc (.cells (#[.int .u64 0, .int .u64 0, .int .u64 0, .int .u64 0] : Array Value) 93)
            have hneBA30 := kbB24.lt
            obtain ⟨gA30, hgg30⟩ : ∃ g, g = (w24).heap.size := ⟨_, rfl⟩
            rw [← hgg30] at kbA30 hgeA30 hneBA30 ⊢
            generalize (w24).alloc (.cells (#[.int .u64 0, .int .u64 0, .int .u64 0, .int .u64 0] : Array Value) 93) = w30 at hH30 kbB30 kbA30 ⊢
            clear hgg30
            refine hK.out _ _ hH30 (fun _ => ?_)
            try simp only [Act.put, List.setIfInBounds_toArray, List.set_cons_zero, List.set_cons_succ]
            refine wpAnyH_ready (rs := [2]) (by kernel_rfl) (by simp) (AllReadyH.cons rfl (fun K hK => ?_) AllReadyH.nil)
            try rw [if_pos (by rfl)]
            go_simp
            go_at_call 56
            refine (hdiv _).mono ?_
            rintro e31 w31 ⟨rfl, hc31⟩
            dsimp only
            have hH31 := hH30.trans hc31 (by simp)
            have kbB31 := kbB30.chg hc31 (by simp)
            have kbA31 := kbA30.chg hc31 (by simp)
            refine hK.out _ _ hH31 (fun _ => ?_)
            try simp only [Act.put, List.setIfInBounds_toArray, List.set_cons_zero, List.set_cons_succ, List.getElem_toArray, List.getElem_cons_succ, List.getElem_cons_zero]
            refine wpAnyH_take (i := 3) (v := .tuple #[.agg #[.int .u64 q0, .int .u64 q1, .int .u64 q2, .int .u64 q3], .agg #[.int .u64 r0, .int .u64 r1, .int .u64 r2, .int .u64 r3], .int .i64 0]) rfl (by kernel_rfl) (by kernel_rfl) (by kernel_rfl) (fun _ _ _ h => h) (.inl ⟨by rfl, fun w' hw' => ?_⟩) hH31 ?_
            · go_simp
            try simp only [Act.put, List.setIfInBounds_toArray, List.set_cons_zero, List.set_cons_succ, List.getElem_toArray, List.getElem_cons_succ, List.getElem_cons_zero]
            refine wpAnyH_take (i := 4) (v := .agg #[.int .u64 q0, .int .u64 q1, .int .u64 q2, .int .u64 q3]) rfl (by kernel_rfl) (by kernel_rfl) (by kernel_rfl) (fun _ _ _ h => h) (.inl ⟨by rfl, fun w' hw' => ?_⟩) hH31 ?_
            · go_simp
            try simp only [Act.put, List.setIfInBounds_toArray, List.set_cons_zero, List.set_cons_succ, List.getElem_toArray, List.getElem_cons_succ, List.getElem_cons_zero]
            refine wpAnyH_take (i := 5) (v := .agg #[.int .u64 r0, .int .u64 r1, .int .u64 r2, .int .u64 r3]) rfl (by kernel_rfl) (by kernel_rfl) (by kernel_rfl) (fun _ _ _ h => h) (.inl ⟨by rfl, fun w' hw' => ?_⟩) hH31 ?_
            · go_simp
            try simp only [Act.put, List.setIfInBounds_toArray, List.set_cons_zero, List.set_cons_succ, List.getElem_toArray, List.getElem_cons_succ, List.getElem_cons_zero]
            refine wpAnyH_take (i := 6) (v := .int .i64 0) rfl (by kernel_rfl) (by kernel_rfl) (by kernel_rfl) (fun _ _ _ h => h) (.inl ⟨by rfl, fun w' hw' => ?_⟩) hH31 ?_
            · go_simp
            try simp only [Act.put, List.setIfInBounds_toArray, List.set_cons_zero, List.set_cons_succ, List.getElem_toArray, List.getElem_cons_succ, List.getElem_cons_zero]
            refine wpAnyH_ready (rs := [9]) (by kernel_rfl) (by simp) (AllReadyH.cons rfl (fun K hK => ?_) AllReadyH.nil)
            rw [if_pos (by rfl)]
            refine op_store 93 (.tmp 15) (.tmp 69) (by kernel_rfl) (by kernel_rfl) rfl (cs := [.int .u64 q0, .int .u64 q1, .int .u64 q2, .int .u64 q3]) rfl kbA31 (by simp) infoW (by simp [Value.oneCell']) ?_
            intro w32 kbA32 hc32
            have hH32 : Chg [] wf w32 := hH31.trans hc32 (by simp; omega)
            have kbB32 := kbB31.chg hc32 (by simp; omega)
            refine hK.out _ _ hH32 (fun _ => ?_)
            try simp only [Act.put, List.setIfInBounds_toArray, List.set_cons_zero, List.set_cons_succ, List.getElem_toArray, List.getElem_cons_succ, List.getElem_cons_zero]
            refine wpAnyH_ready (rs := [10]) (by kernel_rfl) (by simp) (AllReadyH.cons rfl (fun K hK => ?_) AllReadyH.nil)
            rw [if_pos (by rfl)]
            refine op_store 93 (.tmp 16) (.tmp 70) (by kernel_rfl) (by kernel_rfl) rfl (cs := [.int .u64 r0, .int .u64 r1, .int .u64 r2, .int .u64 r3]) rfl kbB32 (by simp) infoW (by simp [Value.oneCell']) ?_
            intro w33 kbB33 hc33
            have hH33 : Chg [] wf w33 := hH32.trans hc33 (by simp; omega)
            have kbA33 := kbA32.chg hc33 (by simp; omega)
            refine hK.out _ _ hH33 (fun _ => ?_)
            try simp only [Act.put, List.setIfInBounds_toArray, List.set_cons_zero, List.set_cons_succ, List.getElem_toArray, List.getElem_cons_succ, List.getElem_cons_zero]
            refine wpAnyH_ready (rs := [11]) (by kernel_rfl) (by simp) (AllReadyH.cons rfl (fun K hK => ?_) AllReadyH.nil)
            go_simp
            refine hK.out _ _ hH33 (fun _ => ?_)
            try simp only [Act.put, List.setIfInBounds_toArray, List.set_cons_zero, List.set_cons_succ, List.getElem_toArray, List.getElem_cons_succ, List.getElem_cons_zero]
            refine wpAnyH_done (by kernel_rfl) ?_ _
            go_wp2_with fail
            go_meet
            exact ⟨gA30, rfl, kbA33, by omega, hH33⟩
      · rw [if_pos (by rfl)]
        refine op_alloc 93 15 (by kernel_rfl) (by kernel_rfl) zeroW ?_
        have kbA35 := Blk.new ((wf).drew) (#[.int .u64 0, .int .u64 0, .int .u64 0, .int .u64 0] : Array Value) 93
        have hH35 := hH.alloc (.cells (#[.int .u64 0, .int .u64 0, .int .u64 0, .int .u64 0] : Array Value) 93)
        have hgeA35 := hH.size
        obtain ⟨gA35, hgg35⟩ : ∃ g, g = ((wf).drew).heap.size := ⟨_, rfl⟩
        rw [← hgg35] at kbA35 hgeA35 ⊢
        generalize ((wf).drew).alloc (.cells (#[.int .u64 0, .int .u64 0, .int .u64 0, .int .u64 0] : Array Value) 93) = w35 at hH35 kbA35 ⊢
        clear hgg35
        refine hK.out _ _ hH35 (fun _ => ?_)
        try simp only [Act.put, List.setIfInBounds_toArray, List.set_cons_zero, List.set_cons_succ]
        refine wpAnyH_ready (rs := [1, 8]) (by kernel_rfl) (by simp) (AllReadyH.cons rfl (fun K hK => ?_) (AllReadyH.cons rfl (fun K hK => ?_) AllReadyH.nil))
        · try rw [if_pos (by rfl)]
          go_simp
          go_at_call 57
          refine (hof _).mono ?_
          rintro e36 w36 ⟨rfl, hc36⟩
          dsimp only
          have hH36 := hH35.trans hc36 (by simp)
          have kbA36 := kbA35.chg hc36 (by simp)
          refine hK.out _ _ hH36 (fun _ => ?_)
          try simp only [Act.put, List.setIfInBounds_toArray, List.set_cons_zero, List.set_cons_succ, List.getElem_toArray, List.getElem_cons_succ, List.getElem_cons_zero]
          refine wpAnyH_ready (rs := [2, 8]) (by kernel_rfl) (by simp) (AllReadyH.cons rfl (fun K hK => ?_) (AllReadyH.cons rfl (fun K hK => ?_) AllReadyH.nil))
          · try rw [if_pos (by rfl)]
            go_simp
            go_at_call 56
            refine (hdiv _).mono ?_
            rintro e37 w37 ⟨rfl, hc37⟩
            dsimp only
            have hH37 := hH36.trans hc37 (by simp)
            have kbA37 := kbA36.chg hc37 (by simp)
            refine hK.out _ _ hH37 (fun _ => ?_)
            try simp only [Act.put, List.setIfInBounds_toArray, List.set_cons_zero, List.set_cons_succ, List.getElem_toArray, List.getElem_cons_succ, List.getElem_cons_zero]
            refine wpAnyH_take (i := 3) (v := .tuple #[.agg #[.int .u64 q0, .int .u64 q1, .int .u64 q2, .int .u64 q3], .agg #[.int .u64 r0, .int .u64 r1, .int .u64 r2, .int .u64 r3], .int .i64 0]) rfl (by kernel_rfl) (by kernel_rfl) (by kernel_rfl) (fun _ _ _ h => h) (.inl ⟨by rfl, fun w' hw' => ?_⟩) hH37 ?_
            · go_simp
            try simp only [Act.put, List.setIfInBounds_toArray, List.set_cons_zero, List.set_cons_succ, List.getElem_toArray, List.getElem_cons_succ, List.getElem_cons_zero]
            refine wpAnyH_take (i := 4) (v := .agg #[.int .u64 q0, .int .u64 q1, .int .u64 q2, .int .u64 q3]) rfl (by kernel_rfl) (by kernel_rfl) (by kernel_rfl) (fun _ _ _ h => h) (.inl ⟨by rfl, fun w' hw' => ?_⟩) hH37 ?_
            · go_simp
            try simp only [Act.put, List.setIfInBounds_toArray, List.set_cons_zero, List.set_cons_succ, List.getElem_toArray, List.getElem_cons_succ, List.getElem_cons_zero]
            refine wpAnyH_take (i := 5) (v := .agg #[.int .u64 r0, .int .u64 r1, .int .u64 r2, .int .u64 r3]) rfl (by kernel_rfl) (by kernel_rfl) (by kernel_rfl) (fun _ _ _ h => h) (.inl ⟨by rfl, fun w' hw' => ?_⟩) hH37 ?_
            · go_simp
            try simp only [Act.put, List.setIfInBounds_toArray, List.set_cons_zero, List.set_cons_succ, List.getElem_toArray, List.getElem_cons_succ, List.getElem_cons_zero]
            refine wpAnyH_take (i := 6) (v := .int .i64 0) rfl (by kernel_rfl) (by kernel_rfl) (by kernel_rfl) (fun _ _ _ h => h) (.inl ⟨by rfl, fun w' hw' => ?_⟩) hH37 ?_
            · go_simp
            try simp only [Act.put, List.setIfInBounds_toArray, List.set_cons_zero, List.set_cons_succ, List.getElem_toArray, List.getElem_cons_succ, List.getElem_cons_zero]
            refine wpAnyH_ready (rs := [8]) (by kernel_rfl) (by simp) (AllReadyH.cons rfl (fun K hK => ?_) AllReadyH.nil)
            rw [if_pos (by rfl)]
            refine op_alloc 93 16 (by kernel_rfl) (by kernel_rfl) zeroW ?_
            have kbB38 := Blk.new (w37) (#[.int .u64 0, .int .u64 0, .int .u64 0, .int .u64 0] : Array Value) 93
            have hH38 := hH37.alloc (.cells (#[.int .u64 0, .int .u64 0, .int .u64 0, .int .u64 0] : Array Value) 93)
            have hgeB38 := hH37.size
            have kbA38 := kbA37.alloc (.cells (#[.int .u64 0, .int .u64 0, .int .u64 0, .int .u64 0] : Array Value) 93)
            have hneAB38 := kbA37.lt
            obtain ⟨gB38, hgg38⟩ : ∃ g, g = (w37).heap.size := ⟨_, rfl⟩
            rw [← hgg38] at kbB38 hgeB38 hneAB38 ⊢
            generalize (w37).alloc (.cells (#[.int .u64 0, .int .u64 0, .int .u64 0, .int .u64 0] : Array Value) 93) = w38 at hH38 kbA38 kbB38 ⊢
            clear hgg38
            refine hK.out _ _ hH38 (fun _ => ?_)
            try simp only [Act.put, List.setIfInBounds_toArray, List.set_cons_zero, List.set_cons_succ]
            refine wpAnyH_ready (rs := [9]) (by kernel_rfl) (by simp) (AllReadyH.cons rfl (fun K hK => ?_) AllReadyH.nil)
            rw [if_pos (by rfl)]
            refine op_store 93 (.tmp 15) (.tmp 69) (by kernel_rfl) (by kernel_rfl) rfl (cs := [.int .u64 q0, .int .u64 q1, .int .u64 q2, .int .u64 q3]) rfl kbA38 (by simp) infoW (by simp [Value.oneCell']) ?_
            intro w39 kbA39 hc39
            have hH39 : Chg [] wf w39 := hH38.trans hc39 (by simp; omega)
            have kbB39 := kbB38.chg hc39 (by simp; omega)
            refine hK.out _ _ hH39 (fun _ => ?_)
            try simp only [Act.put, List.setIfInBounds_toArray, List.set_cons_zero, List.set_cons_succ, List.getElem_toArray, List.getElem_cons_succ, List.getElem_cons_zero]
            refine wpAnyH_ready (rs := [10]) (by kernel_rfl) (by simp) (AllReadyH.cons rfl (fun K hK => ?_) AllReadyH.nil)
            rw [if_pos (by rfl)]
            refine op_store 93 (.tmp 16) (.tmp 70) (by kernel_rfl) (by kernel_rfl) rfl (cs := [.int .u64 r0, .int .u64 r1, .int .u64 r2, .int .u64 r3]) rfl kbB39 (by simp) infoW (by simp [Value.oneCell']) ?_
            intro w40 kbB40 hc40
            have hH40 : Chg [] wf w40 := hH39.trans hc40 (by simp; omega)
            have kbA40 := kbA39.chg hc40 (by simp; omega)
            refine hK.out _ _ hH40 (fun _ => ?_)
            try simp only [Act.put, List.setIfInBounds_toArray, List.set_cons_zero, List.set_cons_succ, List.getElem_toArray, List.getElem_cons_succ, List.getElem_cons_zero]
            refine wpAnyH_ready (rs := [11]) (by kernel_rfl) (by simp) (AllReadyH.cons rfl (fun K hK => ?_) AllReadyH.nil)
            go_simp
            refine hK.out _ _ hH40 (fun _ => ?_)
            try simp only [Act.put, List.setIfInBounds_toArray, List.set_cons_zero, List.set_cons_succ, List.getElem_toArray, List.getElem_cons_succ, List.getElem_cons_zero]
            refine wpAnyH_done (by kernel_rfl) ?_ _
            go_wp2_with fail
            go_meet
            exact ⟨gA35, rfl, kbA40, by omega, hH40⟩
          · rw [if_pos (by rfl)]
            refine op_alloc 93 16 (by kernel_rfl) (by kernel_rfl) zeroW ?_
            have kbB42 := Blk.new (w36) (#[.int .u64 0, .int .u64 0, .int .u64 0, .int .u64 0] : Array Value) 93
            have hH42 := hH36.alloc (.cells (#[.int .u64 0, .int .u64 0, .int .u64 0, .int .u64 0] : Array Value) 93)
            have hgeB42 := hH36.size
            have kbA42 := kbA36.alloc (.cells (#[.int .u64 0, .int .u64 0, .int .u64 0, .int .u64 0] : Array Value) 93)
            have hneAB42 := kbA36.lt
            obtain ⟨gB42, hgg42⟩ : ∃ g, g = (w36).heap.size := ⟨_, rfl⟩
            rw [← hgg42] at kbB42 hgeB42 hneAB42 ⊢
            generalize (w36).alloc (.cells (#[.int .u64 0, .int .u64 0, .int .u64 0, .int .u64 0] : Array Value) 93) = w42 at hH42 kbA42 kbB42 ⊢
            clear hgg42
            refine hK.out _ _ hH42 (fun _ => ?_)
            try simp only [Act.put, List.setIfInBounds_toArray, List.set_cons_zero, List.set_cons_succ]
            refine wpAnyH_ready (rs := [2]) (by kernel_rfl) (by simp) (AllReadyH.cons rfl (fun K hK => ?_) AllReadyH.nil)
            try rw [if_pos (by rfl)]
            go_simp
            go_at_call 56
            refine (hdiv _).mono ?_
            rintro e43 w43 ⟨rfl, hc43⟩
            dsimp only
            have hH43 := hH42.trans hc43 (by simp)
            have kbA43 := kbA42.chg hc43 (by simp)
            have kbB43 := kbB42.chg hc43 (by simp)
            refine hK.out _ _ hH43 (fun _ => ?_)
            try simp only [Act.put, List.setIfInBounds_toArray, List.set_cons_zero, List.set_cons_succ, List.getElem_toArray, List.getElem_cons_succ, List.getElem_cons_zero]
            refine wpAnyH_take (i := 3) (v := .tuple #[.agg #[.int .u64 q0, .int .u64 q1, .int .u64 q2, .int .u64 q3], .agg #[.int .u64 r0, .int .u64 r1, .int .u64 r2, .int .u64 r3], .int .i64 0]) rfl (by kernel_rfl) (by kernel_rfl) (by kernel_rfl) (fun _ _ _ h => h) (.inl ⟨by rfl, fun w' hw' => ?_⟩) hH43 ?_
            · go_simp
            try simp only [Act.put, List.setIfInBounds_toArray, List.set_cons_zero, List.set_cons_succ, List.getElem_toArray, List.getElem_cons_succ, List.getElem_cons_zero]
            refine wpAnyH_take (i := 4) (v := .agg #[.int .u64 q0, .int .u64 q1, .int .u64 q2, .int .u64 q3]) rfl (by kernel_rfl) (by kernel_rfl) (by kernel_rfl) (fun _ _ _ h => h) (.inl ⟨by rfl, fun w' hw' => ?_⟩) hH43 ?_
            · go_simp
            try simp only [Act.put, List.setIfInBounds_toArray, List.set_cons_zero, List.set_cons_succ, List.getElem_toArray, List.getElem_cons_succ, List.getElem_cons_zero]
            refine wpAnyH_take (i := 5) (v := .agg #[.int .u64 r0, .int .u64 r1, .int .u64 r2, .int .u64 r3]) rfl (by kernel_rfl) (by kernel_rfl) (by kernel_rfl) (fun _ _ _ h => h) (.inl ⟨by rfl, fun w' hw' => ?_⟩) hH43 ?_
            · go_simp
            try simp only [Act.put, List.setIfInBounds_toArray, List.set_cons_zero, List.set_cons_succ, List.getElem_toArray, List.getElem_cons_succ, List.getElem_cons_zero]
            refine wpAnyH_take (i := 6) (v := .int .i64 0) rfl (by kernel_rfl) (by kernel_rfl) (by kernel_rfl) (fun _ _ _ h => h) (.inl ⟨by rfl, fun w' hw' => ?_⟩) hH43 ?_
            · go_simp
            try simp only [Act.put, List.setIfInBounds_toArray, List.set_cons_zero, List.set_cons_succ, List.getElem_toArray, List.getElem_cons_succ, List.getElem_cons_zero]
            refine wpAnyH_ready (rs := [9]) (by kernel_rfl) (by simp) (AllReadyH.cons rfl (fun K hK => ?_) AllReadyH.nil)
            rw [if_pos (by rfl)]
            refine op_store 93 (.tmp 15) (.tmp 69) (by kernel_rfl) (by kernel_rfl) rfl (cs := [.int .u64 q0, .int .u64 q1, .int .u64 q2, .int .u64 q3]) rfl kbA43 (by simp) infoW (by simp [Value.oneCell']) ?_
            intro w44 kbA44 hc44
            have hH44 : Chg [] wf w44 := hH43.trans hc44 (by simp; omega)
            have kbB44 := kbB43.chg hc44 (by simp; omega)
            refine hK.out _ _ hH44 (fun _ => ?_)
            try simp only [Act.put, List.setIfInBounds_toArray, List.set_cons_zero, List.set_cons_succ, List.getElem_toArray, List.getElem_cons_succ, List.getElem_cons_zero]
            refine wpAnyH_ready (rs := [10]) (by kernel_rfl) (by simp) (AllReadyH.cons rfl (fun K hK => ?_) AllReadyH.nil)
            rw [if_pos (by rfl)]
            refine op_store 93 (.tmp 16) (.tmp 70) (by kernel_rfl) (by kernel_rfl) rfl (cs := [.int .u64 r0, .int .u64 r1, .int .u64 r2, .int .u64 r3]) rfl kbB44 (by simp) infoW (by simp [Value.oneCell']) ?_
            intro w45 kbB45 hc45
            have hH45 : Chg [] wf w45 := hH44.trans hc45 (by simp; omega)
            have kbA45 := kbA44.chg hc45 (by simp; omega)
            refine hK.out _ _ hH45 (fun _ => ?_)
            try simp only [Act.put, List.setIfInBounds_toArray, List.set_cons_zero, List.set_cons_succ, List.getElem_toArray, List.getElem_cons_succ, List.getElem_cons_zero]
            refine wpAnyH_ready (rs := [11]) (by kernel_rfl) (by simp) (AllReadyH.cons rfl (fun K hK => ?_) AllReadyH.nil)
            go_simp
            refine hK.out _ _ hH45 (fun _ => ?_)
            try simp only [Act.put, List.setIfInBounds_toArray, List.set_cons_zero, List.set_cons_succ, List.getElem_toArray, List.getElem_cons_succ, List.getElem_cons_zero]
            refine wpAnyH_done (by kernel_rfl) ?_ _
            go_wp2_with fail
            go_meet
            exact ⟨gA35, rfl, kbA45, by omega, hH45⟩
        · rw [if_pos (by rfl)]
          refine op_alloc 93 16 (by kernel_rfl) (by kernel_rfl) zeroW ?_
          have kbB47 := Blk.new (w35) (#[.int .u64 0, .int .u64 0, .int .u64 0, .int .u64 0] : Array Value) 93
          have hH47 := hH35.alloc (.cells (#[.int .u64 0, .int .u64 0, .int .u64 0, .int .u64 0] : Array Value) 93)
          have hgeB47 := hH35.size
          have kbA47 := kbA35.alloc (.cells (#[.int .u64 0, .int .u64 0, .int .u64 0, .int .u64 0] : Array Value) 93)
          have hneAB47 := kbA35.lt
          obtain ⟨gB47, hgg47⟩ : ∃ g, g = (w35).heap.size := ⟨_, rfl⟩
          rw [← hgg47] at kbB47 hgeB47 hneAB47 ⊢
          generalize (w35).alloc (.cells (#[.int .u64 0, .int .u64 0, .int .u64 0, .int .u64 0] : Array Value) 93) = w47 at hH47 kbA47 kbB47 ⊢
          clear hgg47
          refine hK.out _ _ hH47 (fun _ => ?_)
          try simp only [Act.put, List.setIfInBounds_toArray, List.set_cons_zero, List.set_cons_succ]
          refine wpAnyH_ready (rs := [1]) (by kernel_rfl) (by simp) (AllReadyH.cons rfl (fun K hK => ?_) AllReadyH.nil)
          try rw [if_pos (by rfl)]
          go_simp
          go_at_call 57
          refine (hof _).mono ?_
          rintro e48 w48 ⟨rfl, hc48⟩
          dsimp only
          have hH48 := hH47.trans hc48 (by simp)
          have kbA48 := kbA47.chg hc48 (by simp)
          have kbB48 := kbB47.chg hc48 (by simp)
          refine hK.out _ _ hH48 (fun _ => ?_)
          try simp only [Act.put, List.setIfInBounds_toArray, List.set_cons_zero, List.set_cons_succ, List.getElem_toArray, List.getElem_cons_succ, List.getElem_cons_zero]
          refine wpAnyH_ready (rs := [2]) (by kernel_rfl) (by simp) (AllReadyH.cons rfl (fun K hK => ?_) AllReadyH.nil)
          try rw [if_pos (by rfl)]
          go_simp
          go_at_call 56
          refine (hdiv _).mono ?_
          rintro e49 w49 ⟨rfl, hc49⟩
          dsimp only
          have hH49 := hH48.trans hc49 (by simp)
          have kbA49 := kbA48.chg hc49 (by simp)
          have kbB49 := kbB48.chg hc49 (by simp)
          refine hK.out _ _ hH49 (fun _ => ?_)
          try simp only [Act.put, List.setIfInBounds_toArray, List.set_cons_zero, List.set_cons_succ, List.getElem_toArray, List.getElem_cons_succ, List.getElem_cons_zero]
          refine wpAnyH_take (i := 3) (v := .tuple #[.agg #[.int .u64 q0, .int .u64 q1, .int .u64 q2, .int .u64 q3], .agg #[.int .u64 r0, .int .u64 r1, .int .u64 r2, .int .u64 r3], .int .i64 0]) rfl (by kernel_rfl) (by kernel_rfl) (by kernel_rfl) (fun _ _ _ h => h) (.inl ⟨by rfl, fun w' hw' => ?_⟩) hH49 ?_
          · go_simp
          try simp only [Act.put, List.setIfInBounds_toArray, List.set_cons_zero, List.set_cons_succ, List.getElem_toArray, List.getElem_cons_succ, List.getElem_cons_zero]
          refine wpAnyH_take (i := 4) (v := .agg #[.int .u64 q0, .int .u64 q1, .int .u64 q2, .int .u64 q3]) rfl (by kernel_rfl) (by kernel_rfl) (by kernel_rfl) (fun _ _ _ h => h) (.inl ⟨by rfl, fun w' hw' => ?_⟩) hH49 ?_
          · go_simp
          try simp only [Act.put, List.setIfInBounds_toArray, List.set_cons_zero, List.set_cons_succ, List.getElem_toArray, List.getElem_cons_succ, List.getElem_cons_zero]
          refine wpAnyH_take (i := 5) (v := .agg #[.int .u64 r0, .int .u64 r1, .int .u64 r2, .int .u64 r3]) rfl (by kernel_rfl) (by kernel_rfl) (by kernel_rfl) (fun _ _ _ h => h) (.inl ⟨by rfl, fun w' hw' => ?_⟩) hH49 ?_
          · go_simp
          try simp only [Act.put, List.setIfInBounds_toArray, List.set_cons_zero, List.set_cons_succ, List.getElem_toArray, List.getElem_cons_succ, List.getElem_cons_zero]
          refine wpAnyH_take (i := 6) (v := .int .i64 0) rfl (by kernel_rfl) (by kernel_rfl) (by kernel_rfl) (fun _ _ _ h => h) (.inl ⟨by rfl, fun w' hw' => ?_⟩) hH49 ?_
          · go_simp
          try simp only [Act.put, List.setIfInBounds_toArray, List.set_cons_zero, List.set_cons_succ, List.getElem_toArray, List.getElem_cons_succ, List.getElem_cons_zero]
          refine wpAnyH_ready (rs := [9]) (by kernel_rfl) (by simp) (AllReadyH.cons rfl (fun K hK => ?_) AllReadyH.nil)
          rw [if_pos (by rfl)]
          refine op_store 93 (.tmp 15) (.tmp 69) (by kernel_rfl) (by kernel_rfl) rfl (cs := [.int .u64 q0, .int .u64 q1, .int .u64 q2, .int .u64 q3]) rfl kbA49 (by simp) infoW (by simp [Value.oneCell']) ?_
          intro w50 kbA50 hc50
          have hH50 : Chg [] wf w50 := hH49.trans hc50 (by simp; omega)
          have kbB50 := kbB49.chg hc50 (by simp; omega)
          refine hK.out _ _ hH50 (fun _ => ?_)
          try simp only [Act.put, List.setIfInBounds_toArray, List.set_cons_zero, List.set_cons_succ, List.getElem_toArray, List.getElem_cons_succ, List.getElem_cons_zero]
          refine wpAnyH_ready (rs := [10]) (by kernel_rfl) (by simp) (AllReadyH.cons rfl (fun K hK => ?_) AllReadyH.nil)
          rw [if_pos (by rfl)]
          refine op_store 93 (.tmp 16) (.tmp 70) (by kernel_rfl) (by kernel_rfl) rfl (cs := [.int .u64 r0, .int .u64 r1, .int .u64 r2, .int .u64 r3]) rfl kbB50 (by simp) infoW (by simp [Value.oneCell']) ?_
          intro w51 kbB51 hc51
          have hH51 : Chg [] wf w51 := hH50.trans hc51 (by simp; omega)
          have kbA51 := kbA50.chg hc51 (by simp; omega)
          refine hK.out _ _ hH51 (fun _ => ?_)
          try simp only [Act.put, List.setIfInBounds_toArray, List.set_cons_zero, List.set_cons_succ, List.getElem_toArray, List.getElem_cons_succ, List.getElem_cons_zero]
          refine wpAnyH_ready (rs := [11]) (by kernel_rfl) (by simp) (AllReadyH.cons rfl (fun K hK => ?_) AllReadyH.nil)
          go_simp
          refine hK.out _ _ hH51 (fun _ => ?_)
          try simp only [Act.put, List.setIfInBounds_toArray, List.set_cons_zero, List.set_cons_succ, List.getElem_toArray, List.getElem_cons_succ, List.getElem_cons_zero]
          refine wpAnyH_done (by kernel_rfl) ?_ _
          go_wp2_with fail
          go_meet
          exact ⟨gA35, rfl, kbA51, by omega, hH51⟩
      · rw [if_pos (by rfl)]
        refine op_alloc 93 16 (by kernel_rfl) (by kernel_rfl) zeroW ?_
        have kbB53 := Blk.new ((wf).drew) (#[.int .u64 0, .int .u64 0, .int .u64 0, .int .u64 0] : Array Value) 93
        have hH53 := hH.alloc (.cells (#[.int .u64 0, .int .u64 0, .int .u64 0, .int .u64 0] : Array Value) 93)
        have hgeB53 := hH.size
        obtain ⟨gB53, hgg53⟩ : ∃ g, g = ((wf).drew).heap.size := ⟨_, rfl⟩
        rw [← hgg53] at kbB53 hgeB53 ⊢
        generalize ((wf).drew).alloc (.cells (#[.int .u64 0, .int .u64 0, .int .u64 0, .int .u64 0] : Array Value) 93) = w53 at hH53 kbB53 ⊢
        clear hgg53
        refine hK.out _ _ hH53 (fun _ => ?_)
        try simp only [Act.put, List.setIfInBounds_toArray, List.set_cons_zero, List.set_cons_succ]
        refine wpAnyH_ready (rs := [1, 7]) (by kernel_rfl) (by simp) (AllReadyH.cons rfl (fun K hK => ?_) (AllReadyH.cons rfl (fun K hK => ?_) AllReadyH.nil))
        · try rw [if_pos (by rfl)]
          go_simp
          go_at_call 57
          refine (hof _).mono ?_
          rintro e54 w54 ⟨rfl, hc54⟩
          dsimp only
          have hH54 := hH53.trans hc54 (by simp)
          have kbB54 := kbB53.chg hc54 (by simp)
          refine hK.out _ _ hH54 (fun _ => ?_)
          try simp only [Act.put, List.setIfInBounds_toArray, List.set_cons_zero, List.set_cons_succ, List.getElem_toArray, List.getElem_cons_succ, List.getElem_cons_zero]
          refine wpAnyH_ready (rs := [2, 7]) (by kernel_rfl) (by simp) (AllReadyH.cons rfl (fun K hK => ?_) (AllReadyH.cons rfl (fun K hK => ?_) AllReadyH.nil))
          · try rw [if_pos (by rfl)]
            go_simp
            go_at_call 56
            refine (hdiv _).mono ?_
            rintro e55 w55 ⟨rfl, hc55⟩
            dsimp only
            have hH55 := hH54.trans hc55 (by simp)
            have kbB55 := kbB54.chg hc55 (by simp)
            refine hK.out _ _ hH55 (fun _ => ?_)
            try simp only [Act.put, List.setIfInBounds_toArray, List.set_cons_zero, List.set_cons_succ, List.getElem_toArray, List.getElem_cons_succ, List.getElem_cons_zero]
            refine wpAnyH_take (i := 3) (v := .tuple #[.agg #[.int .u64 q0, .int .u64 q1, .int .u64 q2, .int .u64 q3], .agg #[.int .u64 r0, .int .u64 r1, .int .u64 r2, .int .u64 r3], .int .i64 0]) rfl (by kernel_rfl) (by kernel_rfl) (by kernel_rfl) (fun _ _ _ h => h) (.inl ⟨by rfl, fun w' hw' => ?_⟩) hH55 ?_
            · go_simp
            try simp only [Act.put, List.setIfInBounds_toArray, List.set_cons_zero, List.set_cons_succ, List.getElem_toArray, List.getElem_cons_succ, List.getElem_cons_zero]
            refine wpAnyH_take (i := 4) (v := .agg #[.int .u64 q0, .int .u64 q1, .int .u64 q2, .int .u64 q3]) rfl (by kernel_rfl) (by kernel_rfl) (by kernel_rfl) (fun _ _ _ h => h) (.inl ⟨by rfl, fun w' hw' => ?_⟩) hH55 ?_
            · go_simp
            try simp only [Act.put, List.setIfInBounds_toArray, List.set_cons_zero, List.set_cons_succ, List.getElem_toArray, List.getElem_cons_succ, List.getElem_cons_zero]
            refine wpAnyH_take (i := 5) (v := .agg #[.int .u64 r0, .int .u64 r1, .int .u64 r2, .int .u64 r3]) rfl (by kernel_rfl) (by kernel_rfl) (by kernel_rfl) (fun _ _ _ h => h) (.inl ⟨by rfl, fun w' hw' => ?_⟩) hH55 ?_
            · go_simp
            try simp only [Act.put, List.setIfInBounds_toArray, List.set_cons_zero, List.set_cons_succ, List.getElem_toArray, List.getElem_cons_succ, List.getElem_cons_zero]
            refine wpAnyH_take (i := 6) (v := .int .i64 0) rfl (by kernel_rfl) (by kernel_rfl) (by kernel_rfl) (fun _ _ _ h => h) (.inl ⟨by rfl, fun w' hw' => ?_⟩) hH55 ?_
            · go_simp
            try simp only [Act.put, List.setIfInBounds_toArray, List.set_cons_zero, List.set_cons_succ, List.getElem_toArray, List.getElem_cons_succ, List.getElem_cons_zero]
            refine wpAnyH_ready (rs := [7]) (by kernel_rfl) (by simp) (AllReadyH.cons rfl (fun K hK => ?_) AllReadyH.nil)
            rw [if_pos (by rfl)]
            refine op_alloc 93 15 (by kernel_rfl) (by kernel_rfl) zeroW ?_
            have kbA56 := Blk.new (w55) (#[.int .u64 0, .int .u64 0, .int .u64 0, .int .u64 0] : Array Value) 93
            have hH56 := hH55.alloc (.cells (#[.int .u64 0, .int .u64 0, .int .u64 0, .int .u64 0] : Array Value) 93)
            have hgeA56 := hH55.size
            have kbB56 := kbB55.alloc (.cells (#[.int .u64 0, .int .u64 0, .int .u64 0, .int .u64 0] : Array Value) 93)
            have hneBA56 := kbB55.lt
            obtain ⟨gA56, hgg56⟩ : ∃ g, g = (w55).heap.size := ⟨_, rfl⟩
            rw [← hgg56] at kbA56 hgeA56 hneBA56 ⊢
            generalize (w55).alloc (.cells (#[.int .u64 0, .int .u64 0, .int .u64 0, .int .u64 0] : Array Value) 93) = w56 at hH56 kbB56 kbA56 ⊢
            clear hgg56
            refine hK.out _ _ hH56 (fun _ => ?_)
            try simp only [Act.put, List.setIfInBounds_toArray, List.set_cons_zero, List.set_cons_succ]
            refine wpAnyH_ready (rs := [9]) (by kernel_rfl) (by simp) (AllReadyH.cons rfl (fun K hK => ?_) AllReadyH.nil)
            rw [if_pos (by rfl)]
            refine op_store 93 (.tmp 15) (.tmp 69) (by kernel_rfl) (by kernel_rfl) rfl (cs := [.int .u64 q0, .int .u64 q1, .int .u64 q2, .int .u64 q3]) rfl kbA56 (by simp) infoW (by simp [Value.oneCell']) ?_
            intro w57 kbA57 hc57
            have hH57 : Chg [] wf w57 := hH56.trans hc57 (by simp; omega)
            have kbB57 := kbB56.chg hc57 (by simp; omega)
            refine hK.out _ _ hH57 (fun _ => ?_)
            try simp only [Act.put, List.setIfInBounds_toArray, List.set_cons_zero, List.set_cons_succ, List.getElem_toArray, List.getElem_cons_succ, List.getElem_cons_zero]
            refine wpAnyH_ready (rs := [10]) (by kernel_rfl) (by simp) (AllReadyH.cons rfl (fun K hK => ?_) AllReadyH.nil)
            rw [if_pos (by rfl)]
            refine op_store 93 (.tmp 16) (.tmp 70) (by kernel_rfl) (by kernel_rfl) rfl (cs := [.int .u64 r0, .int .u64 r1, .int .u64 r2, .int .u64 r3]) rfl kbB57 (by simp) infoW (by simp [Value.oneCell']) ?_
            intro w58 kbB58 hc58
            have hH58 : Chg [] wf w58 := hH57.trans hc58 (by simp; omega)
            have kbA58 := kbA57.chg hc58 (by simp; omega)
            refine hK.out _ _ hH58 (fun _ => ?_)
            try simp only [Act.put, List.setIfInBounds_toArray, List.set_cons_zero, List.set_cons_succ, List.getElem_toArray, List.getElem_cons_succ, List.getElem_cons_zero]
            refine wpAnyH_ready (rs := [11]) (by kernel_rfl) (by simp) (AllReadyH.cons rfl (fun K hK => ?_) AllReadyH.nil)
            go_simp
            refine hK.out _ _ hH58 (fun _ => ?_)
            try simp only [Act.put, List.setIfInBounds_toArray, List.set_cons_zero, List.set_cons_succ, List.getElem_toArray, List.getElem_cons_succ, List.getElem_cons_zero]
            refine wpAnyH_done (by kernel_rfl) ?_ _
            go_wp2_with fail
            go_meet
            exact ⟨gA56, rfl, kbA58, by omega, hH58⟩
          · rw [if_pos (by rfl)]
            refine op_alloc 93 15 (by kernel_rfl) (by kernel_rfl) zeroW ?_
            have kbA60 := Blk.new (w54) (#[.int .u64 0, .int .u64 0, .int .u64 0, .int .u64 0] : Array Value) 93
            have hH60 := hH54.alloc (.cells (#[.int .u64 0, .int .u64 0, .int .u64 0, .int .u64 0] : Array Value) 93)
            have hgeA60 := hH54.size
            have kbB60 := kbB54.alloc (.cells (#[.int .u64 0, .int .u64 0, .int .u64 0, .int .u64 0] : Array Value) 93)
            have hneBA60 := kbB54.lt
            obtain ⟨gA60, hgg60⟩ : ∃ g, g = (w54).heap.size := ⟨_, rfl⟩
            rw [← hgg60] at kbA60 hgeA60 hneBA60 ⊢
            generalize (w54).alloc (.cells (#[.int .u64 0, .int .u64 0, .int .u64 0, .int .u64 0] : Array Value) 93) = w60 at hH60 kbB60 kbA60 ⊢
            clear hgg60
            refine hK.out _ _ hH60 (fun _ => ?_)
            try simp only [Act.put, List.setIfInBounds_toArray, List.set_cons_zero, List.set_cons_succ]
            refine wpAnyH_ready (rs := [2]) (by kernel_rfl) (by simp) (AllReadyH.cons rfl (fun K hK => ?_) AllReadyH.nil)
            try rw [if_pos (by rfl)]
            go_simp
            go_at_call 56
            refine (hdiv _).mono ?_
            rintro e61 w61 ⟨rfl, hc61⟩
            dsimp only
            have hH61 := hH60.trans hc61 (by simp)
            have kbB61 := kbB60.chg hc61 (by simp)
            have kbA61 := kbA60.chg hc61 (by simp)
            refine hK.out _ _ hH61 (fun _ => ?_)
            try simp only [Act.put, List.setIfInBounds_toArray, List.set_cons_zero, List.set_cons_succ, List.getElem_toArray, List.getElem_cons_succ, List.getElem_cons_zero]
            refine wpAnyH_take (i := 3) (v := .tuple #[.agg #[.int .u64 q0, .int .u64 q1, .int .u64 q2, .int .u64 q3], .agg #[.int .u64 r0, .int .u64 r1, .int .u64 r2, .int .u64 r3], .int .i64 0]) rfl (by kernel_rfl) (by kernel_rfl) (by kernel_rfl) (fun _ _ _ h => h) (.inl ⟨by rfl, fun w' hw' => ?_⟩) hH61 ?_
            · go_simp
            try simp only [Act.put, List.setIfInBounds_toArray, List.set_cons_zero, List.set_cons_succ, List.getElem_toArray, List.getElem_cons_succ, List.getElem_cons_zero]
            refine wpAnyH_take (i := 4) (v := .agg #[.int .u64 q0, .int .u64 q1, .int .u64 q2, .int .u64 q3]) rfl (by kernel_rfl) (by kernel_rfl) (by kernel_rfl) (fun _ _ _ h => h) (.inl ⟨by rfl, fun w' hw' => ?_⟩) hH61 ?_
            · go_simp
            try simp only [Act.put, List.setIfInBounds_toArray, List.set_cons_zero, List.set_cons_succ, List.getElem_toArray, List.getElem_cons_succ, List.getElem_cons_zero]
            refine wpAnyH_take (i := 5) (v := .agg #[.int .u64 r0, .int .u64 r1, .int .u64 r2, .int .u64 r3]) rfl (by kernel_rfl) (by kernel_rfl) (by kernel_rfl) (fun _ _ _ h => h) (.inl ⟨by rfl, fun w' hw' => ?_⟩) hH61 ?_
            · go_simp
            try simp only [Act.put, List.setIfInBounds_toArray, List.set_cons_zero, List.set_cons_succ, List.getElem_toArray, List.getElem_cons_succ, List.getElem_cons_zero]
            refine wpAnyH_take (i := 6) (v := .int .i64 0) rfl (by kernel_rfl) (by kernel_rfl) (by kernel_rfl) (fun _ _ _ h => h) (.inl ⟨by rfl, fun w' hw' => ?_⟩) hH61 ?_
            · go_simp
            try simp only [Act.put, List.setIfInBounds_toArray, List.set_cons_zero, List.set_cons_succ, List.getElem_toArray, List.getElem_cons_succ, List.getElem_cons_zero]
            refine wpAnyH_ready (rs := [9]) (by kernel_rfl) (by simp) (AllReadyH.cons rfl (fun K hK => ?_) AllReadyH.nil)
            rw [if_pos (by rfl)]
            refine op_store 93 (.tmp 15) (.tmp 69) (by kernel_rfl) (by kernel_rfl) rfl (cs := [.int .u64 q0, .int .u64 q1, .int .u64 q2, .int .u64 q3]) rfl kbA61 (by simp) infoW (by simp [Value.oneCell']) ?_
            intro w62 kbA62 hc62
            have hH62 : Chg [] wf w62 := hH61.trans hc62 (by simp; omega)
            have kbB62 := kbB61.chg hc62 (by simp; omega)
            refine hK.out _ _ hH62 (fun _ => ?_)
            try simp only [Act.put, List.setIfInBounds_toArray, List.set_cons_zero, List.set_cons_succ, List.getElem_toArray, List.getElem_cons_succ, List.getElem_cons_zero]
            refine wpAnyH_ready (rs := [10]) (by kernel_rfl) (by simp) (AllReadyH.cons rfl (fun K hK => ?_) AllReadyH.nil)
            rw [if_pos (by rfl)]
            refine op_store 93 (.tmp 16) (.tmp 70) (by kernel_rfl) (by kernel_rfl) rfl (cs := [.int .u64 r0, .int .u64 r1, .int .u64 r2, .int .u64 r3]) rfl kbB62 (by simp) infoW (by simp [Value.oneCell']) ?_
            intro w63 kbB63 hc63
            have hH63 : Chg [] wf w63 := hH62.trans hc63 (by simp; omega)
            have kbA63 := kbA62.chg hc63 (by simp; omega)
            refine hK.out _ _ hH63 (fun _ => ?_)
            try simp only [Act.put, List.setIfInBounds_toArray, List.set_cons_zero, List.set_cons_succ, List.getElem_toArray, List.getElem_cons_succ, List.getElem_cons_zero]
            refine wpAnyH_ready (rs := [11]) (by kernel_rfl) (by simp) (AllReadyH.cons rfl (fun K hK => ?_) AllReadyH.nil)
            go_simp
            refine hK.out _ _ hH63 (fun _ => ?_)
            try simp only [Act.put, List.setIfInBounds_toArray, List.set_cons_zero, List.set_cons_succ, List.getElem_toArray, List.getElem_cons_succ, List.getElem_cons_zero]
            refine wpAnyH_done (by kernel_rfl) ?_ _
            go_wp2_with fail
            go_meet
            exact ⟨gA60, rfl, kbA63, by omega, hH63⟩
        · rw [if_pos (by rfl)]
          refine op_alloc 93 15 (by kernel_rfl) (by kernel_rfl) zeroW ?_
          have kbA65 := Blk.new (w53) (#[.int .u64 0, .int .u64 0, .int .u64 0, .int .u64 0] : Array Value) 93
          have hH65 := hH53.alloc (.cells (#[.int .u64 0, .int .u64 0, .int .u64 0, .int .u64 0] : Array Value) 93)
          have hgeA65 := hH53.size
          have kbB65 := kbB53.alloc (.cells (#[.int .u64 0, .int .u64 0, .int .u64 0, .int .u64 0] : Array Value) 93)
          have hneBA65 := kbB53.lt
          obtain ⟨gA65, hgg65⟩ : ∃ g, g = (w53).heap.size := ⟨_, rfl⟩
          rw [← hgg65] at kbA65 hgeA65 hneBA65 ⊢
          generalize (w53).alloc (.cells (#[.int .u64 0, .int .u64 0, .int .u64 0, .int .u64 0] : Array Value) 93) = w65 at hH65 kbB65 kbA65 ⊢
          clear hgg65
          refine hK.out _ _ hH65 (fun _ => ?_)
          try simp only [Act.put, List.setIfInBounds_toArray, List.set_cons_zero, List.set_cons_succ]
          refine wpAnyH_ready (rs := [1]) (by kernel_rfl) (by simp) (AllReadyH.cons rfl (fun K hK => ?_) AllReadyH.nil)
          try rw [if_pos (by rfl)]
          go_simp
          go_at_call 57
          refine (hof _).mono ?_
          rintro e66 w66 ⟨rfl, hc66⟩
          dsimp only
          have hH66 := hH65.trans hc66 (by simp)
          have kbB66 := kbB65.chg hc66 (by simp)
          have kbA66 := kbA65.chg hc66 (by simp)
          refine hK.out _ _ hH66 (fun _ => ?_)
          try simp only [Act.put, List.setIfInBounds_toArray, List.set_cons_zero, List.set_cons_succ, List.getElem_toArray, List.getElem_cons_succ, List.getElem_cons_zero]
          refine wpAnyH_ready (rs := [2]) (by kernel_rfl) (by simp) (AllReadyH.cons rfl (fun K hK => ?_) AllReadyH.nil)
          try rw [if_pos (by rfl)]
          go_simp
          go_at_call 56
          refine (hdiv _).mono ?_
          rintro e67 w67 ⟨rfl, hc67⟩
          dsimp only
          have hH67 := hH66.trans hc67 (by simp)
          have kbB67 := kbB66.chg hc67 (by simp)
          have kbA67 := kbA66.chg hc67 (by simp)
          refine hK.out _ _ hH67 (fun _ => ?_)
          try simp only [Act.put, List.setIfInBounds_toArray, List.set_cons_zero, List.set_cons_succ, List.getElem_toArray, List.getElem_cons_succ, List.getElem_cons_zero]
          refine wpAnyH_take (i := 3) (v := .tuple #[.agg #[.int .u64 q0, .int .u64 q1, .int .u64 q2, .int .u64 q3], .agg #[.int .u64 r0, .int .u64 r1, .int .u64 r2, .int .u64 r3], .int .i64 0]) rfl (by kernel_rfl) (by kernel_rfl) (by kernel_rfl) (fun _ _ _ h => h) (.inl ⟨by rfl, fun w' hw' => ?_⟩) hH67 ?_
          · go_simp
          try simp only [Act.put, List.setIfInBounds_toArray, List.set_cons_zero, List.set_cons_succ, List.getElem_toArray, List.getElem_cons_succ, List.getElem_cons_zero]
          refine wpAnyH_take (i := 4) (v := .agg #[.int .u64 q0, .int .u64 q1, .int .u64 q2, .int .u64 q3]) rfl (by kernel_rfl) (by kernel_rfl) (by kernel_rfl) (fun _ _ _ h => h) (.inl ⟨by rfl, fun w' hw' => ?_⟩) hH67 ?_
          · go_simp
          try simp only [Act.put, List.setIfInBounds_toArray, List.set_cons_zero, List.set_cons_succ, List.getElem_toArray, List.getElem_cons_succ, List.getElem_cons_zero]
          refine wpAnyH_take (i := 5) (v := .agg #[.int .u64 r0, .int .u64 r1, .int .u64 r2, .int .u64 r3]) rfl (by kernel_rfl) (by kernel_rfl) (by kernel_rfl) (fun _ _ _ h => h) (.inl ⟨by rfl, fun w' hw' => ?_⟩) hH67 ?_
          · go_simp
          try simp only [Act.put, List.setIfInBounds_toArray, List.set_cons_zero, List.set_cons_succ, List.getElem_toArray, List.getElem_cons_succ, List.getElem_cons_zero]
          refine wpAnyH_take (i := 6) (v := .int .i64 0) rfl (by kernel_rfl) (by kernel_rfl) (by kernel_rfl) (fun _ _ _ h => h) (.inl ⟨by rfl, fun w' hw' => ?_⟩) hH67 ?_
          · go_simp
          try simp only [Act.put, List.setIfInBounds_toArray, List.set_cons_zero, List.set_cons_succ, List.getElem_toArray, List.getElem_cons_succ, List.getElem_cons_zero]
          refine wpAnyH_ready (rs := [9]) (by kernel_rfl) (by simp) (AllReadyH.cons rfl (fun K hK => ?_) AllReadyH.nil)
          rw [if_pos (by rfl)]
          refine op_store 93 (.tmp 15) (.tmp 69) (by kernel_rfl) (by kernel_rfl) rfl (cs := [.int .u64 q0, .int .u64 q1, .int .u64 q2, .int .u64 q3]) rfl kbA67 (by simp) infoW (by simp [Value.oneCell']) ?_
          intro w68 kbA68 hc68
          have hH68 : Chg [] wf w68 := hH67.trans hc68 (by simp; omega)
          have kbB68 := kbB67.chg hc68 (by simp; omega)
          refine hK.out _ _ hH68 (fun _ => ?_)
          try simp only [Act.put, List.setIfInBounds_toArray, List.set_cons_zero, List.set_cons_succ, List.getElem_toArray, List.getElem_cons_succ, List.getElem_cons_zero]
          refine wpAnyH_ready (rs := [10]) (by kernel_rfl) (by simp) (AllReadyH.cons rfl (fun K hK => ?_) AllReadyH.nil)
          rw [if_pos (by rfl)]
          refine op_store 93 (.tmp 16) (.tmp 70) (by kernel_rfl) (by kernel_rfl) rfl (cs := [.int .u64 r0, .int .u64 r1, .int .u64 r2, .int .u64 r3]) rfl kbB68 (by simp) infoW (by simp [Value.oneCell']) ?_
          intro w69 kbB69 hc69
          have hH69 : Chg [] wf w69 := hH68.trans hc69 (by simp; omega)
          have kbA69 := kbA68.chg hc69 (by simp; omega)
          refine hK.out _ _ hH69 (fun _ => ?_)
          try simp only [Act.put, List.setIfInBounds_toArray, List.set_cons_zero, List.set_cons_succ, List.getElem_toArray, List.getElem_cons_succ, List.getElem_cons_zero]
          refine wpAnyH_ready (rs := [11]) (by kernel_rfl) (by simp) (AllReadyH.cons rfl (fun K hK => ?_) AllReadyH.nil)
          go_simp
          refine hK.out _ _ hH69 (fun _ => ?_)
          try simp only [Act.put, List.setIfInBounds_toArray, List.set_cons_zero, List.set_cons_succ, List.getElem_toArray, List.getElem_cons_succ, List.getElem_cons_zero]
          refine wpAnyH_done (by kernel_rfl) ?_ _
          go_wp2_with fail
          go_meet
          exact ⟨gA65, rfl, kbA69, by omega, hH69⟩
    obtain ⟨gA, rfl, bA, hgA, hc13⟩ := hcut
    have hcA := hcF.trans hc13 (by simp)
    have hltU := bU.lt; have hltR := bR.lt; have hltT := bT.lt
    have bR0 := bR; have bT0 := bT
    replace bR := bR.chg hc13 (by simp)
    replace bT := bT.chg hc13 (by simp)
    replace bU := bU.chg hc13 (by simp)
    have r1 := bR.cell 1 c1s
    have neR : w.heap.size ≠ gA := by omega
    have neU : gU ≠ gA := by omega
    have neT : gT ≠ gA := by omega
    by_cases h4 : s < 4
    · have h4a : (s : Int) < 4 := by omega
      have h4b : decide ((s : Int) < 4) = true := decide_eq_true h4a
      obtain ⟨rfl, rfl, rfl, rfl⟩ := hp4 h4
      have f0 := bA.free 0; have f1 := bA.free 1; have f2 := bA.free 2; have f3 := bA.free 3
      have d0 := bA.cell 0 rfl; have d1 := bA.cell 1 rfl; have d2 := bA.cell 2 rfl; have d3 := bA.cell 3 rfl
      go_upto_region 17 with fail
      have bA2 : Blk (((((wc).setCell ⟨gA, 0, none⟩ (.int .u64 0)).setCell ⟨gA, 1, none⟩ (.int .u64 0)).setCell ⟨gA, 2, none⟩ (.int .u64 0)).setCell ⟨gA, 3, none⟩ (.int .u64 0)) gA #[.int .u64 0, .int .u64 0, .int .u64 0, .int .u64 0] 93 := (((bA.set 0 (.int .u64 0)).set 1 (.int .u64 0)).set 2 (.int .u64 0)).set 3 (.int .u64 0)
      have hst : Chg [gA] wc (((((wc).setCell ⟨gA, 0, none⟩ (.int .u64 0)).setCell ⟨gA, 1, none⟩ (.int .u64 0)).setCell ⟨gA, 2, none⟩ (.int .u64 0)).setCell ⟨gA, 3, none⟩ (.int .u64 0)) := ((((Chg.refl _ _).setCell (.inl (by simp)) _).setCell (.inl (by simp)) _).setCell (.inl (by simp)) _).setCell (.inl (by simp)) _
      have hcX : Chg [] w (((((wc).setCell ⟨gA, 0, none⟩ (.int .u64 0)).setCell ⟨gA, 1, none⟩ (.int .u64 0)).setCell ⟨gA, 2, none⟩ (.int .u64 0)).setCell ⟨gA, 3, none⟩ (.int .u64 0)) := hcA.trans hst (by simp; omega)
      replace bR := bR.chg hst (by simp; omega)
      replace bU := bU.chg hst (by simp; omega)
      clear hst bA bT d0 d1 d2 d3 f0 f1 f2 f3
      have bA := bA2
      clear bA2
      generalize ((((wc).setCell ⟨gA, 0, none⟩ (.int .u64 0)).setCell ⟨gA, 1, none⟩ (.int .u64 0)).setCell ⟨gA, 2, none⟩ (.int .u64 0)).setCell ⟨gA, 3, none⟩ (.int .u64 0) = w15 at bA hcX bR bU ⊢
      refine wp_region_held_drew (S := fun w' => Chg [] w15 w') (by kernel_rfl) ((Chg.refl _ _).drew) (fun hH61 => ?_)
      refine wpAnyH_take (i := 0) (v := .agg cs) rfl (by kernel_rfl) (by kernel_rfl) (by kernel_rfl) (fun _ _ _ h => h) (.inl ⟨by rfl, fun w' hw' => ?_⟩) hH61 ?_
      · (have hl := load_rules (bR.chg hw' (by simp)) hcs; go_simp)
      try simp only [Act.put, List.setIfInBounds_toArray, List.set_cons_zero, List.set_cons_succ, List.getElem_toArray, List.getElem_cons_zero]
      refine wpAnyH_take (i := 2) (v := .agg #[.int .u64 0, .int .u64 0, .int .u64 0, .int .u64 0]) rfl (by kernel_rfl) (by kernel_rfl) (by kernel_rfl) (fun _ _ _ h => h) (.inl ⟨by rfl, fun w' hw' => ?_⟩) hH61 ?_
      · (have hl := load_w (bA.chg hw' (by simp)); go_simp)
      try simp only [Act.put, List.setIfInBounds_toArray, List.set_cons_zero, List.set_cons_succ, List.getElem_toArray, List.getElem_cons_succ, List.getElem_cons_zero]
      refine wpAnyH_ready (rs := [1]) (by kernel_rfl) (by simp) (AllReadyH.cons rfl (fun K hK => ?_) AllReadyH.nil)
      try rw [if_pos (by rfl)]
      go_simp
      go_at_call 54
      refine (htop _).mono ?_
      rintro e62 w62 ⟨rfl, hc62⟩
      dsimp only
      have hH62 := hH61.trans hc62 (by simp)
      refine hK.out _ _ hH62 (fun _ => ?_)
      try simp only [Act.put, List.setIfInBounds_toArray, List.set_cons_zero, List.set_cons_succ, List.getElem_toArray, List.getElem_cons_succ, List.getElem_cons_zero]
      refine wpAnyH_ready (rs := [3]) (by kernel_rfl) (by simp) (AllReadyH.cons rfl (fun K hK => ?_) AllReadyH.nil)
      try rw [if_pos (by rfl)]
      go_simp
      go_at_call 53
      refine (hcmp3 _).mono ?_
      rintro e63 w63 ⟨rfl, hc63⟩
      dsimp only
      have hH63 := hH62.trans hc63 (by simp)
      refine hK.out _ _ hH63 (fun _ => ?_)
      try simp only [Act.put, List.setIfInBounds_toArray, List.set_cons_zero, List.set_cons_succ, List.getElem_toArray, List.getElem_cons_succ, List.getElem_cons_zero]
      refine wpAnyH_take (i := 4) (v := .bool false) rfl (by kernel_rfl) (by kernel_rfl) (by kernel_rfl) (fun _ _ _ h => h) (.inl ⟨by rfl, fun w' hw' => ?_⟩) hH63 ?_
      · (go_simp; try simp [hc3p])
      try simp only [Act.put, List.setIfInBounds_toArray, List.set_cons_zero, List.set_cons_succ, List.getElem_toArray, List.getElem_cons_succ, List.getElem_cons_zero]
      refine wpAnyH_done (by kernel_rfl) ?_ _
      have hc17 := hcX.trans hH63 (by simp)
      have bA17 := bA.chg hH63 (by simp)
      have bU17 := bU.chg hH63 (by simp)
      have hlA := load_w bA17
      go_wp2_with fail
      refine (henc _).mono ?_
      rintro e wa ⟨rfl, hc⟩
      have hc18 := hc17.trans hc (by simp)
      have bU18 := bU17.chg hc (by simp)
      clear hc hlA
      dsimp only
      go_wp2_with fail
      refine (hdg _).mono ?_
      rintro e wb ⟨rfl, hc⟩
      have hc19 := hc18.trans hc (by simp)
      have bV := bU18.chg hc (by simp)
      clear hc
      dsimp only
      go_upto_region 20 with fail
      have bG := Blk.new wb #[.int .u64 g0, .int .u64 g1, .int .u64 g2, .int .u64 g3] 93
      have hcG := hc19.alloc (.cells #[.int .u64 g0, .int .u64 g1, .int .u64 g2, .int .u64 g3] 93)
      have hgeG := hc19.size
      obtain ⟨gG, hggG⟩ : ∃ g, g = wb.heap.size := ⟨_, rfl⟩
      have hneVG := bV.lt
      replace bV := bV.alloc (.cells #[.int .u64 g0, .int .u64 g1, .int .u64 g2, .int .u64 g3] 93)
      rw [← hggG] at bG hgeG hneVG ⊢
      generalize wb.alloc (.cells #[.int .u64 g0, .int .u64 g1, .int .u64 g2, .int .u64 g3] 93) = wg at hcG bG bV ⊢
      clear hggG
      by_cases h5 : e5 = 0
      · subst h5
        have hl1 := load_w bV
        have hl2 := load_w bG
        have hc4 : decide (0 ≤ c4) = true := by simpa using hc4p rfl
        go_wp2_with fail
        refine (hcmp4 _).mono ?_
        rintro e wz ⟨rfl, hc⟩
        go_wp2
        go_ret
        exact ⟨rfl, hcG.trans hc (by simp)⟩
      have h52 : (e5 == 0) = false := by simpa using h5
      go_wp2
      go_ret
      exact ⟨rfl, hcG⟩
    have h4c : ¬ (s : Int) < 4 := by omega
    have h4b : decide ((s : Int) < 4) = false := decide_eq_false h4c
    have hsc2 := hsc h4
    have wr1 : IntKind.u32.wrap ((s : Int) / 4) = (s : Int) / 4 := wrap_u32 (by omega) (by omega)
    have wr2 : IntKind.u64.wrap ((s : Int) / 4) = (s : Int) / 4 := wrap_u64 (by omega) (by omega)
    have wr3 : IntKind.u64.wrap (s : Int) = (s : Int) := wrap_u64 (by omega) (by omega)
    go_upto_region 16 with fail
    refine wp_region_held_drew (S := fun w' => Chg [] wf w') (by kernel_rfl) (hc13.drew) (fun hH41 => ?_)
    have kdA41 := bA.chg ((Chg.refl [] _).drew) (by simp)
    have kdR41 := bR.chg ((Chg.refl [] _).drew) (by simp)
    have kdU41 := bU.chg ((Chg.refl [] _).drew) (by simp)
    refine wpAnyH_take (i := 0) (v := .agg #[.int .u64 t0, .int .u64 t1, .int .u64 t2, .int .u64 t3]) rfl (by kernel_rfl) (by kernel_rfl) (by kernel_rfl) (fun _ _ _ h => h) (.inl ⟨by rfl, fun w' hw' => ?_⟩) hH41 ?_
    · (have hl := load_w (bT0.chg hw' (by simp)); go_simp)
    try simp only [Act.put, List.setIfInBounds_toArray, List.set_cons_zero, List.set_cons_succ, List.getElem_toArray, List.getElem_cons_zero]
    refine wpAnyH_take (i := 1) (v := .pointer (some ⟨w.heap.size, 1, none⟩)) rfl (by kernel_rfl) (by kernel_rfl) (by kernel_rfl) (fun _ _ _ h => h) (.inl ⟨by rfl, fun w' hw' => ?_⟩) hH41 ?_
    · go_simp
    try simp only [Act.put, List.setIfInBounds_toArray, List.set_cons_zero, List.set_cons_succ, List.getElem_toArray, List.getElem_cons_succ, List.getElem_cons_zero]
    refine wpAnyH_take (i := 2) (v := .int .u32 s) rfl (by kernel_rfl) (by kernel_rfl) (by kernel_rfl) (fun _ _ _ h => h) (.inl ⟨by rfl, fun w' hw' => ?_⟩) hH41 ?_
    · (have k1 := (bR0.chg hw' (by simp)).cell 1 c1s; go_simp)
    try simp only [Act.put, List.setIfInBounds_toArray, List.set_cons_zero, List.set_cons_succ, List.getElem_toArray, List.getElem_cons_succ, List.getElem_cons_zero]
    refine wpAnyH_take (i := 3) (v := .int .u32 (s / 4 : Nat)) rfl (by kernel_rfl) (by kernel_rfl) (by kernel_rfl) (fun _ _ _ h => h) (.inl ⟨by rfl, fun w' hw' => ?_⟩) hH41 ?_
    · (go_simp; try omega)
    try simp only [Act.put, List.setIfInBounds_toArray, List.set_cons_zero, List.set_cons_succ, List.getElem_toArray, List.getElem_cons_succ, List.getElem_cons_zero]
    refine wpAnyH_take (i := 4) (v := .int .u64 (s / 4 : Nat)) rfl (by kernel_rfl) (by kernel_rfl) (by kernel_rfl) (fun _ _ _ h => h) (.inl ⟨by rfl, fun w' hw' => ?_⟩) hH41 ?_
    · (go_simp; try omega)
    try simp only [Act.put, List.setIfInBounds_toArray, List.set_cons_zero, List.set_cons_succ, List.getElem_toArray, List.getElem_cons_succ, List.getElem_cons_zero]
    refine wpAnyH_take (i := 5) (v := .pointer (some ⟨w.heap.size, 1, none⟩)) rfl (by kernel_rfl) (by kernel_rfl) (by kernel_rfl) (fun _ _ _ h => h) (.inl ⟨by rfl, fun w' hw' => ?_⟩) hH41 ?_
    · go_simp
    try simp only [Act.put, List.setIfInBounds_toArray, List.set_cons_zero, List.set_cons_succ, List.getElem_toArray, List.getElem_cons_succ, List.getElem_cons_zero]
    refine wpAnyH_take (i := 6) (v := .int .u32 s) rfl (by kernel_rfl) (by kernel_rfl) (by kernel_rfl) (fun _ _ _ h => h) (.inl ⟨by rfl, fun w' hw' => ?_⟩) hH41 ?_
    · (have k1 := (bR0.chg hw' (by simp)).cell 1 c1s; go_simp)
    try simp only [Act.put, List.setIfInBounds_toArray, List.set_cons_zero, List.set_cons_succ, List.getElem_toArray, List.getElem_cons_succ, List.getElem_cons_zero]
    refine wpAnyH_take (i := 7) (v := .int .u64 s) rfl (by kernel_rfl) (by kernel_rfl) (by kernel_rfl) (fun _ _ _ h => h) (.inl ⟨by rfl, fun w' hw' => ?_⟩) hH41 ?_
    · (go_simp; try omega)
    try simp only [Act.put, List.setIfInBounds_toArray, List.set_cons_zero, List.set_cons_succ, List.getElem_toArray, List.getElem_cons_succ, List.getElem_cons_zero]
    refine wpAnyH_take (i := 8) (v := .agg cs) rfl (by kernel_rfl) (by kernel_rfl) (by kernel_rfl) (fun _ _ _ h => h) (.inl ⟨by rfl, fun w' hw' => ?_⟩) hH41 ?_
    · (have hl := load_rules (bR0.chg hw' (by simp)) hcs; go_simp)
    try simp only [Act.put, List.setIfInBounds_toArray, List.set_cons_zero, List.set_cons_succ, List.getElem_toArray, List.getElem_cons_succ, List.getElem_cons_zero]
    refine wpAnyH_ready (rs := [9]) (by kernel_rfl) (by simp) (AllReadyH.cons rfl (fun K hK => ?_) AllReadyH.nil)
    try rw [if_pos (by rfl)]
    go_simp
    go_at_call 54
    refine (htop _).mono ?_
    rintro e42 w42 ⟨rfl, hc42⟩
    dsimp only
    have hH42 := hH41.trans hc42 (by simp)
    have kbA42 := kdA41.chg hc42 (by simp)
    have kbR42 := kdR41.chg hc42 (by simp)
    have kbU42 := kdU41.chg hc42 (by simp)
    refine hK.out _ _ hH42 (fun _ => ?_)
    try simp only [Act.put, List.setIfInBounds_toArray, List.set_cons_zero, List.set_cons_succ, List.getElem_toArray, List.getElem_cons_succ, List.getElem_cons_zero]
    refine wpAnyH_ready (rs := [10]) (by kernel_rfl) (by simp) (AllReadyH.cons rfl (fun K hK => ?_) AllReadyH.nil)
    try rw [if_pos (by rfl)]
    go_simp
    go_at_call 58
    refine (hsc2 _).mono ?_
    rintro e43 w43 ⟨rfl, hc43⟩
    dsimp only
    have hH43 := hH42.trans hc43 (by simp)
    have kbA43 := kbA42.chg hc43 (by simp)
    have kbR43 := kbR42.chg hc43 (by simp)
    have kbU43 := kbU42.chg hc43 (by simp)
    refine hK.out _ _ hH43 (fun _ => ?_)
    try simp only [Act.put, List.setIfInBounds_toArray, List.set_cons_zero, List.set_cons_succ, List.getElem_toArray, List.getElem_cons_succ, List.getElem_cons_zero]
    refine wpAnyH_take (i := 11) (v := .tuple #[.agg #[.int .u64 p0, .int .u64 p1, .int .u64 p2, .int .u64 p3], .int .i64 e6]) rfl (by kernel_rfl) (by kernel_rfl) (by kernel_rfl) (fun _ _ _ h => h) (.inl ⟨by rfl, fun w' hw' => ?_⟩) hH43 ?_
    · go_simp
    try simp only [Act.put, List.setIfInBounds_toArray, List.set_cons_zero, List.set_cons_succ, List.getElem_toArray, List.getElem_cons_succ, List.getElem_cons_zero]
    refine wpAnyH_take (i := 12) (v := .agg #[.int .u64 p0, .int .u64 p1, .int .u64 p2, .int .u64 p3]) rfl (by kernel_rfl) (by kernel_rfl) (by kernel_rfl) (fun _ _ _ h => h) (.inl ⟨by rfl, fun w' hw' => ?_⟩) hH43 ?_
    · go_simp
    try simp only [Act.put, List.setIfInBounds_toArray, List.set_cons_zero, List.set_cons_succ, List.getElem_toArray, List.getElem_cons_succ, List.getElem_cons_zero]
    refine wpAnyH_take (i := 13) (v := .int .i64 e6) rfl (by kernel_rfl) (by kernel_rfl) (by kernel_rfl) (fun _ _ _ h => h) (.inl ⟨by rfl, fun w' hw' => ?_⟩) hH43 ?_
    · go_simp
    try simp only [Act.put, List.setIfInBounds_toArray, List.set_cons_zero, List.set_cons_succ, List.getElem_toArray, List.getElem_cons_succ, List.getElem_cons_zero]
    refine wpAnyH_ready (rs := [14]) (by kernel_rfl) (by simp) (AllReadyH.cons rfl (fun K hK => ?_) AllReadyH.nil)
    rw [if_pos (by rfl)]
    refine op_store 93 (.tmp 15) (.tmp 88) (by kernel_rfl) (by kernel_rfl) rfl (cs := [.int .u64 p0, .int .u64 p1, .int .u64 p2, .int .u64 p3]) rfl kbA43 (by simp) infoW (by simp [Value.oneCell']) ?_
    intro w44 kbA44 hc44
    have hH44 : Chg [] wf w44 := hH43.trans hc44 (by simp; omega)
    have kbR44 := kbR43.chg hc44 (by simp; omega)
    have kbU44 := kbU43.chg hc44 (by simp; omega)
    refine hK.out _ _ hH44 (fun _ => ?_)
    try simp only [Act.put, List.setIfInBounds_toArray, List.set_cons_zero, List.set_cons_succ, List.getElem_toArray, List.getElem_cons_succ, List.getElem_cons_zero]
    refine wpAnyH_done (by kernel_rfl) ?_ _
    have hc16 := hH44
    replace bA := kbA44
    replace bR := kbR44
    replace bU := kbU44
    have hcX := hcF.trans hc16 (by simp)
    go_upto_region 17 with fail
    skip
    refine wp_region_held_drew (S := fun w' => Chg [] w44 w') (by kernel_rfl) ((Chg.refl _ _).drew) (fun hH61 => ?_)
    refine wpAnyH_take (i := 0) (v := .agg cs) rfl (by kernel_rfl) (by kernel_rfl) (by kernel_rfl) (fun _ _ _ h => h) (.inl ⟨by rfl, fun w' hw' => ?_⟩) hH61 ?_
    · (have hl := load_rules (bR.chg hw' (by simp)) hcs; go_simp)
    try simp only [Act.put, List.setIfInBounds_toArray, List.set_cons_zero, List.set_cons_succ, List.getElem_toArray, List.getElem_cons_zero]
    refine wpAnyH_take (i := 2) (v := .agg #[.int .u64 p0, .int .u64 p1, .int .u64 p2, .int .u64 p3]) rfl (by kernel_rfl) (by kernel_rfl) (by kernel_rfl) (fun _ _ _ h => h) (.inl ⟨by rfl, fun w' hw' => ?_⟩) hH61 ?_
    · (have hl := load_w (bA.chg hw' (by simp)); go_simp)
    try simp only [Act.put, List.setIfInBounds_toArray, List.set_cons_zero, List.set_cons_succ, List.getElem_toArray, List.getElem_cons_succ, List.getElem_cons_zero]
    refine wpAnyH_ready (rs := [1]) (by kernel_rfl) (by simp) (AllReadyH.cons rfl (fun K hK => ?_) AllReadyH.nil)
    try rw [if_pos (by rfl)]
    go_simp
    go_at_call 54
    refine (htop _).mono ?_
    rintro e62 w62 ⟨rfl, hc62⟩
    dsimp only
    have hH62 := hH61.trans hc62 (by simp)
    refine hK.out _ _ hH62 (fun _ => ?_)
    try simp only [Act.put, List.setIfInBounds_toArray, List.set_cons_zero, List.set_cons_succ, List.getElem_toArray, List.getElem_cons_succ, List.getElem_cons_zero]
    refine wpAnyH_ready (rs := [3]) (by kernel_rfl) (by simp) (AllReadyH.cons rfl (fun K hK => ?_) AllReadyH.nil)
    try rw [if_pos (by rfl)]
    go_simp
    go_at_call 53
    refine (hcmp3 _).mono ?_
    rintro e63 w63 ⟨rfl, hc63⟩
    dsimp only
    have hH63 := hH62.trans hc63 (by simp)
    refine hK.out _ _ hH63 (fun _ => ?_)
    try simp only [Act.put, List.setIfInBounds_toArray, List.set_cons_zero, List.set_cons_succ, List.getElem_toArray, List.getElem_cons_succ, List.getElem_cons_zero]
    refine wpAnyH_take (i := 4) (v := .bool false) rfl (by kernel_rfl) (by kernel_rfl) (by kernel_rfl) (fun _ _ _ h => h) (.inl ⟨by rfl, fun w' hw' => ?_⟩) hH63 ?_
    · (go_simp; try simp [hc3p])
    try simp only [Act.put, List.setIfInBounds_toArray, List.set_cons_zero, List.set_cons_succ, List.getElem_toArray, List.getElem_cons_succ, List.getElem_cons_zero]
    refine wpAnyH_done (by kernel_rfl) ?_ _
    have hc17 := hcX.trans hH63 (by simp)
    have bA17 := bA.chg hH63 (by simp)
    have bU17 := bU.chg hH63 (by simp)
    have hlA := load_w bA17
    go_wp2_with fail
    refine (henc _).mono ?_
    rintro e wa ⟨rfl, hc⟩
    have hc18 := hc17.trans hc (by simp)
    have bU18 := bU17.chg hc (by simp)
    clear hc hlA
    dsimp only
    go_wp2_with fail
    refine (hdg _).mono ?_
    rintro e wb ⟨rfl, hc⟩
    have hc19 := hc18.trans hc (by simp)
    have bV := bU18.chg hc (by simp)
    clear hc
    dsimp only
    go_upto_region 20 with fail
    have bG := Blk.new wb #[.int .u64 g0, .int .u64 g1, .int .u64 g2, .int .u64 g3] 93
    have hcG := hc19.alloc (.cells #[.int .u64 g0, .int .u64 g1, .int .u64 g2, .int .u64 g3] 93)
    have hgeG := hc19.size
    obtain ⟨gG, hggG⟩ : ∃ g, g = wb.heap.size := ⟨_, rfl⟩
    have hneVG := bV.lt
    replace bV := bV.alloc (.cells #[.int .u64 g0, .int .u64 g1, .int .u64 g2, .int .u64 g3] 93)
    rw [← hggG] at bG hgeG hneVG ⊢
    generalize wb.alloc (.cells #[.int .u64 g0, .int .u64 g1, .int .u64 g2, .int .u64 g3] 93) = wg at hcG bG bV ⊢
    clear hggG
    by_cases h5 : e5 = 0
    · subst h5
      have hl1 := load_w bV
      have hl2 := load_w bG
      have hc4 : decide (0 ≤ c4) = true := by simpa using hc4p rfl
      go_wp2_with fail
      refine (hcmp4 _).mono ?_
      rintro e wz ⟨rfl, hc⟩
      go_wp2
      go_ret
      exact ⟨rfl, hcG.trans hc (by simp)⟩
    have h52 : (e5 == 0) = false := by simpa using h5
    go_wp2
    go_ret
    exact ⟨rfl, hcG⟩
end Go.Proofs.Ytbagkfeodjkdmaa

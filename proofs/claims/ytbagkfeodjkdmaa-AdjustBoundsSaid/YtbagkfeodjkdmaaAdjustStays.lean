/- AdjustStays: the walk. Printed by staysgen.py. -/
import Derived.Test.YtbagkfeodjkdmaaLives
import Derived.Test.YtbagkfeodjkdmaaOpenRules
import Derived.Test.YtbagkfeodjkdmaaTop
import Derived.Test.YtbagkfeodjkdmaaDec2
import Derived.Test.YtbagkfeodjkdmaaReg
import Derived.Test.YtbagkfeodjkdmaaWideQ
namespace Go.Proofs.Ytbagkfeodjkdmaa
open Go.RowKit Go.Maps
attribute [local go_sem] Oper.semAt_some
attribute [-go_sem] loadCellsFrom

theorem load_w {W : World} {g : Nat} {a b c d : Value} {T : TypeId} (h : Blk W g #[a, b, c, d] T) : (loadCellsFrom ⟨g, 0, none⟩ 0 4 #[]).run Try.prog W = .ok #[a, b, c, d] W := by
  have := run_loadCells_list (P := Try.prog) W ⟨g, 0, none⟩ [a, b, c, d] (fun j v hv => by
    have hadd : (⟨g, 0, none⟩ : Addr).add j = ⟨g, j, none⟩ := by unfold Addr.add; split <;> simp_all
    rw [hadd]
    exact h.cell j (by simpa using hv))
  simpa [loadCells] using this

set_option maxRecDepth 100000 in
set_option maxHeartbeats 4000000 in
/-- the walk, in words: t the target of bits, m the greatest, u, x, y the targets of the three answers. -/
theorem adjustStays_walk (cs : Array Value) (s bits N1 N2 N3 : Nat) (E a b c1 c2 : Int) (B : Bool) (t0 t1 t2 t3 m0 m1 m2 m3 u0 u1 u2 u3 x0 x1 x2 x3 y0 y1 y2 y3 e1 e2 e3 e4 : Int) (w : World)
    (hcs : cs.size = 72) (c1s : cs[1]? = some (.int .u32 s)) (hs : s < 4294967296)
    (hn1 : ∀ w, Calls Try.prog 48 #[.agg cs, .int .u32 bits, .int .i64 s] w fun e w' => e = .returned (.tuple #[.int .u32 N1, .int .i64 E]) ∧ Chg [] w w')
    (hn2 : ∀ w, Calls Try.prog 48 #[.agg cs, .int .u32 bits, .int .i64 a] w fun e w' => e = .returned (.tuple #[.int .u32 N2, .int .i64 E]) ∧ Chg [] w w')
    (hn3 : ∀ w, Calls Try.prog 48 #[.agg cs, .int .u32 bits, .int .i64 b] w fun e w' => e = .returned (.tuple #[.int .u32 N3, .int .i64 E]) ∧ Chg [] w w')
    (hz : E ≠ 0 → N1 = 0 ∧ N2 = 0 ∧ N3 = 0)
    (hdt : ∀ w, Calls Try.prog 52 #[.int .u32 bits] w fun e w' => e = .returned (.tuple #[V4 t0 t1 t2 t3, .int .i64 e1]) ∧ Chg [] w w')
    (hdu : ∀ w, Calls Try.prog 52 #[.int .u32 N1] w fun e w' => e = .returned (.tuple #[V4 u0 u1 u2 u3, .int .i64 e2]) ∧ Chg [] w w')
    (hdx : ∀ w, Calls Try.prog 52 #[.int .u32 N2] w fun e w' => e = .returned (.tuple #[V4 x0 x1 x2 x3, .int .i64 e3]) ∧ Chg [] w w')
    (hdy : ∀ w, Calls Try.prog 52 #[.int .u32 N3] w fun e w' => e = .returned (.tuple #[V4 y0 y1 y2 y3, .int .i64 e4]) ∧ Chg [] w w')
    (htop : ∀ w, Calls Try.prog 54 #[.agg cs] w fun e w' => e = .returned (V4 m0 m1 m2 m3) ∧ Chg [] w w')
    (hcmp : ∀ w, Calls Try.prog 53 #[V4 t0 t1 t2 t3, V4 m0 m1 m2 m3] w fun e w' => e = .returned (.int .i64 c1) ∧ Chg [] w w')
    (hB : decide (c1 ≤ 0) = B) (heq : E = 0 → B = true → ∀ w, (Op.equalIn 10000 93 (V4 u0 u1 u2 u3) (V4 t0 t1 t2 t3)).run Try.prog w = .ok true w)
    (hcmp2 : ∀ w, Calls Try.prog 53 #[V4 x0 x1 x2 x3, V4 y0 y1 y2 y3] w fun e w' => e = .returned (.int .i64 c2) ∧ Chg [] w w') (hc2 : E = 0 → a ≤ b → c2 ≤ 0) :
    Calls Try.prog 10 #[.agg cs, .int .u32 bits, .int .i64 a, .int .i64 b] w fun e w' => e = .returned (.bool true) ∧ Chg [] w w' := by
  unfold V4 at *
  go_enter Try.func10, Try.ntmps10
  go_wp2_with fail
  refine (law11_lives _).mono ?_
  rintro e w1 ⟨rfl, hc1⟩
  have bR := (Blk.new w cs 83).chg hc1 (by simp)
  have hcc := ((Chg.refl [] w).alloc (.cells cs 83)).trans hc1 (by simp)
  have hld := load_rules bR hcs
  have r1 := bR.cell 1 c1s
  go_wp2_with fail
  refine (hn1 _).mono ?_
  rintro e w2 ⟨rfl, hc⟩
  replace hcc := hcc.trans hc (by simp)
  replace bR := bR.chg hc (by simp)
  replace hld := load_rules bR hcs
  clear r1 hc
  dsimp only
  go_wp2_with fail
  refine (hn2 _).mono ?_
  rintro e w3 ⟨rfl, hc⟩
  replace hcc := hcc.trans hc (by simp)
  replace bR := bR.chg hc (by simp)
  replace hld := load_rules bR hcs
  clear hc
  dsimp only
  go_wp2_with fail
  refine (hn3 _).mono ?_
  rintro e w4 ⟨rfl, hc⟩
  replace hcc := hcc.trans hc (by simp)
  replace bR := bR.chg hc (by simp)
  clear hld hc
  dsimp only
  by_cases hE : E ≠ 0
  · obtain ⟨rfl, rfl, rfl⟩ := hz hE
    have hE2 : (E == 0) = false := by simpa using hE
    have hor : Go.bits .or .u32 0 0 = 0 := by decide
    go_wp2
    go_ret
    exact ⟨rfl, hcc⟩
  obtain rfl : E = 0 := by omega
  go_wp2_with fail
  refine (hdt _).mono ?_
  rintro e w5 ⟨rfl, hc⟩
  replace hcc := hcc.trans hc (by simp)
  replace bR := bR.chg hc (by simp)
  clear hc
  dsimp only
  go_upto_region 11 with fail
  have bT := Blk.new w5 #[.int .u64 t0, .int .u64 t1, .int .u64 t2, .int .u64 t3] 93
  have hcT := hcc.alloc (.cells #[.int .u64 t0, .int .u64 t1, .int .u64 t2, .int .u64 t3] 93)
  have hgeT := hcc.size
  obtain ⟨gT, hggT⟩ : ∃ g, g = w5.heap.size := ⟨_, rfl⟩
  have hneRT := bR.lt
  replace bR := bR.alloc (.cells #[.int .u64 t0, .int .u64 t1, .int .u64 t2, .int .u64 t3] 93)
  rw [← hggT] at bT hgeT hneRT ⊢
  generalize w5.alloc (.cells #[.int .u64 t0, .int .u64 t1, .int .u64 t2, .int .u64 t3] 93) = w6 at hcT bT bR ⊢
  clear hggT
  go_wp2_with fail
  refine (hdu _).mono ?_
  rintro e w7 ⟨rfl, hc⟩
  have hcc2 := hcT.trans hc (by simp)
  replace bR := bR.chg hc (by simp)
  replace bT := bT.chg hc (by simp)
  clear hc
  dsimp only
  go_upto_region 12 with fail
  have bU := Blk.new w7 #[.int .u64 u0, .int .u64 u1, .int .u64 u2, .int .u64 u3] 93
  have hcU := hcc2.alloc (.cells #[.int .u64 u0, .int .u64 u1, .int .u64 u2, .int .u64 u3] 93)
  have hgeU := hcc2.size
  obtain ⟨gU, hggU⟩ : ∃ g, g = w7.heap.size := ⟨_, rfl⟩
  have hneRU := bR.lt
  replace bR := bR.alloc (.cells #[.int .u64 u0, .int .u64 u1, .int .u64 u2, .int .u64 u3] 93)
  have hneTU := bT.lt
  replace bT := bT.alloc (.cells #[.int .u64 u0, .int .u64 u1, .int .u64 u2, .int .u64 u3] 93)
  rw [← hggU] at bU hgeU hneRU hneTU ⊢
  generalize w7.alloc (.cells #[.int .u64 u0, .int .u64 u1, .int .u64 u2, .int .u64 u3] 93) = W0 at hcU bU bR bT ⊢
  clear hggU
  cases B
  case false =>
    refine wp_region_held_drew (S := fun w' => Chg [] W0 w') (by kernel_rfl) ((Chg.refl _ _).drew) (fun hH31 => ?_)
    refine wpAnyH_take (i := 0) (v := .agg #[.int .u64 t0, .int .u64 t1, .int .u64 t2, .int .u64 t3]) rfl (by kernel_rfl) (by kernel_rfl) (by kernel_rfl) (fun _ _ _ h => h) (.inl ⟨by rfl, fun w' hw' => ?_⟩) hH31 ?_
    · (have hl := load_w (bT.chg hw' (by simp)); go_simp)
    try simp only [Act.put, List.setIfInBounds_toArray, List.set_cons_zero, List.set_cons_succ, List.getElem_toArray, List.getElem_cons_succ, List.getElem_cons_zero]
    refine wpAnyH_take (i := 1) (v := .agg cs) rfl (by kernel_rfl) (by kernel_rfl) (by kernel_rfl) (fun _ _ _ h => h) (.inl ⟨by rfl, fun w' hw' => ?_⟩) hH31 ?_
    · (have hl := load_rules (bR.chg hw' (by simp)) hcs; go_simp)
    try simp only [Act.put, List.setIfInBounds_toArray, List.set_cons_zero, List.set_cons_succ, List.getElem_toArray, List.getElem_cons_succ, List.getElem_cons_zero]
    refine wpAnyH_ready (rs := [2]) (by kernel_rfl) (by simp) (AllReadyH.cons rfl (fun K hK => ?_) AllReadyH.nil)
    go_simp
    go_at_call 54
    refine (htop _).mono ?_
    rintro e32 w32 ⟨rfl, hc32⟩
    dsimp only
    have hH32 := hH31.trans hc32 (by simp)
    refine hK.out _ _ hH32 (fun _ => ?_)
    try simp only [Act.put, List.setIfInBounds_toArray, List.set_cons_zero, List.set_cons_succ, List.getElem_toArray, List.getElem_cons_succ, List.getElem_cons_zero]
    refine wpAnyH_ready (rs := [3]) (by kernel_rfl) (by simp) (AllReadyH.cons rfl (fun K hK => ?_) AllReadyH.nil)
    go_simp
    go_at_call 53
    refine (hcmp _).mono ?_
    rintro e33 w33 ⟨rfl, hc33⟩
    dsimp only
    have hH33 := hH32.trans hc33 (by simp)
    refine hK.out _ _ hH33 (fun _ => ?_)
    try simp only [Act.put, List.setIfInBounds_toArray, List.set_cons_zero, List.set_cons_succ, List.getElem_toArray, List.getElem_cons_succ, List.getElem_cons_zero]
    refine wpAnyH_take (i := 4) (v := .bool false) rfl (by kernel_rfl) (by kernel_rfl) (by kernel_rfl) (fun _ _ _ h => h) (.inl ⟨by rfl, fun w' hw' => ?_⟩) hH33 ?_
    · (go_simp; try simp [hB])
    try simp only [Act.put, List.setIfInBounds_toArray, List.set_cons_zero, List.set_cons_succ, List.getElem_toArray, List.getElem_cons_succ, List.getElem_cons_zero]
    refine wpAnyH_take (i := 5) (v := .bool false) rfl (by kernel_rfl) (by kernel_rfl) (by kernel_rfl) (fun _ _ _ h => h) (.inl ⟨by rfl, fun w' hw' => ?_⟩) hH33 ?_
    · go_simp
    try simp only [Act.put, List.setIfInBounds_toArray, List.set_cons_zero, List.set_cons_succ, List.getElem_toArray, List.getElem_cons_succ, List.getElem_cons_zero]
    refine wpAnyH_take (i := 6) (v := undef) rfl (by kernel_rfl) (by kernel_rfl) (by kernel_rfl) (fun _ _ _ h => h) (.inr ⟨by rfl, rfl⟩) hH33 ?_
    try simp only [Act.put, List.setIfInBounds_toArray, List.set_cons_zero, List.set_cons_succ, List.getElem_toArray, List.getElem_cons_succ, List.getElem_cons_zero]
    refine wpAnyH_take (i := 7) (v := undef) rfl (by kernel_rfl) (by kernel_rfl) (by kernel_rfl) (fun _ _ _ h => h) (.inr ⟨by rfl, rfl⟩) hH33 ?_
    try simp only [Act.put, List.setIfInBounds_toArray, List.set_cons_zero, List.set_cons_succ, List.getElem_toArray, List.getElem_cons_succ, List.getElem_cons_zero]
    refine wpAnyH_take (i := 8) (v := undef) rfl (by kernel_rfl) (by kernel_rfl) (by kernel_rfl) (fun _ _ _ h => h) (.inr ⟨by rfl, rfl⟩) hH33 ?_
    try simp only [Act.put, List.setIfInBounds_toArray, List.set_cons_zero, List.set_cons_succ, List.getElem_toArray, List.getElem_cons_succ, List.getElem_cons_zero]
    refine wpAnyH_take (i := 9) (v := .bool false) rfl (by kernel_rfl) (by kernel_rfl) (by kernel_rfl) (fun _ _ _ h => h) (.inl ⟨by rfl, fun w' hw' => ?_⟩) hH33 ?_
    · go_simp
    try simp only [Act.put, List.setIfInBounds_toArray, List.set_cons_zero, List.set_cons_succ, List.getElem_toArray, List.getElem_cons_succ, List.getElem_cons_zero]
    refine wpAnyH_done (by kernel_rfl) ?_ _
    have fc := hcU.trans hH33 (by simp)
    go_wp2_with fail
    refine (hdx _).mono ?_
    rintro e w8 ⟨rfl, hc⟩
    have hcc3 := fc.trans hc (by simp)
    clear hc
    dsimp only
    go_upto_region 15 with fail
    have bX := Blk.new w8 #[.int .u64 x0, .int .u64 x1, .int .u64 x2, .int .u64 x3] 93
    have hcX := hcc3.alloc (.cells #[.int .u64 x0, .int .u64 x1, .int .u64 x2, .int .u64 x3] 93)
    have hgeX := hcc3.size
    obtain ⟨gX, hggX⟩ : ∃ g, g = w8.heap.size := ⟨_, rfl⟩
    rw [← hggX] at bX hgeX  ⊢
    generalize w8.alloc (.cells #[.int .u64 x0, .int .u64 x1, .int .u64 x2, .int .u64 x3] 93) = w9 at hcX bX  ⊢
    clear hggX
    go_wp2_with fail
    refine (hdy _).mono ?_
    rintro e w10 ⟨rfl, hc⟩
    have hcc4 := hcX.trans hc (by simp)
    replace bX := bX.chg hc (by simp)
    clear hc
    dsimp only
    go_upto_region 16 with fail
    have bY := Blk.new w10 #[.int .u64 y0, .int .u64 y1, .int .u64 y2, .int .u64 y3] 93
    have hcY := hcc4.alloc (.cells #[.int .u64 y0, .int .u64 y1, .int .u64 y2, .int .u64 y3] 93)
    have hgeY := hcc4.size
    obtain ⟨gY, hggY⟩ : ∃ g, g = w10.heap.size := ⟨_, rfl⟩
    have hneXY := bX.lt
    replace bX := bX.alloc (.cells #[.int .u64 y0, .int .u64 y1, .int .u64 y2, .int .u64 y3] 93)
    rw [← hggY] at bY hgeY hneXY ⊢
    generalize w10.alloc (.cells #[.int .u64 y0, .int .u64 y1, .int .u64 y2, .int .u64 y3] 93) = w11 at hcY bY bX ⊢
    clear hggY
    by_cases hab : b < a
    · have hab2 : decide (b < a) = true := by simpa using hab
      go_wp2
      go_ret
      exact ⟨rfl, hcY⟩
    have hab2 : decide (b < a) = false := by simpa using hab
    have hl1 := load_w bX
    have hl2 := load_w bY
    have hc3 : decide (c2 ≤ 0) = true := by simpa using hc2 (by simp) (by omega)
    go_wp2_with fail
    refine (hcmp2 _).mono ?_
    rintro e w12 ⟨rfl, hc⟩
    go_wp2
    go_ret
    exact ⟨rfl, hcY.trans hc (by simp)⟩
  case true =>
    have heq2 := heq (by simp) (by simp)
    refine wp_region_held_drew (S := fun w' => Chg [] W0 w') (by kernel_rfl) ((Chg.refl _ _).drew) (fun hH31 => ?_)
    refine wpAnyH_take (i := 0) (v := .agg #[.int .u64 t0, .int .u64 t1, .int .u64 t2, .int .u64 t3]) rfl (by kernel_rfl) (by kernel_rfl) (by kernel_rfl) (fun _ _ _ h => h) (.inl ⟨by rfl, fun w' hw' => ?_⟩) hH31 ?_
    · (have hl := load_w (bT.chg hw' (by simp)); go_simp)
    try simp only [Act.put, List.setIfInBounds_toArray, List.set_cons_zero, List.set_cons_succ, List.getElem_toArray, List.getElem_cons_succ, List.getElem_cons_zero]
    refine wpAnyH_take (i := 1) (v := .agg cs) rfl (by kernel_rfl) (by kernel_rfl) (by kernel_rfl) (fun _ _ _ h => h) (.inl ⟨by rfl, fun w' hw' => ?_⟩) hH31 ?_
    · (have hl := load_rules (bR.chg hw' (by simp)) hcs; go_simp)
    try simp only [Act.put, List.setIfInBounds_toArray, List.set_cons_zero, List.set_cons_succ, List.getElem_toArray, List.getElem_cons_succ, List.getElem_cons_zero]
    refine wpAnyH_ready (rs := [2]) (by kernel_rfl) (by simp) (AllReadyH.cons rfl (fun K hK => ?_) AllReadyH.nil)
    go_simp
    go_at_call 54
    refine (htop _).mono ?_
    rintro e32 w32 ⟨rfl, hc32⟩
    dsimp only
    have hH32 := hH31.trans hc32 (by simp)
    refine hK.out _ _ hH32 (fun _ => ?_)
    try simp only [Act.put, List.setIfInBounds_toArray, List.set_cons_zero, List.set_cons_succ, List.getElem_toArray, List.getElem_cons_succ, List.getElem_cons_zero]
    refine wpAnyH_ready (rs := [3]) (by kernel_rfl) (by simp) (AllReadyH.cons rfl (fun K hK => ?_) AllReadyH.nil)
    go_simp
    go_at_call 53
    refine (hcmp _).mono ?_
    rintro e33 w33 ⟨rfl, hc33⟩
    dsimp only
    have hH33 := hH32.trans hc33 (by simp)
    refine hK.out _ _ hH33 (fun _ => ?_)
    try simp only [Act.put, List.setIfInBounds_toArray, List.set_cons_zero, List.set_cons_succ, List.getElem_toArray, List.getElem_cons_succ, List.getElem_cons_zero]
    refine wpAnyH_take (i := 4) (v := .bool true) rfl (by kernel_rfl) (by kernel_rfl) (by kernel_rfl) (fun _ _ _ h => h) (.inl ⟨by rfl, fun w' hw' => ?_⟩) hH33 ?_
    · (go_simp; try simp [hB])
    try simp only [Act.put, List.setIfInBounds_toArray, List.set_cons_zero, List.set_cons_succ, List.getElem_toArray, List.getElem_cons_succ, List.getElem_cons_zero]
    refine wpAnyH_take (i := 5) (v := .bool true) rfl (by kernel_rfl) (by kernel_rfl) (by kernel_rfl) (fun _ _ _ h => h) (.inl ⟨by rfl, fun w' hw' => ?_⟩) hH33 ?_
    · go_simp
    try simp only [Act.put, List.setIfInBounds_toArray, List.set_cons_zero, List.set_cons_succ, List.getElem_toArray, List.getElem_cons_succ, List.getElem_cons_zero]
    refine wpAnyH_take (i := 6) (v := .agg #[.int .u64 u0, .int .u64 u1, .int .u64 u2, .int .u64 u3]) rfl (by kernel_rfl) (by kernel_rfl) (by kernel_rfl) (fun _ _ _ h => h) (.inl ⟨by rfl, fun w' hw' => ?_⟩) hH33 ?_
    · (have hl := load_w (bU.chg hw' (by simp)); go_simp)
    try simp only [Act.put, List.setIfInBounds_toArray, List.set_cons_zero, List.set_cons_succ, List.getElem_toArray, List.getElem_cons_succ, List.getElem_cons_zero]
    refine wpAnyH_take (i := 7) (v := .agg #[.int .u64 t0, .int .u64 t1, .int .u64 t2, .int .u64 t3]) rfl (by kernel_rfl) (by kernel_rfl) (by kernel_rfl) (fun _ _ _ h => h) (.inl ⟨by rfl, fun w' hw' => ?_⟩) hH33 ?_
    · (have hl := load_w (bT.chg hw' (by simp)); go_simp)
    try simp only [Act.put, List.setIfInBounds_toArray, List.set_cons_zero, List.set_cons_succ, List.getElem_toArray, List.getElem_cons_succ, List.getElem_cons_zero]
    refine wpAnyH_take (i := 8) (v := .bool false) rfl (by kernel_rfl) (by kernel_rfl) (by kernel_rfl) (fun _ _ _ h => h) (.inl ⟨by rfl, fun w' hw' => ?_⟩) hH33 ?_
    · (go_simp)
    try simp only [Act.put, List.setIfInBounds_toArray, List.set_cons_zero, List.set_cons_succ, List.getElem_toArray, List.getElem_cons_succ, List.getElem_cons_zero]
    refine wpAnyH_take (i := 9) (v := .bool false) rfl (by kernel_rfl) (by kernel_rfl) (by kernel_rfl) (fun _ _ _ h => h) (.inl ⟨by rfl, fun w' hw' => ?_⟩) hH33 ?_
    · go_simp
    try simp only [Act.put, List.setIfInBounds_toArray, List.set_cons_zero, List.set_cons_succ, List.getElem_toArray, List.getElem_cons_succ, List.getElem_cons_zero]
    refine wpAnyH_done (by kernel_rfl) ?_ _
    have fc := hcU.trans hH33 (by simp)
    go_wp2_with fail
    refine (hdx _).mono ?_
    rintro e w8 ⟨rfl, hc⟩
    have hcc3 := fc.trans hc (by simp)
    clear hc
    dsimp only
    go_upto_region 15 with fail
    have bX := Blk.new w8 #[.int .u64 x0, .int .u64 x1, .int .u64 x2, .int .u64 x3] 93
    have hcX := hcc3.alloc (.cells #[.int .u64 x0, .int .u64 x1, .int .u64 x2, .int .u64 x3] 93)
    have hgeX := hcc3.size
    obtain ⟨gX, hggX⟩ : ∃ g, g = w8.heap.size := ⟨_, rfl⟩
    rw [← hggX] at bX hgeX  ⊢
    generalize w8.alloc (.cells #[.int .u64 x0, .int .u64 x1, .int .u64 x2, .int .u64 x3] 93) = w9 at hcX bX  ⊢
    clear hggX
    go_wp2_with fail
    refine (hdy _).mono ?_
    rintro e w10 ⟨rfl, hc⟩
    have hcc4 := hcX.trans hc (by simp)
    replace bX := bX.chg hc (by simp)
    clear hc
    dsimp only
    go_upto_region 16 with fail
    have bY := Blk.new w10 #[.int .u64 y0, .int .u64 y1, .int .u64 y2, .int .u64 y3] 93
    have hcY := hcc4.alloc (.cells #[.int .u64 y0, .int .u64 y1, .int .u64 y2, .int .u64 y3] 93)
    have hgeY := hcc4.size
    obtain ⟨gY, hggY⟩ : ∃ g, g = w10.heap.size := ⟨_, rfl⟩
    have hneXY := bX.lt
    replace bX := bX.alloc (.cells #[.int .u64 y0, .int .u64 y1, .int .u64 y2, .int .u64 y3] 93)
    rw [← hggY] at bY hgeY hneXY ⊢
    generalize w10.alloc (.cells #[.int .u64 y0, .int .u64 y1, .int .u64 y2, .int .u64 y3] 93) = w11 at hcY bY bX ⊢
    clear hggY
    by_cases hab : b < a
    · have hab2 : decide (b < a) = true := by simpa using hab
      go_wp2
      go_ret
      exact ⟨rfl, hcY⟩
    have hab2 : decide (b < a) = false := by simpa using hab
    have hl1 := load_w bX
    have hl2 := load_w bY
    have hc3 : decide (c2 ≤ 0) = true := by simpa using hc2 (by simp) (by omega)
    go_wp2_with fail
    refine (hcmp2 _).mono ?_
    rintro e w12 ⟨rfl, hc⟩
    go_wp2
    go_ret
    exact ⟨rfl, hcY.trans hc (by simp)⟩
end Go.Proofs.Ytbagkfeodjkdmaa

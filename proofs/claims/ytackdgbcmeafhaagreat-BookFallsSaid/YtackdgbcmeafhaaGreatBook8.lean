/- Package book: Fall; package pool: Take. -/
import Derived.Test.YtackdgbcmeafhaaGreatBook7
import Derived.Test.YtackdgbcmeafhaaGreatPart
namespace Go.Proofs.YtackdgbcmeafhaaGreat
open Go.RowKit Go.Maps Go.Shelf
attribute [-go_sem] loadCellsFrom

theorem addA_ok {n a : Nat} (h : n + a ≤ 4611686018427387904) : addA n a = (((n + a : Nat) : Int), 0) := by
  unfold addA
  rw [if_pos (by omega), if_pos (by omega), Int.natCast_add]
set_option maxHeartbeats 1000000 in
theorem pool_Take {T : TypeId} {cs : Array Value} (b i pc pi c n : Nat) (w : World) (hb : Blk w b cs T) (h0 : cs[i]? = some (.int .u64 pc)) (h1 : cs[i + 1]? = some (.int .u64 pi)) (hc : pc + c ≤ 4611686018427387904) (hn : pi + n ≤ 4611686018427387904) :
    Calls Tryz.prog 59 #[.pointer (some ⟨b, i, none⟩), .int .u64 c, .int .u64 n] w fun e w' => e = .returned (.int .i64 0) ∧ Blk w' b ((cs.setIfInBounds i (.int .u64 (pc + c : Nat))).setIfInBounds (i + 1) (.int .u64 (pi + n : Nat))) T ∧ Chg [b] w w' := by
  have c0 := hb.cell i h0
  have c1 := hb.cell (i + 1) h1
  have f0 := hb.free i
  have f1 := hb.free (i + 1)
  have a0 := fun w => Amount_Add pc c w (by omega) (by omega)
  have a1 := fun w => Amount_Add pi n w (by omega) (by omega)
  rw [addA_ok hc] at a0
  rw [addA_ok hn] at a1
  generalize ((pc + c : Nat) : Int) = X at *
  generalize ((pi + n : Nat) : Int) = Y at *
  clear hc hn h0 h1
  go_enter Tryz.func59, Tryz.ntmps59
  go_wp2_with (first
    | (go_at_call_of 46 (Value.int IntKind.u64 pc); refine (a0 _).mono ?_; rintro e w' ⟨rfl, rfl⟩)
    | (go_at_call_of 46 (Value.int IntKind.u64 pi); refine (a1 _).mono ?_; rintro e w' ⟨rfl, rfl⟩))
  go_ret
  exact ⟨rfl, (hb.set i _).set (i + 1) _, ((Chg.refl _ _).setCell (.inl (by simp)) _).setCell (.inl (by simp)) _⟩
theorem BkAt.setP {w w' : World} {x : Lc} {B : Bk} (h : BkAt w x B) {c n : Nat} (hb : Blk w' x.b (((bkCells x B).setIfInBounds 15 (.int .u64 c)).setIfInBounds 16 (.int .u64 n)) 97) (k : Chg [x.b] w w') : BkAt w' x { B with pc := c, pi := n } := by
  have hnd := h.nd
  simp only [Lc.all, List.nodup_cons, List.mem_cons, List.not_mem_nil, or_false, not_or] at hnd
  obtain ⟨⟨q1, q2, q3, q4, q5, q6, q7⟩, -⟩ := hnd
  exact ⟨hb, h.led.chg k (by simp [Ne.symm q1]) (by simp [Ne.symm q2]), h.pur.chg k (by simp [Ne.symm q3]) (by simp [Ne.symm q4]) (by simp [Ne.symm q5]), h.fd.chg k (by simp [Ne.symm q6]), h.vm.chg k (by simp [Ne.symm q7]), h.nd⟩
set_option maxRecDepth 100000 in
set_option maxHeartbeats 4000000 in
theorem book_Fall (x : Lc) (B : Bk) (k : Int) (v : Vt) (hv : VtOk v) (hk : (Lit.int .u8 k).wf = true) (hf : B.f k = some v) (hfal : v.fal = false) (hwho : v.who = k) (hgo : 0 < v.goi) (hcol : v.col ≤ 4611686018427387904) (hig : v.iss + v.goi < 18446744073709551616)
    (N : Nat) (hN : N = (partN v.col v.goi (v.iss + v.goi) true).1) (hNc : N ≤ v.col) (hp1 : B.pc + (v.col - N) ≤ 4611686018427387904) (hp2 : B.pi + v.iss ≤ 4611686018427387904) (hcnt : B.cnt < 1000) (w : World) (h : BkAt w x B) :
    Calls Tryz.prog 19 #[.pointer (some ⟨x.b, 0, none⟩), .int .u8 k] w fun e w' => e = .returned (.int .i64 0) ∧ BkAt w' x (({ B with pc := B.pc + (v.col - N), pi := B.pi + v.iss } : Bk).put { v with col := N, iss := 0, lea := 0, fal := true }) ∧ Chg [x.vm, x.b] w w' := by
  have hz := zVault
  have hsz := v.size hv.1
  have hinfo : (Tryz.prog.info? 52).map (·.size) = some 27 := by kernel_rfl
  have hop := book_open_ok x B k 1 false v hv hk (by decide) hf (by rw [hfal]; rfl) w h
  have hs1 := v.set_col hv.1 N
  have hs2 := Vt.set_iss { v with col := N } hv.1 0
  have hs3 := Vt.set_lea { v with col := N, iss := 0 } hv.1 0
  have hs4 := Vt.set_fal { v with col := N, iss := 0, lea := 0 } hv.1 true
  obtain ⟨v2, hv2⟩ : ∃ v2 : Vt, v2 = { v with col := N, iss := 0, lea := 0, fal := true } := ⟨_, rfl⟩
  rw [← hs3, ← hs2, ← hs1] at hs4
  rw [← hv2] at hs4 ⊢
  have hvo2 : VtOk v2 := by rw [hv2]; exact hv
  have hw2 : v2.who = k := by rw [hv2]; exact hwho
  have hsz2 := v2.size hvo2.1
  clear hs1 hs2 hs3 hv2
  have h21 := (v.c21 hv.1).1
  have h22 := (v.c21 hv.1).2.1
  have h24 := (v.c21 hv.1).2.2.2.1
  have h25 := (v.c21 hv.1).2.2.2.2.1
  have h26 := (v.c21 hv.1).2.2.2.2.2
  have hpart := fun w => money_Part v.col v.goi (v.iss + v.goi) true (by omega) hig (by omega) w
  rw [← hN] at hpart
  have htake : ∀ W, Blk W x.b (bkCells x B) 97 → Calls Tryz.prog 59 #[.pointer (some ⟨x.b, 15, none⟩), .int .u64 ((v.col : Int) - N), .int .u64 v.iss] W fun e w' => e = .returned (.int .i64 0) ∧ Blk w' x.b (((bkCells x B).setIfInBounds 15 (.int .u64 (B.pc + (v.col - N) : Nat))).setIfInBounds 16 (.int .u64 (B.pi + v.iss : Nat))) 97 ∧ Chg [x.b] W w' := fun W hb => by
    rw [← Int.ofNat_sub hNc]
    exact pool_Take x.b 15 B.pc B.pi (v.col - N) v.iss W hb rfl rfl hp1 hp2
  have hd1 : (0 : Int) < v.goi := by omega
  have hd2 : (v.iss : Int) + v.goi < 18446744073709551616 := by omega
  have hd3 : (0 : Int) ≤ v.iss := by omega
  have hd4 : (N : Int) ≤ v.col := by omega
  have hd5 : (v.col : Int) < 18446744073709551616 := by omega
  have hd6 : (0 : Int) ≤ N := by omega
  rw [Int.natCast_add] at hpart
  generalize (partN v.col v.goi (v.iss + v.goi) true).2 = E at hpart
  generalize B.pc + (v.col - N) = PC at htake ⊢
  generalize B.pi + v.iss = PI at htake ⊢
  clear hN hNc hp1 hp2 hig hgo hcol
  obtain ⟨Z, hK⟩ : ∃ Z : Int, Z = (N : Int) := ⟨_, rfl⟩
  obtain ⟨C, hC⟩ : ∃ Z : Int, Z = (v.col : Int) := ⟨_, rfl⟩
  obtain ⟨I, hI⟩ : ∃ Z : Int, Z = (v.iss : Int) := ⟨_, rfl⟩
  obtain ⟨G, hG⟩ : ∃ Z : Int, Z = (v.goi : Int) := ⟨_, rfl⟩
  rw [← hK] at hs4 hpart htake hd4 hd6
  rw [← hC] at hpart htake hd4 hd5 h21
  rw [← hI] at hpart htake hd2 hd3 h22
  rw [← hG] at hpart hd1 hd2 h24
  clear hK hC hI hG
  have hwr0 : IntKind.u64.wrap (C - Z) = C - Z := by
    have : IntKind.u64.wrap (C - Z) = (C - Z) % 18446744073709551616 := rfl
    omega
  rw [show ((0 : Nat) : Int) = 0 by rfl] at hs4
  have hs4' := Lib.hid hs4
  clear hs4
  go_enter Tryz.func19, Tryz.ntmps19
  go_wp2_with fail
  refine hop.mono ?_
  rintro e w1 ⟨rfl, k1⟩
  have hst := run_storeCells_new (P := Tryz.prog) w1 52 zVt v.cs (by rw [hsz]; exact hinfo) (by rw [hsz]; rfl) hv.one
  have hb1 := Blk.new w1 v.cs 52
  have hA1 := h.same (k1.alloc (.cells v.cs 52))
  have hg := Lib.hid (h.same k1).ltv
  have hgl := Lib.hid (h.same k1).lt
  have hc24 := hb1.cell 24 h24
  have hc22 := hb1.cell 22 h22
  have hc21 := hb1.cell 21 h21
  have kA : Chg [] w (w1.alloc (.cells v.cs 52)) := k1.alloc _
  go_wp2_with fail
  refine (hpart _).mono ?_
  rintro e w2 ⟨rfl, k2⟩
  go_wp2_with fail
  have hA2 := hA1.same k2
  have hb2 := hb1.chg k2 (by simp)
  have kA2 := kA.trans k2 (by simp)
  have hgb : w1.heap.size ≠ x.b := by have := hg.out; omega
  have hgs := k1.size
  have hgl2 : ∀ W w', Chg [w1.heap.size] W w' → ∀ B', BkAt W x B' → BkAt w' x B' := fun W w' k B' hB => hB.off k w1 hgl.out (Nat.le_refl _)
  have hgv : x.vm ≠ w1.heap.size := by have := hg.out; omega
  clear hc24 hc22 hc21 hst hg hgl k1 k2 kA hA1 hb1 hz hinfo
  have hgl3 := Lib.hid hgl2
  clear hgl2
  generalize w1.heap.size = g at *
  clear hop
  refine wp_region_held_drew (S := fun w' => Chg [x.b] w2 w') (by kernel_rfl) ((Chg.refl _ _).drew) (fun hH0 => ?_)
  refine wpAnyH_take (i := 0) (v := .pointer (some ⟨x.b, 0, none⟩)) rfl (by kernel_rfl) (by kernel_rfl) (by kernel_rfl) (fun _ _ _ h => h) (.inl ⟨by rfl, fun w' hw' => ?_⟩) hH0 ?_
  · go_simp
  try simp only [Act.put, List.setIfInBounds_toArray, List.set_cons_zero, List.set_cons_succ, List.getElem_toArray, List.getElem_cons_succ, List.getElem_cons_zero]
  refine wpAnyH_take (i := 1) (v := .pointer (some ⟨x.b, 0, none⟩)) rfl (by kernel_rfl) (by kernel_rfl) (by kernel_rfl) (fun _ _ _ h => h) (.inl ⟨by rfl, fun w' hw' => ?_⟩) hH0 ?_
  · go_simp
  try simp only [Act.put, List.setIfInBounds_toArray, List.set_cons_zero, List.set_cons_succ, List.getElem_toArray, List.getElem_cons_succ, List.getElem_cons_zero]
  refine wpAnyH_take (i := 2) (v := .pointer (some ⟨x.b, 15, none⟩)) rfl (by kernel_rfl) (by kernel_rfl) (by kernel_rfl) (fun _ _ _ h => h) (.inl ⟨by rfl, fun w' hw' => ?_⟩) hH0 ?_
  · go_simp
  try simp only [Act.put, List.setIfInBounds_toArray, List.set_cons_zero, List.set_cons_succ, List.getElem_toArray, List.getElem_cons_succ, List.getElem_cons_zero]
  refine wpAnyH_take (i := 3) (v := .pointer (some ⟨g, 21, none⟩)) rfl (by kernel_rfl) (by kernel_rfl) (by kernel_rfl) (fun _ _ _ h => h) (.inl ⟨by rfl, fun w' hw' => ?_⟩) hH0 ?_
  · go_simp
  try simp only [Act.put, List.setIfInBounds_toArray, List.set_cons_zero, List.set_cons_succ, List.getElem_toArray, List.getElem_cons_succ, List.getElem_cons_zero]
  refine wpAnyH_take (i := 4) (v := .int .u64 C) rfl (by kernel_rfl) (by kernel_rfl) (by kernel_rfl) (fun _ _ _ h => h) (.inl ⟨by rfl, fun w' hw' => ?_⟩) hH0 ?_
  · have hz := (hb2.chg hw' (by simp; exact hgb)).cell 21 h21
    go_simp
  try simp only [Act.put, List.setIfInBounds_toArray, List.set_cons_zero, List.set_cons_succ, List.getElem_toArray, List.getElem_cons_succ, List.getElem_cons_zero]
  refine wpAnyH_take (i := 5) (v := .int .u64 Z) rfl (by kernel_rfl) (by kernel_rfl) (by kernel_rfl) (fun _ _ _ h => h) (.inl ⟨by rfl, fun w' hw' => ?_⟩) hH0 ?_
  · go_simp
  try simp only [Act.put, List.setIfInBounds_toArray, List.set_cons_zero, List.set_cons_succ, List.getElem_toArray, List.getElem_cons_succ, List.getElem_cons_zero]
  refine wpAnyH_take (i := 6) (v := .int .u64 (C - Z)) rfl (by kernel_rfl) (by kernel_rfl) (by kernel_rfl) (fun _ _ _ h => h) (.inl ⟨by rfl, fun w' hw' => ?_⟩) hH0 ?_
  · have hwr := hwr0
    go_simp
  try simp only [Act.put, List.setIfInBounds_toArray, List.set_cons_zero, List.set_cons_succ, List.getElem_toArray, List.getElem_cons_succ, List.getElem_cons_zero]
  refine wpAnyH_take (i := 7) (v := .pointer (some ⟨g, 22, none⟩)) rfl (by kernel_rfl) (by kernel_rfl) (by kernel_rfl) (fun _ _ _ h => h) (.inl ⟨by rfl, fun w' hw' => ?_⟩) hH0 ?_
  · go_simp
  try simp only [Act.put, List.setIfInBounds_toArray, List.set_cons_zero, List.set_cons_succ, List.getElem_toArray, List.getElem_cons_succ, List.getElem_cons_zero]
  refine wpAnyH_take (i := 8) (v := .int .u64 I) rfl (by kernel_rfl) (by kernel_rfl) (by kernel_rfl) (fun _ _ _ h => h) (.inl ⟨by rfl, fun w' hw' => ?_⟩) hH0 ?_
  · have hz := (hb2.chg hw' (by simp; exact hgb)).cell 22 h22
    go_simp
  try simp only [Act.put, List.setIfInBounds_toArray, List.set_cons_zero, List.set_cons_succ, List.getElem_toArray, List.getElem_cons_succ, List.getElem_cons_zero]
  refine wpAnyH_ready (rs := [9]) (by kernel_rfl) (by simp) (AllReadyH.cons rfl (fun K hK => ?_) AllReadyH.nil)
  try rw [if_pos (by rfl)]
  go_simp
  go_at_call 59
  refine (htake _ (hA2.blk.drew)).mono ?_
  rintro e wk1 ⟨rfl, hP2, hd1⟩
  dsimp only
  have hH1 := hH0.trans hd1 (by simp)
  refine hK.out _ _ hH1 (fun _ => ?_)
  try simp only [Act.put, List.setIfInBounds_toArray, List.set_cons_zero, List.set_cons_succ, List.getElem_toArray, List.getElem_cons_succ, List.getElem_cons_zero]
  refine wpAnyH_take (i := 10) (v := .int .i64 0) rfl (by kernel_rfl) (by kernel_rfl) (by kernel_rfl) (fun _ _ _ h => h) (.inl ⟨by rfl, fun w' hw' => ?_⟩) hH1 ?_
  · go_simp
  try simp only [Act.put, List.setIfInBounds_toArray, List.set_cons_zero, List.set_cons_succ, List.getElem_toArray, List.getElem_cons_succ, List.getElem_cons_zero]
  refine wpAnyH_done (by kernel_rfl) ?_ _
  have hA3 := hA2.setP hP2 hH1
  have hb3 := hb2.chg hH1 (by simp; exact hgb)
  have f21 := hb3.free 21
  have f22 := hb3.free 22
  have f25 := hb3.free 25
  have f26 := hb3.free 26
  have c21 := hb3.cell 21 h21
  have c22 := hb3.cell 22 h22
  have c25 := hb3.cell 25 h25
  have c26 := hb3.cell 26 h26
  have hb4 := (((hb3.set 21 (.int .u64 Z)).set 22 (.int .u64 0)).set 25 (.int .u64 0)).set 26 (.bool true)
  rw [hs4'.out] at hb4
  have hld := load_blk hb4 27 hsz2
  have hsc : Chg [g] wk1 ((((wk1.setCell ⟨g, 21, none⟩ (.int .u64 Z)).setCell ⟨g, 22, none⟩ (.int .u64 0)).setCell ⟨g, 25, none⟩ (.int .u64 0)).setCell ⟨g, 26, none⟩ (.bool true)) := ((((Chg.refl _ _).setCell (.inl (by simp)) _).setCell (.inl (by simp)) _).setCell (.inl (by simp)) _).setCell (.inl (by simp)) _
  have hA4 := hgl3.out _ _ hsc _ hA3
  have k04 := (((kA2.mono (S := []) (T := [x.b]) (by simp)).trans hH1 (by simp)).trans hsc (fun t ht => .inr (by simp at ht; omega)))
  clear hb2 hb3 hA2 hA3
  go_wp2_with (go_at_call 53; refine (book_put x { B with pc := PC, pi := PI } v2 hvo2.1 (by rw [hw2]; exact hk) hcnt _ hA4).mono ?_; rintro e w5 ⟨rfl, hB5, k5⟩)
  go_ret
  exact ⟨rfl, hB5, (k04.mono (by simp)).trans k5 (by simp)⟩
end Go.Proofs.YtackdgbcmeafhaaGreat

/- Package book: less, Mint, Burn. -/
import Derived.Test.YtackdgbcmeafhaaGreatBookOps

namespace Go.Proofs.YtackdgbcmeafhaaGreat
open Go.RowKit Go.Maps Go.Shelf
attribute [-go_sem] loadCellsFrom

theorem BkAt.setL {w w' : World} {x : Lc} {B : Bk} (h : BkAt w x B) {L : Led} (hL : LedAt w' x.t x.tm L) (c : Chg [x.t, x.tm] w w') : BkAt w' x { B with L := L } := by
  have hnd := h.nd
  simp only [Lc.all, List.nodup_cons, List.mem_cons, List.not_mem_nil, or_false, not_or] at hnd
  obtain ⟨⟨q1, q2, q3, q4, q5, q6, q7⟩, ⟨q8, q9, q10, q11, q12, q13⟩, ⟨q14, q15, q16, q17, q18⟩, ⟨q19, q20, q21, q22⟩, ⟨q23, q24, q25⟩, ⟨q26, q27⟩, q28, -⟩ := hnd
  exact ⟨h.blk.chg c (by simp [q1, q2]), hL, h.pur.chg c (by simp [Ne.symm q9, Ne.symm q14]) (by simp [Ne.symm q10, Ne.symm q15]) (by simp [Ne.symm q11, Ne.symm q16]), h.fd.chg c (by simp [Ne.symm q12, Ne.symm q17]), h.vm.chg c (by simp [Ne.symm q13, Ne.symm q18]), h.nd⟩

set_option maxHeartbeats 1000000 in
theorem book_less {T : TypeId} {cs : Array Value} (b i n a : Nat) (w : World) (hb : Blk w b cs T) (hc : cs[i]? = some (.int .u64 n)) :
    Calls Tryz.prog 57 #[.pointer (some ⟨b, i, none⟩), .int .u64 a] w fun e w' => e = .returned (.int .i64 (subA n a).2) ∧ Blk w' b (if (subA n a).2 = 0 then cs.setIfInBounds i (.int .u64 (subA n a).1) else cs) T ∧ Chg [b] w w' := by
  have c := hb.cell i hc
  have hf := hb.free i
  have hs := fun w => Amount_Sub n a w (by omega) (by omega)
  generalize subA (n : Int) (a : Int) = S at hs ⊢
  obtain ⟨s1, s2⟩ := S
  dsimp only at hs ⊢
  by_cases h : s2 = 0
  · subst h
    go_enter Tryz.func57, Tryz.ntmps57
    go_wp2_with (go_at_call 105; refine (hs _).mono ?_; rintro e w' ⟨rfl, rfl⟩)
    go_ret
    exact ⟨rfl, hb.set i _, (Chg.refl _ _).setCell (.inl (by simp)) _⟩
  · have bE : (s2 == 0) = false := by simp [h]
    have h' := Lib.hid h
    clear h
    go_enter Tryz.func57, Tryz.ntmps57
    go_wp2_with (go_at_call 105; refine (hs _).mono ?_; rintro e w' ⟨rfl, rfl⟩)
    go_ret
    exact ⟨rfl, hb, Chg.refl _ _⟩
theorem BkAt.lt {w : World} {x : Lc} {B : Bk} (h : BkAt w x B) : ∀ k ∈ x.all, k < w.heap.size := by
  have hp := And.intro h.pur.blk.lt h.pur.led.lt
  have hl := h.led.lt
  simp only [Lc.all, List.mem_cons, List.not_mem_nil, or_false]
  rintro k (rfl | rfl | rfl | rfl | rfl | rfl | rfl | rfl)
  · exact h.blk.lt
  · exact hl.1
  · exact hl.2
  · exact hp.1
  · exact hp.2.1
  · exact hp.2.2
  · exact Blk.lt h.fd
  · exact h.vm.lt
theorem BkAt.ltv {w : World} {x : Lc} {B : Bk} (h : BkAt w x B) : x.vm < w.heap.size ∧ x.t < w.heap.size ∧ x.tm < w.heap.size ∧ x.b < w.heap.size := ⟨h.lt _ (by simp [Lc.all]), h.lt _ (by simp [Lc.all]), h.lt _ (by simp [Lc.all]), h.lt _ (by simp [Lc.all])⟩
theorem BkAt.off {w w' : World} {x : Lc} {B : Bk} (h : BkAt w x B) {g : Nat} (c : Chg [g] w w') (W : World) (hW : ∀ k ∈ x.all, k < W.heap.size) (hg : W.heap.size ≤ g) : BkAt w' x B := h.chg c (fun k hk => by have := hW k hk; simp; omega)
theorem subA_ok {n a : Nat} (hn : n ≤ 4611686018427387904) (h : a ≤ n) : subA n a = (((n - a : Nat) : Int), 0) := by
  unfold subA
  rw [if_pos (by omega), if_neg (by omega), Int.ofNat_sub h]
theorem Vt.set_iss (v : Vt) (hv : v.ad.size = 20) (n : Nat) : v.cs.setIfInBounds 22 (.int .u64 n) = ({ v with iss := n } : Vt).cs := by
  unfold Vt.cs
  apply Array.ext_getElem?
  intro i
  rw [Array.getElem?_setIfInBounds]
  by_cases h : 22 = i
  · subst h; simp [hv, Array.getElem?_append]
  · rw [if_neg h]
    simp only [Array.getElem?_append]
    split
    · rfl
    · simp [hv]
      rcases Nat.lt_or_ge i 27 with h2 | h2
      · have : i = 21 ∨ i = 23 ∨ i = 24 ∨ i = 25 ∨ i = 26 ∨ i < 21 := by omega
        rcases this with rfl | rfl | rfl | rfl | rfl | h3 <;> simp_all
      · simp [show 6 ≤ i - 21 by omega]
theorem Vt.set_goi (v : Vt) (hv : v.ad.size = 20) (n : Nat) : v.cs.setIfInBounds 24 (.int .u64 n) = ({ v with goi := n } : Vt).cs := by
  unfold Vt.cs
  apply Array.ext_getElem?
  intro i
  rw [Array.getElem?_setIfInBounds]
  by_cases h : 24 = i
  · subst h; simp [hv, Array.getElem?_append]
  · rw [if_neg h]
    simp only [Array.getElem?_append]
    split
    · rfl
    · simp [hv]
      rcases Nat.lt_or_ge i 27 with h2 | h2
      · have : i = 21 ∨ i = 22 ∨ i = 23 ∨ i = 25 ∨ i = 26 ∨ i < 21 := by omega
        rcases this with rfl | rfl | rfl | rfl | rfl | h3 <;> simp_all
      · simp [show 6 ≤ i - 21 by omega]
theorem Vt.set_col (v : Vt) (hv : v.ad.size = 20) (n : Nat) : v.cs.setIfInBounds 21 (.int .u64 n) = ({ v with col := n } : Vt).cs := by
  unfold Vt.cs
  apply Array.ext_getElem?
  intro i
  rw [Array.getElem?_setIfInBounds]
  by_cases h : 21 = i
  · subst h; simp [hv, Array.getElem?_append]
  · rw [if_neg h]
    simp only [Array.getElem?_append]
    split
    · rfl
    · simp [hv]
      rcases Nat.lt_or_ge i 27 with h2 | h2
      · have : i = 22 ∨ i = 23 ∨ i = 24 ∨ i = 25 ∨ i = 26 ∨ i < 21 := by omega
        rcases this with rfl | rfl | rfl | rfl | rfl | h3 <;> simp_all
      · simp [show 6 ≤ i - 21 by omega]
theorem Vt.set_lea (v : Vt) (hv : v.ad.size = 20) (n : Nat) : v.cs.setIfInBounds 25 (.int .u64 n) = ({ v with lea := n } : Vt).cs := by
  unfold Vt.cs
  apply Array.ext_getElem?
  intro i
  rw [Array.getElem?_setIfInBounds]
  by_cases h : 25 = i
  · subst h; simp [hv, Array.getElem?_append]
  · rw [if_neg h]
    simp only [Array.getElem?_append]
    split
    · rfl
    · simp [hv]
      rcases Nat.lt_or_ge i 27 with h2 | h2
      · have : i = 21 ∨ i = 22 ∨ i = 23 ∨ i = 24 ∨ i = 26 ∨ i < 21 := by omega
        rcases this with rfl | rfl | rfl | rfl | rfl | h3 <;> simp_all
      · simp [show 6 ≤ i - 21 by omega]
theorem Vt.set_fal (v : Vt) (hv : v.ad.size = 20) (n : Bool) : v.cs.setIfInBounds 26 (.bool n) = ({ v with fal := n } : Vt).cs := by
  unfold Vt.cs
  apply Array.ext_getElem?
  intro i
  rw [Array.getElem?_setIfInBounds]
  by_cases h : 26 = i
  · subst h; simp [hv, Array.getElem?_append]
  · rw [if_neg h]
    simp only [Array.getElem?_append]
    split
    · rfl
    · simp [hv]
      rcases Nat.lt_or_ge i 27 with h2 | h2
      · have : i = 21 ∨ i = 22 ∨ i = 23 ∨ i = 24 ∨ i = 25 ∨ i < 21 := by omega
        rcases this with rfl | rfl | rfl | rfl | rfl | h3 <;> simp_all
      · simp [show 6 ≤ i - 21 by omega]
set_option maxRecDepth 100000 in
set_option maxHeartbeats 4000000 in
theorem book_Mint (x : Lc) (B : Bk) (k q : Int) (a : Nat) (v : Vt) (hv : VtOk v) (hk : (Lit.int .u8 k).wf = true) (hto : (Lit.int .u8 q).wf = true) (ha : Bk.chk a = 0) (hf : B.f k = some v) (hfal : v.fal = false) (hwho : v.who = k)
    (hcm : v.com ≤ 4611686018427387904) (hac : a ≤ v.com) (hm : (B.L.mint q a).1 = 0) (hi : v.iss + a < 18446744073709551616) (hcnt : B.cnt < 1000) (okL : LedOk B.L) (w : World) (h : BkAt w x B) :
    Calls Tryz.prog 17 #[.pointer (some ⟨x.b, 0, none⟩), .int .u8 k, .int .u8 q, .int .u64 a] w fun e w' => e = .returned (.int .i64 0) ∧ BkAt w' x (({ B with L := (B.L.mint q a).2 } : Bk).put { v with com := v.com - a, iss := v.iss + a }) ∧ Chg [x.vm, x.t, x.tm] w w' := by
  have hz := zVault
  have hsz := v.size hv.1
  have hinfo : (Tryz.prog.info? 52).map (·.size) = some 27 := by kernel_rfl
  have hop := book_open_ok x B k a false v hv hk ha hf (by rw [hfal]; rfl) w h
  have hs1 := v.set_com hv.1 (v.com - a)
  have hsu := subA_ok hcm hac
  obtain ⟨v1, hv1⟩ : ∃ v1 : Vt, v1 = { v with com := v.com - a } := ⟨_, rfl⟩
  rw [← hv1] at hs1
  have hvo1 : VtOk v1 := by rw [hv1]; exact hv
  have hi1 : v1.iss = v.iss := by rw [hv1]
  have hs2 := v1.set_iss hvo1.1 (v.iss + a)
  obtain ⟨v2, hv2⟩ : ∃ v2 : Vt, v2 = { v1 with iss := v.iss + a } := ⟨_, rfl⟩
  rw [← hv2] at hs2
  have e2 : ({ v with com := v.com - a, iss := v.iss + a } : Vt) = v2 := by rw [hv2, hv1]
  rw [e2]
  have hvo2 : VtOk v2 := by rw [hv2]; exact hvo1
  have hw2 : v2.who = k := by rw [hv2, hv1]; exact hwho
  have h22 := (v1.c21 hvo1.1).2.1
  rw [hi1] at h22
  rw [Int.natCast_add] at hs2
  have hib : (v.iss : Int) + a < 18446744073709551616 := by omega
  have h23 := (v.c21 hv.1).2.2.1
  have hsz2 := v2.size hvo2.1
  clear hv1 hv2 e2 hi1
  have hmint := fun w h => token_Mint x.t x.tm B.L q a w h okL hto (by omega)
  obtain ⟨M, hM⟩ : ∃ M, M = (B.L.mint q a).2 := ⟨_, rfl⟩
  rw [hm, ← hM] at hmint
  rw [← hM]
  clear hM hm
  go_enter Tryz.func17, Tryz.ntmps17
  go_wp2_with fail
  refine hop.mono ?_
  rintro e w1 ⟨rfl, k1⟩
  have hst := run_storeCells_new (P := Tryz.prog) w1 52 zVt v.cs (by rw [hsz]; exact hinfo) (by rw [hsz]; rfl) hv.one
  have hb1 := Blk.new w1 v.cs 52
  have hA1 := h.same (k1.alloc (.cells v.cs 52))
  have hg := (h.same k1).ltv
  have hgl := (h.same k1).lt
  have hls : ∀ W, Blk W w1.heap.size v.cs 52 → Calls Tryz.prog 57 #[.pointer (some ⟨w1.heap.size, 23, none⟩), .int .u64 a] W fun e w' => e = .returned (.int .i64 0) ∧ Blk w' w1.heap.size v1.cs 52 ∧ Chg [w1.heap.size] W w' := fun W hb => by
    have := book_less w1.heap.size 23 v.com a W hb h23
    rw [hsu, if_pos rfl, hs1] at this
    exact this
  clear hs1 hsu hop
  have kA : Chg [] w (w1.alloc (.cells v.cs 52)) := k1.alloc _
  go_wp2_with fail
  refine (hls _ hb1).mono ?_
  rintro e w2 ⟨rfl, hb2, k2⟩
  have hA2 := hA1.off k2 w1 hgl (Nat.le_refl _)
  have hc12 := hA2.c12
  have k02 : Chg [] w w2 := kA.trans k2 (by simp; exact k1.size)
  have hgl' := Lib.hid hgl
  have hg' := Lib.hid hg
  clear hgl hg hls hb1 hA1 hsz hinfo hz hst
  go_wp2_with fail
  refine (hmint _ hA2.led).mono ?_
  rintro e w3 ⟨rfl, hL3, k3⟩
  have hA3 := hA2.setL hL3 k3
  have hb3 := hb2.chg k3 (by have := hg'.out; simp; omega)
  have hc22 := hb3.cell 22 h22
  have hf22 := hb3.free 22
  have hb4 := hb3.set 22 (.int .u64 (v.iss + a))
  rw [hs2] at hb4
  have hld := load_blk hb4 27 hsz2
  have hsc : Chg [w1.heap.size] w3 (w3.setCell ⟨w1.heap.size, 22, none⟩ (.int .u64 (v.iss + a))) := (Chg.refl _ _).setCell (.inl (by simp)) _
  have hA4 := hA3.off hsc w1 hgl'.out (Nat.le_refl _)
  have k04 : Chg [x.t, x.tm] w (w3.setCell ⟨w1.heap.size, 22, none⟩ (.int .u64 (v.iss + a))) := ((k02.mono (by simp)).trans k3 (by simp)).trans hsc (fun t ht => .inr (by have := k1.size; simp at ht; omega))
  go_wp2_with (go_at_call 53; refine (book_put x { B with L := M } v2 hvo2.1 (by rw [hw2]; exact hk) hcnt _ hA4).mono ?_; rintro e w5 ⟨rfl, hB5, k5⟩)
  go_ret
  exact ⟨rfl, hB5, (k04.mono (by simp)).trans k5 (by simp)⟩
set_option maxRecDepth 100000 in
set_option maxHeartbeats 4000000 in
theorem book_Burn (x : Lc) (B : Bk) (k q : Int) (a : Nat) (v : Vt) (hv : VtOk v) (hk : (Lit.int .u8 k).wf = true) (hq : (Lit.int .u8 q).wf = true) (ha : Bk.chk a = 0) (hf : B.f k = some v) (hfal : v.fal = false) (hwho : v.who = k)
    (hcm : v.iss ≤ 4611686018427387904) (hll : v.lea ≤ v.iss) (hac : a ≤ v.iss - v.lea) (hm : (B.L.burn q a).1 = 0) (hi : v.goi + a < 18446744073709551616) (hcnt : B.cnt < 1000) (okL : LedOk B.L) (w : World) (h : BkAt w x B) :
    Calls Tryz.prog 18 #[.pointer (some ⟨x.b, 0, none⟩), .int .u8 k, .int .u8 q, .int .u64 a] w fun e w' => e = .returned (.int .i64 0) ∧ BkAt w' x (({ B with L := (B.L.burn q a).2 } : Bk).put { v with iss := v.iss - a, goi := v.goi + a }) ∧ Chg [x.vm, x.t, x.tm] w w' := by
  have hz := zVault
  have hsz := v.size hv.1
  have hinfo : (Tryz.prog.info? 52).map (·.size) = some 27 := by kernel_rfl
  have hop := book_open_ok x B k a false v hv hk ha hf (by rw [hfal]; rfl) w h
  have hs1 := v.set_iss hv.1 (v.iss - a)
  obtain ⟨v1, hv1⟩ : ∃ v1 : Vt, v1 = { v with iss := v.iss - a } := ⟨_, rfl⟩
  rw [← hv1] at hs1
  have hvo1 : VtOk v1 := by rw [hv1]; exact hv
  have hi1 : v1.goi = v.goi := by rw [hv1]
  have hs2 := v1.set_goi hvo1.1 (v.goi + a)
  obtain ⟨v2, hv2⟩ : ∃ v2 : Vt, v2 = { v1 with goi := v.goi + a } := ⟨_, rfl⟩
  rw [← hv2] at hs2
  have e2 : ({ v with iss := v.iss - a, goi := v.goi + a } : Vt) = v2 := by rw [hv2, hv1]
  rw [e2]
  have hvo2 : VtOk v2 := by rw [hv2]; exact hvo1
  have hw2 : v2.who = k := by rw [hv2, hv1]; exact hwho
  have h24 := (v1.c21 hvo1.1).2.2.2.1
  rw [hi1] at h24
  rw [Int.natCast_add] at hs2
  rw [Int.ofNat_sub (by omega)] at hs1
  have hib : (v.goi : Int) + a < 18446744073709551616 := by omega
  have h22 := (v.c21 hv.1).2.1
  have h24v := (v.c21 hv.1).2.2.2.1
  have h25 := (v.c21 hv.1).2.2.2.2.1
  have hsz2 := v2.size hvo2.1
  clear hv1 hv2 e2 hi1
  have hmint := fun w h => token_Burn x.t x.tm B.L q a w h okL hq (by omega)
  obtain ⟨M, hM⟩ : ∃ M, M = (B.L.burn q a).2 := ⟨_, rfl⟩
  rw [hm, ← hM] at hmint
  rw [← hM]
  clear hM hm
  have hd1 : (v.lea : Int) ≤ v.iss := by omega
  have hd2 : (a : Int) ≤ (v.iss : Int) - v.lea := by omega
  have hd3 : (a : Int) ≤ v.iss := by omega
  have hd4 : (v.iss : Int) < 18446744073709551616 := by omega
  have hd5 : (0 : Int) ≤ v.lea := by omega
  have hd6 : (0 : Int) ≤ a := by omega
  have hd8 : (0 : Int) ≤ v.goi := by omega
  obtain ⟨A, hA⟩ : ∃ A : Int, A = (a : Int) := ⟨_, rfl⟩
  obtain ⟨I, hI⟩ : ∃ I : Int, I = (v.iss : Int) := ⟨_, rfl⟩
  obtain ⟨J, hJ⟩ : ∃ J : Int, J = (v.lea : Int) := ⟨_, rfl⟩
  obtain ⟨G, hG⟩ : ∃ G : Int, G = (v.goi : Int) := ⟨_, rfl⟩
  rw [← hA] at hop hmint hs1 hs2 hib hd2 hd3 hd6 ⊢
  rw [← hI] at hs1 hd1 hd2 hd3 hd4 h22
  rw [← hJ] at hd1 hd2 hd5 h25
  rw [← hG] at hs2 hib h24 h24v hd8
  clear hA hI hJ hG
  have hd7 : ¬ I - J < A := by omega
  have hs1' := Lib.hid hs1
  have hs2' := Lib.hid hs2
  clear hs1 hs2
  go_enter Tryz.func18, Tryz.ntmps18
  go_wp2_with fail
  refine hop.mono ?_
  rintro e w1 ⟨rfl, k1⟩
  have hst := run_storeCells_new (P := Tryz.prog) w1 52 zVt v.cs (by rw [hsz]; exact hinfo) (by rw [hsz]; rfl) hv.one
  have hb1 := Blk.new w1 v.cs 52
  have hA1 := h.same (k1.alloc (.cells v.cs 52))
  have hg := Lib.hid (h.same k1).ltv
  have hgl := Lib.hid (h.same k1).lt
  have hc22 := hb1.cell 22 h22
  have hc25 := hb1.cell 25 h25
  have hc12 := hA1.c12
  clear hop
  have kA : Chg [] w (w1.alloc (.cells v.cs 52)) := k1.alloc _
  go_wp2_with fail
  refine (hmint _ hA1.led).mono ?_
  rintro e w2 ⟨rfl, hL2, k2⟩
  have hA2 := hA1.setL hL2 k2
  have hb2 := hb1.chg k2 (by have := hg.out; simp; omega)
  have e22 := hb2.cell 22 h22
  have e24 := hb2.cell 24 h24v
  have hf22 := hb2.free 22
  have hf24 := hb2.free 24
  have hb3 := hb2.set 22 (.int .u64 (I - A))
  rw [hs1'.out] at hb3
  have hb4 := hb3.set 24 (.int .u64 (G + A))
  rw [hs2'.out] at hb4
  have hld := load_blk hb4 27 hsz2
  have hsc : Chg [w1.heap.size] w2 ((w2.setCell ⟨w1.heap.size, 22, none⟩ (.int .u64 (I - A))).setCell ⟨w1.heap.size, 24, none⟩ (.int .u64 (G + A))) := ((Chg.refl _ _).setCell (.inl (by simp)) _).setCell (.inl (by simp)) _
  have hA4 := hA2.off hsc w1 hgl.out (Nat.le_refl _)
  have k04 : Chg [x.t, x.tm] w ((w2.setCell ⟨w1.heap.size, 22, none⟩ (.int .u64 (I - A))).setCell ⟨w1.heap.size, 24, none⟩ (.int .u64 (G + A))) := ((kA.mono (by simp)).trans k2 (by simp)).trans hsc (fun t ht => .inr (by have := k1.size; simp at ht; omega))
  clear hc22 hc25 hc12 hb1 hA1 hb2 hb3
  go_wp2_with (go_at_call 53; refine (book_put x { B with L := M } v2 hvo2.1 (by rw [hw2]; exact hk) hcnt _ hA4).mono ?_; rintro e w5 ⟨rfl, hB5, k5⟩)
  go_ret
  exact ⟨rfl, hB5, (k04.mono (by simp)).trans k5 (by simp)⟩
end Go.Proofs.YtackdgbcmeafhaaGreat

/- Package target: Decode, as numbers. -/
import Derived.Test.YtmkgbinmilcojaaGreatTargetB
namespace Go.Proofs.YtmkgbinmilcojaaGreat
open Go.RowKit Go.Maps Go.Shelf

theorem bitsV (m : Nat) (hm : m < 8388608) : ∀ w, Calls Tryz.prog 88 #[V4 m 0 0 0] w fun e w' => e = .returned (.int .i64 (blen m)) ∧ Chg [] w w' := fun w => by
  have := wide_Bits m (by unfold TOP; omega) w
  rwa [wv_small (by omega)] at this
theorem eqV (m : Nat) (b : Bool) (hb : b = decide (m = 0)) : ∀ w, (Op.equalIn 10000 51 (V4 m 0 0 0) (V4 0 0 0 0)).run Tryz.prog w = .ok b w := fun w => by
  rw [run_eqW, hb]; congr 1; simp
theorem eqT {t0 t1 t2 t3 : Int} (h0 : Wd t0) (h1 : Wd t1) (h2 : Wd t2) (h3 : Wd t3) {T : Nat} (h : (T : Int) = n4 t0 t1 t2 t3) (b : Bool) (hb : b = decide (T = 0)) : ∀ w, (Op.equalIn 10000 51 (V4 t0 t1 t2 t3) (V4 0 0 0 0)).run Tryz.prog w = .ok b w := fun w => by
  rw [run_eqW, hb]
  congr 1
  rw [decide_eq_decide, n4_zero h0 h1 h2 h3, ← h]
  omega

theorem target_Decode (bits : Nat) (hb : bits < 4294967296) (w : World) :
    Calls Tryz.prog 62 #[.int .u32 bits] w fun e w' => e = .returned (.tuple #[wv (decT bits), .int .i64 (decE bits)]) ∧ Chg [] w w' := by
  obtain ⟨e, he⟩ : ∃ e, e = bits / 16777216 := ⟨_, rfl⟩
  obtain ⟨m, hm⟩ : ∃ m, m = bits % 8388608 := ⟨_, rfl⟩
  obtain ⟨sg, hsg⟩ : ∃ sg, sg = bits / 8388608 % 2 := ⟨_, rfl⟩
  have hO : okD bits = (!(decide (sg = 1) && decide (0 < m)) && (decide (0 < tgtE e m) && decide (tgtE e m < TOP))) := by unfold okD tgt; rw [hm, hsg, he]
  have hdT : decT bits = if okD bits then tgtE e m else 0 := by unfold decT tgt; rw [hm, he]
  have hdE : decE bits = if okD bits then 0 else 6 := rfl
  have he1 : e ≤ 255 := by omega
  have hm1 : m < 8388608 := by omega
  have hE : (bits : Int) / 16777216 = (e : Int) := by omega
  have hM : Go.bits .and .u32 (bits : Int) 8388607 = (m : Int) := by rw [mask_m hb, hm]
  have hs2 : sg < 2 := by omega
  have hS : Go.bits .and .u32 (bits : Int) 8388608 = ((sg * 8388608 : Nat) : Int) := by rw [mask_s hb, hsg]
  have hbi : (bits : Int) < 4294967296 := by omega
  have bad : okD bits = false → wv (decT bits) = V4 0 0 0 0 ∧ decE bits = 6 := fun h => by rw [hdT, hdE, h, ← wv0]; exact ⟨rfl, rfl⟩
  clear he hm hsg
  by_cases hs : sg = 1 ∧ m ≠ 0
  · have hf : okD bits = false := by rw [hO]; simp [hs.1, show 0 < m by have := hs.2; omega]
    rw [(bad hf).1, (bad hf).2]
    refine dec_A bits e m 0 0 0 0 w he1 hm1 hE hM hbi ?_ (eqV m false (by simp [hs.2]))
    rw [hS, hs.1]; rfl
  · have hsn : (!(decide (sg = 1) && decide (0 < m))) = true := by
      by_cases h1 : sg = 1
      · have : m = 0 := by by_cases h2 : m = 0
                           · exact h2
                           · exact absurd ⟨h1, h2⟩ hs
        simp [this]
      · simp [h1]
    rw [hsn, Bool.true_and] at hO
    have hSS : Go.bits .and .u32 (bits : Int) 8388608 = 0 ∨ (Go.bits .and .u32 (bits : Int) 8388608 = 8388608 ∧ m = 0) := by
      by_cases h1 : sg = 1
      · right
        refine ⟨by rw [hS, h1]; rfl, ?_⟩
        by_cases h2 : m = 0
        · exact h2
        · exact absurd ⟨h1, h2⟩ hs
      · left
        rw [hS, show sg = 0 by omega]; rfl
    by_cases hbig : 3 < e ∧ 256 < blen m + 8 * (e - 3)
    · have hf : okD bits = false := by
        rw [hO]
        have := tgtE_big hbig.1 hbig.2
        rw [← Bool.decide_and]; exact decide_eq_false this
      rw [(bad hf).1, (bad hf).2]
      have hb1 : (3 : Int) < e := by have := hbig.1; omega
      have hb2 : 256 < ((blen m : Nat) : Int) + 8 * ((e : Int) - 3) := by have := hbig.1; have := hbig.2; omega
      rcases hSS with h | ⟨h, hm0⟩
      · exact dec_nbig bits e m 0 0 0 0 w he1 hm1 hE hM hbi h hb1 (blen m) (blen_le.2 hm1) (bitsV m hm1) hb2
      · exact dec_zbig bits e m 0 0 0 0 w he1 hm1 hE hM hbi h (eqV m true (by simp [hm0])) hb1 (blen m) (blen_le.2 hm1) (bitsV m hm1) hb2
    · obtain ⟨hTl, hleft⟩ := tgtE_left he1 hm1 (by omega)
      obtain ⟨t0, t1, t2, t3, k0, k1, k2, k3, hTe, hTv⟩ := words _ hTl
      rw [hTv, wv_small (show m < 18446744073709551616 by omega)] at hleft
      have hO2 : okD bits = decide (0 < tgtE e m) := by rw [hO]; simp [hTl]
      have hres : wv (decT bits) = V4 t0 t1 t2 t3 := by
        rw [hdT, hO2, ← hTv]
        by_cases h : 0 < tgtE e m
        · simp [h]
        · simp [show tgtE e m = 0 by omega]
      rw [hres]
      have hbl := bitsV m hm1
      have hbl2 := (blen_le (n := m) (k := 23)).2 hm1
      by_cases hT0 : tgtE e m = 0
      · have hdE6 : decE bits = 6 := by rw [hdE, hO2, hT0]; rfl
        rw [hdE6]
        have htq := eqT k0 k1 k2 k3 hTe true (by simp [hT0])
        by_cases hg : 3 < e
        · have hg' : (3 : Int) < e := by omega
          have hbg : decide (256 < ((blen m : Nat) : Int) + 8 * ((e : Int) - 3)) = false := decide_eq_false (by omega)
          rcases hSS with h | ⟨h, hm0⟩
          · exact dec_nL1 bits e m t0 t1 t2 t3 w he1 hm1 hE hM hbi h hg' (blen m) hbl2 hbl hbg hleft htq
          · exact dec_zL1 bits e m t0 t1 t2 t3 w he1 hm1 hE hM hbi h (eqV m true (by simp [hm0])) hg' (blen m) hbl2 hbl hbg hleft htq
        · have hg' : decide ((3 : Int) < e) = false := decide_eq_false (by omega)
          rcases hSS with h | ⟨h, hm0⟩
          · exact dec_nl1 bits e m t0 t1 t2 t3 w he1 hm1 hE hM hbi h hg' hleft htq
          · exact dec_zl1 bits e m t0 t1 t2 t3 w he1 hm1 hE hM hbi h (eqV m true (by simp [hm0])) hg' hleft htq
      · have hdE0 : decE bits = 0 := by rw [hdE, hO2]; simp [show 0 < tgtE e m by omega]
        rw [hdE0]
        have htq := eqT k0 k1 k2 k3 hTe false (by simp [hT0])
        by_cases hg : 3 < e
        · have hg' : (3 : Int) < e := by omega
          have hbg : decide (256 < ((blen m : Nat) : Int) + 8 * ((e : Int) - 3)) = false := decide_eq_false (by omega)
          rcases hSS with h | ⟨h, hm0⟩
          · exact dec_nL0 bits e m t0 t1 t2 t3 w he1 hm1 hE hM hbi h hg' (blen m) hbl2 hbl hbg hleft htq
          · exact dec_zL0 bits e m t0 t1 t2 t3 w he1 hm1 hE hM hbi h (eqV m true (by simp [hm0])) hg' (blen m) hbl2 hbl hbg hleft htq
        · have hg' : decide ((3 : Int) < e) = false := decide_eq_false (by omega)
          rcases hSS with h | ⟨h, hm0⟩
          · exact dec_nl0 bits e m t0 t1 t2 t3 w he1 hm1 hE hM hbi h hg' hleft htq
          · exact dec_zl0 bits e m t0 t1 t2 t3 w he1 hm1 hE hM hbi h (eqV m true (by simp [hm0])) hg' hleft htq
theorem decT_lt (bits : Nat) : decT bits < TOP := by
  unfold decT okD
  split
  · rename_i h
    simp only [Bool.and_eq_true, decide_eq_true_eq] at h
    exact h.2.2
  · unfold TOP; omega
theorem decT_pos {bits : Nat} (h : okD bits = true) : 0 < decT bits := by
  have h2 := h
  unfold okD at h2
  simp only [Bool.and_eq_true, decide_eq_true_eq] at h2
  unfold decT; rw [if_pos h]; exact h2.2.1
end Go.Proofs.YtmkgbinmilcojaaGreat

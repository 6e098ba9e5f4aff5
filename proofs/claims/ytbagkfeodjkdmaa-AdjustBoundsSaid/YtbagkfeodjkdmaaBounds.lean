/- AdjustBounds: as numbers; the law's form. -/
import Derived.Test.YtbagkfeodjkdmaaAdjustBounds
namespace Go.Proofs.Ytbagkfeodjkdmaa
open Go.RowKit Go.Maps

theorem tookN_le {s : Nat} {k : Int} (h : 0 < s) : tookN s k ≤ 4 * s := by unfold tookN; omega
theorem tookN_ge {s : Nat} {k : Int} (h : 0 < s) : s / 4 ≤ tookN s k := by unfold tookN; omega
theorem scaleN_four {t s T m : Nat} (hs : 0 < s) (ht : 0 < t) (h : T ≤ 4 * s) : scaleN t T s m ≤ 4 * t := by
  have hq : t * T / s ≤ 4 * t := by
    have h1 : t * T ≤ 4 * t * s := by
      calc t * T ≤ t * (4 * s) := Nat.mul_le_mul_left _ h
        _ = 4 * t * s := by rw [← Nat.mul_assoc, Nat.mul_comm t 4]
    exact Nat.div_le_of_le_mul (by rw [Nat.mul_comm s]; exact h1)
  unfold scaleN
  generalize t * T / s = q at *
  repeat' split
  all_goals omega
theorem cmpN_neg {a b : Nat} : cmpN a b < 0 ↔ a < b := by unfold cmpN; split <;> (try split) <;> omega

theorem law11_AdjustBounds (v : Value) (bi k : Int) (w : World) (hv : ∃ s l, RulesV v s l) (hbi : (Lit.int .u32 bi).wf = true) (hk : (Lit.int .i64 k).wf = true) :
    Calls Try.prog 11 #[v, .int .u32 bi, .int .i64 k] w fun e w' => e = .returned (.bool true) ∧ Chg [] w w' := by
  obtain ⟨s, l, hv⟩ := hv
  obtain ⟨bits, rfl, hbits⟩ := wf_u32n hbi
  obtain ⟨k1, k2⟩ := wf_i64n hk
  have htop := adjust_Top v s l hv
  have hn := adjust_Next v s l bits k hv hbits k1 k2
  obtain ⟨cs, rfl, hcs, c1, c2, hs, hl⟩ := hv
  have h4T : (4 : Nat) < TOP := by unfold TOP; omega
  -- a quarter
  obtain ⟨P, hP⟩ : ∃ P, P = if s < 4 then 0 else scaleN (decT bits) (s / 4) s (decT l) := ⟨_, rfl⟩
  have hPT : P < TOP := by
    rw [hP]; split
    · unfold TOP; omega
    · exact scaleN_lt (decT_lt l)
  have hPm : nextE s l bits = 0 → P ≤ decT l := fun hE => by
    obtain ⟨h1, h2, h3, h4⟩ := next_ok hE
    rw [hP]; split
    · omega
    · exact scaleN_le (decT_pos h2)
  have hG : encN P < 4294967296 := by
    by_cases h : P = 0
    · rw [h, enc_zero]; omega
    · exact (okD_enc (by omega) hPT).2.2
  have hdt := target_Decode bits hbits
  have hdu := target_Decode _ (next_lt (s := s) (l := l) (bits := bits) k)
  have hcmp1 := wide_Cmp (decT (nextN s l bits k)) (decT l) (decT_lt _) (decT_lt _)
  have hmul := wide_Mul (decT bits) 4 (decT_lt _) (by omega)
  have hf : decT bits * 4 % TOP < TOP := Nat.mod_lt _ (by omega)
  have hcmp2 := wide_Cmp (decT (nextN s l bits k)) _ (decT_lt _) hf
  have hof := wide_Of' 4 (by omega)
  have hdiv := wide_Div (decT bits) 4 (decT_lt _) h4T (by omega)
  have hq : decT bits / 4 < TOP := Nat.lt_of_le_of_lt (Nat.div_le_self _ _) (decT_lt _)
  have hr : decT bits % 4 < TOP := Nat.lt_of_le_of_lt (Nat.mod_le _ _) (decT_lt _)
  have hcmp3 := wide_Cmp (decT l) P (decT_lt _) hPT
  have henc := target_Encode P hPT
  have hdg := target_Decode _ hG
  have hcmp4 := wide_Cmp (decT (nextN s l bits k)) (decT (encN P)) (decT_lt _) (decT_lt _)
  have hsc : ¬ s < 4 → nextE s l bits = 0 → ∀ w, Calls Try.prog 58 #[wv (decT bits), .int .u64 (s / 4 : Nat), .int .u64 s, wv (decT l)] w fun e w' => e = .returned (.tuple #[wv P, .int .i64 0]) ∧ Chg [] w w' := fun h4 hE w => by
    obtain ⟨h1, h2, h3, _⟩ := next_ok hE
    have := target_Scale (decT bits) (s / 4) s (decT l) (decT_lt _) (decT_lt _) (by have := decT_pos h2; omega) (by omega) (by omega) h3 w
    rw [hP, if_neg h4]; exact this
  obtain ⟨t0, t1, t2, t3, _, _, _, _, _, eT⟩ := words _ (decT_lt bits)
  obtain ⟨m0, m1, m2, m3, _, _, _, _, _, eM⟩ := words _ (decT_lt l)
  obtain ⟨u0, u1, u2, u3, _, _, _, _, _, eU⟩ := words _ (decT_lt (nextN s l bits k))
  obtain ⟨f0, f1, f2, f3, _, _, _, _, _, eF⟩ := words _ hf
  obtain ⟨b0, b1, b2, b3, _, _, _, _, _, eB⟩ := words _ h4T
  obtain ⟨q0, q1, q2, q3, _, _, _, _, _, eQ⟩ := words _ hq
  obtain ⟨r0, r1, r2, r3, _, _, _, _, _, eR⟩ := words _ hr
  obtain ⟨p0, p1, p2, p3, hp0, hp1, hp2, hp3, eP', eP⟩ := words _ hPT
  obtain ⟨g0, g1, g2, g3, _, _, _, _, _, eG⟩ := words _ (decT_lt (encN P))
  rw [eT] at hdt hmul hdiv hsc
  rw [eU] at hdu hcmp1 hcmp2 hcmp4
  rw [eM] at htop hcmp1 hcmp3 hsc
  rw [eF] at hmul hcmp2
  rw [eB] at hof hdiv
  rw [eQ, eR] at hdiv
  rw [eP] at hcmp3 henc hsc
  rw [eG] at hdg hcmp4
  have hu : nextE s l bits = 0 → decT (nextN s l bits k) = trN (scaleN (decT bits) (tookN s k) s (decT l)) := fun hE => (next_dec hE k).2.1
  refine adjustBounds_walk cs s bits _ _ _ k _ _ _ _ _ _ _ _ t0 t1 t2 t3 m0 m1 m2 m3 u0 u1 u2 u3 f0 f1 f2 f3 b0 b1 b2 b3 q0 q1 q2 q3 r0 r1 r2 r3 p0 p1 p2 p3 g0 g1 g2 g3 w hcs c1 hs hn (fun h => next_bad h _) hdt (fun hE => ?_) htop hcmp1 (fun hE => ?_) hmul hcmp2 (fun hE ho => ?_) hof hdiv (fun h4 => ?_) hsc hcmp3 (fun hE => ?_) henc hdg hcmp4 (fun hE h5 => ?_)
  · have e : decE (nextN s l bits k) = 0 := by simp [decE, (next_dec hE k).1]
    rw [e] at hdu; exact hdu
  · obtain ⟨h1, h2, h3, h4⟩ := next_ok hE
    refine decide_eq_false (Int.not_lt.2 (cmpN_le.2 ?_))
    rw [hu hE]
    exact Nat.le_trans (trN_le _) (scaleN_le (decT_pos h2))
  · obtain ⟨h1, h2, h3, h4⟩ := next_ok hE
    have ho' : decT bits * 4 < TOP := Nat.not_le.1 (of_decide_eq_false ho)
    refine cmpN_le.2 ?_
    rw [hu hE, Nat.mod_eq_of_lt ho', Nat.mul_comm]
    exact Nat.le_trans (trN_le _) (scaleN_four h3 (decT_pos h1) (tookN_le h3))
  · have : P = 0 := by rw [hP, if_pos h4]
    exact (n4_zero hp0 hp1 hp2 hp3).2 (by rw [← eP', this]; rfl)
  · refine decide_eq_false fun h => ?_
    have := cmpN_neg.1 h
    have := hPm hE
    omega
  · obtain ⟨h1, h2, h3, h4⟩ := next_ok hE
    refine Int.not_lt.1 fun h => ?_
    have h6 := cmpN_neg.1 h
    rw [hu hE] at h6
    by_cases hP0 : P = 0
    · have : decE (encN P) = 6 := by rw [hP0, enc_zero]; simp [decE, okD_zero]
      omega
    · obtain ⟨e1, e2, e3⟩ := okD_enc (n := P) (by omega) hPT
      rw [decT_ok e1, e2] at h6
      have hs4 : ¬ s < 4 := fun h => hP0 (by rw [hP, if_pos h])
      have : trN P ≤ trN (scaleN (decT bits) (tookN s k) s (decT l)) := trN_mono (by
        rw [hP, if_neg hs4]; exact scaleN_mono (decT_pos h2) (tookN_ge h3))
      omega
end Go.Proofs.Ytbagkfeodjkdmaa

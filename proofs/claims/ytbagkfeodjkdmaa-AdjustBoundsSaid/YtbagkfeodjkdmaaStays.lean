/- AdjustStays. -/
import Derived.Test.YtbagkfeodjkdmaaAdjustStays
namespace Go.Proofs.Ytbagkfeodjkdmaa
open Go.RowKit Go.Maps

theorem scaleN_pos {t u b m : Nat} (hm : 0 < m) : 0 < scaleN t u b m := by
  unfold scaleN; generalize t * u / b = q; split
  · exact hm
  · split <;> omega
theorem scaleN_le {t u b m : Nat} (hm : 0 < m) : scaleN t u b m ≤ m := by
  unfold scaleN; generalize t * u / b = q; split
  · omega
  · split <;> omega
theorem scaleN_mono {t u u' b m : Nat} (hm : 0 < m) (h : u ≤ u') : scaleN t u b m ≤ scaleN t u' b m := by
  have hq : t * u / b ≤ t * u' / b := Nat.div_le_div_right (Nat.mul_le_mul_left _ h)
  unfold scaleN
  generalize t * u / b = q at *
  generalize t * u' / b = q' at *
  repeat' split
  all_goals omega
theorem tookN_mono {s : Nat} {a b : Int} (h : a ≤ b) : tookN s a ≤ tookN s b := by unfold tookN; omega
theorem tookN_self {s : Nat} (h : 0 < s) : tookN s s = s := by unfold tookN; omega
theorem scaleN_same {t s m : Nat} (hs : 0 < s) (ht : 0 < t) (h : t ≤ m) : scaleN t s s m = t := by
  unfold scaleN
  rw [Nat.mul_div_cancel _ hs, if_neg (by omega), if_neg (by omega)]
theorem decT_ok {b : Nat} (h : okD b = true) : decT b = tgt b := by simp [decT, h]
theorem next_ok {s l bits : Nat} (h : nextE s l bits = 0) : okD bits = true ∧ okD l = true ∧ 0 < s ∧ ∀ k, nextN s l bits k = encN (scaleN (decT bits) (tookN s k) s (decT l)) := by
  unfold nextE at h
  cases h1 : okD bits <;> cases h2 : okD l <;> simp [h1, h2] at h
  have h3 : s ≠ 0 := fun e => by simp [e] at h
  exact ⟨rfl, rfl, by omega, fun k => by simp [nextN, h1, h2, h3, decT]⟩
theorem next_bad {s l bits : Nat} (h : nextE s l bits ≠ 0) (k : Int) : nextN s l bits k = 0 := by
  unfold nextE at h
  unfold nextN
  cases h1 : okD bits <;> cases h2 : okD l <;> simp [h1, h2] at h ⊢
  intro h3; simp [h3] at h
theorem next_dec {s l bits : Nat} (h : nextE s l bits = 0) (k : Int) : okD (nextN s l bits k) = true ∧ decT (nextN s l bits k) = trN (scaleN (decT bits) (tookN s k) s (decT l)) ∧ nextN s l bits k < 4294967296 := by
  obtain ⟨h1, h2, h3, h4⟩ := next_ok h
  obtain ⟨e1, e2, e3⟩ := okD_enc (n := scaleN (decT bits) (tookN s k) s (decT l)) (scaleN_pos (decT_pos h2)) (scaleN_lt (decT_lt l))
  rw [h4]
  exact ⟨e1, by rw [decT_ok e1, e2], e3⟩
theorem next_lt {s l bits : Nat} (k : Int) : nextN s l bits k < 4294967296 := by
  by_cases h : nextE s l bits = 0
  · exact (next_dec h k).2.2
  · rw [next_bad h]; omega
theorem cmpN_le {a b : Nat} : cmpN a b ≤ 0 ↔ a ≤ b := by unfold cmpN; split <;> (try split) <;> omega

theorem law11_AdjustStays (v : Value) (bi a b : Int) (w : World) (hv : ∃ s l, RulesV v s l) (hbi : (Lit.int .u32 bi).wf = true) (ha : (Lit.int .i64 a).wf = true) (hb : (Lit.int .i64 b).wf = true) :
    Calls Try.prog 10 #[v, .int .u32 bi, .int .i64 a, .int .i64 b] w fun e w' => e = .returned (.bool true) ∧ Chg [] w w' := by
  obtain ⟨s, l, hv⟩ := hv
  obtain ⟨bits, rfl, hbits⟩ := wf_u32n hbi
  obtain ⟨ka1, ka2⟩ := wf_i64n ha
  obtain ⟨kb1, kb2⟩ := wf_i64n hb
  have htop := adjust_Top v s l hv
  have hn1 := adjust_Next v s l bits s hv hbits (by omega) (by obtain ⟨_, _, _, _, _, h, _⟩ := hv; omega)
  have hn2 := adjust_Next v s l bits a hv hbits ka1 ka2
  have hn3 := adjust_Next v s l bits b hv hbits kb1 kb2
  obtain ⟨cs, rfl, hcs, c1, c2, hs, hl⟩ := hv
  have hdt := target_Decode bits hbits
  have hdu := target_Decode _ (next_lt (s := s) (l := l) (bits := bits) s)
  have hdx := target_Decode _ (next_lt (s := s) (l := l) (bits := bits) a)
  have hdy := target_Decode _ (next_lt (s := s) (l := l) (bits := bits) b)
  have hcmp := wide_Cmp (decT bits) (decT l) (decT_lt _) (decT_lt _)
  have hcmp2 := wide_Cmp (decT (nextN s l bits a)) (decT (nextN s l bits b)) (decT_lt _) (decT_lt _)
  obtain ⟨t0, t1, t2, t3, ht0, ht1, ht2, ht3, eT, eT'⟩ := words _ (decT_lt bits)
  obtain ⟨m0, m1, m2, m3, _, _, _, _, _, eM'⟩ := words _ (decT_lt l)
  obtain ⟨u0, u1, u2, u3, hu0, hu1, hu2, hu3, eU, eU'⟩ := words _ (decT_lt (nextN s l bits s))
  obtain ⟨x0, x1, x2, x3, _, _, _, _, _, eX'⟩ := words _ (decT_lt (nextN s l bits a))
  obtain ⟨y0, y1, y2, y3, _, _, _, _, _, eY'⟩ := words _ (decT_lt (nextN s l bits b))
  rw [eT'] at hdt
  rw [eU'] at hdu
  rw [eX'] at hdx
  rw [eY'] at hdy
  rw [eM'] at htop
  rw [eT', eM'] at hcmp
  rw [eX', eY'] at hcmp2
  refine adjustStays_walk cs s bits _ _ _ _ a b _ _ _ t0 t1 t2 t3 m0 m1 m2 m3 u0 u1 u2 u3 x0 x1 x2 x3 y0 y1 y2 y3 _ _ _ _ w hcs c1 hs hn1 hn2 hn3 (fun h => ⟨next_bad h _, next_bad h _, next_bad h _⟩) hdt hdu hdx hdy htop hcmp rfl (fun hE hB w => ?_) hcmp2 (fun hE hab => ?_)
  · rw [run_eqW]
    obtain ⟨h1, h2, h3, h4⟩ := next_ok hE
    have hle := cmpN_le.1 (of_decide_eq_true hB)
    have e : decT (nextN s l bits s) = decT bits := by
      rw [(next_dec hE s).2.1, tookN_self h3, scaleN_same h3 (decT_pos h1) hle, decT_ok h1, trN_tgt h1]
    rw [e, eT] at eU
    rw [decide_eq_true ((n4_inj hu0 hu1 hu2 hu3 ht0 ht1 ht2 ht3).2 eU.symm)]
  · refine cmpN_le.2 ?_
    obtain ⟨h1, h2, h3, h4⟩ := next_ok hE
    rw [(next_dec hE a).2.1, (next_dec hE b).2.1]
    exact trN_mono (scaleN_mono (decT_pos h2) (tookN_mono hab))
end Go.Proofs.Ytbagkfeodjkdmaa

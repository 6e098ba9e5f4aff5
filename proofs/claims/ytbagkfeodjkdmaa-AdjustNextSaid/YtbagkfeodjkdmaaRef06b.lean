/- pontageref06: Encode, Scale. -/
import Derived.Test.YtbagkfeodjkdmaaRef06
namespace Go.Proofs.Ytbagkfeodjkdmaa
open Go.RowKit Go.Maps Go.Shelf

theorem take_digs {M : Nat} (h : M < 4294967296) : val ((digs M).take 4) = M := by
  have : (digs M).length ≤ 2 := digs_len (by simp [pw]; omega)
  rw [List.take_of_length_le (by omega), val_digs]
theorem manN_eq (n : Nat) : manN n = (n / 256 ^ (exN n - 3)) * 256 ^ (3 - exN n) := by
  unfold manN
  split
  · rw [show 3 - exN n = 0 by omega]; simp
  · rw [show exN n - 3 = 0 by omega]; simp

set_option maxRecDepth 100000 in
set_option maxHeartbeats 8000000 in
theorem ref06_Encode (va : Value) (n : Nat) (hn : n < TOP) (w : World) (ha : NAt w va n) :
    Calls Try.prog 50 #[va] w fun e w' => e = .returned (.int .u32 (encN n)) ∧ Chg [] w w' := by
  have hL1 : blen n ≤ 256 := blen_le.2 (by unfold TOP at hn; exact hn)
  have hbits := ref_Bits va n w ha (by omega)
  have hbl := bitsOf_length n
  have hex := exN_le hn
  have hml := manN_lt (n := n)
  have HME := Lib.hid (manN_eq n)
  have HEN := Lib.hid (show encN n = if 8388608 ≤ manN n then manN n / 256 + (exN n + 1) * 16777216 else manN n + exN n * 16777216 from rfl)
  have HX := Lib.hid (show exN n = (blen n + 7) / 8 from rfl)
  clear hn
  generalize encN n = R at HEN ⊢
  generalize manN n = M at hml HME HEN
  generalize exN n = E at hex HME HEN HX
  have HML := Lib.hid hml
  clear hml
  go_enter Try.func50, Try.ntmps50
  go_wp2_with fail
  refine hbits.mono ?_
  rintro e' w1 ⟨v3, rfl, hl, hf3, hc1⟩
  obtain ⟨la, lc, rfl⟩ := hl.len
  have HBL := Lib.hid hbl
  have hL2 : (bitsOf n).length ≤ 256 := by omega
  clear hl hf3 hbl hbits hL1
  generalize (bitsOf n).length = L at HBL hL2 ⊢
  go_wp2
  go_loopw [4] (fun s4 wr => ∃ c : Nat, s4 = .int .i64 c ∧ Hid (8 * c < L + 8 ∧ c ≤ 33) ∧ wr = w1) (fun s4 _ => 40 - (intOf s4).toNat)
  case atStart => exact ⟨0, rfl, Lib.hid ⟨by omega, by omega⟩, rfl⟩
  case round =>
    obtain ⟨c, rfl, HC, rfl⟩ := hrel
    have hc33 : (c : Int) ≤ 33 := by have := HC.out; omega
    have hL2i : (L : Int) ≤ 256 := by omega
    by_cases hlt : 8 * c < L
    · have hlti : 8 * (c : Int) < (L : Int) := by omega
      have HLT := Lib.hid hlt
      clear hlt
      go_wp2
      go_roundw
      case rel => exact ⟨c + 1, by simp, Lib.hid ⟨by have := HLT.out; omega, by have := HLT.out; omega⟩, trivial⟩
      case measure => simp [intOf]; omega
    · have hlti : ¬ 8 * (c : Int) < (L : Int) := by omega
      have HCE := Lib.hid (show c = E by have := HX.out; have := HBL.out; have := HC.out; omega)
      clear hlt HC
      have hc0 : Chg [] w wr := hc1
      go_wp2
      have hv0 := NAt.same ha hc0
      go_loopw [6, 5] (fun s6 s5 wr2 => ∃ i : Nat, s6 = .int .i64 i ∧ Hid (i ≤ c ∧ (i = c ∨ 3 ≤ i)) ∧ NAt wr2 s5 (n / 256 ^ (c - i)) ∧ Chg [] w wr2) (fun s6 _ _ => (intOf s6).toNat)
      case atStart => exact ⟨c, rfl, Lib.hid ⟨Nat.le_refl _, .inl rfl⟩, by simpa using hv0, hc0⟩
      case round =>
        clear hv0 hc0
        obtain ⟨i, rfl, HI, hv, hc⟩ := hrel
        have hii : (i : Int) ≤ 33 := by have := HI.out; omega
        have hbn : blen n ≤ 256 := by have := HBL.out; omega
        by_cases h3 : 3 < i
        · have h3i : (3 : Int) < i := by omega
          have H3 := Lib.hid h3
          have HPW := Lib.hid (show n / 256 ^ (c - i) / 256 = n / 256 ^ (c - (i - 1)) by rw [div256, show c - (i - 1) = c - i + 1 by have := HI.out; omega])
          have hbx : blen (n / 256 ^ (c - i)) ≤ 256 := Nat.le_trans (blen_div _ _) hbn
          generalize n / 256 ^ (c - i) = X at hv HPW hbx
          clear h3
          go_wp2_with fail
          refine (one256 _).mono ?_
          rintro e' w2 ⟨v1, rfl, hv1, hf1, hc1'⟩
          have hdiv := ref_Div _ _ _ _ w2 (NAt.same hv hc1') hv1 (by omega) (by omega) (by have := blen256; omega)
          go_wp2_with fail
          refine hdiv.mono ?_
          rintro e' w3 ⟨v2, v3, rfl, hv2, hv3, hf2, hf3, hc2⟩
          rw [HPW.out] at hv2
          go_wp2
          go_roundw
          case rel => exact ⟨i - 1, by have := H3.out; congr 1; omega, Lib.hid ⟨by have := HI.out; omega, .inr (by have := H3.out; omega)⟩, hv2, (hc.trans hc1' (by simp)).trans hc2 (by simp)⟩
          case measure => simp [intOf]; omega
        · have h3i : ¬ (3 : Int) < i := by omega
          have HT := Lib.hid (show M = n / 256 ^ (c - i) * 256 ^ (3 - c) by
            rw [HME.out, HCE.out]
            have := HI.out
            rw [HCE.out] at this
            rw [show E - i = E - 3 by omega])
          have hbx : blen (n / 256 ^ (c - i)) ≤ 256 := Nat.le_trans (blen_div _ _) hbn
          generalize n / 256 ^ (c - i) = X at hv HT hbx
          clear h3 HI hii
          go_wp2
          go_loopw [7, 5] (fun s7 s5 wr2 => ∃ j : Nat, s7 = .int .i64 j ∧ Hid (c ≤ j ∧ (j = c ∨ j ≤ 3)) ∧ NAt wr2 s5 (X * 256 ^ (j - c)) ∧ Chg [] w wr2) (fun s7 _ _ => 3 - (intOf s7).toNat)
          case atStart => exact ⟨c, rfl, Lib.hid ⟨Nat.le_refl _, .inl rfl⟩, by simpa using hv, hc⟩
          case round =>
            clear hv hc
            obtain ⟨j, rfl, HJ, hv, hc⟩ := hrel
            by_cases h4 : j < 3
            · have h4i : (j : Int) < 3 := by omega
              have H4 := Lib.hid h4
              have HPW := Lib.hid (show X * 256 ^ (j - c) * 256 = X * 256 ^ (j + 1 - c) by rw [show j + 1 - c = (j - c) + 1 by have := HJ.out; omega, Nat.pow_succ, Nat.mul_assoc])
              have hbx2 : blen (X * 256 ^ (j - c)) ≤ 300 := by
                rw [p256]
                have h5 := lt_blen X
                have h6 : X * 2 ^ (8 * (j - c)) < 2 ^ blen X * 2 ^ (8 * (j - c)) := Nat.mul_lt_mul_of_pos_right h5 (Nat.two_pow_pos _)
                rw [← Nat.pow_add] at h6
                exact blen_of h6 (by omega)
              generalize X * 256 ^ (j - c) = Y at hv HPW hbx2
              clear h4
              go_wp2_with fail
              refine (one256 _).mono ?_
              rintro e' w2 ⟨v1, rfl, hv1, hf1, hc1'⟩
              have hmul := ref_MulN _ _ _ _ w2 (NAt.same hv hc1') hv1 (by omega) (by have := blen256; omega)
              go_wp2_with fail
              refine hmul.mono ?_
              rintro e' w3 ⟨v2, rfl, hv2, hf2, hc2⟩
              rw [HPW.out] at hv2
              go_wp2
              go_roundw
              case rel => exact ⟨j + 1, by simp, Lib.hid ⟨by have := HJ.out; omega, .inr (by have := H4.out; omega)⟩, hv2, (hc.trans hc1' (by simp)).trans hc2 (by simp)⟩
              case measure => simp [intOf]; omega
            · have h4i : ¬ (j : Int) < 3 := by omega
              have HM2 := Lib.hid (show X * 256 ^ (j - c) = M by
                rw [HT.out]
                have := HJ.out
                by_cases h5 : 3 ≤ c
                · rw [show j - c = 0 by omega, show 3 - c = 0 by omega]
                · rw [show j - c = 3 - c by omega])
              rw [HM2.out] at hv
              have hwd := ref_Words _ (digs M) _ hv
              have HTD := Lib.hid (take_digs (M := M) (by have := HML.out; omega))
              have hM1 : (M : Int) < 16777216 := by have := HML.out; omega
              have hcE : (c : Int) ≤ 32 := by have := HCE.out; omega
              clear h4 HJ
              go_wp2_with fail
              refine hwd.mono ?_
              rintro e' w2 ⟨x0, x1, x2, x3, f, rfl, hx0, hc2⟩
              rw [HTD.out] at hx0
              subst hx0
              have hcc := hc.trans hc2 (by simp)
              unfold V4
              by_cases hbig : 8388608 ≤ M
              · have hb1 : (8388608 : Int) ≤ M := by omega
                have HR := Lib.hid (show R = M / 256 + (c + 1) * 16777216 by rw [HEN.out, if_pos hbig, HCE.out])
                clear hbig
                go_wp2
                go_ret
                refine ⟨?_, hcc.alloc _⟩
                rw [HR.out]
                simp
                done
              · have hb1 : decide ((8388608 : Int) ≤ M) = false := by simp; omega
                have HR := Lib.hid (show R = M + c * 16777216 by rw [HEN.out, if_neg hbig, HCE.out])
                clear hbig
                go_wp2
                go_ret
                refine ⟨?_, hcc.alloc _⟩
                rw [HR.out]
                simp
                done

def ScalePost (q : Nat) (e : Ending) (w w' : World) : Prop := ∃ v, e = .returned v ∧ NAt w' v q ∧ Chg [] w w'
set_option maxRecDepth 100000 in
set_option maxHeartbeats 8000000 in
theorem ref06_Scale (va vm : Value) (t up by_ most : Nat) (w : World) (ha : NAt w va t) (hm : NAt w vm most) (ht : t < TOP) (hup : up < 18446744073709551616) (hby : by_ < 18446744073709551616) (hb0 : by_ ≠ 0) :
    Calls Try.prog 51 #[va, .int .u64 up, .int .u64 by_, vm] w fun e w' => ScalePost (scaleN t up by_ most) e w w' := by
  have hbt : blen t ≤ 256 := blen_le.2 (by unfold TOP at ht; exact ht)
  have hbu : blen up ≤ 64 := blen_le.2 hup
  have hbb : blen by_ ≤ 64 := blen_le.2 hby
  have h1 := ref06_one up hup w
  have h2 := fun w => ref06_one by_ hby w
  clear ht hup hby
  have hbp : blen (t * up) ≤ 400 := by
    have h3 : t * up < 2 ^ blen t * 2 ^ blen up := Nat.mul_lt_mul'' (lt_blen t) (lt_blen up)
    rw [← Nat.pow_add] at h3
    exact blen_of h3 (by omega)
  go_enter Try.func51, Try.ntmps51
  go_wp2_with fail
  refine h1.mono ?_
  rintro e' w1 ⟨v1, rfl, hv1, hf1, hc1⟩
  have hmul := ref_MulN _ _ _ _ w1 (NAt.same ha hc1) hv1 (by omega) (by omega)
  go_wp2_with fail
  refine hmul.mono ?_
  rintro e' w2 ⟨v2, rfl, hv2, hf2, hc2⟩
  go_wp2_with fail
  refine (h2 _).mono ?_
  rintro e' w3 ⟨v3, rfl, hv3, hf3, hc3⟩
  have hdiv := ref_Div _ _ _ _ w3 (NAt.same hv2 hc3) hv3 hb0 (by omega) (by omega)
  have HQ := Lib.hid (show scaleN t up by_ most = if most < t * up / by_ then most else if t * up / by_ = 0 then 1 else t * up / by_ from rfl)
  generalize t * up / by_ = q at hdiv HQ
  go_wp2_with fail
  refine hdiv.mono ?_
  rintro e' w4 ⟨v4, v5, rfl, hv4, hv5, hf4, hf5, hc4⟩
  have hcc := ((hc1.trans hc2 (by simp)).trans hc3 (by simp)).trans hc4 (by simp)
  have hm4 := NAt.same hm hcc
  have hcmp := ref_CmpN _ _ _ _ w4 hv4 hm4
  have HV4 := Lib.hid hv4
  have HM4 := Lib.hid hm4
  have HCC := Lib.hid hcc
  by_cases hg : most < q
  · have hcv : 0 < cmpM q most := by unfold cmpM; rw [if_neg (by omega), if_pos hg]; decide
    have HR := Lib.hid (show scaleN t up by_ most = most by rw [HQ.out, if_pos hg])
    generalize cmpM q most = cv at hcmp hcv
    clear hg hv4 hm4 hcc hv5 hf4 hf5 hmul hdiv h1 h2 hb0
    go_wp2_with fail
    refine hcmp.mono ?_
    rintro e w8 ⟨rfl, hw8⟩
    subst hw8
    go_wp2
    go_ret
    exact ⟨_, rfl, by rw [HR.out]; exact HM4.out, HCC.out⟩
  · have hcv : ¬ 0 < cmpM q most := by unfold cmpM; split <;> (try split) <;> omega
    generalize cmpM q most = cv at hcmp hcv
    obtain ⟨aa, ac, rfl⟩ := hv4.sl.len
    have HL0 := Lib.hid (digs_len0 (n := q))
    by_cases hq : q = 0
    · have HR := Lib.hid (show scaleN t up by_ most = 1 by rw [HQ.out, if_neg hg, if_pos hq])
      have hl0 := HL0.out.2 hq
      rw [hl0] at hcmp ⊢
      clear hg hv4 hm4 hcc hv5 hf4 hf5 hmul hdiv h1 h2 hb0 hq hl0
      go_wp2_with fail
      refine hcmp.mono ?_
      rintro e w8 ⟨rfl, hw8⟩
      subst hw8
      go_wp2_with fail
      refine (ref06_one 1 (by omega) _).mono ?_
      rintro e' w9 ⟨v9, rfl, hv9, hf9, hc9⟩
      go_wp2
      go_ret
      exact ⟨_, rfl, by rw [HR.out]; exact hv9, HCC.out.trans hc9 (by simp)⟩
    · have HR := Lib.hid (show scaleN t up by_ most = q by rw [HQ.out, if_neg hg, if_neg hq])
      have hl0 : (((digs q).length : Int) == 0) = false := by have := digs_ne hq; rw [beq_eq_false_iff_ne]; omega
      have hl1 : decide ((digs q).length = 0) = false := decide_eq_false (by have := digs_ne hq; omega)
      have hl2 : ((digs q).length == 0) = false := by have := digs_ne hq; rw [beq_eq_false_iff_ne]; omega
      clear hg hv4 hm4 hcc hv5 hf4 hf5 hmul hdiv h1 h2 hb0 hq
      generalize (digs q).length = L at *
      go_wp2_with fail
      refine hcmp.mono ?_
      rintro e w8 ⟨rfl, hw8⟩
      subst hw8
      go_wp2
      go_ret
      exact ⟨_, rfl, by rw [HR.out]; exact HV4.out, HCC.out⟩
end Go.Proofs.Ytbagkfeodjkdmaa

/- pontageref06: one, Decode. -/
import Derived.Test.YtbagkfeodjkdmaaDec
import Derived.Test.YtbagkfeodjkdmaaRef03f
import Derived.Test.YtbagkfeodjkdmaaRef03gh
namespace Go.Proofs.Ytbagkfeodjkdmaa
open Go.RowKit Go.Maps Go.Shelf

theorem wds1' (a : Int) : wds a 0 0 0 = a := by simp [wds]
set_option maxHeartbeats 1000000 in
theorem ref06_one (x : Nat) (hx : x < 18446744073709551616) (w : World) :
    Calls Try.prog 103 #[.int .u64 x] w fun e w' => ∃ v, e = .returned v ∧ NAt w' v x ∧ (∀ k, inBlk v k → w.heap.size ≤ k) ∧ Chg [] w w' := by
  have z0 : (Lit.int .u64 0).wf = true := by decide
  have h := ref_Of x 0 0 0 w (wf_u64.2 (by omega)) z0 z0 z0
  rw [wds1', Int.toNat_natCast] at h
  go_enter Try.func103, Try.ntmps103
  go_wp2_with fail
  refine h.mono ?_
  rintro e w1 ⟨v, rfl, hv, hf, hc⟩
  go_wp2
  go_ret
  exact ⟨_, rfl, hv, hf, hc⟩
theorem one256 (w : World) : Calls Try.prog 103 #[.int .u64 256] w fun e w' => ∃ v, e = .returned v ∧ NAt w' v 256 ∧ (∀ k, inBlk v k → w.heap.size ≤ k) ∧ Chg [] w w' := ref06_one 256 (by omega) w
theorem blen256 : blen 256 ≤ 9 := by decide
theorem digs_len0 {n : Nat} : (digs n).length = 0 ↔ n = 0 := by
  constructor
  · intro h
    by_cases h0 : n = 0
    · exact h0
    · have := digs_ne h0; omega
  · rintro rfl; rw [digs_zero]; rfl
theorem digs_len16 {n : Nat} : (digs n).length ≤ 16 ↔ n < TOP := by
  have e : pw 16 = (TOP : Int) := rfl
  constructor
  · intro h
    have h1 := val_lt (dg_digs n)
    rw [val_digs] at h1
    have h2 : pw (digs n).length ≤ pw 16 := pw_mono h
    omega
  · intro h; exact digs_len (by omega)

def DecPost (T : Nat) (ok : Bool) (w : World) (e : Ending) (w' : World) : Prop := ∃ v, e = .returned (.tuple #[v, .bool ok]) ∧ NAt w' v T ∧ (∀ k, inBlk v k → w.heap.size ≤ k) ∧ Chg [] w w'
set_option maxRecDepth 100000 in
set_option maxHeartbeats 8000000 in
theorem ref06_Decode (bits : Nat) (hb : bits < 4294967296) (w : World) :
    Calls Try.prog 49 #[.int .u32 bits] w (DecPost (tgt bits) (okD bits) w) := by
  obtain ⟨e, he⟩ : ∃ e, e = bits / 16777216 := ⟨_, rfl⟩
  obtain ⟨m, hm⟩ : ∃ m, m = bits % 8388608 := ⟨_, rfl⟩
  obtain ⟨sg, hsg⟩ : ∃ sg, sg = bits / 8388608 % 2 := ⟨_, rfl⟩
  have hT : tgt bits = tgtE e m := by rw [he, hm]; rfl
  have hO : okD bits = (!(decide (sg = 1) && decide (0 < m)) && (decide (0 < tgtE e m) && decide (tgtE e m < TOP))) := by unfold okD; rw [hT, hm, hsg]
  rw [hT, hO]
  have he1 : e ≤ 255 := by omega
  have hm1 : m < 8388608 := by omega
  have hE : (bits : Int) / 16777216 = (e : Int) := by omega
  have hM : (bits : Int) % 8388608 = (m : Int) := by omega
  have hS : (bits : Int) / 8388608 % 2 = (sg : Int) := by omega
  have hs2 : sg < 2 := by omega
  have hb0 : (bits : Int) < 4294967296 := by omega
  have HBL := Lib.hid (tgtE_blen (e := e) he1 hm1)
  clear he hm hsg hT hO hb
  have hone := ref06_one m (by omega) w
  go_enter Try.func49, Try.ntmps49
  go_wp2_with fail
  refine hone.mono ?_
  rintro e' w1 ⟨v0, rfl, hv0, hf0, hc0⟩
  go_wp2
  have HS := Lib.hid hS
  have HM1 := Lib.hid hm1
  have HB0 := Lib.hid hb0
  clear hE hM hS hm1 hb0
  go_loopw [4, 6] (fun s4 s6 wr => ∃ c : Nat, s4 = .int .i64 c ∧ c ≤ e ∧ Hid (c = e ∨ 3 ≤ c) ∧ NAt wr s6 (m * 256 ^ (e - c)) ∧ (∀ b, inBlk s6 b → w.heap.size ≤ b) ∧ Chg [] w wr) (fun s4 _ _ => (intOf s4).toNat)
  case atStart => exact ⟨e, rfl, Nat.le_refl _, Lib.hid (.inl rfl), by simpa using hv0, hf0, hc0⟩
  case round =>
    clear hv0 hf0 hc0 hone
    obtain ⟨c, rfl, hce, HC, hv, hf, hc⟩ := hrel
    by_cases hc3 : 3 < c
    · have hbl := HBL.out (e - c) (by omega)
      have hz := hc.size
      have HF := Lib.hid hf
      have HPW := Lib.hid (show m * 256 ^ (e - c) * 256 = m * 256 ^ (e - (c - 1)) by rw [show e - (c - 1) = (e - c) + 1 by omega, Nat.pow_succ, Nat.mul_assoc])
      clear hf
      generalize m * 256 ^ (e - c) = X at hbl hv HPW
      have hc3i : (3 : Int) < c := by omega
      have HC3 := Lib.hid hc3
      clear hc3
      go_wp2_with fail
      refine (one256 _).mono ?_
      rintro e' w2 ⟨v1, rfl, hv1, hf1, hc1⟩
      have hmul := ref_MulN _ _ _ _ w2 (NAt.same hv hc1) hv1 (by omega) (by have := blen256; omega)
      go_wp2_with fail
      refine hmul.mono ?_
      rintro e' w3 ⟨v2, rfl, hv2, hf2, hc2⟩
      rw [HPW.out] at hv2
      have hz2 := hc1.size
      go_wp2
      go_roundw
      case rel => exact ⟨c - 1, by have := HC3.out; congr 1; omega, by omega, Lib.hid (.inr (by have := HC3.out; omega)), hv2, fun b hb => by have := hf2 b hb; omega, (hc.trans hc1 (by simp)).trans hc2 (by simp)⟩
      case measure => simp [intOf]; omega
    · have hX : blen (m * 256 ^ (e - c)) ≤ 2100 := HBL.out _ (by have := HC.out; omega)
      have HT := Lib.hid (show tgtE e m = m * 256 ^ (e - c) / 256 ^ (3 - c) by
        unfold tgtE
        rcases HC.out with h | h
        · subst h
          by_cases h3 : 3 ≤ c
          · rw [if_pos h3, show c - 3 = 0 by omega, show c - c = 0 by omega, show 3 - c = 0 by omega]; simp
          · rw [if_neg h3, show c - c = 0 by omega]; simp
        · rw [if_pos (by omega), show e - 3 = e - c by omega, show 3 - c = 0 by omega]; simp)
      generalize m * 256 ^ (e - c) = X at hX HT hv
      have hcc : c ≤ 3 := by omega
      have hcci : ¬ (3 : Int) < c := by omega
      have HCC := Lib.hid hcc
      clear hce HC HBL hc3 hcc
      go_wp2
      go_loopw [4, 6] (fun s4 s6 wr => ∃ d : Nat, s4 = .int .i64 d ∧ c ≤ d ∧ d ≤ 3 ∧ NAt wr s6 (X / 256 ^ (d - c)) ∧ (∀ b, inBlk s6 b → w.heap.size ≤ b) ∧ Chg [] w wr) (fun s4 _ _ => 3 - (intOf s4).toNat)
      case atStart => exact ⟨c, rfl, Nat.le_refl _, HCC.out, by simpa using hv, hf, hc⟩
      case round =>
        clear hv hf hc
        obtain ⟨d, rfl, hd1, hd2, hv, hf, hc⟩ := hrel
        by_cases hd3 : d < 3
        · have hbl := Nat.le_trans (blen_div X (256 ^ (d - c))) hX
          have hz := hc.size
          have HF := Lib.hid hf
          have hd3i : (d : Int) < 3 := by omega
          have HD3 := Lib.hid hd3
          have HD1 := Lib.hid hd1
          have HPW := Lib.hid (show X / 256 ^ (d - c) / 256 = X / 256 ^ (d + 1 - c) by rw [div256, show d + 1 - c = d - c + 1 by omega])
          generalize X / 256 ^ (d - c) = Y at hbl hv HPW
          clear hf hd3 hd2 hd1
          go_wp2_with fail
          refine (one256 _).mono ?_
          rintro e' w2 ⟨v1, rfl, hv1, hf1, hc1⟩
          have hdiv := ref_Div _ _ _ _ w2 (NAt.same hv hc1) hv1 (by omega) (by omega) (by have := blen256; omega)
          go_wp2_with fail
          refine hdiv.mono ?_
          rintro e' w3 ⟨v2, v3, rfl, hv2, hv3, hf2, hf3, hc2⟩
          rw [HPW.out] at hv2
          have hz2 := hc1.size
          go_wp2
          go_roundw
          case rel => exact ⟨d + 1, by simp, by have := HD1.out; omega, by have := HD3.out; omega, hv2, fun b hb => by have := hf2 b hb; omega, (hc.trans hc1 (by simp)).trans hc2 (by simp)⟩
          case measure => simp [intOf]; omega
        · have hde : d = 3 := by omega
          have hd3i : ¬ (d : Int) < 3 := by omega
          rw [hde, ← HT.out] at hv
          clear hde
          obtain ⟨aa, ac, rfl⟩ := hv.sl.len
          have HL0 := Lib.hid (digs_len0 (n := tgtE e m))
          have HL16 := Lib.hid (digs_len16 (n := tgtE e m))
          have hdl := hv.len
          generalize tgtE e m = T at *
          have HV := Lib.hid hv
          have HF := Lib.hid hf
          clear hv hf HT hX
          generalize (digs T).length = L at *
          have DT0 := Lib.hid (show decide (0 < T) = decide (0 < L) by
            have := HL0.out
            by_cases h : T = 0
            · rw [show L = 0 from this.2 h, h]
            · have h2 : L ≠ 0 := fun h3 => h (this.1 h3)
              simp [show 0 < T by omega, show 0 < L by omega])
          have DT1 := Lib.hid (show decide (T < TOP) = decide (L ≤ 16) by simp only [HL16.out])
          have i1 : ((bits : Int) / 8388608 % 2 == 1) = decide (sg = 1) := by rw [HS.out]; by_cases h : sg = 1 <;> simp [h]; omega
          have i2 : decide ((0 : Int) < m) = decide (0 < m) := decide_eq_decide.2 ⟨fun h => by omega, fun h => by omega⟩
          have i3 : decide ((0 : Int) < L) = decide (0 < L) := decide_eq_decide.2 ⟨fun h => by omega, fun h => by omega⟩
          have i4 : decide ((L : Int) ≤ 16) = decide (L ≤ 16) := decide_eq_decide.2 ⟨fun h => by omega, fun h => by omega⟩
          clear HL0 HL16 hd1 hd2 hd3 hdl
          generalize hB1 : decide (sg = 1) = B1 at i1
          generalize hB2 : decide (0 < m) = B2 at i2
          generalize hB3 : decide (0 < L) = B3 at i3
          generalize hB4 : decide (L ≤ 16) = B4 at i4
          have J1 := Lib.hid hB1
          have J2 := Lib.hid hB2
          have J3 := Lib.hid hB3
          have J4 := Lib.hid hB4
          clear hB1 hB2 hB3 hB4
          cases B1 <;> cases B2 <;> cases B3 <;> cases B4
          all_goals
            have n2 := J2.out
            have n3 := J3.out
            have n4' := J4.out
            go_wp2
            go_ret2
            exact ⟨_, by simp [DT0.out, DT1.out, J1.out, J2.out, J3.out, J4.out], HV.out, HF.out, hc⟩
end Go.Proofs.Ytbagkfeodjkdmaa

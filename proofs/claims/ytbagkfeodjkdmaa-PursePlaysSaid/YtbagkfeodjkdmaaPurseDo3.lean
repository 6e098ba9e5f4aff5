/- pontagelaw16.do: Free. -/
import Derived.Test.YtbagkfeodjkdmaaPurseDo1
namespace Go.Proofs.Ytbagkfeodjkdmaa
open Go.RowKit Go.Maps Go.Shelf

set_option maxRecDepth 100000 in
set_option maxHeartbeats 4000000 in
theorem law16_do3 (p fp mb q : Nat) (U : Pur) (kind : Int) (k : Nat) (a : Int) (z0 : (kind == 0) = false) (z1 : (kind == 1) = false) (z2 : (kind == 2) = false) (w : World) (h : St16 w p fp mb q U) (hk : k < 256) (ha : (Lit.int .u64 a).wf = true) :
    Calls Try.prog 35 #[.pointer (some ⟨p, 0, none⟩), .pointer (some ⟨q, 0, none⟩), .agg (act16 kind k a)] w fun e w' => e = .returned (.bool true) ∧ St16 w' p fp mb q (U.dFree k a).2 ∧ Chg [p, fp, mb, q] w w' := by
  have hkw : (Lit.int .u8 (k : Int)).wf = true := wf_u8.2 (by omega)
  have ha' := (wf_u64.1 ha).1
  have hidx := fun W => idxFree q k hk W
  have hq := Blk.new w (act16 kind k a) 67
  have hc1 : Chg [] w (w.alloc (.cells (act16 kind k a) 67)) := (Chg.refl [] w).alloc _
  have h1 := h.chg hc1 (by simp) (by simp) (by simp) (by simp)
  have lp := h.pur.lt
  have lq := h.mod.lt
  have hIn := purse_Free p fp mb U k a _ h1.pur h1.ok hkw ha'
  have okIn := h.ok.dFree (k := k) (a := a) (by omega) (by omega) ha'
  have b0 := hq.cell 0 (v := .int .i64 kind) rfl
  have b1 := hq.cell 1 (v := .int .u8 (k : Int)) rfl
  have b2 := hq.cell 2 (v := .int .u64 a) rfl
  unfold act16 at hq hc1 h1 b0 b1 b2 hIn ⊢
  unfold Pur.dFree at hIn okIn ⊢
  have i0 := h.ok.i0
  have i1 := h.ok.i1
  have bo := h.ok.both
  have hh := h.ok.h0
  have tt := h.ok.led.tot_nn
  have fin : ∀ w2, Chg [p, fp, mb] (w.alloc (.cells #[.int .i64 kind, .int .u8 (k : Int), .int .u64 a] 67)) w2 → PurAt w2 p fp mb U → St16 w2 p fp mb q U ∧ Chg [p, fp, mb, q] w w2 := fun w2 kc hp =>
    ⟨⟨hp, h1.ok, h1.mod.chg kc (by simp [h.q1, h.q2, h.q3]), h.q1, h.q2, h.q3⟩, (hc1.mono (by simp)).trans kc (by simp)⟩
  have FIN := Lib.hid fin
  clear fin
  by_cases e1 : a ≤ 4611686018427387904
  · rw [if_neg (show ¬ ¬ a ≤ 4611686018427387904 by omega)] at hIn okIn ⊢
    by_cases e2 : U.held < a
    · rw [if_pos e2] at hIn okIn ⊢
      clear bo tt i0 i1
      go_enter Try.func35, Try.ntmps35
      go_wp2_with (go_at_call 37; refine hIn.mono ?_; rintro e w2 ⟨rfl, hp2, hc2⟩; have hq2 := hq.chg hc2 (by simp; omega); have b1 := hq2.cell 1 (v := .int .u8 (k : Int)) rfl; have b2 := hq2.cell 2 (v := .int .u64 a) rfl; have hm2 := h1.mod.chg hc2 (by simp [h.q1, h.q2, h.q3]); have HM2 := Lib.hid hm2; obtain ⟨cs, hmb, mc, ma, mi, mo⟩ := hm2; have m256 := hmb.cell 256 ma; have mk := hmb.cell k (mc k hk))
      go_quiet (fail)
      go_wp2
      go_ret
      exact ⟨rfl, FIN.out _ (hc2.drewN _) (hp2.same ((Chg.refl [] w2).drewN _))⟩
    · rw [if_neg e2] at hIn okIn ⊢
      have x1 : a ≤ U.held := by omega
      have oo := h.ok.o0
      have mk0 := h.ok.led.nn k
      have mk1 := h.ok.led.m_le (k := (k : Int)) (by omega) (by omega)
      have mk2 : U.L.m k + a ≤ 4611686018427387904 := by omega
      have hh2 : U.held ≤ 4611686018427387904 := by omega
      have hmint := mint0_m (L := U.L) (k := k) e1 (by omega)
      generalize hU2 : ({ U with held := U.held - a, L := U.L.mint0 k a } : Pur) = U2 at hIn okIn ⊢
      have y1 : U2.held = U.held - a ∧ U2.inn = U.inn ∧ U2.out = U.out ∧ ∀ j : Nat, U2.L.m j = if j = k then U.L.m k + a else U.L.m j := by subst hU2; exact ⟨rfl, rfl, rfl, hmint⟩
      have Y1 := Lib.hid y1
      clear y1 hmint hU2 bo tt i0 i1 oo mk1
      go_enter Try.func35, Try.ntmps35
      go_wp2_with (go_at_call 37; refine hIn.mono ?_; rintro e w2 ⟨rfl, hp2, hc2⟩; have hq2 := hq.chg hc2 (by simp; omega); have b1 := hq2.cell 1 (v := .int .u8 (k : Int)) rfl; have b2 := hq2.cell 2 (v := .int .u64 a) rfl; have hm2 := h1.mod.chg hc2 (by simp [h.q1, h.q2, h.q3]); have HM2 := Lib.hid hm2; obtain ⟨cs, hmb, mc, ma, mi, mo⟩ := hm2; have m256 := hmb.cell 256 ma; have mk := hmb.cell k (mc k hk))
      go_quiet (fail)
      have kd := (Chg.refl [] w2).drewN nq
      have hp3 := hp2.same kd
      have hq3 := hq2.drewN nq
      have hmb3 := hmb.drewN nq
      have hm3 := HM2.out.chg kd (by simp)
      have hc3 := hc2.drewN nq
      generalize w2.drewN nq = w3 at hp3 hq3 hmb3 hm3 hc3 ⊢
      clear hp2 hq2 hmb HM2 hc2 kd b1 b2 m256 mk
      have HM3 := Lib.hid hm3
      clear hm3
      have b1 := hq3.cell 1 (v := .int .u8 (k : Int)) rfl
      have b2 := hq3.cell 2 (v := .int .u64 a) rfl
      have m256 := hmb3.cell 256 ma
      have mk := hmb3.cell k (mc k hk)
      have f256 := hmb3.free 256
      have fk := hmb3.free k
      go_wp2
      go_still_tail 9, (by kernel_rfl)
      go_wp2
      have hmb4 := (hmb3.set 256 (.int .u64 (U.held - a))).drew
      have hq4 := (hq3.other (p := ⟨q, 256, none⟩) (by simp; omega) (.int .u64 (U.held - a))).drew
      obtain ⟨w4, hw4⟩ : ∃ w4, w4 = (w3.setCell ⟨q, 256, none⟩ (.int .u64 (U.held - a))).drew := ⟨_, rfl⟩
      rw [← hw4] at hmb4 hq4 ⊢
      have HW4 := Lib.hid hw4
      clear hw4 b1 b2 m256 mk f256 fk
      have b1 := hq4.cell 1 (v := .int .u8 (k : Int)) rfl
      have b2 := hq4.cell 2 (v := .int .u64 a) rfl
      have mk := hmb4.cell k (v := .int .u64 (U.L.m k)) (by rw [Array.getElem?_setIfInBounds, if_neg (by omega)]; exact mc k hk)
      have fk := hmb4.free k
      go_still_tail 13, (by kernel_rfl)
      go_wp2
      go_ret
      obtain ⟨y1, y2, y3, y4⟩ := Y1.out
      have kk : Chg [q] w3 ((w4.setCell ⟨q, k, none⟩ (.int .u64 (U.L.m k + a))).drew) := by
        rw [HW4.out]
        exact ((((Chg.refl [q] w3).setCell (by simp) _).drew).setCell (by simp) _).drew
      refine ⟨rfl, ⟨hp3.chg kk (by simp [h.q1.symm]) (by simp [h.q2.symm]) (by simp [h.q3.symm]), okIn, ?_, h.q1, h.q2, h.q3⟩, ((hc1.mono (by simp)).trans hc3 (by simp)).trans kk (by simp)⟩
      have hM := HM3.out.two (U' := U2) (i := 256) (j := k) (U.held - a) (U.L.m k + a) (by omega) (by omega) hk (fun j _ => y4 j) (by simp [y1]) (by simp [y2]) (by simp [y3])
      have hM2 := hM.chg ((Chg.refl [] _).drewN 2) (by simp)
      rw [HW4.out]
      exact hM2
  · rw [if_pos (show ¬ a ≤ 4611686018427387904 by omega)] at hIn okIn ⊢
    have x1 : 4611686018427387904 < a := by omega
    clear bo tt i0 i1
    go_enter Try.func35, Try.ntmps35
    go_wp2_with (go_at_call 37; refine hIn.mono ?_; rintro e w2 ⟨rfl, hp2, hc2⟩; have hq2 := hq.chg hc2 (by simp; omega); have b1 := hq2.cell 1 (v := .int .u8 (k : Int)) rfl; have b2 := hq2.cell 2 (v := .int .u64 a) rfl; have hm2 := h1.mod.chg hc2 (by simp [h.q1, h.q2, h.q3]); have HM2 := Lib.hid hm2; obtain ⟨cs, hmb, mc, ma, mi, mo⟩ := hm2; have m256 := hmb.cell 256 ma; have mk := hmb.cell k (mc k hk))
    go_ret
    exact ⟨rfl, FIN.out w2 hc2 hp2⟩
end Go.Proofs.Ytbagkfeodjkdmaa

/- pontagelaw16.do: Out. -/
import Derived.Test.YtbagkfeodjkdmaaPurseDo0
namespace Go.Proofs.Ytbagkfeodjkdmaa
open Go.RowKit Go.Maps Go.Shelf

theorem burn0_m {L : Led} {k : Nat} {a : Int} (h1 : a ≤ 4611686018427387904) (h2 : a ≤ L.m k) (j : Nat) : (L.burn0 k a).m j = if j = k then L.m k - a else L.m j := by
  unfold Led.burn0 Led.burn
  by_cases h : a = 0
  · subst h
    by_cases e : j = k
    · subst e; simp
    · simp [e]
  · rw [if_neg h, if_neg (by omega), if_neg (by omega)]
    simp only [updM]
    by_cases e : j = k
    · subst e; simp
    · have : (j : Int) ≠ k := by omega
      simp [e, this]

set_option maxRecDepth 100000 in
set_option maxHeartbeats 4000000 in
theorem law16_do1 (p fp mb q : Nat) (U : Pur) (k : Nat) (a : Int) (w : World) (h : St16 w p fp mb q U) (hk : k < 256) (ha : (Lit.int .u64 a).wf = true) :
    Calls Try.prog 35 #[.pointer (some ⟨p, 0, none⟩), .pointer (some ⟨q, 0, none⟩), .agg (act16 1 k a)] w fun e w' => e = .returned (.bool true) ∧ St16 w' p fp mb q (U.dOut k a).2 ∧ Chg [p, fp, mb, q] w w' := by
  have hkw : (Lit.int .u8 (k : Int)).wf = true := wf_u8.2 (by omega)
  have ha' := (wf_u64.1 ha).1
  have hidx := fun W => idxFree q k hk W
  have hq := Blk.new w (act16 1 k a) 67
  have hc1 : Chg [] w (w.alloc (.cells (act16 1 k a) 67)) := (Chg.refl [] w).alloc _
  have h1 := h.chg hc1 (by simp) (by simp) (by simp) (by simp)
  have lp := h.pur.lt
  have lq := h.mod.lt
  have hIn := purse_Out p fp mb U k a _ h1.pur h1.ok hkw ha'
  have okIn := h.ok.dOut (k := k) (a := a) (by omega) (by omega) ha'
  have b0 := hq.cell 0 (v := .int .i64 1) rfl
  have b1 := hq.cell 1 (v := .int .u8 (k : Int)) rfl
  have b2 := hq.cell 2 (v := .int .u64 a) rfl
  unfold act16 at hq hc1 h1 b0 b1 b2 hIn ⊢
  unfold Pur.dOut at hIn okIn ⊢
  have i0 := h.ok.i0
  have i1 := h.ok.i1
  have bo := h.ok.both
  have hh := h.ok.h0
  have tt := h.ok.led.tot_nn
  have fin : ∀ w2, Chg [p, fp, mb] (w.alloc (.cells #[.int .i64 1, .int .u8 (k : Int), .int .u64 a] 67)) w2 → PurAt w2 p fp mb U → St16 w2 p fp mb q U ∧ Chg [p, fp, mb, q] w w2 := fun w2 kc hp =>
    ⟨⟨hp, h1.ok, h1.mod.chg kc (by simp [h.q1, h.q2, h.q3]), h.q1, h.q2, h.q3⟩, (hc1.mono (by simp)).trans kc (by simp)⟩
  have FIN := Lib.hid fin
  clear fin bo hh tt i0 i1
  by_cases e1 : a ≤ 4611686018427387904
  · rw [if_neg (show ¬ ¬ a ≤ 4611686018427387904 by omega)] at hIn okIn ⊢
    by_cases e2 : U.L.m k < a
    · rw [if_pos e2] at hIn okIn ⊢
      go_enter Try.func35, Try.ntmps35
      go_wp2_with (go_at_call 44; refine hIn.mono ?_; rintro e w2 ⟨rfl, hp2, hc2⟩; have hq2 := hq.chg hc2 (by simp; omega); have b1 := hq2.cell 1 (v := .int .u8 (k : Int)) rfl; have b2 := hq2.cell 2 (v := .int .u64 a) rfl; have hm2 := h1.mod.chg hc2 (by simp [h.q1, h.q2, h.q3]); have HM2 := Lib.hid hm2; obtain ⟨cs, hmb, mc, ma, mi, mo⟩ := hm2; have m258 := hmb.cell 258 mo; have mk := hmb.cell k (mc k hk))
      go_quiet (fail)
      go_wp2
      go_ret
      exact ⟨rfl, FIN.out _ (hc2.drewN _) (hp2.same ((Chg.refl [] w2).drewN _))⟩
    · rw [if_neg e2] at hIn okIn ⊢
      have x1 : a ≤ U.L.m k := by omega
      have mk0 := h.ok.led.nn k
      have mk1 := h.ok.led.m_le (k := (k : Int)) (by omega) (by omega)
      have mk2 : U.L.m k ≤ 4611686018427387904 := by have := h.ok.led.le; omega
      have o0 := h.ok.o0
      have o1 := h.ok.o1
      by_cases e3 : U.out + a ≤ 4611686018427387904
      · rw [if_neg (show ¬ ¬ U.out + a ≤ 4611686018427387904 by omega)] at hIn okIn ⊢
        have x2 : U.out ≤ 4611686018427387904 - a := by omega
        have hburn := burn0_m (L := U.L) (k := k) e1 x1
        generalize hU2 : ({ U with out := U.out + a, L := U.L.burn0 k a } : Pur) = U2 at hIn okIn ⊢
        have y1 : U2.held = U.held ∧ U2.inn = U.inn ∧ U2.out = U.out + a ∧ ∀ j : Nat, U2.L.m j = if j = k then U.L.m k - a else U.L.m j := by subst hU2; exact ⟨rfl, rfl, rfl, hburn⟩
        have Y1 := Lib.hid y1
        clear y1 hburn hU2
        go_enter Try.func35, Try.ntmps35
        go_wp2_with (go_at_call 44; refine hIn.mono ?_; rintro e w2 ⟨rfl, hp2, hc2⟩; have hq2 := hq.chg hc2 (by simp; omega); have b1 := hq2.cell 1 (v := .int .u8 (k : Int)) rfl; have b2 := hq2.cell 2 (v := .int .u64 a) rfl; have hm2 := h1.mod.chg hc2 (by simp [h.q1, h.q2, h.q3]); have HM2 := Lib.hid hm2; obtain ⟨cs, hmb, mc, ma, mi, mo⟩ := hm2; have m258 := hmb.cell 258 mo; have mk := hmb.cell k (mc k hk))
        go_quiet (fail)
        have kd0 := (Chg.refl [] w2).drewN nq
        have hp2b := hp2.same kd0
        have hq2b := hq2.drewN nq
        have hmbb := hmb.drewN nq
        have hm2b := HM2.out.chg kd0 (by simp)
        have hc2b := hc2.drewN nq
        generalize w2.drewN nq = w2b at hp2b hq2b hmbb hm2b hc2b ⊢
        clear hp2 hq2 hmb HM2 hc2 kd0 b1 b2 m258 mk nq w2
        rename World => w2
        have hp2 := hp2b
        have hq2 := hq2b
        have hmb := hmbb
        have HM2 := Lib.hid hm2b
        have hc2 := hc2b
        clear hp2b hq2b hmbb hm2b hc2b
        have b2 := hq2.cell 2 (v := .int .u64 a) rfl
        have b1 := hq2.cell 1 (v := .int .u8 (k : Int)) rfl
        have m258 := hmb.cell 258 mo
        have mk := hmb.cell k (mc k hk)
        go_wp2
        go_quiet (fail)
        have kd := (Chg.refl [] w2).drewN nq
        have hp3 := hp2.same kd
        have hq3 := hq2.drewN nq
        have hmb3 := hmb.drewN nq
        have hm3 := HM2.out.chg kd (by simp)
        have hc3 := hc2.drewN nq
        generalize w2.drewN nq = w3 at hp3 hq3 hmb3 hm3 hc3 ⊢
        clear hp2 hq2 hmb HM2 hc2 kd b1 b2 m258 mk
        have HM3 := Lib.hid hm3
        clear hm3
        have b1 := hq3.cell 1 (v := .int .u8 (k : Int)) rfl
        have b2 := hq3.cell 2 (v := .int .u64 a) rfl
        have m258 := hmb3.cell 258 mo
        have mk := hmb3.cell k (mc k hk)
        have f258 := hmb3.free 258
        have fk := hmb3.free k
        go_wp2
        go_still_tail 9, (by kernel_rfl)
        go_wp2
        have hmb4 := (hmb3.set 258 (.int .u64 (U.out + a))).drew
        have hq4 := (hq3.other (p := ⟨q, 258, none⟩) (by simp; omega) (.int .u64 (U.out + a))).drew
        obtain ⟨w4, hw4⟩ : ∃ w4, w4 = (w3.setCell ⟨q, 258, none⟩ (.int .u64 (U.out + a))).drew := ⟨_, rfl⟩
        rw [← hw4] at hmb4 hq4 ⊢
        have HW4 := Lib.hid hw4
        clear hw4 b1 b2 m258 mk f258 fk
        have b1 := hq4.cell 1 (v := .int .u8 (k : Int)) rfl
        have b2 := hq4.cell 2 (v := .int .u64 a) rfl
        have mk := hmb4.cell k (v := .int .u64 (U.L.m k)) (by rw [Array.getElem?_setIfInBounds, if_neg (by omega)]; exact mc k hk)
        have fk := hmb4.free k
        go_still_tail 13, (by kernel_rfl)
        go_wp2
        go_ret
        obtain ⟨y1, y2, y3, y4⟩ := Y1.out
        have kk : Chg [q] w3 ((w4.setCell ⟨q, k, none⟩ (.int .u64 (U.L.m k - a))).drew) := by
          rw [HW4.out]
          exact ((((Chg.refl [q] w3).setCell (by simp) _).drew).setCell (by simp) _).drew
        refine ⟨rfl, ⟨hp3.chg kk (by simp [h.q1.symm]) (by simp [h.q2.symm]) (by simp [h.q3.symm]), okIn, ?_, h.q1, h.q2, h.q3⟩, ((hc1.mono (by simp)).trans hc3 (by simp)).trans kk (by simp)⟩
        have hM := HM3.out.two (U' := U2) (i := 258) (j := k) (U.out + a) (U.L.m k - a) (by omega) (by omega) hk (fun j _ => y4 j) (by simp [y1]) (by simp [y2]) (by simp [y3])
        have hM2 := hM.chg ((Chg.refl [] _).drewN 2) (by simp)
        rw [HW4.out]
        exact hM2
      · rw [if_pos (show ¬ U.out + a ≤ 4611686018427387904 by omega)] at hIn okIn ⊢
        have x2 : 4611686018427387904 - a < U.out := by omega
        go_enter Try.func35, Try.ntmps35
        go_wp2_with (go_at_call 44; refine hIn.mono ?_; rintro e w2 ⟨rfl, hp2, hc2⟩; have hq2 := hq.chg hc2 (by simp; omega); have b1 := hq2.cell 1 (v := .int .u8 (k : Int)) rfl; have b2 := hq2.cell 2 (v := .int .u64 a) rfl; have hm2 := h1.mod.chg hc2 (by simp [h.q1, h.q2, h.q3]); have HM2 := Lib.hid hm2; obtain ⟨cs, hmb, mc, ma, mi, mo⟩ := hm2; have m258 := hmb.cell 258 mo; have mk := hmb.cell k (mc k hk))
        go_quiet (fail)
        have kd0 := (Chg.refl [] w2).drewN nq
        have hp2b := hp2.same kd0
        have hq2b := hq2.drewN nq
        have hmbb := hmb.drewN nq
        have hm2b := HM2.out.chg kd0 (by simp)
        have hc2b := hc2.drewN nq
        generalize w2.drewN nq = w2b at hp2b hq2b hmbb hm2b hc2b ⊢
        clear hp2 hq2 hmb HM2 hc2 kd0 b1 b2 m258 mk nq w2
        rename World => w2
        have hp2 := hp2b
        have hq2 := hq2b
        have hmb := hmbb
        have HM2 := Lib.hid hm2b
        have hc2 := hc2b
        clear hp2b hq2b hmbb hm2b hc2b
        have b2 := hq2.cell 2 (v := .int .u64 a) rfl
        have b1 := hq2.cell 1 (v := .int .u8 (k : Int)) rfl
        have m258 := hmb.cell 258 mo
        have mk := hmb.cell k (mc k hk)
        go_wp2
        go_quiet (fail)
        go_wp2
        go_ret
        exact ⟨rfl, FIN.out _ (hc2.drewN _) (hp2.same ((Chg.refl [] w2).drewN _))⟩
  · rw [if_pos (show ¬ a ≤ 4611686018427387904 by omega)] at hIn okIn ⊢
    have x1 : 4611686018427387904 < a := by omega
    go_enter Try.func35, Try.ntmps35
    go_wp2_with (go_at_call 44; refine hIn.mono ?_; rintro e w2 ⟨rfl, hp2, hc2⟩; have hq2 := hq.chg hc2 (by simp; omega); have b1 := hq2.cell 1 (v := .int .u8 (k : Int)) rfl; have b2 := hq2.cell 2 (v := .int .u64 a) rfl; have hm2 := h1.mod.chg hc2 (by simp [h.q1, h.q2, h.q3]); have HM2 := Lib.hid hm2; obtain ⟨cs, hmb, mc, ma, mi, mo⟩ := hm2; have m258 := hmb.cell 258 mo; have mk := hmb.cell k (mc k hk))
    go_ret
    exact ⟨rfl, FIN.out w2 hc2 hp2⟩
end Go.Proofs.Ytbagkfeodjkdmaa

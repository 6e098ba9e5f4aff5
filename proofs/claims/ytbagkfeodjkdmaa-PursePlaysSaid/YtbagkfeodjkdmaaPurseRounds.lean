/- PurseRounds: the walk. -/
import Derived.Test.YtbagkfeodjkdmaaPurseIs2
import Derived.Test.YtbagkfeodjkdmaaPurseCopy
namespace Go.Proofs.Ytbagkfeodjkdmaa
open Go.RowKit Go.Maps Go.Shelf

section
variable {w : World} {ops : Array Oper} {rest : List Oper} {o : Oper} {a : Act} {Q : Exit → Act → World → Prop}
/-- a struct or an array of zeros, built. -/
theorem wpList_build0 (hg : o.guard = none) (t : TypeId) (ho : o.op = .build t #[]) {cells : Array Value} (hc : Try.prog.built t [] = some cells)
    (h : wpList Try.prog ops Q rest (a.put o.dst (.agg cells)) w) : wpList Try.prog ops Q (o :: rest) a w := by
  refine wpList_plain hg fun K hK => ?_
  have hrun := run_build (P := Try.prog) w t #[] cells hc
  unfold Oper.wp
  simp [execOp, ho, hrun, Result.andThen]
  exact hK _ _ h
end

theorem built16 : ∃ z : Array Value, Try.prog.built 65 [] = some z ∧ z.size = 259 ∧ ∀ k, k < 259 → z[k]? = some (.int .u64 0) := by
  refine ⟨Array.replicate 259 (.int .u64 0), by kernel_rfl, by simp, fun k hk => by simp [hk]⟩
theorem Mod16.zero {z : Array Value} (hz : ∀ k, k < 259 → z[k]? = some (.int .u64 0)) (w : World) : Mod16 (w.alloc (.cells z 65)) w.heap.size ⟨Led.zero, 0, 0, 0⟩ :=
  ⟨z, Blk.new w z 65, fun k hk => hz k (by omega), hz _ (by omega), hz _ (by omega), hz _ (by omega)⟩

/-- a slice of n acts. -/
def Acts16 (w : World) (v : Value) (n : Nat) : Prop := ∃ V, RowsAt w v n 3 V ∧ ∀ i, i < n → ∃ kind A a : Int, V i 0 = .int .i64 kind ∧ V i 1 = .int .u8 A ∧ V i 2 = .int .u64 a ∧ (Lit.int .u8 A).wf = true ∧ (Lit.int .u64 a).wf = true
theorem Acts16.chg {w w' : World} {v : Value} {n : Nat} (h : Acts16 w v n) (c : Chg [] w w') : Acts16 w' v n := by obtain ⟨V, h, k⟩ := h; exact ⟨V, h.chg c, k⟩
theorem Acts16.len {w : World} {v : Value} {n : Nat} (h : Acts16 w v n) : ∃ a cap, v = .slice a n cap := by obtain ⟨V, ⟨a, cap, e, _⟩, _⟩ := h; exact ⟨a, cap, e⟩
theorem Acts16.at {w : World} {a : Option Addr} {n cap : Nat} (h : Acts16 w (.slice a n cap) n) {i : Nat} (hi : i < n) : ∃ b off, a = some ⟨b, off, none⟩ ∧ b < w.heap.size ∧ ∃ kind A x : Int, (Lit.int .u8 A).wf = true ∧ (Lit.int .u64 x).wf = true ∧
    w.cell? ⟨b, off + i * 3, none⟩ = some (.int .i64 kind) ∧ w.cell? ⟨b, off + i * 3 + 1, none⟩ = some (.int .u8 A) ∧ w.cell? ⟨b, off + i * 3 + 2, none⟩ = some (.int .u64 x) := by
  obtain ⟨V, ⟨a', cap', e, hc⟩, hk⟩ := h
  cases e
  obtain ⟨b, off, rfl, hb, hc⟩ := hc i hi
  obtain ⟨kind, A, x, e0, e1, e2, w1, w2⟩ := hk i hi
  refine ⟨b, off, rfl, hb, kind, A, x, w1, w2, ?_, ?_, ?_⟩
  · rw [← e0]; exact hc 0 (by omega)
  · rw [← e1]; exact hc 1 (by omega)
  · rw [← e2]; exact hc 2 (by omega)

theorem updM_back (m : Int → Int) (k a : Int) : updM (updM m k (m k - a)) k (updM m k (m k - a) k + a) = m := by
  funext y
  simp only [updM]
  by_cases e : y = k
  · subst e; simp
  · simp [e]
/-- held and freed for the same party: all is as it was. -/
theorem Pur.rounds {U : Pur} (ok : PurOk U) {k a : Int} (ha : 0 ≤ a) (h : (U.dHold k a).1 = 0) : (U.dHold k a).2.dFree k a = (0, U) := by
  have := ok.h0
  have h5 := ok.both
  have h6 := ok.i1
  have h7 := ok.o0
  unfold Pur.dHold at h ⊢
  by_cases h1 : a ≤ 4611686018427387904
  · rw [if_neg (by omega)] at h ⊢
    by_cases h2 : a = 0
    · rw [if_pos h2]
      subst h2
      unfold Pur.dFree Led.mint0
      dsimp only
      rw [if_neg (by omega), if_neg (by omega), if_pos rfl]
      simp
    · rw [if_neg h2] at h ⊢
      unfold Pur.dHold1 at h ⊢
      by_cases h3 : U.L.m k < a
      · rw [if_pos h3] at h; simp at h
      · rw [if_neg h3]
        have hb : (U.L.burn k a).2 = ⟨updM U.L.m k (U.L.m k - a), U.L.tot - a⟩ := by
          unfold Led.burn
          rw [if_neg (by omega), if_neg h3]
        have hm : (Led.mint ⟨updM U.L.m k (U.L.m k - a), U.L.tot - a⟩ k a).2 = U.L := by
          unfold Led.mint
          rw [if_neg (by omega), if_pos (show U.L.tot - a + a ≤ 4611686018427387904 by omega)]
          simp only [updM_back]
          rw [show U.L.tot - a + a = U.L.tot by omega]
        unfold Pur.dFree Led.mint0
        rw [if_neg (by omega)]
        simp only [hb]
        rw [if_neg (show ¬ U.held + a < a by omega), if_neg h2, hm]
        rw [show U.held + a - a = U.held by omega]
  · rw [if_pos h1] at h; simp at h
theorem Pur.hold_no {U : Pur} {k a : Int} (h : (U.dHold k a).1 ≠ 0) : (U.dHold k a).2 = U := by
  unfold Pur.dHold at h ⊢
  split
  · rfl
  · split
    · rfl
    · unfold Pur.dHold1 at h ⊢
      split
      · rfl
      · rename_i h1 h2 h3
        rw [if_neg h1, if_neg h2, if_neg h3] at h
        simp at h

theorem PurOk.act {U : Pur} (h : PurOk U) {kind k a : Int} (hk : (Lit.int .u8 k).wf = true) (ha : (Lit.int .u64 a).wf = true) : PurOk (U.act kind k a) := by
  have h1 := wf_u8.1 hk
  have h2 := wf_u64.1 ha
  unfold Pur.act
  split
  · exact h.dIn h1.1 h1.2 h2.1
  · split
    · exact h.dOut h1.1 h1.2 h2.1
    · split
      · exact h.dHold h1.1 h1.2 h2.1
      · exact h.dFree h1.1 h1.2 h2.1

set_option maxRecDepth 100000 in
set_option maxHeartbeats 8000000 in
theorem law16_PurseRounds (vl : Value) (A a : Int) (w : World) (hl : ∃ n, n ≤ maxLen ∧ Acts16 w vl n) (hA : (Lit.int .u8 A).wf = true) (ha : (Lit.int .u64 a).wf = true) :
    Calls Try.prog 6 #[vl, .int .u8 A, .int .u64 a] w fun e w' => e = .returned (.bool true) ∧ Chg [] w w' := by
  obtain ⟨n, hn, hl⟩ := hl
  obtain ⟨la, lcap, rfl⟩ := hl.len
  by_cases h1 : n ≤ 40
  · obtain ⟨z, hz1, hz2, hz3⟩ := built16
    have HZ := Lib.hid hz3
    clear hz3 hz2
    go_enter Try.func6, Try.ntmps6
    go_wp2_with fail
    refine (law16_lives _).mono ?_
    rintro e w1 ⟨rfl, hc1⟩
    go_wp2_with fail
    refine (purse_New _).mono ?_
    rintro e w2 ⟨p, fp, mb, rfl, hpur, hc2, hfr⟩
    have hf1 := hfr p (by simp)
    have hf2 := hfr fp (by simp)
    have hf3 := hfr mb (by simp)
    have hz := Nat.le_trans hc1.size hc2.size
    have hz1' := hc1.size
    have l1 := hpur.lt
    have hst : St16 (w2.alloc (.cells z 65)) p fp mb w2.heap.size ⟨Led.zero, 0, 0, 0⟩ :=
      ⟨hpur.chg ((Chg.refl [] w2).alloc _) (by simp) (by simp) (by simp), PurOk.zero, Mod16.zero HZ.out w2, by omega, by omega, by omega⟩
    have hcx : Chg [] w (w2.alloc (.cells z 65)) := (hc1.trans hc2 (by simp)).alloc _
    have g1 : w.heap.size ≤ p := by omega
    have g2 : w.heap.size ≤ fp := by omega
    have g3 : w.heap.size ≤ mb := by omega
    clear hpur hc1 hc2 hfr hf1 hf2 hf3 l1 hz1'
    go_wp2_with (refine wpList_build0 rfl 65 rfl hz1 ?_)
    generalize w2.alloc (.cells z 65) = w4 at hst hcx ⊢
    generalize w2.heap.size = q at hst hz ⊢
    have hall : ∀ {W}, Chg [p, fp, mb, q] w4 W → Chg [] w W := fun k => hcx.trans k (by simp [g1, g2, g3, hz])
    clear w1 w2 hz1 HZ
    go_loopw [24] (fun i wr => ∃ (k : Nat) (U : Pur), k ≤ n ∧ i = .int .i64 k ∧ St16 wr p fp mb q U ∧ Chg [p, fp, mb, q] w4 wr) (fun i _ => n - (intOf i).toNat)
    case atStart => exact ⟨0, _, Nat.zero_le _, rfl, hst, Chg.refl _ _⟩
    case round =>
      obtain ⟨k, U, hk, rfl, hsr, hcr⟩ := hrel
      by_cases hlt : k < n
      · obtain ⟨b, off, rfl, hbl, kind, B, x, v1, v2, q0, q1, q2⟩ := (hl.chg (hall hcr)).at hlt
        have hq : Chg [] wr (wr.alloc (.cells #[.int .i64 kind, .int .u8 B, .int .u64 x] 67)) := (Chg.refl [] wr).alloc _
        have hdo := law16_do p fp mb q U kind B x _ (hsr.chg hq (by simp) (by simp) (by simp) (by simp)) v1 v2
        go_wp2_with (go_at_call 35; refine hdo.mono ?_; rintro e w5 ⟨rfl, hs5, hc5⟩)
        go_roundw
        case rel => exact ⟨k + 1, _, by omega, by simp, hs5, (hcr.trans hq (by simp)).trans hc5 (fun t ht => .inl ht)⟩
        case measure => simp [intOf]; omega
      · obtain rfl : k = n := by omega
        have hAb := wf_u8.1 hA
        have hab := wf_u64.1 ha
        have hhold := purse_Hold p fp mb U A a wr hsr.pur hsr.ok hA hab.1
        have okh := hsr.ok.dHold hAb.1 hAb.2 hab.1 (k := A) (a := a)
        have hback := fun h => Pur.rounds (k := A) hsr.ok hab.1 h
        have hno := fun h => Pur.hold_no (U := U) (k := A) (a := a) h
        obtain ⟨rc, hrc⟩ : ∃ rc, rc = (U.dHold A a).1 := ⟨_, rfl⟩
        obtain ⟨U2, hU2⟩ : ∃ U2, U2 = (U.dHold A a).2 := ⟨_, rfl⟩
        rw [← hrc, ← hU2] at hhold
        rw [← hU2] at okh
        rw [← hrc, ← hU2] at hback hno
        clear hrc hU2
        have HB := Lib.hid hback
        have HN := Lib.hid hno
        clear hback hno hst
        by_cases h0 : rc = 0
        · have hb := HB.out h0
          subst h0
          go_wp2_with fail
          refine hhold.mono ?_
          rintro e w5 ⟨rfl, hp5, hc5⟩
          have hfree := purse_Free p fp mb U2 A a w5 hp5 okh hA hab.1
          rw [hb] at hfree
          clear hb HB HN
          go_wp2_with fail
          refine hfree.mono ?_
          rintro e w6 ⟨rfl, hp6, hc6⟩
          have hc7 : Chg [p, fp, mb] wr w6 := hc5.trans hc6 (fun t ht => .inl ht)
          have hs6 : St16 w6 p fp mb q U := ⟨hp6, hsr.ok, hsr.mod.chg hc7 (by simp [hsr.q1, hsr.q2, hsr.q3]), hsr.q1, hsr.q2, hsr.q3⟩
          have hc8 := hall (hcr.trans hc7 (by simp))
          go_wp2_with (go_at_call 38; refine (law16_is p fp mb q U w6 hs6).mono ?_; rintro e w7 ⟨rfl, hc9⟩)
          go_ret
          exact ⟨rfl, hc8.trans hc9 (by simp)⟩
        · have hb := HN.out h0
          have h0' : (rc == 0) = false := by simpa using h0
          clear HB HN
          go_wp2_with fail
          refine hhold.mono ?_
          rintro e w5 ⟨rfl, hp5, hc5⟩
          rw [hb] at hp5
          clear hb
          have hs6 : St16 w5 p fp mb q U := ⟨hp5, hsr.ok, hsr.mod.chg hc5 (by simp [hsr.q1, hsr.q2, hsr.q3]), hsr.q1, hsr.q2, hsr.q3⟩
          have hc8 := hall (hcr.trans hc5 (by simp))
          go_wp2_with (go_at_call 38; refine (law16_is p fp mb q U w5 hs6).mono ?_; rintro e w7 ⟨rfl, hc9⟩)
          go_ret
          exact ⟨rfl, hc8.trans hc9 (by simp)⟩
  · have h2 : 40 < n := by omega
    go_enter Try.func6, Try.ntmps6
    go_wp2_with fail
    refine (law16_lives _).mono ?_
    rintro e w1 ⟨rfl, hc1⟩
    go_wp2_with fail
    refine (law16_lives _).mono ?_
    rintro e w2 ⟨rfl, hc2⟩
    go_wp2
    go_ret
    exact ⟨rfl, hc1.trans hc2 (by simp)⟩

section
open Go.ChangeShapes Go.WideShapes Go.Deep
variable {H : Type} {W : World} {base : Nat} {sp : Nat → Bool} {held : Bool}
set_option maxRecDepth 100000 in
theorem open_acts16 (enc : TypeId × Value → H) (W : World) (v : Value) (d : DataW H) (ps : List MemPlace) {r : Reach} {b0 : Nat} (h : DataW.Trod enc Try.prog W base sp held 59 v d ps) (hval : Value.okWide Try.prog W r b0 59 v) :
    ∃ n, n ≤ maxLen ∧ Acts16 W v n := by
  obtain ⟨n, N, V, hN, hR, hV⟩ := open_rows Try.underlying59 Try.underlying67 (hone_of (by kernel_rfl)) (by kernel_rfl) (by decide) h hval
  refine ⟨N, hN, V, hR, fun i hi => ?_⟩
  obtain ⟨Y0, h0⟩ := hV i hi 0 _ rfl
  obtain ⟨Y1, h1⟩ := hV i hi 1 _ rfl
  obtain ⟨Y2, h2⟩ := hV i hi 2 _ rfl
  obtain ⟨a0, e0, _, w0⟩ := DataW.trod_int Try.underlying3 h0
  obtain ⟨a1, e1, _, w1⟩ := DataW.trod_int Try.underlying42 h1
  obtain ⟨a2, e2, _, w2⟩ := DataW.trod_int Try.underlying41 h2
  simp only [List.cons.injEq, and_true] at e0 e1 e2
  exact ⟨a0, a1, a2, e0, e1, e2, w1, w2⟩
end
end Go.Proofs.Ytbagkfeodjkdmaa

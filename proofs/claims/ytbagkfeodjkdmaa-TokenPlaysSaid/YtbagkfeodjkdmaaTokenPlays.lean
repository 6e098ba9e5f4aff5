/- TokenPlays: the walk. -/
import Derived.Test.YtbagkfeodjkdmaaTokenCopy
namespace Go.Proofs.Ytbagkfeodjkdmaa
open Go.RowKit Go.Maps Go.Shelf

/-- a slice of n acts. -/
def Acts15 (w : World) (v : Value) (n : Nat) : Prop := ∃ V, RowsAt w v n 4 V ∧ ∀ i, i < n → ∃ kind A B a : Int, V i 0 = .int .i64 kind ∧ V i 1 = .int .u8 A ∧ V i 2 = .int .u8 B ∧ V i 3 = .int .u64 a ∧ (Lit.int .u8 A).wf = true ∧ (Lit.int .u8 B).wf = true ∧ (Lit.int .u64 a).wf = true
theorem Acts15.chg {w w' : World} {v : Value} {n : Nat} (h : Acts15 w v n) (c : Chg [] w w') : Acts15 w' v n := by obtain ⟨V, h, k⟩ := h; exact ⟨V, h.chg c, k⟩
theorem Acts15.len {w : World} {v : Value} {n : Nat} (h : Acts15 w v n) : ∃ a cap, v = .slice a n cap := by obtain ⟨V, ⟨a, cap, e, _⟩, _⟩ := h; exact ⟨a, cap, e⟩
theorem Acts15.at {w : World} {a : Option Addr} {n cap : Nat} (h : Acts15 w (.slice a n cap) n) {i : Nat} (hi : i < n) : ∃ b off, a = some ⟨b, off, none⟩ ∧ b < w.heap.size ∧ ∃ kind A B x : Int, (Lit.int .u8 A).wf = true ∧ (Lit.int .u8 B).wf = true ∧ (Lit.int .u64 x).wf = true ∧
    w.cell? ⟨b, off + i * 4, none⟩ = some (.int .i64 kind) ∧ w.cell? ⟨b, off + i * 4 + 1, none⟩ = some (.int .u8 A) ∧ w.cell? ⟨b, off + i * 4 + 2, none⟩ = some (.int .u8 B) ∧ w.cell? ⟨b, off + i * 4 + 3, none⟩ = some (.int .u64 x) := by
  obtain ⟨V, ⟨a', cap', e, hc⟩, hk⟩ := h
  cases e
  obtain ⟨b, off, rfl, hb, hc⟩ := hc i hi
  obtain ⟨kind, A, B, x, e0, e1, e2, e3, w1, w2, w3⟩ := hk i hi
  refine ⟨b, off, rfl, hb, kind, A, B, x, w1, w2, w3, ?_, ?_, ?_, ?_⟩
  · rw [← e0]; exact hc 0 (by omega)
  · rw [← e1]; exact hc 1 (by omega)
  · rw [← e2]; exact hc 2 (by omega)
  · rw [← e3]; exact hc 3 (by omega)

theorem St15.lt {w : World} {p mb c tb : Nat} {L : Led} (h : St15 w p mb c tb L) : p < w.heap.size ∧ mb < w.heap.size ∧ c < w.heap.size ∧ tb < w.heap.size :=
  ⟨h.led.lt.1, h.led.lt.2, by obtain ⟨cnt, f, hm, _⟩ := h.mod; exact hm.lt, h.tot.lt⟩

set_option maxRecDepth 100000 in
set_option maxHeartbeats 8000000 in
theorem law15_TokenPlays (vl vm : Value) (w : World) (hl : ∃ n, n ≤ maxLen ∧ Acts15 w vl n) (hm : ∃ n, n ≤ maxLen ∧ Acts15 w vm n) :
    Calls Try.prog 4 #[vl, vm] w fun e w' => e = .returned (.bool true) ∧ Chg [] w w' := by
  obtain ⟨n, hn, hl⟩ := hl
  obtain ⟨m, hmm, hm⟩ := hm
  obtain ⟨la, lcap, rfl⟩ := hl.len
  obtain ⟨ma, mcap, rfl⟩ := hm.len
  by_cases h1 : n ≤ 60 ∧ m ≤ 60
  · obtain ⟨h1, h2⟩ := h1
    go_enter Try.func4, Try.ntmps4
    go_wp2_with fail
    refine (law15_lives _).mono ?_
    rintro e w1 ⟨rfl, hc1⟩
    go_wp2_with fail
    refine (token_New _).mono ?_
    rintro e w2 ⟨p, mb, rfl, hled, hc2, hfr⟩
    have hmk := @run_makeMap Try.prog
    go_wp2
    have hf1 := hfr p (by simp)
    have hf2 := hfr mb (by simp)
    have hz : w.heap.size ≤ w2.heap.size := Nat.le_trans hc1.size hc2.size
    have hz1 := hc1.size
    have l1 := hled.lt
    have hst : St15 ((w2.alloc (.map #[] 0)).alloc (.cells #[.int .u64 0] 41)) p mb w2.heap.size (w2.heap.size + 1) Led.zero :=
      ⟨hled.chg (((Chg.refl [] w2).alloc _).alloc _) (by simp) (by simp), LedOk.zero, ⟨0, _, (MapV.made w2 42 .u8).alloc _, fun k _ => rfl⟩, by simpa [Led.zero] using Blk.new (w2.alloc (.map #[] 0)) #[.int .u64 0] 41, by omega, by omega, by omega, by omega, by omega⟩
    have hcx : Chg [] w ((w2.alloc (.map #[] 0)).alloc (.cells #[.int .u64 0] 41)) := ((hc1.trans hc2 (by simp)).alloc _).alloc _
    have g1 : w.heap.size ≤ p := by omega
    have g2 : w.heap.size ≤ mb := by omega
    have g4 : w.heap.size ≤ w2.heap.size + 1 := by omega
    clear hled hc1 hc2 hfr hf1 hf2 hz1 l1
    generalize (w2.alloc (.map #[] 0)).alloc (.cells #[.int .u64 0] 41) = w4 at hst hcx ⊢
    generalize w2.heap.size + 1 = tb at hst g4 ⊢
    generalize w2.heap.size = c at hst hz ⊢
    clear w1 w2
    have hall : ∀ {W}, Chg [p, mb, c, tb] w4 W → Chg [] w W := fun k => hcx.trans k (by simp [g1, g2, g4, hz])
    go_loopw [34] (fun i wr => ∃ (k : Nat) (L : Led), k ≤ n ∧ i = .int .i64 k ∧ St15 wr p mb c tb L ∧ Chg [p, mb, c, tb] w4 wr) (fun i _ => n - (intOf i).toNat)
    case atStart => exact ⟨0, _, Nat.zero_le _, rfl, hst, Chg.refl _ _⟩
    case round =>
      obtain ⟨k, L, hk, rfl, hsr, hcr⟩ := hrel
      by_cases hlt : k < n
      · obtain ⟨b, off, rfl, hbl, kind, A, B, x, v1, v2, v3, q0, q1, q2, q3⟩ := (hl.chg (hall hcr)).at hlt
        have hq : Chg [] wr (wr.alloc (.cells #[.int .i64 kind, .int .u8 A, .int .u8 B, .int .u64 x] 44)) := (Chg.refl [] wr).alloc _
        have hdo := law15_do p mb c tb L kind A B x _ (hsr.chg hq (by simp) (by simp) (by simp) (by simp)) v1 v2 v3
        go_wp2_with (go_at_call 23; refine hdo.mono ?_; rintro e w5 ⟨rfl, hs5, hc5⟩)
        go_roundw
        case rel => exact ⟨k + 1, _, by omega, by simp, hs5, (hcr.trans hq (by simp)).trans hc5 (fun t ht => .inl ht)⟩
        case measure => simp [intOf]; omega
      · obtain rfl : k = n := by omega
        clear hst
        go_wp2_with fail
        refine (token_Copy p mb L wr hsr.led).mono ?_
        rintro e w5 ⟨p2, mb2, rfl, hled2, hc5, hfr2⟩
        have hf1 := hfr2 p2 (by simp)
        have hf2 := hfr2 mb2 (by simp)
        have hs5 := hsr.chg hc5 (by simp) (by simp) (by simp) (by simp)
        have k5 : Chg [] wr (w5.alloc (.map #[] 0)) := hc5.alloc _
        have hs6 := hsr.chg k5 (by simp) (by simp) (by simp) (by simp)
        have hled6 := hled2.chg ((Chg.refl [] w5).alloc (.map #[] 0)) (by simp) (by simp)
        have hm6 := MapV.made w5 42 .u8
        have l5 := hs5.lt
        have l6 := hled2.lt
        have z5 := hc5.size
        have z4 := (hall hcr).size
        have hsz6 : (w5.alloc (.map #[] 0)).heap.size = w5.heap.size + 1 := by simp
        obtain ⟨cnt, f, hf, hx⟩ := hs6.mod
        go_wp2_with (first
          | (at_range; refine wpList_range_v _ rfl _ 40 rfl 42 41 .u8 Try.underlying42 Try.underlying40 c cnt f rfl hf ?_; intro w7 hrg0 hg0 hs0)
          | go_in)
        obtain ⟨r, hr⟩ : ∃ r, r = w5.heap.size + 1 := ⟨_, rfl⟩
        rw [hsz6, ← hr] at hrg0
        rw [hsz6] at hs0
        have k7 := (Chg.refl [] _).grown hg0 (fun k e => by cases e)
        have hs7 := hs6.chg k7 (by simp) (by simp) (by simp) (by simp)
        have hled7 := hled6.chg k7 (by simp) (by simp)
        have hm7 := hm6.chg k7 (by simp)
        have hk7 := k5.trans k7 (by simp)
        simp only [hsz6, ← hr]
        clear hs6 hled6 hm6 k5 hg0 hf k7 hmk
        obtain ⟨c2, hc2⟩ : ∃ c2, c2 = w5.heap.size := ⟨_, rfl⟩
        simp only [← hc2] at hm7 hr hs0 l5 hf1 hf2 l6 z5 ⊢
        have q1 : c2 ≠ r := by omega
        have q2 : c ≠ r := by have := l5.2.2.1; omega
        have q3 : c2 ≠ c := by have := l5.2.2.1; omega
        have i1 : p2 < c2 := l6.1
        have i2 : mb2 < c2 := l6.2
        have i3 : p < c2 := l5.1
        have i4 : mb < c2 := l5.2.1
        have i5 : c < c2 := l5.2.2.1
        have i6 : tb < c2 := l5.2.2.2
        have i7 : w7.heap.size = c2 + 2 := by omega
        have i8 : w.heap.size ≤ p2 := by omega
        have i9 : w.heap.size ≤ mb2 := by omega
        have i10 : w.heap.size ≤ c2 := by omega
        have i11 : wr.heap.size ≤ p2 ∧ wr.heap.size ≤ mb2 ∧ wr.heap.size ≤ c2 := by omega
        have i12 : w.heap.size ≤ r := by omega
        have i13 : r < w7.heap.size := by omega
        have i14 : c2 < r := by omega
        have lr := hsr.lt
        have i15 : p ≠ p2 ∧ p ≠ mb2 ∧ mb ≠ p2 ∧ mb ≠ mb2 ∧ c ≠ p2 ∧ c ≠ mb2 ∧ tb ≠ p2 ∧ tb ≠ mb2 := by omega
        clear lr
        clear l5 l6 hr hc2 hsz6 hs0 hf1 hf2 hfr2 z4 z5
        go_frame
        go_loopw [12] (fun _ wr2 => ∃ (ss : List Int) (cn cnt2 : Nat), RngV wr2 42 .u8 c r f ss cn ∧ MapV wr2 42 .u8 c2 cnt2 (fun k => if k ∈ ss then f k else none) ∧ Chg [c2, r] w7 wr2) (fun _ wr2 => wr2.rangeLeft c r)
        case atStart => exact ⟨[], cnt, 0, hrg0, by simpa using hm7, Chg.refl _ _⟩
        case round =>
          obtain ⟨ss, cn, cnt2, hrg, hmp, hcc⟩ := hrel
          go_wp2_with (first
            | (at_next; refine wpList_next_v _ rfl _ rfl 42 .u8 Try.underlying42 c r f ss cn rfl hrg ?_ ?_)
            | go_in)
          · intro hc0 hl0
            have hcw : Chg [] w wr := ((hall hcr).trans hk7 (by simp)).trans hcc (by simp [i10, i12])
            have hs8 := hs7.chg hcc (by simp; omega) (by simp; omega) (by simp; omega) (by simp; omega)
            have hled8 := hled7.chg hcc (by simp; omega) (by simp; omega)
            have hmod8 : ModAt wr c2 L.m := ⟨cnt2, _, hmp, fun y hy => by
              have h1 := hx y hy
              by_cases e : y ∈ ss
              · rw [if_pos e]; exact h1
              · rw [if_neg e]
                have h2 : ¬ (f y).isSome = true := fun h => e ((hl0 y).2 ⟨hy, h⟩)
                have h3 : f y = none := by simpa using h2
                rw [h3] at h1
                exact h1⟩
            have x0 := hs8.tot.cell 0 (v := .int .u64 L.tot) rfl
            have lt8 := hled8.lt
            have lt9 := hmp.lt
            have lt10 := hs8.lt
            have kA : Chg [] wr (wr.alloc (.cells #[.int .u64 L.tot] 41)) := (Chg.refl [] wr).alloc _
            have hs10 := hs8.chg kA (by simp) (by simp) (by simp) (by simp)
            have hst2 : St15 (wr.alloc (.cells #[.int .u64 L.tot] 41)) p2 mb2 c2 wr.heap.size L :=
              ⟨hled8.chg kA (by simp) (by simp), hs8.ok, hmod8.chg kA (by simp), Blk.new wr #[.int .u64 L.tot] 41, by omega, by omega, by omega, by omega, by omega⟩
            have hcw2 : Chg [] w (wr.alloc (.cells #[.int .u64 L.tot] 41)) := hcw.alloc _
            have z2 := hcw.size
            go_wp2
            have e1 : p ≠ wr.heap.size ∧ mb ≠ wr.heap.size ∧ c ≠ wr.heap.size ∧ tb ≠ wr.heap.size := by omega
            generalize wr.alloc (.cells #[.int .u64 L.tot] 41) = w10 at hs10 hst2 hcw2 ⊢
            generalize wr.heap.size = tb2 at e1 hst2 z2 ⊢
            have hall2 : ∀ {W}, Chg [p2, mb2, c2, tb2] w10 W → Chg [] w W := fun k => hcw2.trans k (by simp [i8, i9, i10, z2])
            clear hcw hs8 hled8 hmod8 x0 lt8 lt9 lt10 kA hrg hmp hcc hs7 hled7 hm7 hrg0
            go_loopw [60] (fun i wr => ∃ (k : Nat) (M : Led), k ≤ m ∧ i = .int .i64 k ∧ St15 wr p2 mb2 c2 tb2 M ∧ Chg [p2, mb2, c2, tb2] w10 wr) (fun i _ => m - (intOf i).toNat)
            case atStart => exact ⟨0, _, Nat.zero_le _, rfl, hst2, Chg.refl _ _⟩
            case round =>
              obtain ⟨k, M, hk, rfl, hsr, hcr⟩ := hrel
              by_cases hlt : k < m
              · obtain ⟨b, off, rfl, hbl, kind, A, B, x, v1, v2, v3, q0, q1, q2, q3⟩ := (hm.chg (hall2 hcr)).at hlt
                have hq : Chg [] wr (wr.alloc (.cells #[.int .i64 kind, .int .u8 A, .int .u8 B, .int .u64 x] 44)) := (Chg.refl [] wr).alloc _
                have hdo := law15_do p2 mb2 c2 tb2 M kind A B x _ (hsr.chg hq (by simp) (by simp) (by simp) (by simp)) v1 v2 v3
                go_wp2_with (go_at_call 23; refine hdo.mono ?_; rintro e w5 ⟨rfl, hs5, hc5⟩)
                go_roundw
                case rel => exact ⟨k + 1, _, by omega, by simp, hs5, (hcr.trans hq (by simp)).trans hc5 (fun t ht => .inl ht)⟩
                case measure => simp [intOf]; omega
              · obtain rfl : k = m := by omega
                have hsA := hs10.chg hcr (by simp [i15, e1]; omega) (by simp [i15, e1]; omega) (by simp [i15, e1]; omega) (by simp [i15, e1]; omega)
                have y0 := hsA.tot.cell 0 (v := .int .u64 L.tot) rfl
                have y1 := hsr.tot.cell 0 (v := .int .u64 M.tot) rfl
                have is1 := law15_is p mb c L wr hsA.led hsA.ok hsA.mod
                go_wp2_with (first
                  | (go_at_call_of 25 (Value.map (some c)); refine is1.mono ?_; rintro e w11 ⟨rfl, hc11⟩; have y1 := (hsr.tot.chg hc11 (by simp)).cell 0 (v := .int .u64 M.tot) rfl; have is2 := law15_is p2 mb2 c2 M w11 (hsr.led.chg hc11 (by simp) (by simp)) hsr.ok (hsr.mod.chg hc11 (by simp)))
                  | (go_at_call_of 25 (Value.map (some c2)); refine is2.mono ?_; rintro e w12 ⟨rfl, hc12⟩))
                go_ret
                exact ⟨rfl, ((hall2 hcr).trans hc11 (by simp)).trans hc12 (by simp)⟩
          · intro x v w8 cn2 hwx hfx hxs hrg2 hlt2 hg2 hs2 hen
            obtain rfl : v = .int .u64 (L.m x) := by have := hx x hwx; rw [hfx] at this; simpa using this
            have k8 := (Chg.refl [r] wr).grown hg2 (fun k e => by cases e; simp)
            have hmp8 := hmp.chg k8 (by simp [q1])
            have hcn := hmp8.le_u8 Try.underlying42
            go_wp2_with (first
              | (at_mapUpdate; refine wpList_upd_v _ rfl _ _ _ 40 rfl 42 41 .u8 Try.underlying42 Try.underlying40 c2 cnt2 _ hmp8 (by unfold maxLen; omega) rfl x (.int .u64 (L.m x)) rfl rfl hwx ?_; intro w9 hm9 hw9)
              | go_in)
            have k9 := (Chg.refl [c2] w8).turned hw9 (by simp)
            have hrg3 := hrg2.chg k9 (by simp [q3.symm]) (by simp [q1.symm])
            go_frame
            go_roundw
            case rel =>
              refine ⟨ss ++ [x], cn2, _, hrg3, hm9.congr (fun y _ => ?_), (hcc.trans k8 (by simp)).trans k9 (by simp)⟩
              by_cases e : y = x
              · subst e; simp [hfx]
              · simp [e]
            case measure => rw [hrg3.left_eq, hrg.left_eq]; exact hlt2
  · by_cases h2 : n ≤ 60
    · have h3 : 60 < m := by omega
      go_enter Try.func4, Try.ntmps4
      go_wp2_with fail
      refine (law15_lives _).mono ?_
      rintro e w1 ⟨rfl, hc1⟩
      go_wp2_with fail
      refine (law15_lives _).mono ?_
      rintro e w2 ⟨rfl, hc2⟩
      go_wp2
      go_ret
      exact ⟨rfl, hc1.trans hc2 (by simp)⟩
    · have h3 : 60 < n := by omega
      go_enter Try.func4, Try.ntmps4
      go_wp2_with fail
      refine (law15_lives _).mono ?_
      rintro e w1 ⟨rfl, hc1⟩
      go_wp2_with fail
      refine (law15_lives _).mono ?_
      rintro e w2 ⟨rfl, hc2⟩
      go_wp2
      go_ret
      exact ⟨rfl, hc1.trans hc2 (by simp)⟩

section
open Go.ChangeShapes Go.WideShapes Go.Deep
variable {H : Type} {W : World} {base : Nat} {sp : Nat → Bool} {held : Bool}
set_option maxRecDepth 100000 in
theorem open_acts15 (enc : TypeId × Value → H) (W : World) (v : Value) (d : DataW H) (ps : List MemPlace) {r : Reach} {b0 : Nat} (h : DataW.Trod enc Try.prog W base sp held 37 v d ps) (hval : Value.okWide Try.prog W r b0 37 v) :
    ∃ n, n ≤ maxLen ∧ Acts15 W v n := by
  obtain ⟨n, N, V, hN, hR, hV⟩ := open_rows Try.underlying37 Try.underlying44 (hone_of (by kernel_rfl)) (by kernel_rfl) (by decide) h hval
  refine ⟨N, hN, V, hR, fun i hi => ?_⟩
  obtain ⟨Y0, h0⟩ := hV i hi 0 _ rfl
  obtain ⟨Y1, h1⟩ := hV i hi 1 _ rfl
  obtain ⟨Y2, h2⟩ := hV i hi 2 _ rfl
  obtain ⟨Y3, h3⟩ := hV i hi 3 _ rfl
  obtain ⟨a0, e0, _, w0⟩ := DataW.trod_int Try.underlying3 h0
  obtain ⟨a1, e1, _, w1⟩ := DataW.trod_int Try.underlying42 h1
  obtain ⟨a2, e2, _, w2⟩ := DataW.trod_int Try.underlying42 h2
  obtain ⟨a3, e3, _, w3⟩ := DataW.trod_int Try.underlying41 h3
  simp only [List.cons.injEq, and_true] at e0 e1 e2 e3
  exact ⟨a0, a1, a2, a3, e0, e1, e2, e3, w1, w2, w3⟩
end
end Go.Proofs.Ytbagkfeodjkdmaa

/- Package purse: In, Out, Hold, Free by contracts. -/
import Derived.Test.YtackdgbcmeafhaaGreatToken2
namespace Go.Proofs.YtackdgbcmeafhaaGreat
open Go.RowKit Go.Maps

/-- what a purse holds -/
structure Pur where
  L : Led
  held : Int
  inn : Int
  out : Int
structure PurOk (U : Pur) : Prop where
  led : LedOk U.L
  h0 : 0 ≤ U.held
  i0 : 0 ≤ U.inn
  i1 : U.inn ≤ 4611686018427387904
  o0 : 0 ≤ U.out
  o1 : U.out ≤ 4611686018427387904
  both : U.L.tot + U.held = U.inn - U.out

/-- a purse at block p, its ledger at fp, the ledger's map at mb. -/
structure PurAt (w : World) (p fp mb : Nat) (U : Pur) : Prop where
  blk : Blk w p #[.pointer (some ⟨fp, 0, none⟩), .int .u64 U.held, .int .u64 U.inn, .int .u64 U.out] 106
  led : LedAt w fp mb U.L
  ne1 : p ≠ fp
  ne2 : p ≠ mb
theorem PurAt.chg {w w' : World} {p fp mb : Nat} {U : Pur} {S : List Nat} (h : PurAt w p fp mb U) (c : Chg S w w') (hp : p ∉ S) (hf : fp ∉ S) (hm : mb ∉ S) : PurAt w' p fp mb U :=
  ⟨h.blk.chg c hp, h.led.chg c hf hm, h.ne1, h.ne2⟩
theorem PurAt.same {w w' : World} {p fp mb : Nat} {U : Pur} (h : PurAt w p fp mb U) (c : Chg [] w w') : PurAt w' p fp mb U := h.chg c (by simp) (by simp) (by simp)

def chkU (p : Option Addr) (a : Int) : Int := if p = none ∨ ¬ a ≤ 4611686018427387904 then 1 else 0
set_option maxHeartbeats 400000 in
theorem purse_check (p : Option Addr) (a : Int) (w : World) :
    Calls Tryz.prog 45 #[.pointer p, .int .u64 a] w fun e w' => e = .returned (.int .i64 (chkU p a)) ∧ w = w' := by
  cases p with
  | none =>
    go_enter Tryz.func45, Tryz.ntmps45
    go_wp2
    go_ret
    exact ⟨by simp [chkU], rfl⟩
  | some p =>
    by_cases h2 : a ≤ 4611686018427387904 <;>
        (simp only [chkU, h2, reduceCtorEq, not_true, not_false_iff, or_true, or_false, if_true, if_false]
         go_enter Tryz.func45, Tryz.ntmps45
         go_wp2
         go_ret
         exact ⟨rfl, rfl⟩)

set_option maxHeartbeats 400000 in
theorem purse_New (w : World) :
    Calls Tryz.prog 40 #[] w fun e w' => ∃ p fp mb, e = .returned (.pointer (some ⟨p, 0, none⟩)) ∧ PurAt w' p fp mb ⟨Led.zero, 0, 0, 0⟩ ∧ Chg [] w w' ∧ Fresh w [p, fp, mb] := by
  go_enter Tryz.func40, Tryz.ntmps40
  go_wp2_with (go_at_call 39; refine (token_New _).mono ?_; rintro e w1 ⟨fp, mb, rfl, hl, hc, hf⟩)
  go_ret
  have hf1 := hf fp (by simp)
  have hf2 := hf mb (by simp)
  have l1 := hl.blk.lt
  have l2 := hl.map.choose_spec.lt
  have hs := hc.size
  exact ⟨w1.heap.size, fp, mb, rfl, ⟨Blk.new _ _ _, hl.chg ((Chg.refl [] _).alloc _) (by simp) (by simp), by omega, by omega⟩, hc.alloc _, by simp [Fresh, hs, hf1, hf2]⟩

/-- the closures' captured boxes -/
structure Box3 (w : World) (b0 b1 b2 : Nat) (p : Nat) (k a : Int) : Prop where
  x0 : Blk w b0 #[.pointer (some ⟨p, 0, none⟩)] 42
  x1 : Blk w b1 #[.int .u8 k] 45
  x2 : Blk w b2 #[.int .u64 a] 23

set_option maxRecDepth 100000 in
set_option maxHeartbeats 1000000 in
theorem purse_In1 (b0 b1 b2 p fp mb : Nat) (U : Pur) (k a : Int) (w : World) (hb : Box3 w b0 b1 b2 p k a) (h : PurAt w p fp mb U) (ok : LedOk U.L) (hk : (Lit.int .u8 k).wf = true) (ha : 0 ≤ a) :
    Calls Tryz.prog 49 #[.pointer (some ⟨b0, 0, none⟩), .pointer (some ⟨b1, 0, none⟩), .pointer (some ⟨b2, 0, none⟩)] w fun e w' =>
      e = .returned (.int .i64 (U.L.mint k a).1) ∧ PurAt w' p fp mb { U with L := (U.L.mint k a).2 } ∧ Chg [fp, mb] w w' := by
  have c0 := hb.x0.cell 0 rfl
  have c1 := hb.x1.cell 0 rfl
  have c2 := hb.x2.cell 0 rfl
  have c3 := h.blk.cell 0 rfl
  have hl := h.led
  go_enter Tryz.func49, Tryz.ntmps49
  go_wp2
  go_still_tail 6, (by kernel_rfl)
  go_wp2_with fail
  refine (token_Mint fp mb U.L k a _ (hl.chg ((Chg.refl [] w).drew) (by simp) (by simp)) ok hk ha).mono ?_
  rintro e w1 ⟨rfl, hl1, hc1⟩
  go_wp2
  go_ret
  have hc := ((Chg.refl [fp, mb] w).drew).trans hc1 (by simp)
  exact ⟨rfl, ⟨h.blk.chg hc (by simp [h.ne1, h.ne2]), hl1, h.ne1, h.ne2⟩, hc⟩

set_option maxRecDepth 100000 in
set_option maxHeartbeats 1000000 in
theorem purse_Free1 (b0 b1 b2 p fp mb : Nat) (U : Pur) (k a : Int) (w : World) (hb : Box3 w b0 b1 b2 p k a) (h : PurAt w p fp mb U) (ok : LedOk U.L) (hk : (Lit.int .u8 k).wf = true) (ha : 0 ≤ a) :
    Calls Tryz.prog 137 #[.pointer (some ⟨b0, 0, none⟩), .pointer (some ⟨b1, 0, none⟩), .pointer (some ⟨b2, 0, none⟩)] w fun e w' =>
      e = .returned (.int .i64 (U.L.mint k a).1) ∧ PurAt w' p fp mb { U with L := (U.L.mint k a).2 } ∧ Chg [fp, mb] w w' := by
  have c0 := hb.x0.cell 0 rfl
  have c1 := hb.x1.cell 0 rfl
  have c2 := hb.x2.cell 0 rfl
  have c3 := h.blk.cell 0 rfl
  have hl := h.led
  go_enter Tryz.func137, Tryz.ntmps137
  go_wp2
  go_still_tail 6, (by kernel_rfl)
  go_wp2_with fail
  refine (token_Mint fp mb U.L k a _ (hl.chg ((Chg.refl [] w).drew) (by simp) (by simp)) ok hk ha).mono ?_
  rintro e w1 ⟨rfl, hl1, hc1⟩
  go_wp2
  go_ret
  have hc := ((Chg.refl [fp, mb] w).drew).trans hc1 (by simp)
  exact ⟨rfl, ⟨h.blk.chg hc (by simp [h.ne1, h.ne2]), hl1, h.ne1, h.ne2⟩, hc⟩

set_option maxRecDepth 100000 in
set_option maxHeartbeats 1000000 in
theorem purse_Out1 (b0 b1 b2 p fp mb : Nat) (U : Pur) (k a : Int) (w : World) (hb : Box3 w b0 b1 b2 p k a) (h : PurAt w p fp mb U) (ok : LedOk U.L) (hk : (Lit.int .u8 k).wf = true) (ha : 0 ≤ a) :
    Calls Tryz.prog 117 #[.pointer (some ⟨b0, 0, none⟩), .pointer (some ⟨b1, 0, none⟩), .pointer (some ⟨b2, 0, none⟩)] w fun e w' =>
      e = .returned (.int .i64 (U.L.burn k a).1) ∧ PurAt w' p fp mb { U with L := (U.L.burn k a).2 } ∧ Chg [fp, mb] w w' := by
  have c0 := hb.x0.cell 0 rfl
  have c1 := hb.x1.cell 0 rfl
  have c2 := hb.x2.cell 0 rfl
  have c3 := h.blk.cell 0 rfl
  have hl := h.led
  go_enter Tryz.func117, Tryz.ntmps117
  go_wp2
  go_still_tail 6, (by kernel_rfl)
  go_wp2_with fail
  refine (token_Burn fp mb U.L k a _ (hl.chg ((Chg.refl [] w).drew) (by simp) (by simp)) ok hk ha).mono ?_
  rintro e w1 ⟨rfl, hl1, hc1⟩
  go_wp2
  go_ret
  have hc := ((Chg.refl [fp, mb] w).drew).trans hc1 (by simp)
  exact ⟨rfl, ⟨h.blk.chg hc (by simp [h.ne1, h.ne2]), hl1, h.ne1, h.ne2⟩, hc⟩

def Pur.dHold1 (U : Pur) (k a : Int) : Int × Pur := if U.L.m k < a then (16, U) else (0, { U with L := (U.L.burn k a).2, held := U.held + a })
set_option maxRecDepth 100000 in
set_option maxHeartbeats 1000000 in
/-- the closure of Hold, where what is free suffices -/
theorem purse_Hold1 (b0 b1 b2 p fp mb : Nat) (U : Pur) (k a : Int) (w : World) (hb : Box3 w b0 b1 b2 p k a) (h : PurAt w p fp mb U) (ok : PurOk U) (hk : (Lit.int .u8 k).wf = true) (ha : 0 < a) (ha2 : a ≤ 4611686018427387904) (hx : b2 ≠ p ∧ b0 ≠ fp ∧ b0 ≠ mb ∧ b2 ≠ fp ∧ b2 ≠ mb) :
    Calls Tryz.prog 102 #[.pointer (some ⟨b0, 0, none⟩), .pointer (some ⟨b1, 0, none⟩), .pointer (some ⟨b2, 0, none⟩)] w fun e w' =>
      e = .returned (.int .i64 (U.dHold1 k a).1) ∧ PurAt w' p fp mb (U.dHold1 k a).2 ∧ Chg [p, fp, mb] w w' := by
  have c0 := hb.x0.cell 0 rfl
  have c1 := hb.x1.cell 0 rfl
  have c2 := hb.x2.cell 0 rfl
  have c3 := h.blk.cell 0 rfl
  have hl := h.led
  have ne1 := h.ne1
  have ne2 := h.ne2
  have n1 : ¬ (a = 0 ∨ ¬ a ≤ 4611686018427387904) := by omega
  have t0 := ok.led.tot_nn
  have t1 := ok.both
  have t2 := ok.h0
  have t3 := ok.i1
  have t4 := ok.o0
  have tm := ok.led.m_le (wf_u8.1 hk).1 (wf_u8.1 hk).2
  by_cases h3 : U.L.m k < a
  · rw [show U.dHold1 k a = (16, U) from if_pos h3]
    have e1 : U.L.burn k a = (16, U.L) := by simp only [Led.burn, if_neg n1, if_pos h3]
    go_enter Tryz.func102, Tryz.ntmps102
    go_wp2
    go_still_tail 6, (by kernel_rfl)
    go_wp2_with fail
    refine (token_Burn fp mb U.L k a _ (hl.chg ((Chg.refl [] w).drew) (by simp) (by simp)) ok.led hk (by omega)).mono ?_
    rw [e1]
    rintro e w1 ⟨rfl, hl1, hc1⟩
    clear e1
    go_wp2
    go_ret
    have hc := ((Chg.refl [fp, mb] w).drew).trans hc1 (by simp)
    exact ⟨rfl, ⟨h.blk.chg hc (by simp [h.ne1, h.ne2]), hl1, h.ne1, h.ne2⟩, hc.mono (by simp)⟩
  · rw [show U.dHold1 k a = (0, { U with L := (U.L.burn k a).2, held := U.held + a }) from if_neg h3]
    have e1 : U.L.burn k a = (0, ⟨updM U.L.m k (U.L.m k - a), U.L.tot - a⟩) := by simp only [Led.burn, if_neg n1, if_neg h3]
    go_enter Tryz.func102, Tryz.ntmps102
    go_wp2
    go_still_tail 6, (by kernel_rfl)
    go_wp2_with fail
    refine (token_Burn fp mb U.L k a _ (hl.chg ((Chg.refl [] w).drew) (by simp) (by simp)) ok.led hk (by omega)).mono ?_
    rw [e1]
    rintro e w1 ⟨rfl, hl1, hc1⟩
    have hc := ((Chg.refl [fp, mb] w).drew).trans hc1 (by simp)
    clear c0 c1 c2 c3
    have hb1 := h.blk.chg hc (by simp [ne1, ne2])
    have d0 := (hb.x0.chg hc (by simp [hx])).cell 0 rfl
    have d2 := (hb.x2.chg hc (by simp [hx])).cell 0 rfl
    have d3 := hb1.cell 1 rfl
    have f3 := hb1.free 1
    go_wp2
    go_still_tail 8, (by kernel_rfl)
    go_wp2
    go_ret
    have hd : Chg [p] w1 (w1.setCell ⟨p, 1, none⟩ (.int .u64 (U.held + a))).drew := ((Chg.refl [p] w1).setCell (by simp) _).drew
    refine ⟨rfl, ?_, hc.mono (by simp) |>.trans hd (by simp)⟩
    rw [e1]
    exact ⟨(hb1.set 1 _).drew, hl1.chg hd (by simp [Ne.symm ne1]) (by simp [Ne.symm ne2]), ne1, ne2⟩
end Go.Proofs.YtackdgbcmeafhaaGreat

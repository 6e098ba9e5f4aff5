/- Package purse: In, Out, Hold, Free, by contracts. -/
import Derived.Test.YtackdgbcmeafhaaGreatPurse
namespace Go.Proofs.YtackdgbcmeafhaaGreat
open Go.RowKit Go.Maps

/-- of an amount of 0 nothing comes -/
def Led.mint0 (L : Led) (k a : Int) : Led := if a = 0 then L else (L.mint k a).2
def Led.burn0 (L : Led) (k a : Int) : Led := if a = 0 then L else (L.burn k a).2
def Pur.dIn (U : Pur) (k a : Int) : Int × Pur :=
  if ¬ a ≤ 4611686018427387904 then (1, U) else if ¬ U.inn + a ≤ 4611686018427387904 then (4, U) else if ¬ U.L.tot + U.held + a ≤ 4611686018427387904 then (4, U)
  else (0, { U with inn := U.inn + a, L := U.L.mint0 k a })
def Pur.dOut (U : Pur) (k a : Int) : Int × Pur :=
  if ¬ a ≤ 4611686018427387904 then (1, U) else if U.L.m k < a then (16, U) else if ¬ U.out + a ≤ 4611686018427387904 then (4, U)
  else (0, { U with out := U.out + a, L := U.L.burn0 k a })
def Pur.dHold (U : Pur) (k a : Int) : Int × Pur :=
  if ¬ a ≤ 4611686018427387904 then (1, U) else if a = 0 then (0, U) else U.dHold1 k a
def Pur.dFree (U : Pur) (k a : Int) : Int × Pur :=
  if ¬ a ≤ 4611686018427387904 then (1, U) else if U.held < a then (16, U) else (0, { U with held := U.held - a, L := U.L.mint0 k a })

theorem box3_new (w : World) (p : Nat) (k a : Int) :
    Box3 (((w.alloc (.cells #[.pointer (some ⟨p, 0, none⟩)] 42)).alloc (.cells #[.int .u8 k] 45)).alloc (.cells #[.int .u64 a] 23)) w.heap.size (w.heap.size + 1) (w.heap.size + 1 + 1) p k a ∧
    Chg [] w (((w.alloc (.cells #[.pointer (some ⟨p, 0, none⟩)] 42)).alloc (.cells #[.int .u8 k] 45)).alloc (.cells #[.int .u64 a] 23)) := by
  have h0 := ((Blk.new w #[.pointer (some ⟨p, 0, none⟩)] 42).alloc (.cells #[.int .u8 k] 45)).alloc (.cells #[.int .u64 a] 23)
  have h1 := (Blk.new (w.alloc (.cells #[.pointer (some ⟨p, 0, none⟩)] 42)) #[.int .u8 k] 45).alloc (.cells #[.int .u64 a] 23)
  have h2 := Blk.new ((w.alloc (.cells #[.pointer (some ⟨p, 0, none⟩)] 42)).alloc (.cells #[.int .u8 k] 45)) #[.int .u64 a] 23
  simp only [World.size_alloc] at h1 h2
  exact ⟨⟨h0, h1, h2⟩, (((Chg.refl [] w).alloc _).alloc _).alloc _⟩

set_option maxRecDepth 100000 in
set_option maxHeartbeats 1000000 in
theorem purse_Hold (p fp mb : Nat) (U : Pur) (k a : Int) (w : World) (h : PurAt w p fp mb U) (ok : PurOk U) (hk : (Lit.int .u8 k).wf = true) (ha : 0 ≤ a) :
    Calls Tryz.prog 52 #[.pointer (some ⟨p, 0, none⟩), .int .u8 k, .int .u64 a] w fun e w' =>
      e = .returned (.int .i64 (U.dHold k a).1) ∧ PurAt w' p fp mb (U.dHold k a).2 ∧ Chg [p, fp, mb] w w' := by
  have hlt := h.blk.lt
  have hlf := h.led.blk.lt
  have hlm := h.led.map.choose_spec.lt
  have hx := box3_new w p k a
  unfold Pur.dHold
  by_cases h1 : a ≤ 4611686018427387904
  · have e1 : chkU (some ⟨p, 0, none⟩) a = 0 := by simp [chkU, h1]
    rw [if_neg (fun h => h h1)]
    by_cases h2 : a = 0
    · subst h2
      rw [if_pos rfl]
      go_enter Tryz.func52, Tryz.ntmps52
      go_wp2_with fail
      refine (purse_check _ _ _).mono ?_
      rw [e1]
      rintro e w3 ⟨rfl, hw⟩
      rw [hw] at hx
      clear hw e1
      obtain ⟨hB, hc⟩ := hx
      have c0 := hB.x0.cell 0 rfl
      have c2 := hB.x2.cell 0 rfl
      go_wp2
      go_ret
      exact ⟨rfl, h.same hc, hc.mono (by simp)⟩
    · have h3 : (a == 0) = false := by simpa using h2
      rw [if_neg h2]
      go_enter Tryz.func52, Tryz.ntmps52
      go_wp2_with fail
      refine (purse_check _ _ _).mono ?_
      rw [e1]
      rintro e w3 ⟨rfl, hw⟩
      rw [hw] at hx
      clear hw e1
      obtain ⟨hB, hc⟩ := hx
      have c0 := hB.x0.cell 0 rfl
      have c2 := hB.x2.cell 0 rfl
      go_wp2_with (first
        | (go_at_call 102; refine (purse_Hold1 _ _ _ p fp mb U k a _ hB (h.same hc) ok hk (by omega) h1 (by omega)).mono ?_; rintro e w4 ⟨rfl, h4, hc4⟩)
        | go_in)
      go_ret
      exact ⟨rfl, h4, (hc.mono (by simp)).trans hc4 (by simp)⟩
  · have e1 : chkU (some ⟨p, 0, none⟩) a = 1 := by simp [chkU, h1]
    rw [if_pos h1]
    go_enter Tryz.func52, Tryz.ntmps52
    go_wp2_with fail
    refine (purse_check _ _ _).mono ?_
    rw [e1]
    rintro e w3 ⟨rfl, hw⟩
    rw [hw] at hx
    clear hw e1
    obtain ⟨hB, hc⟩ := hx
    go_wp2
    go_ret
    exact ⟨rfl, h.same hc, hc.mono (by simp)⟩

theorem Box3.chg {w w' : World} {b0 b1 b2 p : Nat} {k a : Int} {S : List Nat} (h : Box3 w b0 b1 b2 p k a) (c : Chg S w w') (h0 : b0 ∉ S) (h1 : b1 ∉ S) (h2 : b2 ∉ S) : Box3 w' b0 b1 b2 p k a :=
  ⟨h.x0.chg c h0, h.x1.chg c h1, h.x2.chg c h2⟩

set_option maxRecDepth 100000 in
set_option maxHeartbeats 1000000 in
theorem purse_Free (p fp mb : Nat) (U : Pur) (k a : Int) (w : World) (h : PurAt w p fp mb U) (ok : PurOk U) (hk : (Lit.int .u8 k).wf = true) (ha : 0 ≤ a) :
    Calls Tryz.prog 118 #[.pointer (some ⟨p, 0, none⟩), .int .u8 k, .int .u64 a] w fun e w' =>
      e = .returned (.int .i64 (U.dFree k a).1) ∧ PurAt w' p fp mb (U.dFree k a).2 ∧ Chg [p, fp, mb] w w' := by
  have hlt := h.blk.lt
  have hlf := h.led.blk.lt
  have hlm := h.led.map.choose_spec.lt
  have hx := box3_new w p k a
  have t0 := ok.h0
  have t1 := ok.both
  have t2 := ok.led.tot_nn
  have t3 := ok.i1
  have t4 := ok.o0
  have t5 : U.held ≤ 4611686018427387904 := by omega
  unfold Pur.dFree
  by_cases h1 : a ≤ 4611686018427387904
  · have e1 : chkU (some ⟨p, 0, none⟩) a = 0 := by simp [chkU, h1]
    rw [if_neg (fun h => h h1)]
    by_cases h2 : U.held < a
    · rw [if_pos h2]
      have e2 : subA U.held a = (0, 16) := by simp [subA, h1, h2, t5]
      go_enter Tryz.func118, Tryz.ntmps118
      go_wp2_with fail
      refine (purse_check _ _ _).mono ?_
      rw [e1]
      rintro e w3 ⟨rfl, hw⟩
      rw [hw] at hx
      clear hw e1
      obtain ⟨hB, hc⟩ := hx
      have c0 := hB.x0.cell 0 rfl
      have c2 := hB.x2.cell 0 rfl
      have c3 := (h.same hc).blk.cell 1 rfl
      go_wp2
      go_quiet ((go_at_call 105; exact quiet (Amount_Sub _ _ _ t0 ha)))
      go_wp2
      go_ret
      exact ⟨rfl, h.same (hc.drewN _), (hc.mono (by simp)).drewN _⟩
    · rw [if_neg h2]
      have e2 : subA U.held a = (U.held - a, 0) := by simp [subA, h1, h2, t5]
      by_cases h4 : a = 0
      · subst h4
        rw [show U.L.mint0 k 0 = U.L from rfl]
        go_enter Tryz.func118, Tryz.ntmps118
        go_wp2_with fail
        refine (purse_check _ _ _).mono ?_
        rw [e1]
        rintro e w3 ⟨rfl, hw⟩
        rw [hw] at hx
        clear hw e1
        obtain ⟨hB, hc⟩ := hx
        have c0 := hB.x0.cell 0 rfl
        have c2 := hB.x2.cell 0 rfl
        have h3 := h.same hc
        have c3 := h3.blk.cell 1 rfl
        have f3 := h3.blk.free 1
        go_wp2
        go_quiet ((go_at_call 105; exact quiet (Amount_Sub _ _ _ t0 ha)))
        go_wp2
        go_ret
        have hd : Chg [p] w3 ((w3.drewN nq).setCell ⟨p, 1, none⟩ (.int .u64 U.held)) := ((Chg.refl _ _).drewN _).setCell (by simp) _
        refine ⟨rfl, ⟨by simpa using (h3.blk.drewN nq).set 1 (.int .u64 U.held), h3.led.chg hd (by simp [Ne.symm h.ne1]) (by simp [Ne.symm h.ne2]), h.ne1, h.ne2⟩, (hc.mono (by simp)).trans hd (by simp)⟩
      · have h5 : (a == 0) = false := by simpa using h4
        rw [show U.L.mint0 k a = (U.L.mint k a).2 from if_neg h4]
        go_enter Tryz.func118, Tryz.ntmps118
        go_wp2_with fail
        refine (purse_check _ _ _).mono ?_
        rw [e1]
        rintro e w3 ⟨rfl, hw⟩
        rw [hw] at hx
        clear hw e1
        obtain ⟨hB, hc⟩ := hx
        have c0 := hB.x0.cell 0 rfl
        have c2 := hB.x2.cell 0 rfl
        have h3 := h.same hc
        have c3 := h3.blk.cell 1 rfl
        have f3 := h3.blk.free 1
        go_wp2
        go_quiet ((go_at_call 105; exact quiet (Amount_Sub _ _ _ t0 ha)))
        have hd : Chg [p] w3 ((w3.drewN nq).setCell ⟨p, 1, none⟩ (.int .u64 (U.held - a))) := ((Chg.refl _ _).drewN _).setCell (by simp) _
        have hB2 := hB.chg hd (by simp; omega) (by simp; omega) (by simp; omega)
        have h6 : PurAt ((w3.drewN nq).setCell ⟨p, 1, none⟩ (.int .u64 (U.held - a))) p fp mb ⟨U.L, U.held - a, U.inn, U.out⟩ := ⟨(h3.blk.drewN nq).set 1 _, h3.led.chg hd (by simp [Ne.symm h.ne1]) (by simp [Ne.symm h.ne2]), h.ne1, h.ne2⟩
        go_wp2_with (first
          | (go_at_call 137; refine (purse_Free1 _ _ _ p fp mb ⟨U.L, U.held - a, U.inn, U.out⟩ k a _ hB2 h6 ok.led hk ha).mono ?_; rintro e w4 ⟨rfl, h7, hc7⟩)
          | go_in)
        go_ret
        have e6 : (U.L.mint k a).1 = 0 := by
          have n1 : ¬ (a = 0 ∨ ¬ a ≤ 4611686018427387904) := by omega
          simp only [Led.mint, if_neg n1, if_pos (show U.L.tot + a ≤ 4611686018427387904 by omega)]
        exact ⟨congrArg (fun x => Ending.returned (.int .i64 x)) e6, h7, ((hc.mono (by simp)).trans hd (by simp)).trans hc7 (by simp)⟩
  · have e1 : chkU (some ⟨p, 0, none⟩) a = 1 := by simp [chkU, h1]
    rw [if_pos h1]
    go_enter Tryz.func118, Tryz.ntmps118
    go_wp2_with fail
    refine (purse_check _ _ _).mono ?_
    rw [e1]
    rintro e w3 ⟨rfl, hw⟩
    rw [hw] at hx
    clear hw e1
    obtain ⟨hB, hc⟩ := hx
    go_wp2
    go_ret
    exact ⟨rfl, h.same hc, hc.mono (by simp)⟩

set_option maxRecDepth 100000 in
set_option maxHeartbeats 1000000 in
theorem purse_Out (p fp mb : Nat) (U : Pur) (k a : Int) (w : World) (h : PurAt w p fp mb U) (ok : PurOk U) (hk : (Lit.int .u8 k).wf = true) (ha : 0 ≤ a) :
    Calls Tryz.prog 69 #[.pointer (some ⟨p, 0, none⟩), .int .u8 k, .int .u64 a] w fun e w' =>
      e = .returned (.int .i64 (U.dOut k a).1) ∧ PurAt w' p fp mb (U.dOut k a).2 ∧ Chg [p, fp, mb] w w' := by
  have hlt := h.blk.lt
  have hlf := h.led.blk.lt
  have hlm := h.led.map.choose_spec.lt
  have hx := box3_new w p k a
  have t4 := ok.o0
  have t5 := ok.o1
  unfold Pur.dOut
  by_cases h1 : a ≤ 4611686018427387904
  · have e1 : chkU (some ⟨p, 0, none⟩) a = 0 := by simp [chkU, h1]
    rw [if_neg (fun h => h h1)]
    by_cases h2 : U.L.m k < a
    · rw [if_pos h2]
      go_enter Tryz.func69, Tryz.ntmps69
      go_wp2_with fail
      refine (purse_check _ _ _).mono ?_
      rw [e1]
      rintro e w3 ⟨rfl, hw⟩
      rw [hw] at hx
      clear hw e1
      obtain ⟨hB, hc⟩ := hx
      have c0 := hB.x0.cell 0 rfl
      have c1 := hB.x1.cell 0 rfl
      have c2 := hB.x2.cell 0 rfl
      have h3 := h.same hc
      have c3 := h3.blk.cell 0 rfl
      go_wp2
      go_quiet ((go_at_call 86; exact quiet (token_Of fp mb _ _ _ (h3.led.chg ((Chg.refl [] _).drewN _) (by simp) (by simp)) hk)))
      go_wp2
      go_ret
      exact ⟨rfl, h.same (hc.drewN _), (hc.mono (by simp)).drewN _⟩
    · rw [if_neg h2]
      have h2' : a ≤ U.L.m k := by omega
      by_cases h3 : U.out + a ≤ 4611686018427387904
      · rw [if_neg (fun h => h h3)]
        have e2 : addA U.out a = (U.out + a, 0) := by simp [addA, h1, h3, t5]
        have h5 : (a == 0) = decide (a = 0) := rfl
        go_enter Tryz.func69, Tryz.ntmps69
        go_wp2_with fail
        refine (purse_check _ _ _).mono ?_
        rw [e1]
        rintro e w3 ⟨rfl, hw⟩
        rw [hw] at hx
        clear hw e1
        obtain ⟨hB, hc⟩ := hx
        have c0 := hB.x0.cell 0 rfl
        have c1 := hB.x1.cell 0 rfl
        have c2 := hB.x2.cell 0 rfl
        have h6 := h.same hc
        have c3 := h6.blk.cell 0 rfl
        go_wp2
        go_quiet ((go_at_call 86; exact quiet (token_Of fp mb _ _ _ (h6.led.chg ((Chg.refl [] _).drewN _) (by simp) (by simp)) hk)))
        generalize hw4 : w3.drewN nq = w4
        have hc4 : Chg [] w w4 := hw4 ▸ hc.drewN nq
        replace hB : Box3 w4 w.heap.size (w.heap.size + 1) (w.heap.size + 1 + 1) p k a := hB.chg (hw4 ▸ (Chg.refl [] w3).drewN nq) (by simp) (by simp) (by simp)
        clear hw4 c0 c1 c2 c3 h6 hc nq
        have c0 := hB.x0.cell 0 rfl
        have c2 := hB.x2.cell 0 rfl
        have h6 := h.same hc4
        have c4 := h6.blk.cell 3 rfl
        have f3 := h6.blk.free 3
        have hdec : decide (U.L.m k < a) = false := by simpa using h2
        go_wp2
        go_quiet ((go_at_call 46; exact quiet (Amount_Add _ _ _ t4 ha)))
        have hd : Chg [p] w4 ((w4.drewN nq).setCell ⟨p, 3, none⟩ (.int .u64 (U.out + a))) := ((Chg.refl _ _).drewN _).setCell (by simp) _
        have hB2 := hB.chg hd (by simp; omega) (by simp; omega) (by simp; omega)
        have h7 : PurAt ((w4.drewN nq).setCell ⟨p, 3, none⟩ (.int .u64 (U.out + a))) p fp mb ⟨U.L, U.held, U.inn, U.out + a⟩ := ⟨(h6.blk.drewN nq).set 3 _, h6.led.chg hd (by simp [Ne.symm h.ne1]) (by simp [Ne.symm h.ne2]), h.ne1, h.ne2⟩
        clear h5
        by_cases h4 : a = 0
        · have h5 : (a == 0) = true := by simpa using h4
          have H4 := Lib.hid h4
          clear h4
          go_wp2
          go_ret
          exact ⟨rfl, by rw [show U.L.burn0 k a = U.L from if_pos H4.out]; exact h7, (hc4.mono (by simp)).trans hd (by simp)⟩
        · have h5 : (a == 0) = false := by simpa using h4
          go_wp2_with (first
            | (go_at_call 117; refine (purse_Out1 _ _ _ p fp mb ⟨U.L, U.held, U.inn, U.out + a⟩ k a _ hB2 h7 ok.led hk ha).mono ?_; rintro e w5 ⟨rfl, h8, hc8⟩)
            | go_in)
          go_ret
          have e6 : (U.L.burn k a).1 = 0 := by
            have n1 : ¬ (a = 0 ∨ ¬ a ≤ 4611686018427387904) := by omega
            simp only [Led.burn, if_neg n1, if_neg (show ¬ U.L.m k < a by omega)]
          exact ⟨congrArg (fun x => Ending.returned (.int .i64 x)) e6, by rw [show U.L.burn0 k a = (U.L.burn k a).2 from if_neg h4]; exact h8, ((hc4.mono (by simp)).trans hd (by simp)).trans hc8 (by simp)⟩
      · rw [if_pos h3]
        have e2 : addA U.out a = (0, 4) := by simp [addA, h1, h3, t5]
        go_enter Tryz.func69, Tryz.ntmps69
        go_wp2_with fail
        refine (purse_check _ _ _).mono ?_
        rw [e1]
        rintro e w3 ⟨rfl, hw⟩
        rw [hw] at hx
        clear hw e1
        obtain ⟨hB, hc⟩ := hx
        have c0 := hB.x0.cell 0 rfl
        have c1 := hB.x1.cell 0 rfl
        have c2 := hB.x2.cell 0 rfl
        have h6 := h.same hc
        have c3 := h6.blk.cell 0 rfl
        go_wp2
        go_quiet ((go_at_call 86; exact quiet (token_Of fp mb _ _ _ (h6.led.chg ((Chg.refl [] _).drewN _) (by simp) (by simp)) hk)))
        generalize hw4 : w3.drewN nq = w4
        have hc4 : Chg [] w w4 := hw4 ▸ hc.drewN nq
        replace hB : Box3 w4 w.heap.size (w.heap.size + 1) (w.heap.size + 1 + 1) p k a := hB.chg (hw4 ▸ (Chg.refl [] w3).drewN nq) (by simp) (by simp) (by simp)
        clear hw4 c0 c1 c2 c3 h6 hc nq
        have c0 := hB.x0.cell 0 rfl
        have c2 := hB.x2.cell 0 rfl
        have h6 := h.same hc4
        have c4 := h6.blk.cell 3 rfl
        have f3 := h6.blk.free 3
        have hdec : decide (U.L.m k < a) = false := by simpa using h2
        go_wp2
        go_quiet ((go_at_call 46; exact quiet (Amount_Add _ _ _ t4 ha)))
        go_wp2
        go_ret
        exact ⟨rfl, h.same (hc4.drewN _), (hc4.mono (by simp)).drewN _⟩
  · have e1 : chkU (some ⟨p, 0, none⟩) a = 1 := by simp [chkU, h1]
    rw [if_pos h1]
    go_enter Tryz.func69, Tryz.ntmps69
    go_wp2_with fail
    refine (purse_check _ _ _).mono ?_
    rw [e1]
    rintro e w3 ⟨rfl, hw⟩
    rw [hw] at hx
    clear hw e1
    obtain ⟨hB, hc⟩ := hx
    go_wp2
    go_ret
    exact ⟨rfl, h.same hc, hc.mono (by simp)⟩

set_option maxRecDepth 100000 in
set_option maxHeartbeats 2000000 in
theorem purse_In (p fp mb : Nat) (U : Pur) (k a : Int) (w : World) (h : PurAt w p fp mb U) (ok : PurOk U) (hk : (Lit.int .u8 k).wf = true) (ha : 0 ≤ a) :
    Calls Tryz.prog 14 #[.pointer (some ⟨p, 0, none⟩), .int .u8 k, .int .u64 a] w fun e w' =>
      e = .returned (.int .i64 (U.dIn k a).1) ∧ PurAt w' p fp mb (U.dIn k a).2 ∧ Chg [p, fp, mb] w w' := by
  have hlt := h.blk.lt
  have hlf := h.led.blk.lt
  have hlm := h.led.map.choose_spec.lt
  have hx := box3_new w p k a
  have t3 := ok.i0
  have t5 := ok.i1
  have t1 := ok.led.tot_nn
  have t2 := ok.h0
  have t6 : U.L.tot + U.held ≤ 4611686018427387904 := by have := ok.both; have := ok.o0; omega
  unfold Pur.dIn
  by_cases h1 : a ≤ 4611686018427387904
  · have e1 : chkU (some ⟨p, 0, none⟩) a = 0 := by simp [chkU, h1]
    rw [if_neg (fun h => h h1)]
    by_cases h2 : U.inn + a ≤ 4611686018427387904
    · rw [if_neg (fun h => h h2)]
      have e2 : addA U.inn a = (U.inn + a, 0) := by simp [addA, h1, h2, t5]
      have e4 : addA U.L.tot U.held = (U.L.tot + U.held, 0) := by
        simp only [addA]; rw [if_pos (by omega), if_pos t6]
      by_cases h3 : U.L.tot + U.held + a ≤ 4611686018427387904
      · rw [if_neg (fun h => h h3)]
        have e5 : addA (U.L.tot + U.held) a = (U.L.tot + U.held + a, 0) := by simp [addA, h1, h3, t6]
        go_enter Tryz.func14, Tryz.ntmps14
        go_wp2_with fail
        refine (purse_check _ _ _).mono ?_
        rw [e1]
        rintro e w3 ⟨rfl, hw⟩
        rw [hw] at hx
        clear hw e1
        obtain ⟨hB, hc⟩ := hx
        have c0 := hB.x0.cell 0 rfl
        have c2 := hB.x2.cell 0 rfl
        have h6 := h.same hc
        have c3 := h6.blk.cell 2 rfl
        go_wp2
        go_quiet ((go_at_call 46; exact quiet (Amount_Add _ _ _ t3 ha)))
        generalize hw4 : w3.drewN nq = w4
        have hc4 : Chg [] w w4 := hw4 ▸ hc.drewN nq
        replace hB : Box3 w4 w.heap.size (w.heap.size + 1) (w.heap.size + 1 + 1) p k a := hB.chg (hw4 ▸ (Chg.refl [] w3).drewN nq) (by simp) (by simp) (by simp)
        clear hw4 c0 c2 c3 h6 hc nq
        have c0 := hB.x0.cell 0 rfl
        have c2 := hB.x2.cell 0 rfl
        have h6 := h.same hc4
        have c3 := h6.blk.cell 0 rfl
        have c4 := h6.blk.cell 1 rfl
        go_wp2
        go_quiet ((first | (go_at_call 47; exact quiet (token_Total fp mb _ _ (h6.led.chg ((Chg.refl [] _).drewN _) (by simp) (by simp)))) | (go_at_call 46; exact quiet (Amount_Add _ _ _ t1 t2))))
        generalize hw5 : w4.drewN nq = w5
        have hc5 : Chg [] w w5 := hw5 ▸ hc4.drewN nq
        replace hB : Box3 w5 w.heap.size (w.heap.size + 1) (w.heap.size + 1 + 1) p k a := hB.chg (hw5 ▸ (Chg.refl [] w4).drewN nq) (by simp) (by simp) (by simp)
        clear hw5 c0 c2 c3 c4 h6 hc4 nq
        have c0 := hB.x0.cell 0 rfl
        have c2 := hB.x2.cell 0 rfl
        have h6 := h.same hc5
        have f3 := h6.blk.free 2
        have c3 := h6.blk.cell 2 rfl
        go_wp2_with fail
        refine (Amount_Add _ _ _ (by omega) ha).mono ?_
        rintro e w' ⟨rfl, rfl⟩
        rw [e5]
        have hd : Chg [p] w5 (w5.setCell ⟨p, 2, none⟩ (.int .u64 (U.inn + a))) := (Chg.refl _ _).setCell (by simp) _
        have hB2 := hB.chg hd (by simp; omega) (by simp; omega) (by simp; omega)
        have h7 : PurAt (w5.setCell ⟨p, 2, none⟩ (.int .u64 (U.inn + a))) p fp mb ⟨U.L, U.held, U.inn + a, U.out⟩ := ⟨h6.blk.set 2 _, h6.led.chg hd (by simp [Ne.symm h.ne1]) (by simp [Ne.symm h.ne2]), h.ne1, h.ne2⟩
        by_cases h4 : a = 0
        · have h5 : (a == 0) = true := by simpa using h4
          have H4 := Lib.hid h4
          clear h4
          go_wp2
          go_ret
          exact ⟨rfl, by rw [show U.L.mint0 k a = U.L from if_pos H4.out]; exact h7, (hc5.mono (by simp)).trans hd (by simp)⟩
        · have h5 : (a == 0) = false := by simpa using h4
          go_wp2_with (first
            | (go_at_call 49; refine (purse_In1 _ _ _ p fp mb ⟨U.L, U.held, U.inn + a, U.out⟩ k a _ hB2 h7 ok.led hk ha).mono ?_; rintro e w6 ⟨rfl, h8, hc8⟩)
            | go_in)
          go_ret
          have e6 : (U.L.mint k a).1 = 0 := by
            have n1 : ¬ (a = 0 ∨ ¬ a ≤ 4611686018427387904) := by omega
            simp only [Led.mint, if_neg n1, if_pos (show U.L.tot + a ≤ 4611686018427387904 by omega)]
          exact ⟨congrArg (fun x => Ending.returned (.int .i64 x)) e6, by rw [show U.L.mint0 k a = (U.L.mint k a).2 from if_neg h4]; exact h8, ((hc5.mono (by simp)).trans hd (by simp)).trans hc8 (by simp)⟩
      · rw [if_pos h3]
        have e5 : addA (U.L.tot + U.held) a = (0, 4) := by simp [addA, h1, h3, t6]
        go_enter Tryz.func14, Tryz.ntmps14
        go_wp2_with fail
        refine (purse_check _ _ _).mono ?_
        rw [e1]
        rintro e w3 ⟨rfl, hw⟩
        rw [hw] at hx
        clear hw e1
        obtain ⟨hB, hc⟩ := hx
        have c0 := hB.x0.cell 0 rfl
        have c2 := hB.x2.cell 0 rfl
        have h6 := h.same hc
        have c3 := h6.blk.cell 2 rfl
        go_wp2
        go_quiet ((go_at_call 46; exact quiet (Amount_Add _ _ _ t3 ha)))
        generalize hw4 : w3.drewN nq = w4
        have hc4 : Chg [] w w4 := hw4 ▸ hc.drewN nq
        replace hB : Box3 w4 w.heap.size (w.heap.size + 1) (w.heap.size + 1 + 1) p k a := hB.chg (hw4 ▸ (Chg.refl [] w3).drewN nq) (by simp) (by simp) (by simp)
        clear hw4 c0 c2 c3 h6 hc nq
        have c0 := hB.x0.cell 0 rfl
        have c2 := hB.x2.cell 0 rfl
        have h6 := h.same hc4
        have c3 := h6.blk.cell 0 rfl
        have c4 := h6.blk.cell 1 rfl
        go_wp2
        go_quiet ((first | (go_at_call 47; exact quiet (token_Total fp mb _ _ (h6.led.chg ((Chg.refl [] _).drewN _) (by simp) (by simp)))) | (go_at_call 46; exact quiet (Amount_Add _ _ _ t1 t2))))
        generalize hw5 : w4.drewN nq = w5
        have hc5 : Chg [] w w5 := hw5 ▸ hc4.drewN nq
        replace hB : Box3 w5 w.heap.size (w.heap.size + 1) (w.heap.size + 1 + 1) p k a := hB.chg (hw5 ▸ (Chg.refl [] w4).drewN nq) (by simp) (by simp) (by simp)
        clear hw5 c0 c2 c3 c4 h6 hc4 nq
        have c0 := hB.x0.cell 0 rfl
        have c2 := hB.x2.cell 0 rfl
        have h6 := h.same hc5
        have f3 := h6.blk.free 2
        have c3 := h6.blk.cell 2 rfl
        go_wp2_with fail
        refine (Amount_Add _ _ _ (by omega) ha).mono ?_
        rintro e w' ⟨rfl, rfl⟩
        rw [e5]
        go_wp2
        go_ret
        exact ⟨rfl, h6, hc5.mono (by simp)⟩
    · rw [if_pos h2]
      have e2 : addA U.inn a = (0, 4) := by simp [addA, h1, h2, t5]
      go_enter Tryz.func14, Tryz.ntmps14
      go_wp2_with fail
      refine (purse_check _ _ _).mono ?_
      rw [e1]
      rintro e w3 ⟨rfl, hw⟩
      rw [hw] at hx
      clear hw e1
      obtain ⟨hB, hc⟩ := hx
      have c0 := hB.x0.cell 0 rfl
      have c2 := hB.x2.cell 0 rfl
      have h6 := h.same hc
      have c3 := h6.blk.cell 2 rfl
      go_wp2
      go_quiet ((go_at_call 46; exact quiet (Amount_Add _ _ _ t3 ha)))
      go_wp2
      go_ret
      exact ⟨rfl, h.same (hc.drewN _), (hc.mono (by simp)).drewN _⟩
  · have e1 : chkU (some ⟨p, 0, none⟩) a = 1 := by simp [chkU, h1]
    rw [if_pos h1]
    go_enter Tryz.func14, Tryz.ntmps14
    go_wp2_with fail
    refine (purse_check _ _ _).mono ?_
    rw [e1]
    rintro e w3 ⟨rfl, hw⟩
    rw [hw] at hx
    clear hw e1
    obtain ⟨hB, hc⟩ := hx
    go_wp2
    go_ret
    exact ⟨rfl, h.same hc, hc.mono (by simp)⟩
end Go.Proofs.YtackdgbcmeafhaaGreat

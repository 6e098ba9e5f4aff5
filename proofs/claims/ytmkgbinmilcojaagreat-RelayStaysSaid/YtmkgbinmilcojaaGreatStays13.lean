/- pontagelaw13.RelayStays. Printed by stays13gen.py. -/
import Derived.Test.YtmkgbinmilcojaaGreatLives13
import Derived.Test.YtmkgbinmilcojaaGreatMadeSt
import Derived.Test.YtmkgbinmilcojaaGreatLines13
import Derived.Test.YtmkgbinmilcojaaGreatPathP
namespace Go.Proofs.YtmkgbinmilcojaaGreat
open Go.RowKit Go.Maps
/-! ### while the target isn't set anew -/
/-- all blocks have the same bits, and the work that goes with their height. -/
structure Tr.Even (T : Tr) (B W : Nat) : Prop where
  bt : ∀ p ∈ T.ns, p.h.bt = B
  wk : ∀ p ∈ T.ns, p.wk = W * (p.ht + 1)
theorem add_even {T : Tr} (I : TrInv T) {B W : Nat} (E : T.Even B W) (hW : workN (decT B) = W) (hev : T.r.ev = 2016) (hl : T.ns.length ≤ 2000) (hWT : W * 5000 < TOP) {h : Hd} (_ : HdOk h) : (T.add h).2.Even B W := by
  by_cases e : (T.add h).1 = 0
  · obtain ⟨i, p, hn, hi, hp, hc, hns, _⟩ := add_ok e
    have hpm := List.mem_of_getElem? hp
    have hht := I.hts p hpm
    have hdue : T.due p = false := by
      unfold Tr.due
      rw [hev]
      simp only [decide_eq_false_iff_not]
      omega
    have hbt : h.bt = B := by
      unfold Tr.chkE at hc
      split at hc
      · cases hc
      · rename_i hnb
        have h2 : T.nb i p = h.bt := by
          by_cases hx : T.nb i p = h.bt
          · exact hx
          · exact absurd (Or.inr hx) hnb
        unfold Tr.nb at h2
        rw [hdue] at h2
        simp only [Bool.false_eq_true, if_false] at h2
        rw [← h2]; exact E.bt p hpm
    have hmem : ∀ q ∈ (T.add h).2.ns, q = newP h i p ∨ ∃ q0 ∈ T.ns, q.h = q0.h ∧ q.ht = q0.ht ∧ q.wk = q0.wk := fun q hq => by
      rw [hns] at hq
      obtain ⟨j, hj⟩ := List.getElem?_of_mem hq
      rcases grow_get hp hj with ⟨_, e⟩ | ⟨_, q0, h0, h1, _, h3, h4, _⟩
      · exact .inl e
      · exact .inr ⟨q0, List.mem_of_getElem? h0, h1, h3, h4⟩
    refine ⟨fun q hq => ?_, fun q hq => ?_⟩
    · rcases hmem q hq with rfl | ⟨q0, h0, h1, _, _⟩
      · exact hbt
      · rw [h1]; exact E.bt q0 h0
    · rcases hmem q hq with rfl | ⟨q0, h0, _, h2, h3⟩
      · show (p.wk + hdW h) % TOP = W * (p.ht + 1 + 1)
        have hd : hdW h = W := by unfold hdW; rw [hbt]; exact hW
        rw [hd, E.wk p hpm]
        have e1 : W * (p.ht + 1) + W = W * (p.ht + 1 + 1) := by rw [Nat.mul_add W (p.ht + 1) 1, Nat.mul_one]
        rw [e1, Nat.mod_eq_of_lt]
        have : W * (p.ht + 1 + 1) ≤ W * 5000 := Nat.mul_le_mul_left _ (by omega)
        omega
      · rw [h3, h2]; exact E.wk q0 h0
  · rw [add_same e]; exact E
/-- what is confirmed stays so, as long as no turn is so deep. -/
theorem conf_stays {T : Tr} (I : TrInv T) (W : T.Way) {B Wk : Nat} (E : T.Even B Wk) (_ : 0 < Wk) {h : Hd} (hok : HdOk h) (hE2 : (T.add h).2.Even B Wk) {k : List Nat} (hk : T.conf k = 0) {d : Nat} (hdp : ((T.deep h d : Nat) : Int) < T.r.cf) : (T.add h).2.conf k = 0 := by
  by_cases e : (T.add h).1 = 0
  · have ht : T.turned h < T.r.cf := by
      unfold Tr.deep at hdp; rw [if_pos e] at hdp; omega
    have I2 := I.add hok
    have W2 := add_way I W hok
    obtain ⟨i, p, hn, hi, hp, hc, hns, h2⟩ := add_ok e
    unfold Tr.conf at hk
    split at hk
    · rename_i hs
      obtain ⟨x, hx⟩ := Option.isSome_iff_exists.1 hs
      split at hk
      · cases hk
      · rename_i hd
        obtain ⟨px, hpx, hpk⟩ := Tr.find_some hx
        obtain ⟨px2, hpx2, _, _, hpxh⟩ := add_old e hpx
        have hf2 : (T.add h).2.find k = some x := by
          rw [add_find e, if_neg, hx]
          intro e2; rw [e2, hn] at hx; cases hx
        have e1 := Tr.htOf_eq hpx
        have e2 := Tr.htOf_eq hpx2
        have hcf : 1 ≤ T.r.cf := (checkR_ok I.ok.rk).2.2.2.2.1
        unfold Tr.depth at hd
        rw [hx] at hd
        simp only at hd
        split at hd
        · rename_i hcx
          rw [e1] at hd hcx
          unfold Tr.conf
          rw [hf2, Option.isSome_some, if_pos rfl, if_neg]
          rw [add_r]
          unfold Tr.depth
          rw [hf2]
          simp only
          rw [e2, hpxh]
          by_cases hB : T.isB h = true
          · -- the best one is the new one
            have hbest : (T.add h).2.best = hdH h := by unfold Tr.isB at hB; simpa using hB
            have hfn : (T.add h).2.find (hdH h) = some T.ns.length := by rw [add_find e, if_pos rfl]
            have hlast : (T.add h).2.last = T.ns.length := by
              have := best_find I2.ok
              rw [hbest, hfn] at this
              simpa using this.symm
            obtain ⟨q, hq, _⟩ := add_new e
            obtain ⟨pl, hpl, hplh⟩ := I.ok.best
            obtain ⟨pl2, hpl2, _, _, hplh2⟩ := add_old e hpl
            have f1 := Tr.htOf_eq hpl2
            have f2 := Tr.htOf_eq hq
            obtain ⟨c, r, hfk, hr, r1, r2, r3, _⟩ := fork_spec I2 ((T.add h).2.htOf T.last + (T.add h).2.htOf T.ns.length + 1) T.last T.ns.length pl2 q hpl2 hq (by omega)
            have htn : T.turned h = (pl2.ht : Int) - r.ht := by
              unfold Tr.turned
              rw [hB, if_pos rfl, hfk, f1, Tr.htOf_eq hr]
            have hch := W2
            unfold Tr.Way at hch
            rw [hlast] at hch
            have hlen : (T.add h).2.ch.length = q.ht + 1 := by rw [hch]; exact path_len I2.ok _ q hq
            have hch0 := I.ok.ch0
            have hold : T.path T.last = (T.add h).2.path T.last := by
              have hg := I.grow hok hp hn (chkE_len hc)
              have hll := (List.getElem?_eq_some_iff.1 hpl).1
              rw [← grow_path I.ok hp hg.ok T.last hll]
              exact path_ns hns.symm _
            have hkeep : (T.add h).2.ch[px.ht]? = some x := by
              rw [hch, ← r3 px.ht (by omega), ← hold]
              unfold Tr.Way at W
              rw [← W]; exact hcx
            rw [if_pos hkeep, hlen]
            have hup : pl2.ht < q.ht := by
              have hne : ¬ (T.add h).2 = T.grow h i p ∨ True := .inr trivial
              rw [h2] at hlast
              split at hlast
              · rename_i hw
                have w1 := E.wk pl (List.mem_of_getElem? hpl)
                have w2 := hE2.wk q (List.mem_of_getElem? hq)
                have w3 : T.wkL = pl.wk := by simp [Tr.wkL, hpl]
                have hqn : q.wk = (newP h i p).wk := by
                  have : (T.add h).2.ns[T.ns.length]? = some (newP h i p) := by rw [hns]; simp [Tr.grow]
                  rw [this] at hq; cases hq; rfl
                rw [w3, ← hqn, w1, w2] at hw
                have := Nat.lt_of_mul_lt_mul_left hw
                omega
              · have : (T.grow h i p).last = T.last := rfl
                rw [this] at hlast
                have := (List.getElem?_eq_some_iff.1 hpl).1
                omega
            omega
          · -- the chain is as it was
            have hch : (T.add h).2.ch = T.ch := by
              rw [h2]
              split
              · exfalso
                rename_i hw
                apply hB
                have hg := I.grow hok hp hn (chkE_len hc)
                have hl : (T.grow h i p).ns[T.ns.length]? = some (newP h i p) := by simp [Tr.grow]
                have hgw : (T.grow h i p).Way := by
                  obtain ⟨pl, hpl, _⟩ := I.ok.best
                  show T.ch = _
                  have : (T.grow h i p).last = T.last := rfl
                  rw [this, grow_path I.ok hp hg.ok T.last (List.getElem?_eq_some_iff.1 hpl).1]; exact W
                have hlast := (turn_way hg hgw hl).2
                unfold Tr.isB
                rw [h2, if_pos hw]
                simp only [decide_eq_true_eq]
                unfold Tr.best
                rw [hlast, turnTo_ns, hl]; rfl
              · rfl
            rw [hch, if_pos hcx]
            omega
        · omega
    · cases hk
  · rw [add_same e]; exact hk
theorem add_len (T : Tr) (h : Hd) : (T.add h).2.ns.length ≤ T.ns.length + 1 := by
  by_cases e : (T.add h).1 = 0
  · obtain ⟨i, p, _, _, hp, _, hns, _⟩ := add_ok e
    rw [hns, grow_len]; exact Nat.le_refl _
  · rw [add_same e]; omega
theorem wk545 : workN (decT 545259519) = 2 := by rw [kT]; decide +kernel
/-- what a relay whose target isn't set anew is, behind i headers; the hashes of Q are confirmed. -/
structure StInv (r : Rl) (T : Tr) (i d : Nat) (Q : List (List Nat)) : Prop where
  I : TrInv T
  W : T.Way
  E : T.Even 545259519 2
  rr : T.r = r
  len : T.ns.length ≤ i + 1
  dl : (d : Int) < r.cf
  sq : ∀ x ∈ Q, HK x ∧ T.conf x = 0
theorem StInv.new {r : Rl} (I : TrInv (newT r)) (hfi : r.fi = h0c) (hcf : 1 ≤ r.cf) : StInv r (newT r) 0 0 [] := by
  refine ⟨I, new_way, ⟨fun p hp => ?_, fun p hp => ?_⟩, rfl, by simp [newT], by omega, by simp⟩
  · have : p = ⟨r.fi, none, 0, hdW r.fi, 0⟩ := by simpa [newT] using hp
    rw [this, hfi]; rfl
  · have : p = ⟨r.fi, none, 0, hdW r.fi, 0⟩ := by simpa [newT] using hp
    rw [this, hfi]
    show hdW h0c = 2 * (0 + 1)
    unfold hdW; exact wk545
theorem StInv.step {r : Rl} {T : Tr} {i d : Nat} {Q : List (List Nat)} (S : StInv r T i d Q) (hev : r.ev = 2016) (hi : i ≤ 1000) {m : Hd} (mok : HdOk m) (hd : ((T.deep m d : Nat) : Int) < r.cf) : StInv r (T.add m).2 (i + 1) (T.deep m d) Q := by
  have hl := S.len
  have E2 := add_even S.I S.E wk545 (by rw [S.rr]; exact hev) (by omega) (by unfold TOP; omega) mok
  exact ⟨S.I.add mok, add_way S.I S.W mok, E2, (add_r T m).trans S.rr, by have := add_len T m; omega, hd, fun x hx => ⟨(S.sq x hx).1, conf_stays S.I S.W S.E (by omega) mok E2 (S.sq x hx).2 (by rw [S.rr]; exact hd)⟩⟩
theorem StInv.more {r : Rl} {T : Tr} {i d : Nat} {Q : List (List Nat)} (S : StInv r T i d Q) {x : List Nat} (hx : HK x) (hc : T.conf x = 0) : StInv r T i d (Q ++ [x]) :=
  ⟨S.I, S.W, S.E, S.rr, S.len, S.dl, fun y hy => by
    rcases List.mem_append.1 hy with h | h
    · exact S.sq y h
    · rw [List.mem_singleton.1 h]; exact ⟨hx, hc⟩⟩
end Go.Proofs.YtmkgbinmilcojaaGreat

/- pontagelaw13.RelayStays. -/
namespace Go.Proofs.YtmkgbinmilcojaaGreat
open Go.RowKit Go.Maps Go.Shelf
attribute [-go_sem] loadCellsFrom Instr.build Instr.buildSlice

/-- the rules of a law whose target isn't set anew. -/
def rS (s c : Nat) : Rl := ⟨2016, 1 + s % 1000, 545259519, ((1 + c % 4 : Nat) : Int), h0c⟩
theorem rS_ok (s c : Nat) : RlOk (rS s c) := by
  have h2 : s % 1000 < 1000 := Nat.mod_lt _ (by omega)
  have h3 : c % 4 < 4 := Nat.mod_lt _ (by omega)
  constructor <;> simp only [rS] <;> first | exact ok0c | omega
theorem rS_ck (s c : Nat) : checkR (rS s c) = 0 := by
  have h2 : s % 1000 < 1000 := Nat.mod_lt _ (by omega)
  have h3 : c % 4 < 4 := Nat.mod_lt _ (by omega)
  unfold checkR
  rw [if_neg (fun h => by simp [Rl.out, rS] at h; rcases h with (h | h) | h <;> have h9 := of_decide_eq_true h <;> omega), show (rS s c).lm = 545259519 from rfl, kE, kT, if_neg (by simp)]
  exact ck0
theorem rS_set (a s c : Nat) : (rG a s c).cs.setIfInBounds 0 (.int .i64 2016) = (rS s c).cs := by
  apply Array.ext'
  simp only [Array.toList_setIfInBounds]
  rfl
theorem relay_Deepest (rb : Nat) (x : Lt) (T : Tr) (hr : RlOk T.r) (d : Nat) (w : World) (h : RelAt w rb x T d) :
    Calls Tryz.prog 29 #[.pointer (some ⟨rb, 0, none⟩)] w fun e w' => e = .returned (.int .i64 (d : Int)) ∧ Chg [] w w' := by
  have c73 := h.blk.cell 73 (r_cell (Rl.len hr) _ _).2
  go_enter Tryz.func29, Tryz.ntmps29
  go_wp2
  go_ret
  exact ⟨rfl, Chg.refl _ _⟩
theorem run_build_hash0 (W : World) : (Instr.buildSlice 71 0 #[]).run Tryz.prog W = .ok (.slice (some ⟨W.heap.size, 0, none⟩) 0 0) (W.alloc (.cells #[] 26)) := by kernel_rfl
set_option maxRecDepth 100000 in
set_option maxHeartbeats 16000000 in
theorem law13_RelayStays (sp : Nat) (hsp : sp < 4294967296) (cq : Int) (vl : Value) (w : World) (hl0 : ∃ n, n ≤ maxLen ∧ Steps12 w vl n) :
    Calls Tryz.prog 6 #[.int .u32 (sp : Int), .int .i64 cq, vl] w fun e w' => e = .returned (.bool true) ∧ Chg [] w w' := by
  obtain ⟨n, hnM, hl0⟩ := hl0
  have hl := hl0
  obtain ⟨va, vcap, rfl⟩ := hl.len
  obtain ⟨iH, hiH, hz0, hz1, hz2⟩ := info_partsB infoHeadA
  obtain ⟨iK, hiK, hy0, hy1, hy2⟩ := info_partsB infoHashA
  have hlives := law13_lives
  have hrules := law12_RulesG 0 cq sp hsp
  obtain ⟨c9, hc9⟩ : ∃ c9, c9 = (cq % 18446744073709551616).toNat := ⟨_, rfl⟩
  rw [← hc9] at hrules
  obtain ⟨r, hr⟩ : ∃ r, r = rS sp c9 := ⟨_, rfl⟩
  have okr : RlOk r := by rw [hr]; exact rS_ok _ _
  have ckr : checkR r = 0 := by rw [hr]; exact rS_ck _ _
  have I0 : TrInv (newT r) := TrInv.new okr ckr
  have hfi : r.fi = h0c := by rw [hr]; rfl
  have hev : r.ev = 2016 := by rw [hr]; rfl
  have hcf1 : 1 ≤ r.cf := (checkR_ok ckr).2.2.2.2.1
  have hcf2 : r.cf ≤ 100 := (checkR_ok ckr).2.2.2.2.2.1
  have okg := rG_ok ((0 : Int) % 18446744073709551616).toNat sp c9
  have hset := rS_set ((0 : Int) % 18446744073709551616).toNat sp c9
  rw [← hr] at hset
  have hgs := Rl.size okg
  have hgo := Rl.one (rG ((0 : Int) % 18446744073709551616).toNat sp c9)
  have hg0 : (rG ((0 : Int) % 18446744073709551616).toNat sp c9).cs[0]? = some (.int .i64 (rG ((0 : Int) % 18446744073709551616).toNat sp c9).ev) := rfl
  generalize (rG ((0 : Int) % 18446744073709551616).toNat sp c9).ev = e9 at hg0
  generalize (rG ((0 : Int) % 18446744073709551616).toNat sp c9).cs = cg at *
  have S0 : StInv r (newT r) 0 0 [] := StInv.new I0 hfi hcf1
  have hr' := Lib.hid hr
  clear hr hc9 okg
  have hnew := relay_New r okr
  rw [ckr] at hnew
  have hrs : r.cs.size = 72 := Rl.size okr
  have hro := Rl.one r
  have hcf3 : r.cs[3]? = some (.int .i64 r.cf) := rfl
  have hzR := zeroRl
  have hzS := zeroStep
  have hzH := zeroHd
  have hp4 : ∀ (j : Nat) (v : Value), r.fi.cs[j]? = some v → r.cs[4 + j]? = some v := Rl.part r
  rw [hfi] at hp4
  have hs0 : h0c.cs.size = 68 := Hd.size ok0c
  have hbs0 := run_build_head h0c.cs hs0
  have hbh0 := run_build_hash0
  have hzs : hd0.cs.size = 68 := Hd.size hd0_ok
  generalize hc0 : h0c.cs = c0 at *
  have hz4 : zStep.size = 4 := rfl
  generalize zStep = zS at *
  obtain ⟨cr, hcr⟩ : ∃ cr, cr = r.cs := ⟨_, rfl⟩
  rw [← hcr] at hrs hro hp4 hset hcf3
  simp only [← hcr] at hnew
  have hcr' := Lib.hid hcr
  have hset' := Lib.hid hset
  have hcf' := Lib.hid (show ∃ z, z = r.cf from ⟨_, rfl⟩)
  clear hcr hset
  obtain ⟨cf, hcfe⟩ : ∃ z, z = r.cf := ⟨_, rfl⟩
  rw [← hcfe] at hcf1 hcf2 hcf3
  have hcfe' := Lib.hid hcfe
  clear hcfe hcf'
  go_enter Tryz.func6, Tryz.ntmps6
  go_wp2_with fail
  refine (hlives _).mono ?_
  rintro e w1 ⟨rfl, k1⟩
  dsimp only
  by_cases hn : 30 < n
  · have d1 : decide ((30 : Int) < n) = true := by simp; omega
    go_wp2_with fail
    refine (hlives _).mono ?_
    rintro e w2 ⟨rfl, k2⟩
    dsimp only
    go_wp2
    go_ret
    exact ⟨rfl, k1.trans k2 (by simp)⟩
  have d1 : decide ((30 : Int) < n) = false := by simp; omega
  go_wp2_with fail
  refine (hrules _).mono ?_
  rintro e w2 ⟨rfl, k2⟩
  dsimp only
  have k02 := k1.trans k2 (by simp)
  clear hlives hrules k1 k2
  have hst := run_storeCells_new (P := Tryz.prog) w2 30 (Rl.cs ⟨0, 0, 0, 0, hd0⟩) cg (by rw [hgs]; exact infoRl) (by rw [hgs]; rfl) hgo
  have bG := Blk.new w2 cg 30
  have cG := bG.cell 0 hg0
  have fG := bG.free 0
  have hgRl := k02.size
  go_upto_region 5 with fail
  rw [hset'.out]
  have bR := Blk.new w2 cr 30
  have k03 : Chg [] w (w2.alloc (.cells cr 30)) := k02.alloc _
  clear hst hzR cG fG bG
  obtain ⟨gR, hgR⟩ : ∃ gR, gR = w2.heap.size := ⟨_, rfl⟩
  rw [← hgR] at bR hgRl ⊢
  clear hgR
  generalize w2.alloc (.cells cr 30) = w3 at *
  have ldR := load_blkC bR 72 hrs
  go_wp2_with fail
  refine (hnew _).mono ?_
  rintro e w4 ⟨k4, ⟨hne, _⟩ | ⟨_, rb, x, rfl, hRel, hlr, hlx, hrx⟩⟩
  · exact absurd rfl hne
  dsimp only
  have hgR3 := bR.lt
  have bR4 := bR.chg k4 (by simp)
  have k04 := k03.trans k4 (by simp)
  have ldH := load_part bR4 4 68 hs0 hp4
  have hs3 := k03.size
  have hs4 := k04.size
  have hb5 := (Blk.new w4 c0 28).alloc (.cells #[] 26)
  have ka : Chg [] w4 ((w4.alloc (.cells c0 28)).alloc (.cells #[] 26)) := ((Chg.refl _ _).alloc _).alloc _
  have k05 := k04.trans ka (by simp)
  have bR5 := bR4.chg ka (by simp)
  have hRel5 : RelAt ((w4.alloc (.cells c0 28)).alloc (.cells #[] 26)) rb x (newT r) 0 := ⟨hRel.blk.chg ka (by simp), hRel.t.chg I0.ok ka⟩
  have hrow5 : TrS w.heap.size ((w4.alloc (.cells c0 28)).alloc (.cells #[] 26)) (.slice (some ⟨w4.heap.size, 0, none⟩) 1 1) [h0c] := by
    refine ⟨⟨rfl, .inr ⟨w4.heap.size, 1, c0, rfl, k04.size, hb5, ?_, ?_, ?_, ?_⟩⟩, ?_⟩
    · simp
    · unfold maxLen; omega
    · rw [hs0]
    · have e : c0.toList = h0c.l := by rw [← hc0]; rfl
      have e2 : h0c.l.length = 68 := Hd.ls ok0c
      rw [e]
      simp only [List.map_cons, List.map_nil, List.length_cons, List.length_nil, List.flatten_cons, List.flatten_nil, List.append_nil]
      exact List.take_of_length_le (by omega)
    · intro u hu
      simp only [List.map_cons, List.map_nil, List.mem_singleton] at hu
      rw [hu]; exact Hd.ls ok0c
  have hsure5 : HsS w.heap.size ((w4.alloc (.cells c0 28)).alloc (.cells #[] 26)) (.slice (some ⟨w4.heap.size + 1, 0, none⟩) 0 0) [] := by
    refine ⟨⟨rfl, .inr ⟨w4.heap.size + 1, 0, #[], rfl, by omega, ?_, by simp, Nat.zero_le _, rfl, rfl⟩⟩, by simp⟩
    have := Blk.new (w4.alloc (.cells c0 28)) #[] 26
    rw [show (w4.alloc (.cells c0 28)).heap.size = w4.heap.size + 1 by simp] at this
    exact this
  have hlb : rb < w4.heap.size := hRel.blk.lt
  have hlt4 := TreeAt.all_lt hRel.t
  have hg5 : ∀ b, w4.heap.size ≤ b → b ≠ rb ∧ b ∉ x.all := fun b hb => ⟨by omega, fun h => by have := hlt4 _ h; omega⟩
  have hgR5 : gR ≠ rb ∧ gR ∉ x.all := ⟨by omega, fun h => by have := hlx _ h; omega⟩
  have hlx0 : ∀ b ∈ x.all, w.heap.size ≤ b := fun b hb => by have := hlx b hb; omega
  have hlr0 : w.heap.size ≤ rb := by omega
  have hgR4 : gR < w4.heap.size := by have := k4.size; omega
  go_upto_region 8 with fail
  clear ldH bR4 bR ldR hb5 ka hRel k04 k03 k02 hbs0 hrs hro hlx hlr hlb hlt4 hbh0
  generalize (w4.alloc (.cells c0 28)).alloc (.cells #[] 26) = w5 at *
  generalize w4.heap.size = g5 at *
  go_wp2_with fail
  go_loopw [10, 11, 42] (fun s10 s11 s42 wr => ∃ (v sv : Value) (i : Nat) (L : List Hd) (T : Tr) (y : Lt) (d : Nat) (Q : List (List Nat)), v = s10 ∧ sv = s11 ∧ i ≤ n ∧ s42 = .int .i64 i ∧ L.length = i + 1 ∧ (∀ h ∈ L, HdOk h) ∧ TrS w.heap.size wr v L ∧ HsS w.heap.size wr sv Q ∧ Q.length ≤ i * 50 ∧ StInv r T i d Q ∧ RelAt wr rb y T d ∧ (∀ b ∈ y.all, w.heap.size ≤ b) ∧ rb ∉ y.all ∧ (∀ b, v.ownBlock = some b → b ≠ rb ∧ b ∉ y.all) ∧
    (∀ b, sv.ownBlock = some b → b ≠ rb ∧ b ∉ y.all ∧ v.ownBlock ≠ some b ∧ b ≠ gR) ∧ (gR ≠ rb ∧ gR ∉ y.all ∧ v.ownBlock ≠ some gR) ∧ Blk wr gR cr 30 ∧ Chg [] w wr) (fun _ _ s42 _ => n - (intOf s42).toNat)
  case atStart => exact ⟨_, _, 0, [h0c], newT r, x, 0, [], rfl, rfl, Nat.zero_le _, rfl, rfl, by simpa using ok0c, hrow5, hsure5, by simp, S0, hRel5, hlx0, hrx, fun b hb => by cases hb; exact hg5 _ (Nat.le_refl _), fun b hb => by
    cases hb
    refine ⟨(hg5 _ (by simp)).1, (hg5 _ (by simp)).2, fun e => ?_, ?_⟩
    · have : g5 = g5 + 1 := Option.some.inj e
      omega
    · show g5 + 1 ≠ gR
      omega, ⟨hgR5.1, hgR5.2, fun e => by
    have : g5 = gR := Option.some.inj e
    omega⟩, bR5, k05⟩
  case round =>
    obtain ⟨v, sv, i, L, T, y, d, Q, rfl, rfl, hi, rfl, hLl, hLo, hTr, hQ, hQl, St, hRel, hly, hry, hown, hownS, hownR, bRr, kr⟩ := hrel
    clear hRel5 hrow5 hsure5 hg5 hlx0 k05 I0 hrx S0 bR5 hgR5 hgR4
    have I := St.I
    have hQl' := Lib.hid hQl
    have hQ' := Lib.hid hQ
    have hownS' := Lib.hid hownS
    have hownR' := Lib.hid hownR
    have bRr' := Lib.hid bRr
    clear hQl hQ hownS hownR bRr
    by_cases hlt : i < n
    · obtain ⟨b, off, K, an, late, root, hroot, rfl, c0', c1', c2', c3'⟩ := (hl.chg kr).at hlt
      have hldS : (loadCellsFrom ⟨b, off + i * 4, none⟩ 0 4 #[]).run Tryz.prog wr = .ok #[.int .i64 K, .int .i64 an, .int .i32 late, .int .u8 (root : Int)] wr := by
        have := run_loadCells_list (P := Tryz.prog) wr ⟨b, off + i * 4, none⟩ [.int .i64 K, .int .i64 an, .int .i32 late, .int .u8 (root : Int)] (fun j u hj => by
          rw [addr_ad]
          match j, hj with
          | 0, hj => cases hj; exact c0'
          | 1, hj => cases hj; exact c1'
          | 2, hj => cases hj; exact c2'
          | 3, hj => cases hj; exact c3'
          | j + 4, hj => simp at hj)
        simpa [loadCells] using this
      clear c0' c1' c2' c3'
      obtain ⟨S, hS⟩ : ∃ S : Array Value, S = #[.int .i64 K, .int .i64 an, .int .i32 late, .int .u8 (root : Int)] := ⟨_, rfl⟩
      have hS4 : S.size = 4 := by rw [hS]; rfl
      have hSo : S.all (·.oneCell') = true := by rw [hS]; simp [Value.oneCell']
      have hS1 : S[1]? = some (.int .i64 an) := by rw [hS]; rfl
      rw [← hS] at hldS
      have hS' := Lib.hid hS
      clear hS
      have hst := run_storeCells_new (P := Tryz.prog) wr 46 zS S (by rw [hS4]; exact infoStep) (by rw [hS4, hz4]) hSo
      have bS := Blk.new wr S 46
      have ka : Chg [] wr (wr.alloc (.cells S 46)) := (Chg.refl _ _).alloc _
      go_upto_region 11 with fail
      have k9 := kr.trans ka (by simp)
      have hTr9 : TrS w.heap.size _ v L := hTr.chg0 ka
      have hRel9 : RelAt _ rb y T d := ⟨hRel.blk.chg ka (by simp), hRel.t.chg I.ok ka⟩
      have kW9 : Chg [] wr _ := ka
      clear hst hldS ka hTr hRel kr
      generalize wr.alloc (.cells S 46) = w9 at *
      generalize wr.heap.size = gS at *
      obtain ⟨ta, tcap, rfl⟩ := hTr9.len'
      rw [List.length_map] at hTr9 hown ⊢
      obtain ⟨ln, hln⟩ : ∃ ln, ln = L.length := ⟨_, rfl⟩
      rw [← hln] at hTr9 hown hLl ⊢
      obtain ⟨A, hA⟩ : ∃ A : Nat, IntKind.u64.wrap an = (A : Int) := ⟨(an % 18446744073709551616).toNat, by rw [IntKind.wrap_u64]; omega⟩
      obtain ⟨j, hj⟩ : ∃ j, j = A % ln := ⟨_, rfl⟩
      have hjl : j < ln := by rw [hj]; exact Nat.mod_lt _ (by omega)
      have e8 : IntKind.u64.wrap (ln : Int) = (ln : Int) := by rw [IntKind.wrap_u64]; omega
      have e9 : Int.tmod (A : Int) (ln : Int) = (j : Int) := by rw [Int.tmod_eq_emod_of_nonneg (by omega), hj]; exact (Int.natCast_emod A ln).symm
      have e10 : IntKind.u64.wrap (j : Int) = (j : Int) := by rw [IntKind.wrap_u64]; omega
      have e11 : IntKind.i64.wrap (j : Int) = (j : Int) := by rw [IntKind.wrap_i64]; omega
      have nz : ((ln : Int) == 0) = false := by simp; omega
      obtain ⟨gT, cT, rfl, hgT, bT, hcT⟩ := hTr9.elem (i := j) (by rw [List.length_map]; omega)
      have hjL : j < L.length := by omega
      rw [List.getElem_map] at hcT
      have aok := get_ok hLo j hjL
      obtain ⟨a, ha⟩ : ∃ a, a = L[j] := ⟨_, rfl⟩
      rw [← ha] at hcT aok
      obtain ⟨m, hm⟩ : ∃ m, m = madeN (hdH a) K (tmL a.tm late) root (T.bitsOf (hdH a)).1 := ⟨_, rfl⟩
      have mok : HdOk m := by rw [hm]; exact madeN_ok (HK_hash a) K (tmL_lt _ _) hroot (bitsOf_lt I.ok _)
      have hmade : ∀ w', Chg [] w9 w' → Calls Tryz.prog 12 #[.pointer (some ⟨y.b, 0, none⟩), .agg a.l.toArray, .agg S] w' fun e w'' => e = .returned (.agg m.l.toArray) ∧ Chg [] w' w'' := fun w' k => by
        have := law12_Made y T I a aok K an late root hroot (bitsOf_lt I.ok _) w' (hRel9.t.chg I.ok k)
        rw [← hm, ← hS'.out] at this
        exact this
      have htree : ∀ w', Chg [] w9 w' → Calls Tryz.prog 22 #[.pointer (some ⟨rb, 0, none⟩)] w' fun e w'' => e = .returned (.pointer (some ⟨y.b, 0, none⟩)) ∧ Chg [] w' w'' := fun w' hk =>
        relay_Tree rb y T I.ok.r d w' ⟨hRel9.blk.chg hk (by simp), hRel9.t.chg I.ok hk⟩
      have hajs : a.l.toArray.size = 68 := by simpa using Hd.ls aok
      have hms : m.l.length = 68 := Hd.ls mok
      have hmo := Hd.ones m
      have hbs := run_build_head m.l.toArray (by simpa using hms)
      have hbytes := header_Bytes m mok
      change ∀ w, Calls Tryz.prog 24 #[.agg m.l.toArray] w _ at hbytes
      obtain ⟨zh, hzh⟩ : ∃ zh, zh = hd0.cs := ⟨_, rfl⟩
      have hzsz : zh.size = 68 := by rw [hzh]; exact hzs
      have hzH' : ∀ w, (zeroValue 28).run Tryz.prog w = .ok (.agg zh) w := by rw [hzh]; exact hzH
      have hzh' := Lib.hid hzh
      have hgS : gS < w9.heap.size := bS.lt
      have hln0 : ¬ ln = 0 := by omega
      have hln31 : ln ≤ 31 := by omega
      have hLl' := Lib.hid hLl
      have hln' := Lib.hid hln
      clear hLl hln
      have hh9 := k9.size
      clear hzh hj hm ha hjL hzH
      obtain ⟨aj, haj⟩ : ∃ aj, aj = a.l := ⟨_, rfl⟩
      rw [← haj] at hajs hcT
      simp only [← haj] at hmade
      clear haj
      obtain ⟨ml, hml⟩ : ∃ ml, ml = m.l := ⟨_, rfl⟩
      rw [← hml] at hms hmo
      simp only [← hml] at hmade hbs hbytes
      have hml' := Lib.hid hml
      clear hml
      obtain ⟨yb, hyb⟩ : ∃ yb, yb = y.b := ⟨_, rfl⟩
      simp only [← hyb] at hmade htree
      have hyb' := Lib.hid hyb
      clear hyb
      go_cut [14] (fun s14 wx => ∃ gH, s14 = .pointer (some ⟨gH, 0, none⟩) ∧ Blk wx gH ml.toArray 28 ∧ w9.heap.size ≤ gH ∧ Chg [] w9 wx)
      case first =>
        refine wp_region_held_drew (S := fun w' => Chg [] w9 w') (by kernel_rfl) ((Chg.refl _ _).drew) (fun hH51 => ?_)
        obtain ⟨wd51, hwd51⟩ : ∃ wd, wd = (w9).drew := ⟨_, rfl⟩
        rw [← hwd51] at hH51 ⊢
        clear hwd51
        refine TK 0 (.pointer (some ⟨rb, 0, none⟩)) rfl hH51 (fun w' hw' => ?_) ?_
        · go_simp
        try simp only [Act.put, Sa, Sb, Sc, Sd, Sf]
        refine TK 2 (.slice (some ⟨gT, 0, none⟩) ln tcap) rfl hH51 (fun w' hw' => ?_) ?_
        · go_simp
        try simp only [Act.put, Sa, Sb, Sc, Sd, Se, Sf]
        refine TK 3 (.pointer (some ⟨gS, 1, none⟩)) rfl hH51 (fun w' hw' => ?_) ?_
        · go_simp
        try simp only [Act.put, Sa, Sb, Sc, Sd, Se, Sf]
        refine TK 4 (.int .i64 an) rfl hH51 (fun w' hw' => ?_) ?_
        · (have k9 := bS.chg hw' (by simp); have c0 := k9.cell 1 hS1; go_simp)
        try simp only [Act.put, Sa, Sb, Sc, Sd, Se, Sf]
        refine TK 5 (.int .u64 (A : Int)) rfl hH51 (fun w' hw' => ?_) ?_
        · (rw [← hA]; go_simp)
        try simp only [Act.put, Sa, Sb, Sc, Sd, Se, Sf]
        refine TK 6 (.slice (some ⟨gT, 0, none⟩) ln tcap) rfl hH51 (fun w' hw' => ?_) ?_
        · go_simp
        try simp only [Act.put, Sa, Sb, Sc, Sd, Se, Sf]
        refine TK 7 (.int .i64 (ln : Int)) rfl hH51 (fun w' hw' => ?_) ?_
        · go_simp
        try simp only [Act.put, Sa, Sb, Sc, Sd, Se, Sf]
        refine TK 8 (.int .u64 (ln : Int)) rfl hH51 (fun w' hw' => ?_) ?_
        · go_simp
        try simp only [Act.put, Sa, Sb, Sc, Sd, Se, Sf]
        refine TK 9 (.int .u64 (j : Int)) rfl hH51 (fun w' hw' => ?_) ?_
        · go_simp
        try simp only [Act.put, Sa, Sb, Sc, Sd, Se, Sf]
        refine TK 10 (.int .i64 (j : Int)) rfl hH51 (fun w' hw' => ?_) ?_
        · go_simp
        try simp only [Act.put, Sa, Sb, Sc, Sd, Se, Sf]
        refine TK 11 (.pointer (some ⟨gT, j * 68, none⟩)) rfl hH51 (fun w' hw' => ?_) ?_
        · go_simp
        try simp only [Act.put, Sa, Sb, Sc, Sd, Se, Sf]
        refine TK 12 (.agg aj.toArray) rfl hH51 (fun w' hw' => ?_) ?_
        · (have k9 := bT.chg hw' (by simp); have l0 := load_part k9 (j * 68) 68 hajs hcT; go_simp)
        try simp only [Act.put, Sa, Sb, Sc, Sd, Se, Sf]
        refine TK 13 (.agg S) rfl hH51 (fun w' hw' => ?_) ?_
        · (have k9 := bS.chg hw' (by simp); have l0 := load_blkC k9 4 hS4; go_simp)
        try simp only [Act.put, Sa, Sb, Sc, Sd, Se, Sf]
        refine RD2 1 15 rfl rfl (fun K hK => ?_) (fun K hK => ?_)
        · try rw [if_pos (by rfl)]
          go_simp
          go_at_call 22
          refine (htree _ hH51).mono ?_
          rintro e52 w52 ⟨rfl, hc52⟩
          dsimp only
          have hH52 := hH51.trans hc52 (by simp)
          refine hK.out _ _ hH52 (fun _ => ?_)
          try simp only [Act.put, Sa, Sb, Sc, Sd, Se, Sf]
          refine RD2 14 15 rfl rfl (fun K hK => ?_) (fun K hK => ?_)
          · try rw [if_pos (by rfl)]
            go_simp
            go_at_call 12
            refine (hmade _ hH52).mono ?_
            rintro e53 w53 ⟨rfl, hc53⟩
            dsimp only
            have hH53 := hH52.trans hc53 (by simp)
            refine hK.out _ _ hH53 (fun _ => ?_)
            try simp only [Act.put, Sa, Sb, Sc, Sd, Se, Sf]
            refine RD 15 rfl (fun K hK => ?_)
            rw [if_pos (by rfl)]
            refine op_alloc 28 14 (by kernel_rfl) (by kernel_rfl) hzH' ?_
            have kbH54 := Blk.new (w53) zh 28
            have hH54 := hH53.alloc (.cells zh 28)
            have hgeH54 := hH53.size
            obtain ⟨gH54, hgg54⟩ : ∃ g, g = (w53).heap.size := ⟨_, rfl⟩
            rw [← hgg54] at kbH54 hgeH54 ⊢
            generalize (w53).alloc (.cells zh 28) = w54 at hH54 kbH54 ⊢
            clear hgg54
            refine hK.out _ _ hH54 (fun _ => ?_)
            try simp only [Act.put, Sa, Sb, Sc]
            refine RD 16 rfl (fun K hK => ?_)
            rw [if_pos (by rfl)]
            refine op_store 28 (.tmp 14) (.tmp 60) (by kernel_rfl) (by kernel_rfl) rfl (cs := ml) rfl kbH54 (by simp [hzsz, hms]) (infoHd3 hms) (by exact hmo) ?_
            intro w55 kbH55 hc55
            have hH55 : Chg [] w9 w55 := hH54.trans hc55 (by simp; omega)
            refine hK.out _ _ hH55 (fun _ => ?_)
            try simp only [Act.put, Sa, Sb, Sc, Sd, Se, Sf]
            refine wpAnyH_done (by kernel_rfl) ?_ _
            go_wp2_with fail
            go_meet
            exact ⟨gH54, rfl, kbH55, by omega, hH55⟩
          · rw [if_pos (by rfl)]
            refine op_alloc 28 14 (by kernel_rfl) (by kernel_rfl) hzH' ?_
            have kbH56 := Blk.new (w52) zh 28
            have hH56 := hH52.alloc (.cells zh 28)
            have hgeH56 := hH52.size
            obtain ⟨gH56, hgg56⟩ : ∃ g, g = (w52).heap.size := ⟨_, rfl⟩
            rw [← hgg56] at kbH56 hgeH56 ⊢
            generalize (w52).alloc (.cells zh 28) = w56 at hH56 kbH56 ⊢
            clear hgg56
            refine hK.out _ _ hH56 (fun _ => ?_)
            try simp only [Act.put, Sa, Sb, Sc]
            refine RD 14 rfl (fun K hK => ?_)
            try rw [if_pos (by rfl)]
            go_simp
            go_at_call 12
            refine (hmade _ hH56).mono ?_
            rintro e57 w57 ⟨rfl, hc57⟩
            dsimp only
            have hH57 := hH56.trans hc57 (by simp)
            have kbH57 := kbH56.chg hc57 (by simp)
            refine hK.out _ _ hH57 (fun _ => ?_)
            try simp only [Act.put, Sa, Sb, Sc, Sd, Se, Sf]
            refine RD 16 rfl (fun K hK => ?_)
            rw [if_pos (by rfl)]
            refine op_store 28 (.tmp 14) (.tmp 60) (by kernel_rfl) (by kernel_rfl) rfl (cs := ml) rfl kbH57 (by simp [hzsz, hms]) (infoHd3 hms) (by exact hmo) ?_
            intro w58 kbH58 hc58
            have hH58 : Chg [] w9 w58 := hH57.trans hc58 (by simp; omega)
            refine hK.out _ _ hH58 (fun _ => ?_)
            try simp only [Act.put, Sa, Sb, Sc, Sd, Se, Sf]
            refine wpAnyH_done (by kernel_rfl) ?_ _
            go_wp2_with fail
            go_meet
            exact ⟨gH56, rfl, kbH58, by omega, hH58⟩
        · rw [if_pos (by rfl)]
          refine op_alloc 28 14 (by kernel_rfl) (by kernel_rfl) hzH' ?_
          have kbH59 := Blk.new (wd51) zh 28
          have hH59 := hH51.alloc (.cells zh 28)
          have hgeH59 := hH51.size
          obtain ⟨gH59, hgg59⟩ : ∃ g, g = (wd51).heap.size := ⟨_, rfl⟩
          rw [← hgg59] at kbH59 hgeH59 ⊢
          generalize (wd51).alloc (.cells zh 28) = w59 at hH59 kbH59 ⊢
          clear hgg59
          refine hK.out _ _ hH59 (fun _ => ?_)
          try simp only [Act.put, Sa, Sb, Sc]
          refine RD 1 rfl (fun K hK => ?_)
          try rw [if_pos (by rfl)]
          go_simp
          go_at_call 22
          refine (htree _ hH59).mono ?_
          rintro e60 w60 ⟨rfl, hc60⟩
          dsimp only
          have hH60 := hH59.trans hc60 (by simp)
          have kbH60 := kbH59.chg hc60 (by simp)
          refine hK.out _ _ hH60 (fun _ => ?_)
          try simp only [Act.put, Sa, Sb, Sc, Sd, Se, Sf]
          refine RD 14 rfl (fun K hK => ?_)
          try rw [if_pos (by rfl)]
          go_simp
          go_at_call 12
          refine (hmade _ hH60).mono ?_
          rintro e61 w61 ⟨rfl, hc61⟩
          dsimp only
          have hH61 := hH60.trans hc61 (by simp)
          have kbH61 := kbH60.chg hc61 (by simp)
          refine hK.out _ _ hH61 (fun _ => ?_)
          try simp only [Act.put, Sa, Sb, Sc, Sd, Se, Sf]
          refine RD 16 rfl (fun K hK => ?_)
          rw [if_pos (by rfl)]
          refine op_store 28 (.tmp 14) (.tmp 60) (by kernel_rfl) (by kernel_rfl) rfl (cs := ml) rfl kbH61 (by simp [hzsz, hms]) (infoHd3 hms) (by exact hmo) ?_
          intro w62 kbH62 hc62
          have hH62 : Chg [] w9 w62 := hH61.trans hc62 (by simp; omega)
          refine hK.out _ _ hH62 (fun _ => ?_)
          try simp only [Act.put, Sa, Sb, Sc, Sd, Se, Sf]
          refine wpAnyH_done (by kernel_rfl) ?_ _
          go_wp2_with fail
          go_meet
          exact ⟨gH59, rfl, kbH62, by omega, hH62⟩
      case rest =>
        obtain ⟨gH, rfl, bH, hgH, k10⟩ := hcut
        have hTr10 := hTr9.chg0 k10
        have hRel10 : RelAt wc rb y T d := ⟨hRel9.blk.chg k10 (by simp), hRel9.t.chg I.ok k10⟩
        have k010 := k9.trans k10 (by simp)
        have hgT9 := bT.lt
        have hHs : ml.toArray.size = 68 := by simpa using hms
        have ldM := load_blkC bH 68 hHs
        have hs10 := k10.size
        have kW10 := kW9.trans k10 (by simp)
        have hwr10 := kW10.size
        clear hTr9 hRel9 bT bS hmade htree k9 k10 hcT kW9
        generalize wc = w10 at *
        have hcells : ∀ (j : Nat) u, ml[j]? = some u → (w10.alloc (.cells ml.toArray 28)).cell? ((⟨w10.heap.size, 0, none⟩ : Addr).add j) = some u := fun j u hj => by
          rw [addr_ad, Nat.zero_add]; exact (Blk.new w10 ml.toArray 28).cell j (by simpa using hj)
        have hLn : (L.map Hd.l).length = ln := by rw [List.length_map, hln'.out]
        have hLn' := Lib.hid hLn
        have h010 := k010.size
        have hrow10 := hTr10.row
        have hrl := hTr10.len
        rw [hLn] at hrow10
        clear hLn hTr10
        obtain ⟨fl, hfl⟩ : ∃ fl, fl = (L.map Hd.l).flatten := ⟨_, rfl⟩
        rw [← hfl] at hrow10
        have hfl' := Lib.hid hfl
        clear hfl
        obtain ⟨hgT1, hgT2⟩ := hown gT rfl
        have hneH : gH ≠ gT := by omega
        go_wp2_with (at_builtin; go_loud (refine wpList_append_own_at _ rfl _ _ 44 rfl w.heap.size 28 iH (.agg hd0.cs) 68 80 Tryz.underlying44 hiH hz0 hz1 hz2 rfl (by decide) _ _ _ rfl (hrow10.alloc _) ⟨w10.heap.size, 0, none⟩ 1 1 ml rfl (by omega) hcells hmo (by unfold maxLen; omega) (by omega) (by simp; omega) ?_); intro v' w11 hown' hgrow hnil' hloc; obtain ⟨g', cap', rfl⟩ := ownsRow_succ hown'; have k11 : Chg [gT] w10 w11 := ((Chg.refl _ _).alloc _).grown hgrow (fun k e => .inl (by cases e; simp)); have bH11 := bH.chg k11 (by simpa using hneH); have ld11 := load_blkC bH11 68 hHs; have hg' : g' = gT ∨ g' = w10.heap.size + 1 := hloc.elim (fun h => .inl (Option.some.inj (show some g' = some gT from h))) (fun h => .inr (by have h2 : some g' = some _ := h; simpa using h2)); clear ldM hloc hnil' hgrow)
        have hg2 : g' ≠ rb ∧ g' ∉ y.all := by
          rcases hg' with rfl | rfl
          · exact ⟨hgT1, hgT2⟩
          · have h1 := hRel10.blk.lt
            have h2 := TreeAt.all_lt hRel10.t
            exact ⟨by omega, fun h => by have := h2 _ h; omega⟩
        have hLn2 : ((L ++ [m]).map Hd.l).length = ln + 1 := by simp [hln'.out]
        have hfl2 : ((L ++ [m]).map Hd.l).flatten = fl ++ ml := by rw [hfl'.out, hml'.out]; simp
        have hLo2 : ∀ h ∈ L ++ [m], HdOk h := fun h hh => by
          rcases List.mem_append.1 hh with h1 | h1
          · exact hLo h h1
          · rw [List.mem_singleton.1 h1]; exact mok
        have hT11 : TrS w.heap.size w11 (.slice (some ⟨g', 0, none⟩) (ln + 1) cap') (L ++ [m]) := ⟨by rw [hLn2, hfl2]; exact hown', fun u hu => by
          obtain ⟨h, hh, rfl⟩ := List.mem_map.1 hu
          exact Hd.ls (hLo2 h hh)⟩
        have hRel11 : RelAt w11 rb y T d := ⟨hRel10.blk.chg k11 (by simpa using hgT1.symm), hRel10.t.chgS (fun b hb => by simp; rintro rfl; exact hgT2 hb) k11⟩
        have k011 := k010.trans k11 (by simp; omega)
        have kW11 : Chg [gT] wr w11 := (kW10.mono (by simp)).trans k11 (fun t ht => .inl ht)
        have hLl2 : (L ++ [m]).length = i + 1 + 1 := by rw [List.length_append, ← hln'.out, hLl'.out]; rfl
        have hg11 : g' < w11.heap.size := hT11.lt rfl
        clear hown' hLn2 hfl2 hRel10 k010 k11 hcells hrow10 hrl bH hbs
        refine (hbytes _).mono ?_
        rintro e w12 ⟨v80, rfl, hrow80, k12⟩
        rw [← hdB_len mok] at hrow80
        obtain ⟨gB, capB, rfl, hgB, hgBl, hBt, hcapB⟩ := bytesAt_row hrow80 (by rw [hdB_len mok]; omega) (hdB_lt mok)
        rw [hdB_len mok] at hcapB ⊢
        dsimp only
        have hT12 := hT11.chg0 k12
        have hRel12 : RelAt w12 rb y T d := ⟨hRel11.blk.chg k12 (by simp), hRel11.t.chg I.ok k12⟩
        have k012 := k011.trans k12 (by simp)
        have kW12 := kW11.trans k12 (by simp)
        have hwr12 := kW12.size
        have hs12 := k12.size
        have hs012 := k012.size
        have hsub := relay_Submit rb gB 0 capB d y T I m mok w12 hRel12 hry hBt hgBl
        clear hrow80 hBt hT11 hRel11 k011 k12 ld11 bH11 hbytes
        go_wp2_with fail
        refine hsub.mono ?_
        rintro e w13 ⟨rfl, y', hyb2, hRel13, hry', hya, k13⟩
        dsimp only
        have hT13 := hT12.chg k13 (fun b hb e => by
          cases e
          rcases List.mem_cons.1 hb with h | h
          · exact hg2.1 h
          · exact hg2.2 h)
        have k013 := k012.trans k13 (fun b hb => by
          rcases List.mem_cons.1 hb with h | h
          · exact .inr (by omega)
          · exact .inr (hly _ h))
        have kW13 : Chg (gT :: rb :: y.all) wr w13 := (kW12.mono (fun t ht => .inl (by rw [List.mem_singleton.1 ht]; simp))).trans k13 (fun t ht => .inl (by simp at ht ⊢; exact .inr ht))
        have hly' : ∀ b ∈ y'.all, w.heap.size ≤ b := fun b hb => (hya b hb).elim (fun h => hly b h) (fun h => by omega)
        have hg13 : ∀ b, (Value.slice (some ⟨g', 0, none⟩) (ln + 1) cap').ownBlock = some b → b ≠ rb ∧ b ∉ y'.all := fun b hb => by
          cases hb
          exact ⟨hg2.1, fun h => (hya _ h).elim hg2.2 (fun h => by have h9 : w12.heap.size ≤ g' := h; omega)⟩
        have I13 : TrInv (T.add m).2 := I.add mok
        obtain ⟨T2, hT2⟩ : ∃ T2, T2 = (T.add m).2 := ⟨_, rfl⟩
        obtain ⟨d2, hd2⟩ : ∃ d2, d2 = T.deep m d := ⟨_, rfl⟩
        rw [← hT2] at I13 hRel13
        rw [← hd2] at hRel13
        generalize (T.told m).toArray = tl
        generalize (T.add m).1 = ae
        have hT2' := Lib.hid hT2
        have hd2' := Lib.hid hd2
        clear hT2 hd2 hsub hT12 hRel12 k012 hyb2 k13
        obtain ⟨L2, hL2⟩ : ∃ L2, L2 = L ++ [m] := ⟨_, rfl⟩
        rw [← hL2] at hT13 hLo2 hLl2
        clear hL2
        have hLl2' := Lib.hid hLl2
        clear hLl2
        have bR13 : Blk w13 gR cr 30 := bRr'.out.chg kW13 (fun h => by
          obtain ⟨q1, q2, q3⟩ := hownR'.out
          rcases List.mem_cons.1 h with h | h
          · exact q3 (by rw [h]; rfl)
          · rcases List.mem_cons.1 h with h | h
            · exact q1 h
            · exact q2 h)
        have hQ13 : HsS w.heap.size w13 sv Q := hQ'.out.chg kW13 (fun b hb e => by
          obtain ⟨q1, q2, q3, q4⟩ := hownS'.out b e
          rcases List.mem_cons.1 hb with h | h
          · exact q3 (by rw [h]; rfl)
          · rcases List.mem_cons.1 h with h | h
            · exact q1 h
            · exact q2 h)
        have hwr13 := kW13.size
        have hsvl : ∀ b, sv.ownBlock = some b → b < wr.heap.size := fun b hb => hQ'.out.lt hb
        obtain ⟨D2, hD2⟩ : ∃ D : Int, D = (d2 : Int) := ⟨_, rfl⟩
        have hdeep : ∀ w', Chg [] w13 w' → Calls Tryz.prog 29 #[.pointer (some ⟨rb, 0, none⟩)] w' fun e w'' => e = .returned (.int .i64 D2) ∧ Chg [] w' w'' := fun w' k => by
          rw [hD2]; exact relay_Deepest rb y' T2 I13.ok.r d2 w' ⟨hRel13.blk.chg k (by simp), hRel13.t.chg I13.ok k⟩
        have hD2' := Lib.hid hD2
        clear hD2 kW13
        go_wp2_with fail
        go_cut [73] (fun s73 wx => s73 = .bool (decide (cf ≤ D2)) ∧ Chg [] w13 wx)
        case first =>
          refine wp_region_held_drew (S := fun w' => Chg [] w13 w') (by kernel_rfl) ((Chg.refl _ _).drew) (fun hH81 => ?_)
          obtain ⟨wd81, hwd81⟩ : ∃ wd, wd = (w13).drew := ⟨_, rfl⟩
          rw [← hwd81] at hH81 ⊢
          clear hwd81
          refine TK 0 (.pointer (some ⟨rb, 0, none⟩)) rfl hH81 (fun w' hw' => ?_) ?_
          · go_simp
          try simp only [Act.put, Sa, Sb, Sc, Sd, Sf]
          refine TK 2 (.pointer (some ⟨gR, 3, none⟩)) rfl hH81 (fun w' hw' => ?_) ?_
          · go_simp
          try simp only [Act.put, Sa, Sb, Sc, Sd, Se, Sf]
          refine TK 3 (.int .i64 cf) rfl hH81 (fun w' hw' => ?_) ?_
          · (have k9 := bR13.chg hw' (by simp); have c0 := k9.cell 3 hcf3; go_simp)
          try simp only [Act.put, Sa, Sb, Sc, Sd, Se, Sf]
          refine RD 1 rfl (fun K hK => ?_)
          try rw [if_pos (by rfl)]
          go_simp
          go_at_call 29
          refine (hdeep _ hH81).mono ?_
          rintro e82 w82 ⟨rfl, hc82⟩
          dsimp only
          have hH82 := hH81.trans hc82 (by simp)
          refine hK.out _ _ hH82 (fun _ => ?_)
          try simp only [Act.put, Sa, Sb, Sc, Sd, Se, Sf]
          refine TK 4 (.bool (decide (cf ≤ D2))) rfl hH82 (fun w' hw' => ?_) ?_
          · go_simp
          try simp only [Act.put, Sa, Sb, Sc, Sd, Se, Sf]
          refine wpAnyH_done (by kernel_rfl) ?_ _
          go_wp2_with fail
          go_meet
          exact ⟨rfl, hH82⟩
        case rest =>
          obtain ⟨rfl, k14⟩ := hcut
          have k014 := k013.trans k14 (by simp)
          by_cases hge : cf ≤ D2
          · rw [decide_eq_true hge]
            clear hge
            go_wp2
            go_ret
            exact ⟨rfl, k014⟩
          rw [decide_eq_false hge]
          have hlt2 : ((T.deep m d : Nat) : Int) < r.cf := by
            rw [← hd2'.out, ← hD2'.out, ← hcfe'.out]; omega
          have S2 : StInv r T2 (i + 1) d2 Q := by
            rw [hT2'.out, hd2'.out]
            exact St.step hev (by omega) mok hlt2
          have hQ14 := hQ13.chg0 k14
          have hT14 := hT13.chg0 k14
          have bR14 := bR13.chg k14 (by simp)
          have hRel14 : RelAt wc rb y' T2 d2 := ⟨hRel13.blk.chg k14 (by simp), hRel13.t.chg I13.ok k14⟩
          have hown2 : ∀ b, sv.ownBlock = some b → b ≠ rb ∧ b ∉ y'.all ∧ g' ≠ b ∧ b ≠ gR := fun b hb => by
            obtain ⟨q1, q2, q3, q4⟩ := hownS'.out b hb
            have hbl := hsvl b hb
            refine ⟨q1, fun h => (hya b h).elim q2 (fun h => by omega), fun e => ?_, q4⟩
            subst e
            rcases hg' with h | h
            · exact q3 (by rw [h]; rfl)
            · omega
          have hownR2 : gR ≠ rb ∧ gR ∉ y'.all ∧ g' ≠ gR := by
            obtain ⟨q1, q2, q3⟩ := hownR'.out
            have hbl := bRr'.out.lt
            refine ⟨q1, fun h => (hya gR h).elim q2 (fun h => by omega), fun e => ?_⟩
            subst e
            rcases hg' with h | h
            · exact q3 (by rw [h]; rfl)
            · omega
          have I2 := S2.I
          have hCl : T2.line.length ≤ 50 := by
            obtain ⟨pl, hpl, hplh⟩ := I2.ok.best
            have h1 := I2.hts pl (List.mem_of_getElem? hpl)
            have h2 := S2.len
            have h3 := I2.ok.ch0
            rw [T2.line_len]; omega
          have hCo2 : ∀ x ∈ T2.line, HK x := fun x hx => Tr.line_ok hx
          have hline := law13_line y' T2 I2.ok
          have hzK := zeroHash
          obtain ⟨sa, scap, rfl⟩ := hQ14.len'
          rw [List.length_map] at hQ14 hown2 hsvl ⊢
          have hQ16 : Q.length ≤ 2000 := by have := hQl'.out; omega
          have hCq : ∀ x ∈ Q, HK x := fun x hx => (S2.sq x hx).1
          have hcq : ∀ (k : Nat) (h : k < Q.length), T2.conf Q[k] = 0 := fun k h => (S2.sq _ (List.getElem_mem h)).2
          have hs14 := k14.size
          have hs13 : wr.heap.size ≤ wc.heap.size := by omega
          have hsvl2 : ∀ b, (Value.slice sa Q.length scap).ownBlock = some b → b < wc.heap.size := fun b hb => by have := hsvl b hb; omega
          have hlyZ := hly'
          clear hQ13 hT13 bR13 hRel13 k013 k14 hdeep hown hownS' hownR' bRr' hQ' hly hry hsvl hs13 hya hg' hg2 hgT1 hgT2 hneH
          generalize T2.line = C at *
          obtain ⟨w14, rfl⟩ : ∃ w14, w14 = wc := ⟨_, rfl⟩
          go_wp2_with fail
          go_loopw [76] (fun s76 wq => ∃ k : Nat, k ≤ Q.length ∧ s76 = .int .i64 k ∧ Chg [] w14 wq) (fun s76 _ => Q.length - (intOf s76).toNat)
          case atStart => exact ⟨0, Nat.zero_le _, rfl, Chg.refl _ _⟩
          case round =>
            obtain ⟨k, hk, rfl, kq⟩ := hrel
            obtain ⟨wq, rfl⟩ : ∃ wq, wq = wr := ⟨_, rfl⟩
            have hHq : RowS w.heap.size 26 32 wq (.slice sa Q.length scap) (Q.map bytesV) := hQ14.chg0 kq
            have hRelq : RelAt wq rb y' T2 d2 := ⟨hRel14.blk.chg kq (by simp), hRel14.t.chg I2.ok kq⟩
            have hTq := hT14.chg0 kq
            have bRq := bR14.chg kq (by simp)
            have k0q := k014.trans kq (by simp)
            have hsq := kq.size
            clear hRel14 hT14 k014 hQ14 bR14
            by_cases hltk : k < Q.length
            · obtain ⟨gC, rfl, hgC, hldC⟩ := hHq.load (i := k) (by simpa using hltk)
              rw [List.getElem_map] at hldC
              have ck : HK Q[k] := hCq _ (List.getElem_mem hltk)
              have hes : (bytesV Q[k]).toArray.size = 32 := by simp [bytesV_len, ck.1]
              have hst := run_storeCells_new (P := Tryz.prog) wq 26 z32 (bytesV Q[k]).toArray (by rw [hes]; exact infoHash) (by rw [hes]; rfl) (bytesV_all _)
              have ka : Chg [] wq (wq.alloc (.cells (bytesV Q[k]).toArray 26)) := (Chg.refl _ _).alloc _
              have hcon := relay_Confirmed rb y' T2 I2 d2 Q[k] ck (wq.alloc (.cells (bytesV Q[k]).toArray 26)) ⟨hRelq.blk.chg ka (by simp), hRelq.t.chg I2.ok ka⟩
              rw [hcq k hltk] at hcon
              unfold hv at hcon
              have bE := Blk.new wq (bytesV Q[k]).toArray 26
              have hlE := load_blkC bE 32 hes
              have kqa := kq.trans ka (by simp)
              clear hCo2 hCq hcq ka hHq hTq k0q hRelq kq bRq hown2 hsvl2 hline
              generalize (bytesV Q[k]).toArray = kc at *
              go_upto_region 19 with fail
              clear hst hldC
              generalize wq.alloc (.cells kc 26) = wa at *
              generalize wq.heap.size = ga at *
              go_wp2_with fail
              refine hcon.mono ?_
              rintro e wb ⟨rfl, kb⟩
              dsimp only
              have kqb := kqa.trans kb (by simp)
              clear hcon kb kqa hlE bE
              go_wp2
              go_roundw
              case rel => exact ⟨k + 1, by omega, by simp, kqb⟩
              case measure => simp [intOf]; omega
            · obtain rfl : k = Q.length := by omega
              clear hcq hCq
              go_wp2_with fail
              refine (relay_Tree rb y' T2 I2.ok.r d2 wq hRelq).mono ?_
              rintro e w15 ⟨rfl, k15⟩
              dsimp only
              have hRel15 : RelAt w15 rb y' T2 d2 := ⟨hRelq.blk.chg k15 (by simp), hRelq.t.chg I2.ok k15⟩
              have hs15 := k15.size
              go_wp2_with fail
              refine (hline w15 hRel15.t).mono ?_
              rintro e w16 ⟨cv, rfl, hH16, k16⟩
              obtain ⟨ca, ccap, rfl⟩ := hH16.len'
              rw [List.length_map] at hH16 ⊢
              dsimp only
              have k1516 := k15.trans k16 (by simp)
              have hRel16 : RelAt w16 rb y' T2 d2 := ⟨hRel15.blk.chg k16 (by simp), hRel15.t.chg I2.ok k16⟩
              have hT16 := hTq.chg0 k1516
              have hQ16 : HsS w.heap.size w16 (.slice sa Q.length scap) Q := hHq.chg0 k1516
              have bR16 := bRq.chg k1516 (by simp)
              have k016 := k0q.trans k1516 (by simp)
              have hown3 : ∀ b, (Value.slice sa Q.length scap).ownBlock = some b → b ≠ rb ∧ b ∉ y'.all ∧ g' ≠ b ∧ b ≠ gR ∧ (Value.slice ca C.length ccap).ownBlock ≠ some b := fun b hb => by
                obtain ⟨q1, q2, q3, q4⟩ := hown2 b hb
                refine ⟨q1, q2, q3, q4, fun e => ?_⟩
                have h1 := hH16.own e
                have h2 := hsvl2 b hb
                omega
              have hown4 : ∀ b, (Value.slice ca C.length ccap).ownBlock = some b → b < w16.heap.size := fun b hb => hH16.lt hb
              clear hRelq hRel15 hTq hHq bRq k0q k15 k16 k1516 hown2 hsvl2 hline kq
              go_wp2_with fail
              go_loopw [11, 89] (fun s11 s89 wp => ∃ (sv2 : Value) (Q2 : List (List Nat)) (k : Nat), sv2 = s11 ∧ k ≤ C.length ∧ s89 = .int .i64 k ∧ HsS w.heap.size wp sv2 Q2 ∧ Q2.length ≤ Q.length + k ∧ StInv r T2 (i + 1) d2 Q2 ∧ RelAt wp rb y' T2 d2 ∧ TrS w.heap.size wp (.slice (some ⟨g', 0, none⟩) (ln + 1) cap') L2 ∧ Blk wp gR cr 30 ∧ HsS w15.heap.size wp (.slice ca C.length ccap) C ∧
                (∀ b, sv2.ownBlock = some b → b ≠ rb ∧ b ∉ y'.all ∧ g' ≠ b ∧ b ≠ gR ∧ (Value.slice ca C.length ccap).ownBlock ≠ some b) ∧ w16.heap.size ≤ wp.heap.size ∧ Chg [] w wp) (fun _ s89 _ => C.length - (intOf s89).toNat)
              case atStart => exact ⟨_, Q, 0, rfl, Nat.zero_le _, rfl, hQ16, Nat.le_refl _, S2, hRel16, hT16, bR16, hH16, hown3, Nat.le_refl _, k016⟩
              case round =>
                obtain ⟨sv2, Q2, k, rfl, hk3, rfl, hQp, hQ2l, Sp, hRelp, hTp, bRp, hHp, hownp, hsp16, k0p⟩ := hrel
                obtain ⟨wp, rfl⟩ : ∃ wp, wp = wr := ⟨_, rfl⟩
                clear hRel16 hT16 hQ16 bR16 k016 hown3 hH16
                have hQ2l' := Lib.hid hQ2l
                have hQl2 := hQl'.out
                have hQl3 := Lib.hid hQl2
                clear hQ2l hQl2
                by_cases hlt3 : k < C.length
                · obtain ⟨gC, rfl, hgC, hldC⟩ := hHp.load (i := k) (by simpa using hlt3)
                  rw [List.getElem_map] at hldC
                  have ck : HK C[k] := hCo2 _ (List.getElem_mem hlt3)
                  obtain ⟨hx, hxe⟩ : ∃ z, z = C[k] := ⟨_, rfl⟩
                  rw [← hxe] at hldC ck
                  clear hxe
                  have hes : (bytesV hx).toArray.size = 32 := by simp [bytesV_len, ck.1]
                  have hes2 : (bytesV hx).length = 32 := by simpa using hes
                  have hxo := bytesV_one hx
                  have hst := run_storeCells_new (P := Tryz.prog) wp 26 z32 (bytesV hx).toArray (by rw [hes]; exact infoHash) (by rw [hes]; rfl) (bytesV_all _)
                  have ka : Chg [] wp (wp.alloc (.cells (bytesV hx).toArray 26)) := (Chg.refl _ _).alloc _
                  have hcon := relay_Confirmed rb y' T2 I2 d2 hx ck
                  unfold hv at hcon
                  obtain ⟨cx, hcx⟩ : ∃ z, z = T2.conf hx := ⟨_, rfl⟩
                  rw [← hcx] at hcon
                  have hcx' := Lib.hid hcx
                  clear hcx
                  have bE := Blk.new wp (bytesV hx).toArray 26
                  have hlE := load_blkC bE 32 hes
                  have hin := fun w0 hh => law13_in w.heap.size sv2 Q2 (fun x hx => (Sp.sq x hx).1) hx ck w0 hh (by have := hQ2l'.out; have := hQl3.out; omega)
                  unfold hv at hin
                  have hbs := run_build_hash (bytesV hx).toArray hes
                  obtain ⟨kc, hkc⟩ : ∃ z, z = bytesV hx := ⟨_, rfl⟩
                  rw [← hkc] at hldC hes hes2 hxo hst ka bE hlE hbs
                  simp only [← hkc] at hcon hin
                  have hkc' := Lib.hid hkc
                  clear hkc
                  have hQa : HsS w.heap.size _ sv2 Q2 := hQp.chg0 ka
                  have hTa := hTp.chg0 ka
                  have hHa : HsS w15.heap.size _ (.slice (some ⟨gC, 0, none⟩) C.length ccap) C := hHp.chg0 ka
                  have bRa := bRp.chg ka (by simp)
                  have hRela : RelAt _ rb y' T2 d2 := ⟨hRelp.blk.chg ka (by simp), hRelp.t.chg I2.ok ka⟩
                  have k0a := k0p.trans ka (by simp)
                  have hsa := ka.size
                  have hsz16 : w16.heap.size ≤ (wp.alloc (.cells kc.toArray 26)).heap.size := by omega
                  clear hQp hTp hHp bRp hRelp
                  go_upto_region 25 with fail
                  clear hst hldC ka hsa
                  obtain ⟨gX, hgX⟩ : ∃ g, g = wp.heap.size := ⟨_, rfl⟩
                  rw [← hgX] at bE hlE ⊢
                  clear hgX
                  generalize wp.alloc (.cells kc.toArray 26) = wa at *
                  go_wp2_with fail
                  refine (hcon wa hRela).mono ?_
                  rintro e wb ⟨rfl, kb⟩
                  dsimp only
                  have hQb : HsS w.heap.size wb sv2 Q2 := hQa.chg0 kb
                  have hTb := hTa.chg0 kb
                  have hHb : HsS w15.heap.size wb (.slice (some ⟨gC, 0, none⟩) C.length ccap) C := hHa.chg0 kb
                  have bRb := bRa.chg kb (by simp)
                  have bEb := bE.chg kb (by simp)
                  have hlEb := load_blkC bEb 32 hes
                  have hRelb : RelAt wb rb y' T2 d2 := ⟨hRela.blk.chg kb (by simp), hRela.t.chg I2.ok kb⟩
                  have k0b := k0a.trans kb (by simp)
                  have hszb : w16.heap.size ≤ wb.heap.size := Nat.le_trans hsz16 kb.size
                  clear hQa hTa hHa bRa bE hlE hRela k0a kb hcon hsz16 k0p hsp16
                  by_cases hc0 : cx = 0
                  · subst hc0
                    go_wp2_with fail
                    refine (hin wb hQb).mono ?_
                    rintro e wd ⟨rfl, kd⟩
                    have hQd : HsS w.heap.size wd sv2 Q2 := hQb.chg0 kd
                    have hTd := hTb.chg0 kd
                    have hHd : HsS w15.heap.size wd (.slice (some ⟨gC, 0, none⟩) C.length ccap) C := hHb.chg0 kd
                    have bRd := bRb.chg kd (by simp)
                    have bEd := bEb.chg kd (by simp)
                    have hlEd := load_blkC bEd 32 hes
                    have hReld : RelAt wd rb y' T2 d2 := ⟨hRelb.blk.chg kd (by simp), hRelb.t.chg I2.ok kd⟩
                    have k0d := k0b.trans kd (by simp)
                    have hszd : w16.heap.size ≤ wd.heap.size := Nat.le_trans hszb kd.size
                    clear hQb hTb hHb bRb bEb hlEb hRelb k0b kd hin hszb
                    by_cases hmem : hx ∈ Q2
                    · rw [decide_eq_true hmem]
                      dsimp only
                      clear hmem
                      go_wp2
                      go_roundw
                      case rel => exact ⟨_, Q2, k + 1, rfl, by omega, by simp, hQd, by have := hQ2l'.out; omega, Sp, hReld, hTd, bRd, hHd, hownp, hszd, k0d⟩
                      case measure => simp [intOf]; omega
                    · rw [decide_eq_false hmem]
                      dsimp only
                      clear hmem
                      have Sp2 : StInv r T2 (i + 1) d2 (Q2 ++ [hx]) := Sp.more ck hcx'.out.symm
                      obtain ⟨s2a, s2cap, rfl⟩ := hQd.len'
                      rw [List.length_map] at hQd hownp ⊢
                      have hrow := hQd.row
                      have hrlen := hQd.len
                      have hqo : ∀ b, (Value.slice s2a Q2.length s2cap).ownBlock = some b → b < wd.heap.size := fun b hb => hQd.lt hb
                      rw [List.length_map] at hrow
                      obtain ⟨fq, hfq⟩ : ∃ z, z = (Q2.map bytesV).flatten := ⟨_, rfl⟩
                      rw [← hfq] at hrow
                      have hfq' := Lib.hid hfq
                      clear hfq
                      have hcellk : ∀ (j : Nat) u, kc[j]? = some u → (wd.alloc (.cells kc.toArray 26)).cell? ((⟨wd.heap.size, 0, none⟩ : Addr).add j) = some u := fun j u hj => by
                        rw [addr_ad, Nat.zero_add]; exact (Blk.new wd kc.toArray 26).cell j (by simpa using hj)
                      have hml2 : Q2.length + 1 ≤ maxLen := by have := hQ2l'.out; have := hQl3.out; unfold maxLen; omega
                      have hml3 : (Q2.length + 1) * 32 ≤ 140737488355328 := by have := hQ2l'.out; have := hQl3.out; omega
                      have h0wd := k0d.size
                      obtain ⟨q2, hq2⟩ : ∃ z, z = Q2.length := ⟨_, rfl⟩
                      rw [← hq2] at hrow hml2 hml3 hownp hqo hQd ⊢
                      have hq2' := Lib.hid hq2
                      clear hq2
                      go_wp2_with (at_builtin; go_loud (refine wpList_append_own_at _ rfl _ _ 71 rfl w.heap.size 26 iK (.agg z32) 32 32 Tryz.underlying71 hiK hy0 hy1 hy2 rfl (by decide) _ _ _ rfl (hrow.alloc _) ⟨wd.heap.size, 0, none⟩ 1 1 kc rfl (by omega) hcellk hxo hml2 (by omega) (by simp; omega) ?_); intro v3 w19 hown9 hgrow9 hnil9 hloc9; obtain ⟨g3, cap3, rfl⟩ := ownsRow_succ hown9; have k19 : Chg (Value.slice s2a q2 s2cap).ownBlock.toList wd w19 := ((Chg.refl _ _).alloc _).grown hgrow9 (fun k e => .inl (by have e2 : (Value.slice s2a q2 s2cap).ownBlock = some k := e; simp [e2])); have hg3 : (Value.slice s2a q2 s2cap).ownBlock = some g3 ∨ g3 = wd.heap.size + 1 := hloc9.elim (fun h => .inl (show (Value.slice s2a q2 s2cap).ownBlock = some g3 from (show some g3 = _ from h).symm)) (fun h => .inr (by have h2 : some g3 = some _ := h; simpa using h2)); clear hloc9 hnil9 hgrow9)
                      have hS : ∀ b, b ∈ (Value.slice s2a q2 s2cap).ownBlock.toList → b ≠ rb ∧ b ∉ y'.all ∧ g' ≠ b ∧ b ≠ gR ∧ gC ≠ b := fun b hb => by
                        obtain ⟨q1, q3, q4, q5, q6⟩ := hownp b (by simpa using hb)
                        exact ⟨q1, q3, q4, q5, fun e => q6 (by rw [e]; rfl)⟩
                      have hlen2 : ((Q2 ++ [hx]).map bytesV).length = q2 + 1 := by simp [hq2'.out]
                      have hfl2 : ((Q2 ++ [hx]).map bytesV).flatten = fq ++ kc := by rw [hfq'.out, hkc'.out]; simp
                      have hQ9 : HsS w.heap.size w19 (.slice (some ⟨g3, 0, none⟩) (q2 + 1) cap3) (Q2 ++ [hx]) := ⟨by rw [hlen2, hfl2]; exact hown9, fun u hu => by
                        obtain ⟨z, hz, rfl⟩ := List.mem_map.1 hu
                        rw [bytesV_len]; exact (Sp2.sq z hz).1.1⟩
                      have hT9 := hTd.chg k19 (fun b hb e => by cases e; exact (hS _ hb).2.2.1 rfl)
                      have hH9 : HsS w15.heap.size w19 (.slice (some ⟨gC, 0, none⟩) C.length ccap) C := hHd.chg k19 (fun b hb e => by cases e; exact (hS _ hb).2.2.2.2 rfl)
                      have bR9 := bRd.chg k19 (fun h => (hS _ h).2.2.2.1 rfl)
                      have hRel9 : RelAt w19 rb y' T2 d2 := ⟨hReld.blk.chg k19 (fun h => (hS _ h).1 rfl), hReld.t.chgS (fun b hb h => (hS _ h).2.1 hb) k19⟩
                      have k09 := k0d.trans k19 (fun b hb => .inr (hQd.own (by simpa using hb)))
                      have hs19 := k19.size
                      have hgCl : gC < w16.heap.size := hown4 gC rfl
                      have hg'l : g' < wd.heap.size := hTd.lt rfl
                      have hgRl2 : gR < wd.heap.size := bRd.lt
                      have hrbl : rb < wd.heap.size := hReld.blk.lt
                      have hyl := TreeAt.all_lt hReld.t
                      have hown9' : ∀ b, (Value.slice (some ⟨g3, 0, none⟩) (q2 + 1) cap3).ownBlock = some b → b ≠ rb ∧ b ∉ y'.all ∧ g' ≠ b ∧ b ≠ gR ∧ (Value.slice (some ⟨gC, 0, none⟩) C.length ccap).ownBlock ≠ some b := fun b hb => by
                        have hb2 : g3 = b := Option.some.inj hb
                        subst hb2
                        rcases hg3 with h | h
                        · exact hownp _ h
                        · refine ⟨by omega, fun hm => by have := hyl _ hm; omega, by omega, by omega, fun e => ?_⟩
                          have : gC = g3 := Option.some.inj e
                          omega
                      have hsz9 : w16.heap.size ≤ w19.heap.size := by omega
                      have hQn : (Q2 ++ [hx]).length ≤ Q.length + (k + 1) := by have := hQ2l'.out; simp; omega
                      clear hown9 hrow hrlen hqo hcellk hQd hTd hHd bRd bEd hlEd hReld k0d hszd hownp hS k19 hg3 hlen2 hfl2 hbs hs19
                      go_wp2
                      go_roundw
                      case rel => exact ⟨_, Q2 ++ [hx], k + 1, rfl, by omega, by simp, hQ9, hQn, Sp2, hRel9, hT9, bR9, hH9, hown9', hsz9, k09⟩
                      case measure => simp [intOf]; omega
                  · have hcb : (cx == 0) = false := by simpa using hc0
                    clear hin
                    go_wp2
                    go_roundw
                    case rel => exact ⟨_, Q2, k + 1, rfl, by omega, by simp, hQb, by have := hQ2l'.out; omega, Sp, hRelb, hTb, bRb, hHb, hownp, hszb, k0b⟩
                    case measure => simp [intOf]; omega
                · obtain rfl : k = C.length := by omega
                  have hQ3 : Q2.length ≤ (i + 1) * 50 := by have := hQ2l'.out; have := hQl3.out; omega
                  have hQ3' := Lib.hid hQ3
                  clear hQ3
                  go_wp2
                  go_roundw
                  case rel => exact ⟨_, _, i + 1, L2, T2, y', d2, Q2, rfl, rfl, by omega, by simp, hLl2'.out, hLo2, hTp, hQp, hQ3'.out, Sp, hRelp, hlyZ, hry', hg13, fun b hb => by
                    obtain ⟨q1, q2, q3, q4, _⟩ := hownp b hb
                    exact ⟨q1, q2, fun e => q3 (Option.some.inj e), q4⟩, ⟨hownR2.1, hownR2.2.1, fun e => hownR2.2.2 (Option.some.inj e)⟩, bRp, k0p⟩
                  case measure => simp [intOf]; omega
    · obtain rfl : i = n := by omega
      go_wp2
      go_ret
      exact ⟨rfl, kr⟩
theorem law13_RelayStays_ (sp cq : Int) (vl : Value) (w : World) (hs : (Lit.int .u32 sp).wf = true) (_ : (Lit.int .i64 cq).wf = true) (hl : ∃ n, n ≤ maxLen ∧ Steps12 w vl n) :
    Calls Tryz.prog 6 #[.int .u32 sp, .int .i64 cq, vl] w fun e w' => e = .returned (.bool true) ∧ Chg [] w w' := by
  obtain ⟨h1, h2⟩ := wf_u32.1 hs
  obtain ⟨k, rfl⟩ : ∃ k : Nat, sp = (k : Int) := ⟨sp.toNat, by omega⟩
  exact law13_RelayStays k (by omega) cq vl w hl
end Go.Proofs.YtmkgbinmilcojaaGreat

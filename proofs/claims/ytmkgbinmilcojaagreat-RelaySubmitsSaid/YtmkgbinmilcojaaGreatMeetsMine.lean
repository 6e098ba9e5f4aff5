import Derived.Test.YtmkgbinmilcojaaGreatFromB
import Derived.Test.YtmkgbinmilcojaaGreatTargetC
import Derived.Test.YtmkgbinmilcojaaGreatRegInv

/- Package target: Meets; header: Check. Printed by meetsgen.py. -/
namespace Go.Proofs.YtmkgbinmilcojaaGreat
open Go.RowKit Go.Maps
attribute [-go_sem] loadCellsFrom

theorem infoW4 : (Tryz.prog.info? 51).map (·.size) = some 4 := by kernel_rfl
set_option maxRecDepth 100000 in
set_option maxHeartbeats 4000000 in
theorem target_MeetsW (hs ts ns : Array Value) (c : Int) (hhs : hs.size = 32) (hts : ts.size = 4)
    (hfb : ∀ w, Calls Tryz.prog 97 #[.agg hs] w fun e w' => e = .returned (.agg ns) ∧ Chg [] w w')
    (hcmp : ∀ w, Calls Tryz.prog 17 #[.agg ns, .agg ts] w fun e w' => e = .returned (.int .i64 c) ∧ Chg [] w w') (w : World) :
    Calls Tryz.prog 68 #[.agg hs, .agg ts] w fun e w' => e = .returned (.bool (decide (c ≤ 0))) ∧ Chg [] w w' := by
  have b2 := (Blk.new w hs 26).alloc (.cells ts 51)
  have b3 := Blk.at (w.alloc (.cells hs 26)) ts 51 (w.heap.size + 1) (by simp)
  have k0 : Chg [] w ((w.alloc (.cells hs 26)).alloc (.cells ts 51)) := ((Chg.refl _ _).alloc _).alloc _
  go_enter Tryz.func68, Tryz.ntmps68
  go_upto_region 1 with fail
  generalize (w.alloc (.cells hs 26)).alloc (.cells ts 51) = W0 at *
  go_cut [4] (fun s4 wx => s4 = .bool (decide (c ≤ 0)) ∧ Chg [] W0 wx)
  case first =>
    refine wp_region_held_drew (S := fun w' => Chg [] W0 w') (by kernel_rfl) ((Chg.refl _ _).drew) (fun hH => ?_)
    refine TK 0 (.agg hs) rfl hH (fun w' hw' => ?_) ?_
    · (have k := b2.chg hw' (by simp); have hl := load_blkC k 32 hhs; go_simp)
    try simp only [Act.put, Sa, Sb, Sc, Sd, Sf]
    refine TK 2 (.agg ts) rfl hH (fun w' hw' => ?_) ?_
    · (have k := b3.chg hw' (by simp); have hl := load_blkC k 4 hts; go_simp)
    try simp only [Act.put, Sa, Sb, Sc, Sd, Se, Sf]
    refine RD 1 rfl (fun K hK => ?_)
    try rw [if_pos (by rfl)]
    go_simp
    go_at_call 97
    refine (hfb _).mono ?_
    rintro e1 w1 ⟨rfl, hc1⟩
    dsimp only
    have hH1 := hH.trans hc1 (by simp)
    refine hK.out _ _ hH1 (fun _ => ?_)
    try simp only [Act.put, Sa, Sb, Sc, Sd, Se, Sf]
    refine RD 3 rfl (fun K hK => ?_)
    try rw [if_pos (by rfl)]
    go_simp
    go_at_call 17
    refine (hcmp _).mono ?_
    rintro e2 w2 ⟨rfl, hc2⟩
    dsimp only
    have hH2 := hH1.trans hc2 (by simp)
    refine hK.out _ _ hH2 (fun _ => ?_)
    try simp only [Act.put, Sa, Sb, Sc, Sd, Se, Sf]
    refine TK 4 (.bool (decide (c ≤ 0))) rfl hH2 (fun w' hw' => ?_) ?_
    · go_simp
    try simp only [Act.put, Sa, Sb, Sc, Sd, Se, Sf]
    refine RD 5 rfl (fun K hK => ?_)
    go_simp
    refine hK.out _ _ hH2 (fun _ => ?_)
    try simp only [Act.put, Sa, Sb, Sc, Sd, Se, Sf]
    refine wpAnyH_done (by kernel_rfl) ?_ _
    go_wp2_with fail
    go_meet
    exact ⟨rfl, hH2⟩
  case rest =>
    obtain ⟨rfl, hc5⟩ := hcut
    go_wp2
    go_ret
    exact ⟨rfl, k0.trans hc5 (by simp)⟩

theorem target_Meets (l : List Nat) (hl : l.length = 32) (hb : ∀ x ∈ l, x < 256) (T : Nat) (hT : T < TOP) (w : World) :
    Calls Tryz.prog 68 #[.agg (bytesV l).toArray, wv T] w fun e w' => e = .returned (.bool (decide (numB l ≤ T))) ∧ Chg [] w w' := by
  have hsz : (bytesV l).toArray.size = 32 := by simp [bytesV, hl]
  have h1 := fun w => wide_FromBytes l hl hb w
  have h2 := fun w => wide_Cmp (numB l) T (numB_top hl hb) hT w
  have e : decide (numB l ≤ T) = decide (cmpN (numB l) T ≤ 0) := by
    unfold cmpN
    by_cases h : numB l ≤ T
    · by_cases h3 : numB l < T
      · simp [h3, h]
      · simp [h3, h, show ¬ T < numB l by omega]
    · simp [h, show ¬ numB l < T by omega, show T < numB l by omega]
  rw [e]
  unfold wv W4 at h1 h2 ⊢
  exact target_MeetsW _ _ _ _ hsz rfl h1 h2 w
def meetsB (h : Hd) (T : Nat) : Bool := decide (numB (hdH h) ≤ T)
def checkE (h : Hd) (limit : Nat) : Int := if decE h.bt ≠ 0 ∨ limit < decT h.bt then 6 else if meetsB h (decT h.bt) then 0 else 7

set_option maxRecDepth 100000 in
set_option maxHeartbeats 4000000 in
theorem header_CheckW (cs ts ls hs : Array Value) (bt e c : Int) (z : Bool) (hcs : cs.size = 68) (hts : ts.size = 4) (hls : ls.size = 4) (e66 : cs[66]? = some (.int .u32 bt)) (ht1 : ts.all (·.oneCell') = true)
    (hdec : ∀ w, Calls Tryz.prog 62 #[.int .u32 bt] w fun e' w' => e' = .returned (.tuple #[.agg ts, .int .i64 e]) ∧ Chg [] w w')
    (hcmp : ∀ w, Calls Tryz.prog 17 #[.agg ts, .agg ls] w fun e' w' => e' = .returned (.int .i64 c) ∧ Chg [] w w')
    (hhash : ∀ w, Calls Tryz.prog 27 #[.agg cs] w fun e' w' => e' = .returned (.agg hs) ∧ Chg [] w w')
    (hmeet : ∀ w, Calls Tryz.prog 68 #[.agg hs, .agg ts] w fun e' w' => e' = .returned (.bool z) ∧ Chg [] w w') (w : World) :
    Calls Tryz.prog 39 #[.agg cs, .agg ls] w fun e' w' => e' = .returned (.int .i64 (if e ≠ 0 ∨ 0 < c then 6 else if z then 0 else 7)) ∧ Chg [] w w' := by
  have b2 := (Blk.new w cs 28).alloc (.cells ls 51)
  have b3 := Blk.at (w.alloc (.cells cs 28)) ls 51 (w.heap.size + 1) (by simp)
  have k0 : Chg [] w ((w.alloc (.cells cs 28)).alloc (.cells ls 51)) := ((Chg.refl _ _).alloc _).alloc _
  have c66 := b2.cell 66 e66
  go_enter Tryz.func39, Tryz.ntmps39
  go_wp2_with fail
  generalize (w.alloc (.cells cs 28)).alloc (.cells ls 51) = W0 at *
  refine (hdec _).mono ?_
  rintro e' w1 ⟨rfl, k1⟩
  dsimp only
  have b5 := Blk.new w1 ts 51
  have hst := run_storeCells_new (P := Tryz.prog) w1 51 #[.int .u64 0, .int .u64 0, .int .u64 0, .int .u64 0] ts (by rw [hts]; exact infoW4) (by rw [hts]; rfl) ht1
  have b2' := (b2.chg k1 (by simp)).alloc (.cells ts 51)
  have b3' := (b3.chg k1 (by simp)).alloc (.cells ts 51)
  have k2 := (k0.trans k1 (by simp)).alloc (.cells ts 51)
  have l3 := load_blkC b3' 4 hls
  have l5 := load_blkC (b5) 4 hts
  by_cases he : e = 0
  · subst he
    go_wp2_with fail
    refine (hcmp _).mono ?_
    rintro e' w2 ⟨rfl, k3⟩
    dsimp only
    have b2 := b2'.chg k3 (by simp)
    have b5 := b5.chg k3 (by simp)
    have k4 := k2.trans k3 (by simp)
    clear b3' l3 l5 b2' hst b3 k0 k1 k2 k3
    by_cases hc : 0 < c
    · have hcd : decide (0 < c) = true := by simpa using hc
      go_wp2
      go_ret
      exact ⟨by simp [hc], k4⟩
    · have hcd : decide (0 < c) = false := by simpa using hc
      go_upto_region 4 with fail
      generalize w1.heap.size = g5 at *
      go_cut [22] (fun s22 wx => s22 = .bool (!z) ∧ Chg [] w2 wx)
      case first =>
        refine wp_region_held_drew (S := fun w' => Chg [] w2 w') (by kernel_rfl) ((Chg.refl _ _).drew) (fun hH => ?_)
        refine TK 0 (.agg cs) rfl hH (fun w' hw' => ?_) ?_
        · (have k := b2.chg hw' (by simp); have hl := load_blkC k 68 hcs; go_simp)
        try simp only [Act.put, Sa, Sb, Sc, Sd, Sf]
        refine TK 2 (.agg ts) rfl hH (fun w' hw' => ?_) ?_
        · (have k := b5.chg hw' (by simp); have hl := load_blkC k 4 hts; go_simp)
        try simp only [Act.put, Sa, Sb, Sc, Sd, Se, Sf]
        refine RD 1 rfl (fun K hK => ?_)
        try rw [if_pos (by rfl)]
        go_simp
        go_at_call 27
        refine (hhash _).mono ?_
        rintro e1 w1 ⟨rfl, hc1⟩
        dsimp only
        have hH1 := hH.trans hc1 (by simp)
        refine hK.out _ _ hH1 (fun _ => ?_)
        try simp only [Act.put, Sa, Sb, Sc, Sd, Se, Sf]
        refine RD 3 rfl (fun K hK => ?_)
        try rw [if_pos (by rfl)]
        go_simp
        go_at_call 68
        refine (hmeet _).mono ?_
        rintro e2 w2 ⟨rfl, hc2⟩
        dsimp only
        have hH2 := hH1.trans hc2 (by simp)
        refine hK.out _ _ hH2 (fun _ => ?_)
        try simp only [Act.put, Sa, Sb, Sc, Sd, Se, Sf]
        refine TK 4 (.bool (!z)) rfl hH2 (fun w' hw' => ?_) ?_
        · go_simp
        try simp only [Act.put, Sa, Sb, Sc, Sd, Se, Sf]
        refine RD 5 rfl (fun K hK => ?_)
        go_simp
        refine hK.out _ _ hH2 (fun _ => ?_)
        try simp only [Act.put, Sa, Sb, Sc, Sd, Se, Sf]
        refine wpAnyH_done (by kernel_rfl) ?_ _
        go_wp2_with fail
        go_meet
        exact ⟨rfl, hH2⟩
      case rest =>
        obtain ⟨rfl, hc5⟩ := hcut
        have kf := k4.trans hc5 (by simp)
        cases z
        · go_wp2
          go_ret
          exact ⟨by simp [hc], kf⟩
        · go_wp2
          go_ret
          exact ⟨by simp [hc], kf⟩
  · have hb : (e == 0) = false := by simp [he]
    go_wp2
    go_ret
    exact ⟨by simp [he], k2⟩
end Go.Proofs.YtmkgbinmilcojaaGreat

/- Package header: Check, Mine. Printed by minegen.py. -/
namespace Go.Proofs.YtmkgbinmilcojaaGreat
open Go.RowKit Go.Maps
attribute [-go_sem] loadCellsFrom

theorem wvC (n : Nat) : ∃ ts, wv n = .agg ts ∧ ts.size = 4 ∧ ts.all (·.oneCell') = true := ⟨_, rfl, rfl, by simp [Value.oneCell']⟩
theorem header_Check (h : Hd) (ok : HdOk h) (limit : Nat) (hl : limit < TOP) (w : World) :
    Calls Tryz.prog 39 #[.agg h.cs, wv limit] w fun e w' => e = .returned (.int .i64 (checkE h limit)) ∧ Chg [] w w' := by
  have h1 := fun w => target_Decode h.bt ok.bt w
  have h2 := fun w => wide_Cmp (decT h.bt) limit (decT_lt _) hl w
  have h3 := fun w => header_Hash h ok w
  have h4 := fun w => target_Meets (hdH h) (hdH_len h) (hdH_lt h) (decT h.bt) (decT_lt _) w
  rw [show decide (numB (hdH h) ≤ decT h.bt) = meetsB h (decT h.bt) from rfl] at h4
  obtain ⟨ts, e1, s1, o1⟩ := wvC (decT h.bt)
  obtain ⟨ls, e2, s2, _⟩ := wvC limit
  rw [e1] at h1 h2 h4
  rw [e2] at h2 ⊢
  refine (header_CheckW h.cs ts ls _ h.bt (decE h.bt) _ _ (Hd.size ok) s1 s2 (Hd.c66 ok) o1 h1 h2 h3 h4 w).mono ?_
  rintro e w' ⟨rfl, k⟩
  refine ⟨?_, k⟩
  have hc : (0 < cmpN (decT h.bt) limit) ↔ limit < decT h.bt := by
    unfold cmpN
    split
    · constructor <;> intro <;> omega
    · split
      · constructor <;> intro <;> omega
      · constructor <;> intro <;> omega
  simp only [checkE, hc]

def hd0 : Hd := ⟨0, List.replicate 32 0, List.replicate 32 0, 0, 0, 0⟩
theorem hd0_ok : HdOk hd0 := by
  constructor <;> simp [hd0] <;> intro x hx <;> omega
theorem zeroHd (w : World) : (zeroValue 28).run Tryz.prog w = .ok (.agg hd0.cs) w := by kernel_rfl
theorem buildHd (w : World) : (Instr.build 28 #[]).run Tryz.prog w = .ok (.agg hd0.cs) w := by kernel_rfl
/-- so many tries more, from a header on. -/
def mineN : Nat → Hd → Nat → Option Hd
  | 0, h, T => if meetsB h T then some h else none
  | n + 1, h, T => if meetsB h T then some h else if h.nc = 4294967295 then none else mineN n { h with nc := h.nc + 1 } T
theorem Hd.nonce {h : Hd} (ok : HdOk h) (n : Nat) : h.cs.setIfInBounds 67 (.int .u32 (n : Int)) = ({ h with nc := n } : Hd).cs := by
  have e : (bytesV h.ah).length = 32 := by rw [bytesV_len, ok.ah]
  have e2 : (bytesV h.rt).length = 32 := by rw [bytesV_len, ok.rt]
  apply Array.ext'
  simp only [Hd.cs, Hd.l, Array.toList_setIfInBounds, List.set_cons_succ]
  rw [List.set_append_right _ _ (by omega), e, List.set_append_right _ _ (by omega), e2]
  rfl
theorem mineN_hit {h : Hd} {T : Nat} (z : meetsB h T = true) : ∀ n, mineN n h T = some h
  | 0 => by unfold mineN; rw [if_pos z]
  | n + 1 => by unfold mineN; rw [if_pos z]
theorem mineN_zero {h : Hd} {T : Nat} (z : meetsB h T = false) : mineN 0 h T = none := by unfold mineN; rw [if_neg (by simp [z])]
theorem mineN_end {h : Hd} {T : Nat} (z : meetsB h T = false) (hn : h.nc = 4294967295) : ∀ n, mineN n h T = none
  | 0 => mineN_zero z
  | n + 1 => by unfold mineN; rw [if_neg (by simp [z]), if_pos hn]
theorem mineN_on {h : Hd} {T : Nat} (z : meetsB h T = false) (hn : h.nc ≠ 4294967295) {n : Nat} (h0 : 0 < n) : mineN n h T = mineN (n - 1) { h with nc := h.nc + 1 } T := by
  obtain ⟨m, rfl⟩ : ∃ m, n = m + 1 := ⟨n - 1, by omega⟩
  rw [show m + 1 - 1 = m by omega]
  conv => lhs; unfold mineN
  rw [if_neg (by simp [z]), if_neg hn]
def mineR (h : Hd) (most : Nat) : Option Hd := if decE h.bt ≠ 0 then none else mineN most h (decT h.bt)
theorem infoHd2 : (Tryz.prog.info? 28).map (·.size) = some 68 := infoHd

set_option maxRecDepth 100000 in
set_option maxHeartbeats 8000000 in
theorem header_Mine (h : Hd) (ok : HdOk h) (most : Nat) (hm : most < 4294967296) (w : World) :
    Calls Tryz.prog 35 #[.agg h.cs, .int .u32 most] w fun e w' => e = .returned (.tuple #[.agg ((mineR h most).getD hd0).cs, .bool (mineR h most).isSome]) ∧ Chg [] w w' := by
  have hdec := fun w => target_Decode h.bt ok.bt w
  obtain ⟨ts, e1, hts, ht1⟩ := wvC (decT h.bt)
  rw [e1] at hdec
  obtain ⟨ee, hee⟩ : ∃ ee, ee = decE h.bt := ⟨_, rfl⟩
  rw [← hee] at hdec
  have hee' := Lib.hid hee
  clear hee
  have hz := zeroHd
  have hbu := buildHd
  have hcs := Hd.size ok
  have hh0 := Hd.size hd0_ok
  have e66 := Hd.c66 ok
  have bH0 := (Blk.new w h.cs 28).alloc (.cells hd0.cs 28)
  have bO0 := Blk.at (w.alloc (.cells h.cs 28)) hd0.cs 28 (w.heap.size + 1) (by simp)
  have k0 : Chg [] w ((w.alloc (.cells h.cs 28)).alloc (.cells hd0.cs 28)) := ((Chg.refl _ _).alloc _).alloc _
  have c66 := bH0.cell 66 e66
  have hone0 := Hd.one hd0
  obtain ⟨zs, hzs⟩ : ∃ zs, zs = hd0.cs := ⟨_, rfl⟩
  rw [← hzs] at hz hbu hh0 bH0 bO0 k0 c66 hone0
  obtain ⟨cs0, hcs0⟩ : ∃ cs, cs = h.cs := ⟨_, rfl⟩
  rw [← hcs0] at hcs e66 bH0 bO0 k0 c66 ⊢
  have hzs' := Lib.hid hzs
  have hcs0' := Lib.hid hcs0
  clear hzs hcs0
  go_enter Tryz.func35, Tryz.ntmps35
  go_wp2_with fail
  generalize (w.alloc (.cells cs0 28)).alloc (.cells zs 28) = W0 at *
  refine (hdec _).mono ?_
  rintro e' w1 ⟨rfl, k1⟩
  dsimp only
  have hst := run_storeCells_new (P := Tryz.prog) w1 51 #[.int .u64 0, .int .u64 0, .int .u64 0, .int .u64 0] ts (by rw [hts]; exact infoW4) (by rw [hts]; rfl) ht1
  have bT1 := Blk.new w1 ts 51
  have bH1 := (bH0.chg k1 (by simp)).alloc (.cells ts 51)
  have bO1 := (bO0.chg k1 (by simp)).alloc (.cells ts 51)
  have k2 := (k0.trans k1 (by simp)).alloc (.cells ts 51)
  have hs1 := k1.size
  have hlO := bO0.lt
  by_cases he : ee = 0
  · have hR := Lib.hid (show mineR h most = mineN most h (decT h.bt) by unfold mineR; rw [if_neg (by rw [← hee'.out, he]; simp)])
    subst he
    go_wp2_with fail
    generalize w1.heap.size = gT at *
    generalize w1.alloc (.cells ts 51) = Wa at *
    clear hst c66 bH0 bO0 k0 k1
    rw [hcs0'.out] at bH1
    have hgO : w.heap.size ≠ w.heap.size + 1 := by omega
    have hgT : gT ≠ w.heap.size := by omega
    go_loopw [8] (fun s8 wr => ∃ k : Nat, k ≤ most ∧ s8 = .int .u32 k ∧ h.nc + k < 4294967296 ∧ mineN most h (decT h.bt) = mineN (most - k) { h with nc := h.nc + k } (decT h.bt) ∧ Blk wr w.heap.size ({ h with nc := h.nc + k } : Hd).cs 28 ∧ Chg [w.heap.size] Wa wr) (fun s8 _ => most - (intOf s8).toNat)
    case atStart => exact ⟨0, by omega, rfl, ok.nc, rfl, bH1, Chg.refl _ _⟩
    case round =>
      obtain ⟨k, hk, rfl, hnk, hrec, bH, kr⟩ := hrel
      have ok' : HdOk { h with nc := h.nc + k } := ⟨ok.ver, ok.ah, ok.rt, ok.ahb, ok.rtb, ok.tm, ok.bt, hnk⟩
      have hhash := fun w => header_Hash _ ok' w
      have hmeet := fun w => target_Meets (hdH { h with nc := h.nc + k }) (hdH_len _) (hdH_lt _) (decT h.bt) (decT_lt _) w
      rw [e1] at hmeet
      rw [show decide (numB (hdH { h with nc := h.nc + k }) ≤ decT h.bt) = meetsB { h with nc := h.nc + k } (decT h.bt) from rfl] at hmeet
      have bT := bT1.chg kr (by simpa using hgT)
      have bO := bO1.chg kr (by simp)
      have hcs := Hd.size ok'
      have hone := Hd.one { h with nc := h.nc + k }
      have e67 := Hd.c67 ok'
      have hnon := Hd.nonce ok' (h.nc + k + 1)
      dsimp only at e67 hnon
      obtain ⟨z, hzz⟩ : ∃ z, z = meetsB { h with nc := h.nc + k } (decT h.bt) := ⟨_, rfl⟩
      rw [← hzz] at hmeet
      obtain ⟨h', hh'⟩ : ∃ h' : Hd, h' = { h with nc := h.nc + k } := ⟨_, rfl⟩
      obtain ⟨nn, hnn⟩ : ∃ nn, nn = h.nc + k := ⟨_, rfl⟩
      obtain ⟨cs, hcse⟩ : ∃ cs, cs = ({ h with nc := h.nc + k } : Hd).cs := ⟨_, rfl⟩
      rw [← hcse] at bH hcs hone e67 hnon hhash
      rw [← hnn] at e67 hnk
      have hcse' := Lib.hid hcse
      have hnn' := Lib.hid hnn
      have hrec' := Lib.hid hrec
      have hzz' := Lib.hid hzz
      have hnon' := Lib.hid hnon
      clear hcse hnn hrec hzz hnon hh'
      generalize (bytesV (hdH { h with nc := h.nc + k })).toArray = hs at *
      go_wp2
      go_cut [23] (fun s23 wx => s23 = .bool z ∧ Chg [] wr wx)
      case first =>
          refine wp_region_held_drew (S := fun w' => Chg [] wr w') (by kernel_rfl) ((Chg.refl _ _).drew) (fun hH => ?_)
          refine TK 0 (.agg cs) rfl hH (fun w' hw' => ?_) ?_
          · (have k := bH.chg hw' (by simp); have hl := load_blkC k 68 hcs; go_simp)
          try simp only [Act.put, Sa, Sb, Sc, Sd, Sf]
          refine TK 2 (.agg ts) rfl hH (fun w' hw' => ?_) ?_
          · (have k := bT.chg hw' (by simp); have hl := load_blkC k 4 hts; go_simp)
          try simp only [Act.put, Sa, Sb, Sc, Sd, Se, Sf]
          refine RD 1 rfl (fun K hK => ?_)
          try rw [if_pos (by rfl)]
          go_simp
          go_at_call 27
          refine (hhash _).mono ?_
          rintro e1 w1 ⟨rfl, hc1⟩
          dsimp only
          have hH1 := hH.trans hc1 (by simp)
          refine hK.out _ _ hH1 (fun _ => ?_)
          try simp only [Act.put, Sa, Sb, Sc, Sd, Se, Sf]
          refine RD 3 rfl (fun K hK => ?_)
          try rw [if_pos (by rfl)]
          go_simp
          go_at_call 68
          refine (hmeet _).mono ?_
          rintro e2 w2 ⟨rfl, hc2⟩
          dsimp only
          have hH2 := hH1.trans hc2 (by simp)
          refine hK.out _ _ hH2 (fun _ => ?_)
          try simp only [Act.put, Sa, Sb, Sc, Sd, Se, Sf]
          refine wpAnyH_done (by kernel_rfl) ?_ _
          go_wp2_with fail
          go_meet
          exact ⟨rfl, hH2⟩
      case rest =>
        obtain ⟨rfl, hc5⟩ := hcut
        have bH' := bH.chg hc5 (by simp)
        have bO' := bO.chg hc5 (by simp)
        have hld := load_blkC bH' 68 hcs
        have kc := kr.trans hc5 (by simp)
        have kw := k2.trans kc (by simp)
        clear bH bO bT kr
        cases z
        · have e67c := bH'.cell 67 e67
          by_cases hkm : k = most
          · subst hkm
            obtain ⟨W2, hst2, b2, kk⟩ := store_cells bO' (cs := zs) rfl hone0
            have hld2 := load_blkC b2 68 hh0
            have hN := Lib.hid (show mineR h k = none by rw [hR.out, hrec'.out, Nat.sub_self]; exact mineN_zero hzz'.out.symm)
            go_wp2
            exact bodyPost_ret (v := .tuple #[.agg zs, .bool false]) (by simp [results, Tryz.results35, go_sem, hld2]) rfl ⟨by rw [hN.out, hzs'.out]; rfl, kw.trans kk (by simp)⟩
          · have hb1 : ((k : Int) == (most : Int)) = false := by simp; omega
            by_cases hend : nn = 4294967295
            · have hb2 : ((nn : Int) == 4294967295) = true := by simp; omega
              obtain ⟨W2, hst2, b2, kk⟩ := store_cells bO' (cs := zs) rfl hone0
              have hld2 := load_blkC b2 68 hh0
              have hN := Lib.hid (show mineR h most = none by rw [hR.out, hrec'.out]; exact mineN_end hzz'.out.symm (by dsimp only; rw [← hnn'.out]; exact hend) _)
              go_wp2
              exact bodyPost_ret (v := .tuple #[.agg zs, .bool false]) (by simp [results, Tryz.results35, go_sem, hld2]) rfl ⟨by rw [hN.out, hzs'.out]; rfl, kw.trans kk (by simp)⟩
            · have hb2 : ((nn : Int) == 4294967295) = false := by simp; omega
              have f67 := bH'.free 67
              have hv1 : IntKind.u32.wrap ((nn : Int) + 1) = ((nn + 1 : Nat) : Int) := by have : IntKind.u32.wrap ((nn : Int) + 1) = ((nn : Int) + 1) % 4294967296 := rfl; omega
              have hv2 : IntKind.u32.wrap ((k : Int) + 1) = ((k + 1 : Nat) : Int) := by have : IntKind.u32.wrap ((k : Int) + 1) = ((k : Int) + 1) % 4294967296 := rfl; omega
              have hset := bH'.set 67 (.int .u32 ((nn + 1 : Nat) : Int))
              rw [hnn'.out, hnon'.out, ← hnn'.out] at hset
              go_wp2
              go_roundw
              case rel => exact ⟨k + 1, by omega, by simp, by have := hnn'.out; omega, by rw [hrec'.out, mineN_on hzz'.out.symm (by dsimp only; rw [← hnn'.out]; exact hend) (by omega)]; rfl, by rw [show h.nc + (k + 1) = nn + 1 by have := hnn'.out; omega]; simpa using hset, kc.setCell (.inl (by simp)) _⟩
              case measure => simp [intOf]; omega
        · obtain ⟨W2, hst2, b2, kk⟩ := store_cells bO' (cs := cs) (by rw [hcs, hh0]) hone
          have hld2 := load_blkC b2 68 hcs
          have hN := Lib.hid (show mineR h most = some { h with nc := h.nc + k } by rw [hR.out, hrec'.out]; exact mineN_hit hzz'.out.symm _)
          go_wp2
          exact bodyPost_ret (v := .tuple #[.agg cs, .bool true]) (by simp [results, Tryz.results35, go_sem, hld2]) rfl ⟨by rw [hN.out, hcse'.out]; rfl, kw.trans kk (by simp)⟩
  · have hb : (ee == 0) = false := by simp [he]
    obtain ⟨W2, hst2, b2, kk⟩ := store_cells bO1 (cs := zs) rfl hone0
    have hld := load_blkC b2 68 hh0
    have hR := Lib.hid (show mineR h most = none by unfold mineR; rw [if_pos (by rw [← hee'.out]; exact he)])
    have kf := k2.trans kk (by simp)
    go_wp2
    exact bodyPost_ret (v := .tuple #[.agg zs, .bool false]) (by simp [results, Tryz.results35, go_sem, hld]) rfl ⟨by rw [hR.out, hzs'.out]; rfl, kf⟩
end Go.Proofs.YtmkgbinmilcojaaGreat

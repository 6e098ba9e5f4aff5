import Derived.Test.YtmkgbinmilcojaaGreatWideGH
import Derived.Test.YtmkgbinmilcojaaGreatOctCells
import Derived.Test.YtmkgbinmilcojaaGreatWork
import Derived.Test.YtmkgbinmilcojaaGreatTargetRules

/- Package wide: Not. -/
namespace Go.Proofs.YtmkgbinmilcojaaGreat
open Go.RowKit Go.Maps
attribute [-go_sem] loadCellsFrom

def notP (a : Nat → Nat) (k : Nat) : Array Value := #[.int .u64 ((if 0 < k then 18446744073709551615 - a 0 else a 0 : Nat)), .int .u64 ((if 1 < k then 18446744073709551615 - a 1 else a 1 : Nat)), .int .u64 ((if 2 < k then 18446744073709551615 - a 2 else a 2 : Nat)), .int .u64 ((if 3 < k then 18446744073709551615 - a 3 else a 3 : Nat))]
theorem notP_get (a : Nat → Nat) {k : Nat} (h : k < 4) : (notP a k)[k]? = some (.int .u64 (a k : Nat)) := by
  rcases (by omega : k = 0 ∨ k = 1 ∨ k = 2 ∨ k = 3) with rfl | rfl | rfl | rfl <;> rfl
theorem notP_set (a : Nat → Nat) {k : Nat} (h : k < 4) : (notP a k).setIfInBounds k (.int .u64 ((18446744073709551615 - a k : Nat))) = notP a (k + 1) := by
  rcases (by omega : k = 0 ∨ k = 1 ∨ k = 2 ∨ k = 3) with rfl | rfl | rfl | rfl <;> rfl
theorem xor_all {x : Nat} (h : x < 18446744073709551616) : 18446744073709551615 ^^^ x = 18446744073709551615 - x := by
  have e : 18446744073709551615 - x = 2 ^ 64 - (x + 1) := by omega
  rw [e]
  apply Nat.eq_of_testBit_eq
  intro i
  rw [Nat.testBit_two_pow_sub_succ (by omega), Nat.testBit_xor, show 18446744073709551615 = 2 ^ 64 - 1 by rfl, Nat.testBit_two_pow_sub_one]
  by_cases hi : i < 64
  · simp [hi]
  · have : x.testBit i = false := Nat.testBit_lt_two_pow (Nat.lt_of_lt_of_le h (by simpa using Nat.pow_le_pow_right (n := 2) (by decide) (show 64 ≤ i by omega)))
    simp [hi, this]
theorem not_bits {x : Nat} (h : x < 18446744073709551616) : bits BinOp.xor IntKind.u64 (if IntKind.u64.signed = true then -1 else IntKind.u64.max) (x : Int) = ((18446744073709551615 - x : Nat) : Int) := by
  rw [← xor_all h]
  have e : (if IntKind.u64.signed = true then (-1 : Int) else IntKind.u64.max) = ((18446744073709551615 : Nat) : Int) := by decide
  rw [e]
  exact u64_xor_nat _ _ (by omega) h
set_option maxRecDepth 100000 in
set_option maxHeartbeats 4000000 in
theorem wide_NotW (a : Nat → Nat) (ha : ∀ k, a k < 18446744073709551616) (w : World) :
    Calls Tryz.prog 40 #[.agg (notP a 0)] w fun e w' => e = .returned (.agg (notP a 4)) ∧ Chg [] w w' := by
  have b1 := (Blk.new w (notP a 0) 51).alloc (.cells #[.int .u64 0, .int .u64 0, .int .u64 0, .int .u64 0] 51)
  have b2 := Blk.at (w.alloc (.cells (notP a 0) 51)) #[.int .u64 0, .int .u64 0, .int .u64 0, .int .u64 0] 51 (w.heap.size + 1) (by simp)
  have k0 : Chg [] w ((w.alloc (.cells (notP a 0) 51)).alloc (.cells #[.int .u64 0, .int .u64 0, .int .u64 0, .int .u64 0] 51)) := ((Chg.refl _ _).alloc _).alloc _
  have hsz : ∀ k, (notP a k).size = 4 := fun _ => rfl
  have hone : ∀ k, (notP a k).all (·.oneCell') = true := fun k => by simp [notP, Value.oneCell']
  obtain ⟨n0, hn0⟩ : ∃ n0, n0 = notP a 0 := ⟨_, rfl⟩
  rw [← hn0] at b1 b2 k0 ⊢
  have hn0' := Lib.hid hn0
  clear hn0
  go_enter Tryz.func40, Tryz.ntmps40
  go_wp2
  generalize (w.alloc (.cells n0 51)).alloc (.cells #[.int .u64 0, .int .u64 0, .int .u64 0, .int .u64 0] 51) = W0 at *
  rw [hn0'.out] at b1
  go_loopw [4] (fun s4 wr => ∃ k : Nat, k ≤ 4 ∧ s4 = .int .i64 k ∧ Blk wr w.heap.size (notP a k) 51 ∧ Chg [w.heap.size] W0 wr) (fun s4 _ => 4 - (intOf s4).toNat)
  case atStart => exact ⟨0, by omega, rfl, b1, Chg.refl _ _⟩
  case round =>
    obtain ⟨k, hk, rfl, hb, kr⟩ := hrel
    by_cases hlt : k < 4
    · have c1 := hb.cell k (notP_get a hlt)
      have f1 := hb.free k
      have hset := hb.set k (.int .u64 ((18446744073709551615 - a k : Nat)))
      rw [notP_set a hlt] at hset
      have hak := ha k
      generalize a k = x at *
      have hnb := not_bits hak
      go_wp2
      go_roundw
      case rel => exact ⟨k + 1, by omega, by simp, hset, kr.setCell (.inl (by simp)) _⟩
      case measure => simp [intOf]; omega
    · obtain rfl : k = 4 := by omega
      have hlA := load_blkC hb 4 (hsz 4)
      have b3 := b2.chg kr (by simp)
      obtain ⟨W2, hst, b4, k2⟩ := store_cells b3 (cs := notP a 4) rfl (hone 4)
      have hld2 := load_blkC b4 4 (hsz 4)
      have hac := hsz 4
      have kf := (k0.trans kr (by simp)).trans k2 (by simp)
      clear hsz hone
      obtain ⟨ac, hae⟩ : ∃ ac, ac = notP a 4 := ⟨_, rfl⟩
      rw [← hae] at hlA hst b4 hld2 hac
      have hae' := Lib.hid hae
      clear hae
      go_wp2
      exact bodyPost_ret (v := .agg ac) (by simp [results, Tryz.results40, go_sem, hld2]) rfl ⟨by rw [hae'.out], kf⟩
theorem wide_Not (N : Nat) (hN : N < TOP) (w : World) :
    Calls Tryz.prog 40 #[wv N] w fun e w' => e = .returned (wv (TOP - 1 - N)) ∧ Chg [] w w' := by
  obtain ⟨a, b, c, d, ha, hb, hc, hd, rfl⟩ := num_of N hN
  have e1 : TOP - 1 - num4 a b c d = num4 (18446744073709551615 - a) (18446744073709551615 - b) (18446744073709551615 - c) (18446744073709551615 - d) := by
    unfold num4 TOP; omega
  rw [e1, wv_num ha hb hc hd, wv_num (by omega) (by omega) (by omega) (by omega)]
  exact wide_NotW (fun k => if k = 0 then a else if k = 1 then b else if k = 2 then c else if k = 3 then d else 0) (fun k => by
    split
    · assumption
    · split
      · assumption
      · split
        · assumption
        · split
          · assumption
          · omega) w
end Go.Proofs.YtmkgbinmilcojaaGreat

/- Package target: Work; tree: work; adjust: Check. -/
namespace Go.Proofs.YtmkgbinmilcojaaGreat
open Go.RowKit Go.Maps
attribute [-go_sem] loadCellsFrom

/-- the work of a target. -/
def workN (T : Nat) : Nat := if TOP ≤ T + 1 then 1 else if TOP ≤ (TOP - 1 - T) / (T + 1) + 1 then TOP - 1 else (TOP - 1 - T) / (T + 1) + 1
theorem workN_lt (T : Nat) : workN T < TOP := by
  unfold workN
  split
  · unfold TOP; omega
  · split
    · unfold TOP; omega
    · omega
theorem target_Work (T : Nat) (hT : T < TOP) (w : World) :
    Calls Tryz.prog 69 #[wv T] w fun e w' => e = .returned (wv (workN T)) ∧ Chg [] w w' := by
  have h1 := fun w => wide_Of' 1 (by omega) w
  have h2 := fun w => wide_Add T 1 hT (by unfold TOP; omega) w
  have h3 := fun w => wide_Not 0 (by unfold TOP; omega) w
  have h4 := fun w => wide_Not T hT w
  have hm : (T + 1) % TOP < TOP := Nat.mod_lt _ (by unfold TOP; omega)
  have h5 : decide (TOP ≤ T + 1) = false → ∀ w, Calls Tryz.prog 98 #[wv (TOP - 1 - T), wv ((T + 1) % TOP)] w fun e w' => e = .returned (.tuple #[wv ((TOP - 1 - T) / ((T + 1) % TOP)), wv ((TOP - 1 - T) % ((T + 1) % TOP)), .int .i64 0]) ∧ Chg [] w w' := fun hd w =>
    wide_Div _ _ (by omega) hm (by have : ¬ TOP ≤ T + 1 := by simpa using hd
                                   rw [Nat.mod_eq_of_lt (by omega)]; omega) w
  have hq : (TOP - 1 - T) / ((T + 1) % TOP) < TOP := Nat.lt_of_le_of_lt (Nat.div_le_self _ _) (by omega)
  have h6 := fun w => wide_Add ((TOP - 1 - T) / ((T + 1) % TOP)) 1 hq (by unfold TOP; omega) w
  have hfin : wv (workN T) = if decide (TOP ≤ T + 1) then wv 1 else if decide (TOP ≤ (TOP - 1 - T) / ((T + 1) % TOP) + 1) then wv (TOP - 1 - 0) else wv (((TOP - 1 - T) / ((T + 1) % TOP) + 1) % TOP) := by
    unfold workN
    by_cases ha : TOP ≤ T + 1
    · simp [ha]
    · have hmod : (T + 1) % TOP = T + 1 := Nat.mod_eq_of_lt (by omega)
      by_cases hb : TOP ≤ (TOP - 1 - T) / (T + 1) + 1
      · simp [ha, hmod, hb]
      · rw [hmod, Nat.mod_eq_of_lt (show (TOP - 1 - T) / (T + 1) + 1 < TOP by omega)]
        simp [ha, hb]
  rw [hfin]
  rw [show wv 0 = V4 0 0 0 0 from wv0] at h3
  obtain ⟨ts, e1, s1, o1⟩ := wvC T
  obtain ⟨on, e2, s2, o2⟩ := wvC 1
  obtain ⟨ss, e3, s3, o3⟩ := wvC ((T + 1) % TOP)
  obtain ⟨ns, e4, s4, o4⟩ := wvC (TOP - 1 - T)
  obtain ⟨qs, e5, s5, o5⟩ := wvC ((TOP - 1 - T) / ((T + 1) % TOP))
  obtain ⟨rs, e6, s6, o6⟩ := wvC ((TOP - 1 - T) % ((T + 1) % TOP))
  obtain ⟨us, e7, s7, o7⟩ := wvC (((TOP - 1 - T) / ((T + 1) % TOP) + 1) % TOP)
  obtain ⟨zs, e8, s8, o8⟩ := wvC (TOP - 1 - 0)
  rw [e1, e2, e3] at h2
  rw [e2] at h1
  rw [e8] at h3
  rw [e1, e4] at h4
  rw [e4, e3, e5, e6] at h5
  rw [e5, e2, e7] at h6
  rw [e1, e2, e7, e8]
  have := target_WorkW ts on ss ns qs rs us zs (decide (TOP ≤ T + 1)) (decide (TOP ≤ (TOP - 1 - T) / ((T + 1) % TOP) + 1)) s1 s3 s5 s6 s7 s2 s8 o3 o5 o6 o7 o2 o8 h1 h2 h3 h4 h5 h6 w
  refine this.mono ?_
  rintro e w' ⟨rfl, k⟩
  refine ⟨?_, k⟩
  generalize decide (TOP ≤ T + 1) = p
  generalize decide (TOP ≤ (TOP - 1 - T) / ((T + 1) % TOP) + 1) = q
  cases p <;> cases q <;> rfl

def hdW (h : Hd) : Nat := workN (decT h.bt)
set_option maxRecDepth 100000 in
set_option maxHeartbeats 2000000 in
theorem tree_work (h : Hd) (ok : HdOk h) (w : World) :
    Calls Tryz.prog 36 #[.agg h.cs] w fun e w' => e = .returned (wv (hdW h)) ∧ Chg [] w w' := by
  have hdec := fun w => target_Decode h.bt ok.bt w
  have hwk := fun w => target_Work (decT h.bt) (decT_lt _) w
  obtain ⟨ts, e1, hts, ht1⟩ := wvC (decT h.bt)
  obtain ⟨us, e2, hus, hu1⟩ := wvC (workN (decT h.bt))
  rw [e1] at hdec hwk
  rw [e2] at hwk
  unfold hdW
  rw [e2]
  generalize decE h.bt = ee at *
  have bH := (Blk.new w h.cs 28).alloc (.cells #[.int .u64 0, .int .u64 0, .int .u64 0, .int .u64 0] 51)
  have bO := Blk.at (w.alloc (.cells h.cs 28)) #[.int .u64 0, .int .u64 0, .int .u64 0, .int .u64 0] 51 (w.heap.size + 1) (by simp)
  have k0 : Chg [] w ((w.alloc (.cells h.cs 28)).alloc (.cells #[.int .u64 0, .int .u64 0, .int .u64 0, .int .u64 0] 51)) := ((Chg.refl _ _).alloc _).alloc _
  have c66 := bH.cell 66 (Hd.c66 ok)
  generalize h.cs = cs at *
  go_enter Tryz.func36, Tryz.ntmps36
  go_wp2_with fail
  generalize (w.alloc (.cells cs 28)).alloc (.cells #[.int .u64 0, .int .u64 0, .int .u64 0, .int .u64 0] 51) = W0 at *
  refine (hdec _).mono ?_
  rintro e w1 ⟨rfl, k1⟩
  dsimp only
  have hst := run_storeCells_new (P := Tryz.prog) w1 51 #[.int .u64 0, .int .u64 0, .int .u64 0, .int .u64 0] ts (by rw [hts]; exact infoW4) (by rw [hts]; rfl) ht1
  have bT := Blk.new w1 ts 51
  have hld := load_blkC bT 4 hts
  have bO1 := (bO.chg k1 (by simp)).alloc (.cells ts 51)
  have k2 := (k0.trans k1 (by simp)).alloc (.cells ts 51)
  go_wp2_with fail
  refine (hwk _).mono ?_
  rintro e w2 ⟨rfl, k3⟩
  dsimp only
  obtain ⟨W2, hst2, b3, kk⟩ := store_cells (bO1.chg k3 (by simp)) (cs := us) (by rw [hus]; rfl) hu1
  have hld2 := load_blkC b3 4 hus
  go_wp2
  exact bodyPost_ret (v := .agg us) (by simp [results, Tryz.results36, go_sem, hld2]) rfl ⟨rfl, (k2.trans k3 (by simp)).trans kk (by simp)⟩
end Go.Proofs.YtmkgbinmilcojaaGreat

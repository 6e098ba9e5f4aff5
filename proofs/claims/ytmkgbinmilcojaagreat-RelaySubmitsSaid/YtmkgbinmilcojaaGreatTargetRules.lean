import Derived.Test.YtmkgbinmilcojaaGreatTargetE
import Derived.Test.YtmkgbinmilcojaaGreatWideK
import Derived.Laws.Rows
import Derived.Deep.WholeRow
import Derived.ChangeArms
import Derived.ChangeShapes
import Derived.WideShapes

/- Package target: Scale, as numbers. -/
namespace Go.Proofs.YtmkgbinmilcojaaGreat
open Go.RowKit Go.Maps Go.Shelf

theorem scaleN_eq (T up by_ most : Nat) (_ : T < TOP) (hm : most < TOP) (hu : up < 18446744073709551616) (hb : by_ < 18446744073709551616) (hb0 : 0 < by_) :
    scaleN T up by_ most = if (decide (TOP ≤ T / by_ * up) || decide (TOP ≤ T / by_ * up % TOP + T % by_ * up % TOP / by_) || decide (0 < cmpN ((T / by_ * up % TOP + T % by_ * up % TOP / by_) % TOP) most)) = true then most
      else if ((T / by_ * up % TOP + T % by_ * up % TOP / by_) % TOP) = 0 then 1 else ((T / by_ * up % TOP + T % by_ * up % TOP / by_) % TOP) := by
  have e : T * up / by_ = T / by_ * up + T % by_ * up / by_ := by
    have h := Nat.div_add_mod T by_
    conv => lhs; rw [← h]
    rw [Nat.add_mul, Nat.mul_assoc, Nat.mul_add_div hb0]
  have hr : T % by_ * up < TOP := by
    have := Nat.mod_lt T hb0
    have h2 : T % by_ * up ≤ 18446744073709551616 * 18446744073709551616 := Nat.mul_le_mul (by omega) (by omega)
    unfold TOP; omega
  rw [Nat.mod_eq_of_lt hr]
  unfold scaleN
  rw [e]
  generalize T / by_ * up = p
  generalize T % by_ * up / by_ = s
  by_cases h1 : TOP ≤ p
  · simp only [h1, decide_true, Bool.true_or, if_true]
    rw [if_pos (by omega)]
  rw [Nat.mod_eq_of_lt (show p < TOP by omega)]
  by_cases h2 : TOP ≤ p + s
  · simp only [h2, decide_true, Bool.true_or, Bool.or_true, if_true]
    rw [if_pos (by omega)]
  rw [Nat.mod_eq_of_lt (show p + s < TOP by omega)]
  have h3 : (0 < cmpN (p + s) most) ↔ most < p + s := by unfold cmpN; split <;> (try split) <;> omega
  simp only [h1, h2, h3, decide_false, Bool.false_or, decide_eq_true_eq]

theorem target_Scale (T up by_ most : Nat) (hT : T < TOP) (hm : most < TOP) (hm0 : most ≠ 0) (hu : up < 18446744073709551616) (hb : by_ < 18446744073709551616) (hb0 : 0 < by_) (w : World) :
    Calls Tryz.prog 120 #[wv T, .int .u64 up, .int .u64 by_, wv most] w fun e w' => e = .returned (.tuple #[wv (scaleN T up by_ most), .int .i64 0]) ∧ Chg [] w w' := by
  rw [scaleN_eq T up by_ most hT hm hu hb hb0]
  have hbT : by_ < TOP := by unfold TOP; omega
  have hq : T / by_ < TOP := Nat.lt_of_le_of_lt (Nat.div_le_self _ _) hT
  have hr : T % by_ < TOP := Nat.lt_of_le_of_lt (Nat.mod_le _ _) hT
  have hTop : 0 < TOP := by unfold TOP; omega
  have hH : T / by_ * up % TOP < TOP := Nat.mod_lt _ hTop
  have hL : T % by_ * up % TOP < TOP := Nat.mod_lt _ hTop
  have hY : T % by_ * up % TOP / by_ < TOP := Nat.lt_of_le_of_lt (Nat.div_le_self _ _) hL
  have hZ : T % by_ * up % TOP % by_ < TOP := Nat.lt_of_le_of_lt (Nat.mod_le _ _) hL
  have hO : (T / by_ * up % TOP + T % by_ * up % TOP / by_) % TOP < TOP := Nat.mod_lt _ hTop
  have c1 := wide_Of' by_ hb
  have c2 := wide_Div T by_ hT hbT (by omega)
  have c3 := wide_Mul (T / by_) up hq hu
  have c4 := wide_Mul (T % by_) up hr hu
  have c5 := wide_Div _ by_ hL hbT (by omega)
  have c6 := wide_Add _ _ hH hY
  have c7 := wide_Cmp _ most hO hm
  have c8 := wide_Of' 1 (by omega)
  rw [wv_small (n := 1) (by omega)] at c8
  generalize decide (TOP ≤ T / by_ * up) = ov at c3 ⊢
  generalize decide (TOP ≤ T % by_ * up) = ov2 at c4
  generalize T / by_ * up % TOP = H at *
  generalize T % by_ * up % TOP = L at *
  generalize T / by_ = q at *
  generalize T % by_ = r at *
  generalize L / by_ = y at *
  generalize L % by_ = z at *
  generalize decide (TOP ≤ H + y) = mo at c6 ⊢
  generalize (H + y) % TOP = O at *
  generalize cmpN O most = c at *
  obtain ⟨t0, t1, t2, t3, ht0, ht1, ht2, ht3, eT, eT'⟩ := words T hT
  obtain ⟨m0, m1, m2, m3, hm0', hm1, hm2, hm3, eM, eM'⟩ := words most hm
  obtain ⟨q0, q1, q2, q3, _, _, _, _, _, eQ'⟩ := words q hq
  obtain ⟨r0, r1, r2, r3, _, _, _, _, _, eR'⟩ := words r hr
  obtain ⟨b0, b1, b2, b3, _, _, _, _, _, eB'⟩ := words by_ hbT
  obtain ⟨h0, h1, h2, h3, _, _, _, _, _, eH'⟩ := words H hH
  obtain ⟨l0, l1, l2, l3, _, _, _, _, _, eL'⟩ := words L hL
  obtain ⟨y0, y1, y2, y3, _, _, _, _, _, eY'⟩ := words y hY
  obtain ⟨z0, z1, z2, z3, _, _, _, _, _, eZ'⟩ := words z hZ
  obtain ⟨o0, o1, o2, o3, ho0, ho1, ho2, ho3, eO, eO'⟩ := words O hO
  rw [eB'] at c1
  rw [eT', eB', eQ', eR'] at c2
  rw [eQ', eH'] at c3
  rw [eR', eL'] at c4
  rw [eL', eB', eY', eZ'] at c5
  rw [eH', eY', eO'] at c6
  rw [eO', eM'] at c7
  rw [eT', eM']
  have heq : ∀ w, (Op.equalIn 10000 51 (V4 m0 m1 m2 m3) (V4 0 0 0 0)).run Tryz.prog w = .ok false w := fun w => by
    rw [run_eqW, decide_eq_false]
    rw [n4_zero hm0' hm1 hm2 hm3, ← eM]; omega
  have hzo : ∀ w, (Op.equalIn 10000 51 (V4 o0 o1 o2 o3) (V4 0 0 0 0)).run Tryz.prog w = .ok (decide (O = 0)) w := fun w => by
    rw [run_eqW]
    have := n4_zero ho0 ho1 ho2 ho3
    rw [← eO] at this
    rw [decide_eq_decide.2 (this.trans (by constructor <;> intro h <;> omega : ((O : Int) = 0) ↔ O = 0))]
  refine (target_ScaleW t0 t1 t2 t3 m0 m1 m2 m3 q0 q1 q2 q3 r0 r1 r2 r3 b0 b1 b2 b3 up by_ w (by omega) (by simp; omega) (by simp; omega) ov ov2 mo (decide (O = 0)) c h0 h1 h2 h3 l0 l1 l2 l3 y0 y1 y2 y3 z0 z1 z2 z3 o0 o1 o2 o3 heq c1 c2 c3 c4 c5 c6 c7 hzo c8).mono ?_
  rintro e w' ⟨rfl, hc⟩
  refine ⟨?_, hc⟩
  have key : (if (ov || mo || decide (0 < c)) = true then V4 m0 m1 m2 m3 else if decide (O = 0) = true then V4 1 0 0 0 else V4 o0 o1 o2 o3) = wv (if (ov || mo || decide (0 < c)) = true then most else if O = 0 then 1 else O) := by
    split
    · exact eM'.symm
    · by_cases h : O = 0
      · rw [if_pos (by simpa using h), if_pos h, wv_small (by omega)]; rfl
      · rw [if_neg (by simpa using h), if_neg h, eO']
  rw [key]
end Go.Proofs.YtmkgbinmilcojaaGreat

/- Package adjust: what its rules are; Next, Top. -/
namespace Go.Proofs.YtmkgbinmilcojaaGreat
open Go.RowKit Go.Maps Go.Shelf

def RulesV (v : Value) (s l : Nat) : Prop := ∃ cs, v = .agg cs ∧ cs.size = 72 ∧ cs[1]? = some (.int .u32 s) ∧ cs[2]? = some (.int .u32 l) ∧ s < 4294967296 ∧ l < 4294967296
theorem infoRules : (Tryz.prog.info? 30).map (·.size) = some 72 := by kernel_rfl

theorem load_rules {W : World} {g : Nat} {cs : Array Value} {T : TypeId} (h : Blk W g cs T) (hn : cs.size = 72) : (loadCellsFrom ⟨g, 0, none⟩ 0 72 #[]).run Tryz.prog W = .ok cs W := by
  have := run_loadCells_list (P := Tryz.prog) W ⟨g, 0, none⟩ cs.toList (fun j v hv => by
    have hadd : (⟨g, 0, none⟩ : Addr).add j = ⟨g, j, none⟩ := by unfold Addr.add; split <;> simp_all
    rw [hadd]
    exact h.cell j (by simpa using hv))
  rw [← hn]
  simpa [loadCells] using this

def tookN (s : Nat) (k : Int) : Nat := (min (max (max k ((s / 4 : Nat) : Int)) 1) ((s * 4 : Nat) : Int)).toNat
def nextE (s l bits : Nat) : Int := if okD bits = false then 6 else if okD l = false then 6 else if s = 0 then 1 else 0
def nextN (s l bits : Nat) (k : Int) : Nat := if okD bits = false then 0 else if okD l = false then 0 else if s = 0 then 0 else encN (scaleN (tgt bits) (tookN s k) s (tgt l))

theorem tookN_lt {s : Nat} {k : Int} (hs : s < 4294967296) : tookN s k < 18446744073709551616 := by unfold tookN; omega
theorem scaleN_lt {t u b m : Nat} (hm : m < TOP) : scaleN t u b m < TOP := by
  unfold scaleN
  split
  · exact hm
  · split
    · unfold TOP; omega
    · omega

set_option maxRecDepth 100000 in
set_option maxHeartbeats 1000000 in
theorem adjust_Next (v : Value) (s l bits : Nat) (k : Int) (hv : RulesV v s l) (hb : bits < 4294967296) (hk1 : -9223372036854775808 ≤ k) (hk2 : k ≤ 9223372036854775807) (w : World) :
    Calls Tryz.prog 102 #[v, .int .u32 bits, .int .i64 k] w fun e w' => e = .returned (.tuple #[.int .u32 (nextN s l bits k), .int .i64 (nextE s l bits)]) ∧ Chg [] w w' := by
  obtain ⟨cs, rfl, hcs, c1, c2, hs, hl⟩ := hv
  have d1 := target_Decode bits hb
  have d2 := target_Decode l hl
  have hA := decT_lt bits
  have hB := decT_lt l
  have hS : decT bits ≠ 0 → decT l ≠ 0 → 0 < s → ∀ w, Calls Tryz.prog 120 #[wv (decT bits), .int .u64 (tookN s k), .int .u64 s, wv (decT l)] w fun e w' => e = .returned (.tuple #[wv (scaleN (decT bits) (tookN s k) s (decT l)), .int .i64 0]) ∧ Chg [] w w' :=
    fun h1 h2 h3 w => target_Scale (decT bits) (tookN s k) s (decT l) hA hB h2 (tookN_lt hs) (by omega) h3 w
  have hN : scaleN (decT bits) (tookN s k) s (decT l) < TOP := scaleN_lt hB
  have hE := target_Encode _ hN
  obtain ⟨a0, a1, a2, a3, _, _, _, _, _, eA⟩ := words _ hA
  obtain ⟨b0, b1, b2, b3, _, _, _, _, _, eB⟩ := words _ hB
  obtain ⟨n0, n1, n2, n3, _, _, _, _, _, eN⟩ := words _ hN
  rw [eA] at d1 hS
  rw [eB] at d2 hS
  rw [eN] at hS hE
  have hQ : ((s : Int)).tdiv 4 = ((s / 4 : Nat) : Int) := by rw [Int.tdiv_eq_ediv_of_nonneg (by omega)]; omega
  unfold V4 at *
  go_enter Tryz.func102, Tryz.ntmps102
  go_wp2_with fail
  refine (d1 _).mono ?_
  rintro e w1 ⟨rfl, hc1⟩
  dsimp only
  have bR := (Blk.new w cs 30).chg hc1 (by simp)
  have hcc1 := ((Chg.refl [] w).alloc (.cells cs 30)).trans hc1 (by simp)
  cases hob : okD bits
  case false =>
    have e6 : decE bits = 6 := by simp [decE, hob]
    rw [e6]
    go_wp2
    exact bodyPost_ret (v := .tuple #[.int .u32 0, .int .i64 6]) (by simp [results, Tryz.results102, go_sem]) rfl ⟨by simp [nextN, nextE, hob], hcc1.alloc _⟩
  have e0 : decE bits = 0 := by simp [decE, hob]
  have tb : decT bits = tgt bits := by simp [decT, hob]
  rw [e0]
  go_upto_region 2 with fail
  have bT := Blk.new w1 #[.int .u64 a0, .int .u64 a1, .int .u64 a2, .int .u64 a3] 51
  have hcT := hcc1.alloc (.cells #[.int .u64 a0, .int .u64 a1, .int .u64 a2, .int .u64 a3] 51)
  have hgeT := hcc1.size
  obtain ⟨gT, hggT⟩ : ∃ g, g = w1.heap.size := ⟨_, rfl⟩
  have hneRT := bR.lt
  replace bR := bR.alloc (.cells #[.int .u64 a0, .int .u64 a1, .int .u64 a2, .int .u64 a3] 51)
  rw [← hggT] at bT hgeT hneRT ⊢
  generalize w1.alloc (.cells #[.int .u64 a0, .int .u64 a1, .int .u64 a2, .int .u64 a3] 51) = w2 at hcT bT bR ⊢
  clear hggT

  have r1 := bR.cell 1 c1
  have r2 := bR.cell 2 c2
  go_wp2_with fail
  refine (d2 _).mono ?_
  rintro e w3 ⟨rfl, hc3⟩
  dsimp only
  replace bR := bR.chg hc3 (by simp)
  replace bT := bT.chg hc3 (by simp)
  have hcc3 := hcT.trans hc3 (by simp)
  cases hol : okD l
  case false =>
    have e6 : decE l = 6 := by simp [decE, hol]
    rw [e6]
    go_wp2
    exact bodyPost_ret (v := .tuple #[.int .u32 0, .int .i64 6]) (by simp [results, Tryz.results102, go_sem]) rfl ⟨by simp [nextN, nextE, hob, hol], hcc3.alloc _⟩
  have el0 : decE l = 0 := by simp [decE, hol]
  have tl : decT l = tgt l := by simp [decT, hol]
  rw [el0]
  go_upto_region 5 with fail
  have bP := Blk.new w3 #[.int .u64 b0, .int .u64 b1, .int .u64 b2, .int .u64 b3] 51
  have hcP := hcc3.alloc (.cells #[.int .u64 b0, .int .u64 b1, .int .u64 b2, .int .u64 b3] 51)
  have hgeP := hcc3.size
  obtain ⟨gP, hggP⟩ : ∃ g, g = w3.heap.size := ⟨_, rfl⟩
  have hneRP := bR.lt
  replace bR := bR.alloc (.cells #[.int .u64 b0, .int .u64 b1, .int .u64 b2, .int .u64 b3] 51)
  have hneTP := bT.lt
  replace bT := bT.alloc (.cells #[.int .u64 b0, .int .u64 b1, .int .u64 b2, .int .u64 b3] 51)
  rw [← hggP] at bP hgeP hneRP hneTP ⊢
  generalize w3.alloc (.cells #[.int .u64 b0, .int .u64 b1, .int .u64 b2, .int .u64 b3] 51) = w4 at hcP bP bR bT ⊢
  clear hggP

  have s1 := bR.cell 1 c1
  have t0 := bT.cell 0 rfl; have t1 := bT.cell 1 rfl; have t2 := bT.cell 2 rfl; have t3 := bT.cell 3 rfl
  have p0 := bP.cell 0 rfl; have p1 := bP.cell 1 rfl; have p2 := bP.cell 2 rfl; have p3 := bP.cell 3 rfl
  go_upto_region 9 with fail
  have hto := tookN_lt (k := k) hs
  have ht : min (if (if k < (s : Int) / 4 then (s : Int) / 4 else k) < 1 then 1 else if k < (s : Int) / 4 then (s : Int) / 4 else k) ((s : Int) * 4) = (tookN s k : Int) := by
    unfold tookN; omega
  rw [ht]
  clear ht hQ
  generalize (if (if k < (s : Int) / 4 then (s : Int) / 4 else k) < 1 then 1 else if k < (s : Int) / 4 then (s : Int) / 4 else k) = m36
  by_cases hs0 : s = 0
  · have hsz : ((s : Int) == 0) = true := by simp; omega
    have hsn : (s : Int) = 0 := by omega
    go_wp2
    exact bodyPost_ret (v := .tuple #[.int .u32 0, .int .i64 1]) (by simp [results, Tryz.results102, go_sem]) rfl ⟨by simp [nextN, nextE, hob, hol, hs0], hcP⟩
  have hs1 : 0 < s := by omega
  have hs2 : (0 : Int) < (s : Int) := by omega
  have hsz : ((s : Int) == 0) = false := by simp; omega
  have hne : nextN s l bits k = encN (scaleN (decT bits) (tookN s k) s (decT l)) := by simp [nextN, hob, hol, hs0, tb, tl]
  have hee : nextE s l bits = 0 := by simp [nextE, hob, hol, hs0]
  generalize tookN s k = T at *
  clear tb tl
  have hsc := hS (by have := decT_pos hob; omega) (by have := decT_pos hol; omega) hs1
  clear hS
  go_wp2_with fail
  refine (hsc _).mono ?_
  rintro e w5 ⟨rfl, hc5⟩
  dsimp only
  have hcc5 := hcP.trans hc5 (by simp)
  go_upto_region 12 with fail
  have bN := Blk.new w5 #[.int .u64 n0, .int .u64 n1, .int .u64 n2, .int .u64 n3] 51
  have hcN := hcc5.alloc (.cells #[.int .u64 n0, .int .u64 n1, .int .u64 n2, .int .u64 n3] 51)
  have hgeN := hcc5.size
  obtain ⟨gN, hggN⟩ : ∃ g, g = w5.heap.size := ⟨_, rfl⟩
  rw [← hggN] at bN hgeN  ⊢
  generalize w5.alloc (.cells #[.int .u64 n0, .int .u64 n1, .int .u64 n2, .int .u64 n3] 51) = w6 at hcN bN  ⊢
  clear hggN

  have q0 := bN.cell 0 rfl; have q1 := bN.cell 1 rfl; have q2 := bN.cell 2 rfl; have q3 := bN.cell 3 rfl
  go_wp2_with fail
  refine (hE _).mono ?_
  rintro e w7 ⟨rfl, hc7⟩
  go_wp2
  exact bodyPost_ret (v := .tuple #[.int .u32 (encN (scaleN (decT bits) T s (decT l)) : Nat), .int .i64 0]) (by simp [results, Tryz.results102, go_sem]) rfl ⟨by rw [hne, hee], hcN.trans hc7 (by simp)⟩
end Go.Proofs.YtmkgbinmilcojaaGreat

/- Package adjust: what its rules are; Next, Top. -/
import Derived.Test.YtbagkfeodjkdmaaTargetF
import Derived.Laws.Rows
import Derived.Deep.WholeRow
import Derived.ChangeArms
import Derived.ChangeShapes
import Derived.WideShapes
namespace Go.Proofs.Ytbagkfeodjkdmaa
open Go.RowKit Go.Maps Go.Shelf

def RulesV (v : Value) (s l : Nat) : Prop := ∃ cs, v = .agg cs ∧ cs.size = 72 ∧ cs[1]? = some (.int .u32 s) ∧ cs[2]? = some (.int .u32 l) ∧ s < 4294967296 ∧ l < 4294967296
theorem infoRules : (Try.prog.info? 83).map (·.size) = some 72 := by kernel_rfl

theorem load_rules {W : World} {g : Nat} {cs : Array Value} {T : TypeId} (h : Blk W g cs T) (hn : cs.size = 72) : (loadCellsFrom ⟨g, 0, none⟩ 0 72 #[]).run Try.prog W = .ok cs W := by
  have := run_loadCells_list (P := Try.prog) W ⟨g, 0, none⟩ cs.toList (fun j v hv => by
    have hadd : (⟨g, 0, none⟩ : Addr).add j = ⟨g, j, none⟩ := by unfold Addr.add; split <;> simp_all
    rw [hadd]
    exact h.cell j (by simpa using hv))
  rw [← hn]
  simpa [loadCells] using this

def tookN (s : Nat) (k : Int) : Nat := (min (max (max k ((s / 4 : Nat) : Int)) 1) ((s * 4 : Nat) : Int)).toNat
def nextE (s l bits : Nat) : Int := if okD bits = false then 6 else if okD l = false then 6 else if s = 0 then 1 else 0
def nextN (s l bits : Nat) (k : Int) : Nat := if okD bits = false then 0 else if okD l = false then 0 else if s = 0 then 0 else encN (scaleN (tgt bits) (tookN s k) s (tgt l))

theorem tookN_lt {s : Nat} {k : Int} (hs : s < 4294967296) : tookN s k < 18446744073709551616 := by unfold tookN; omega
theorem scaleN_lt {t u b m : Nat} (hm : m < TOP) : scaleN t u b m < TOP := by
  unfold scaleN
  split
  · exact hm
  · split
    · unfold TOP; omega
    · omega

set_option maxRecDepth 100000 in
set_option maxHeartbeats 1000000 in
theorem adjust_Next (v : Value) (s l bits : Nat) (k : Int) (hv : RulesV v s l) (hb : bits < 4294967296) (hk1 : -9223372036854775808 ≤ k) (hk2 : k ≤ 9223372036854775807) (w : World) :
    Calls Try.prog 48 #[v, .int .u32 bits, .int .i64 k] w fun e w' => e = .returned (.tuple #[.int .u32 (nextN s l bits k), .int .i64 (nextE s l bits)]) ∧ Chg [] w w' := by
  obtain ⟨cs, rfl, hcs, c1, c2, hs, hl⟩ := hv
  have d1 := target_Decode bits hb
  have d2 := target_Decode l hl
  have hA := decT_lt bits
  have hB := decT_lt l
  have hS : decT bits ≠ 0 → decT l ≠ 0 → 0 < s → ∀ w, Calls Try.prog 58 #[wv (decT bits), .int .u64 (tookN s k), .int .u64 s, wv (decT l)] w fun e w' => e = .returned (.tuple #[wv (scaleN (decT bits) (tookN s k) s (decT l)), .int .i64 0]) ∧ Chg [] w w' :=
    fun h1 h2 h3 w => target_Scale (decT bits) (tookN s k) s (decT l) hA hB h2 (tookN_lt hs) (by omega) h3 w
  have hN : scaleN (decT bits) (tookN s k) s (decT l) < TOP := scaleN_lt hB
  have hE := target_Encode _ hN
  obtain ⟨a0, a1, a2, a3, _, _, _, _, _, eA⟩ := words _ hA
  obtain ⟨b0, b1, b2, b3, _, _, _, _, _, eB⟩ := words _ hB
  obtain ⟨n0, n1, n2, n3, _, _, _, _, _, eN⟩ := words _ hN
  rw [eA] at d1 hS
  rw [eB] at d2 hS
  rw [eN] at hS hE
  have hQ : ((s : Int)).tdiv 4 = ((s / 4 : Nat) : Int) := by rw [Int.tdiv_eq_ediv_of_nonneg (by omega)]; omega
  unfold V4 at *
  go_enter Try.func48, Try.ntmps48
  go_wp2_with fail
  refine (d1 _).mono ?_
  rintro e w1 ⟨rfl, hc1⟩
  dsimp only
  have bR := (Blk.new w cs 83).chg hc1 (by simp)
  have hcc1 := ((Chg.refl [] w).alloc (.cells cs 83)).trans hc1 (by simp)
  cases hob : okD bits
  case false =>
    have e6 : decE bits = 6 := by simp [decE, hob]
    rw [e6]
    go_wp2
    exact bodyPost_ret (v := .tuple #[.int .u32 0, .int .i64 6]) (by simp [results, Try.results48, go_sem]) rfl ⟨by simp [nextN, nextE, hob], hcc1.alloc _⟩
  have e0 : decE bits = 0 := by simp [decE, hob]
  have tb : decT bits = tgt bits := by simp [decT, hob]
  rw [e0]
  go_upto_region 2 with fail
  have bT := Blk.new w1 #[.int .u64 a0, .int .u64 a1, .int .u64 a2, .int .u64 a3] 93
  have hcT := hcc1.alloc (.cells #[.int .u64 a0, .int .u64 a1, .int .u64 a2, .int .u64 a3] 93)
  have hgeT := hcc1.size
  obtain ⟨gT, hggT⟩ : ∃ g, g = w1.heap.size := ⟨_, rfl⟩
  have hneRT := bR.lt
  replace bR := bR.alloc (.cells #[.int .u64 a0, .int .u64 a1, .int .u64 a2, .int .u64 a3] 93)
  rw [← hggT] at bT hgeT hneRT ⊢
  generalize w1.alloc (.cells #[.int .u64 a0, .int .u64 a1, .int .u64 a2, .int .u64 a3] 93) = w2 at hcT bT bR ⊢
  clear hggT

  have r1 := bR.cell 1 c1
  have r2 := bR.cell 2 c2
  go_wp2_with fail
  refine (d2 _).mono ?_
  rintro e w3 ⟨rfl, hc3⟩
  dsimp only
  replace bR := bR.chg hc3 (by simp)
  replace bT := bT.chg hc3 (by simp)
  have hcc3 := hcT.trans hc3 (by simp)
  cases hol : okD l
  case false =>
    have e6 : decE l = 6 := by simp [decE, hol]
    rw [e6]
    go_wp2
    exact bodyPost_ret (v := .tuple #[.int .u32 0, .int .i64 6]) (by simp [results, Try.results48, go_sem]) rfl ⟨by simp [nextN, nextE, hob, hol], hcc3.alloc _⟩
  have el0 : decE l = 0 := by simp [decE, hol]
  have tl : decT l = tgt l := by simp [decT, hol]
  rw [el0]
  go_upto_region 5 with fail
  have bP := Blk.new w3 #[.int .u64 b0, .int .u64 b1, .int .u64 b2, .int .u64 b3] 93
  have hcP := hcc3.alloc (.cells #[.int .u64 b0, .int .u64 b1, .int .u64 b2, .int .u64 b3] 93)
  have hgeP := hcc3.size
  obtain ⟨gP, hggP⟩ : ∃ g, g = w3.heap.size := ⟨_, rfl⟩
  have hneRP := bR.lt
  replace bR := bR.alloc (.cells #[.int .u64 b0, .int .u64 b1, .int .u64 b2, .int .u64 b3] 93)
  have hneTP := bT.lt
  replace bT := bT.alloc (.cells #[.int .u64 b0, .int .u64 b1, .int .u64 b2, .int .u64 b3] 93)
  rw [← hggP] at bP hgeP hneRP hneTP ⊢
  generalize w3.alloc (.cells #[.int .u64 b0, .int .u64 b1, .int .u64 b2, .int .u64 b3] 93) = w4 at hcP bP bR bT ⊢
  clear hggP

  have s1 := bR.cell 1 c1
  have t0 := bT.cell 0 rfl; have t1 := bT.cell 1 rfl; have t2 := bT.cell 2 rfl; have t3 := bT.cell 3 rfl
  have p0 := bP.cell 0 rfl; have p1 := bP.cell 1 rfl; have p2 := bP.cell 2 rfl; have p3 := bP.cell 3 rfl
  go_upto_region 9 with fail
  have hto := tookN_lt (k := k) hs
  have ht : min (if (if k < (s : Int) / 4 then (s : Int) / 4 else k) < 1 then 1 else if k < (s : Int) / 4 then (s : Int) / 4 else k) ((s : Int) * 4) = (tookN s k : Int) := by
    unfold tookN; omega
  rw [ht]
  clear ht hQ
  generalize (if (if k < (s : Int) / 4 then (s : Int) / 4 else k) < 1 then 1 else if k < (s : Int) / 4 then (s : Int) / 4 else k) = m36
  by_cases hs0 : s = 0
  · have hsz : ((s : Int) == 0) = true := by simp; omega
    have hsn : (s : Int) = 0 := by omega
    go_wp2
    exact bodyPost_ret (v := .tuple #[.int .u32 0, .int .i64 1]) (by simp [results, Try.results48, go_sem]) rfl ⟨by simp [nextN, nextE, hob, hol, hs0], hcP⟩
  have hs1 : 0 < s := by omega
  have hs2 : (0 : Int) < (s : Int) := by omega
  have hsz : ((s : Int) == 0) = false := by simp; omega
  have hne : nextN s l bits k = encN (scaleN (decT bits) (tookN s k) s (decT l)) := by simp [nextN, hob, hol, hs0, tb, tl]
  have hee : nextE s l bits = 0 := by simp [nextE, hob, hol, hs0]
  generalize tookN s k = T at *
  clear tb tl
  have hsc := hS (by have := decT_pos hob; omega) (by have := decT_pos hol; omega) hs1
  clear hS
  go_wp2_with fail
  refine (hsc _).mono ?_
  rintro e w5 ⟨rfl, hc5⟩
  dsimp only
  have hcc5 := hcP.trans hc5 (by simp)
  go_upto_region 12 with fail
  have bN := Blk.new w5 #[.int .u64 n0, .int .u64 n1, .int .u64 n2, .int .u64 n3] 93
  have hcN := hcc5.alloc (.cells #[.int .u64 n0, .int .u64 n1, .int .u64 n2, .int .u64 n3] 93)
  have hgeN := hcc5.size
  obtain ⟨gN, hggN⟩ : ∃ g, g = w5.heap.size := ⟨_, rfl⟩
  rw [← hggN] at bN hgeN  ⊢
  generalize w5.alloc (.cells #[.int .u64 n0, .int .u64 n1, .int .u64 n2, .int .u64 n3] 93) = w6 at hcN bN  ⊢
  clear hggN

  have q0 := bN.cell 0 rfl; have q1 := bN.cell 1 rfl; have q2 := bN.cell 2 rfl; have q3 := bN.cell 3 rfl
  go_wp2_with fail
  refine (hE _).mono ?_
  rintro e w7 ⟨rfl, hc7⟩
  go_wp2
  exact bodyPost_ret (v := .tuple #[.int .u32 (encN (scaleN (decT bits) T s (decT l)) : Nat), .int .i64 0]) (by simp [results, Try.results48, go_sem]) rfl ⟨by rw [hne, hee], hcN.trans hc7 (by simp)⟩
end Go.Proofs.Ytbagkfeodjkdmaa

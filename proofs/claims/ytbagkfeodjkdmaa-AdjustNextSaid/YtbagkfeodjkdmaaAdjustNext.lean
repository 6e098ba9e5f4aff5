/- AdjustNext: the walk. -/
import Derived.Test.YtbagkfeodjkdmaaLives
import Derived.Test.YtbagkfeodjkdmaaRef06b
import Derived.Test.YtbagkfeodjkdmaaOpenRules
import Derived.Deep.DeepCutAuto
namespace Go.Proofs.Ytbagkfeodjkdmaa
open Go.RowKit Go.Maps Go.Shelf
attribute [local go_sem] Oper.semAt_some
attribute [-go_sem] loadCellsFrom

theorem tgt_lt {b : Nat} (h : okD b = true) : tgt b < TOP := by have := decT_lt b; simpa [decT, h] using this

set_option maxRecDepth 100000 in
set_option maxHeartbeats 2000000 in
theorem adjustNext_walk (v : Value) (s l bits : Nat) (k : Int) (hv : RulesV v s l) (hb : bits < 4294967296) (hk1 : -9223372036854775808 ≤ k) (hk2 : k ≤ 9223372036854775807) (w : World) :
    Calls Try.prog 9 #[v, .int .u32 bits, .int .i64 k] w fun e w' => e = .returned (.bool true) ∧ Chg [] w w' := by
  have hnx := adjust_Next v s l bits k hv hb hk1 hk2
  obtain ⟨cs, rfl, hcs, c1, c2, hs, hl⟩ := hv
  have hd1 := ref06_Decode bits hb
  have hd2 := ref06_Decode l hl
  go_enter Try.func9, Try.ntmps9
  go_wp2_with fail
  refine (law11_lives _).mono ?_
  rintro e w1 ⟨rfl, hc1⟩
  have bR := (Blk.new w cs 83).chg hc1 (by simp)
  have hcc1 := ((Chg.refl [] w).alloc (.cells cs 83)).trans hc1 (by simp)
  have hld := load_rules bR hcs
  go_wp2_with fail
  refine (hnx _).mono ?_
  rintro e w2 ⟨rfl, hc2⟩
  have hcc2 := hcc1.trans hc2 (by simp)
  replace bR := bR.chg hc2 (by simp)
  clear hld hnx
  dsimp only
  go_wp2_with fail
  refine (hd1 _).mono ?_
  rintro e w3 ⟨va, rfl, ha, _, hc3⟩
  have hcc3 := hcc2.trans hc3 (by simp)
  replace bR := bR.chg hc3 (by simp)
  have r2 := bR.cell 2 c2
  dsimp only
  go_wp2_with fail
  refine (hd2 _).mono ?_
  rintro e w4 ⟨vb, rfl, hbb, _, hc4⟩
  have hcc4 := hcc3.trans hc4 (by simp)
  replace bR := bR.chg hc4 (by simp)
  replace ha : NAt w4 va (tgt bits) := DgAt.chg ha hc4 (by simp)
  have r1 := bR.cell 1 c1
  dsimp only
  cases hob : okD bits
  case false =>
    have e1 : nextE s l bits = 6 := by simp [nextE, hob]
    have e2 : nextN s l bits k = 0 := by simp [nextN, hob]
    rw [e1, e2]
    go_wp2
    go_ret
    exact ⟨rfl, hcc4⟩
  cases hol : okD l
  case false =>
    have e1 : nextE s l bits = 6 := by simp [nextE, hob, hol]
    have e2 : nextN s l bits k = 0 := by simp [nextN, hob, hol]
    rw [e1, e2]
    go_wp2
    go_ret
    exact ⟨rfl, hcc4⟩
  by_cases hs0 : s = 0
  · have e1 : nextE s l bits = 1 := by simp [nextE, hob, hol, hs0]
    have e2 : nextN s l bits k = 0 := by simp [nextN, hob, hol, hs0]
    have hsz : ((s : Int) == 0) = true := by simp; omega
    have hsn : (s : Int) = 0 := by omega
    rw [e1, e2]
    go_wp2
    go_ret
    exact ⟨rfl, hcc4⟩
  have hs1 : 0 < s := by omega
  have hs2 : (0 : Int) < (s : Int) := by omega
  have hsz : ((s : Int) == 0) = false := by simp; omega
  have e1 : nextE s l bits = 0 := by simp [nextE, hob, hol, hs0]
  have e2 : nextN s l bits k = encN (scaleN (tgt bits) (tookN s k) s (tgt l)) := by simp [nextN, hob, hol, hs0]
  rw [e1, e2]
  clear e1 e2
  have hto := tookN_lt (k := k) hs
  go_upto_region 10 with fail
  go_cut [13] (fun s13 wx => s13 = .int .u64 s ∧ wx = w4)
  case first =>
    go_wp2_with fail
    go_meet
    exact ⟨rfl, rfl⟩
  obtain ⟨rfl, rfl⟩ := hcut
  apply_assumption
  refine wp_seq_k fun K hK => ?_
  go_cut [13] (fun s13 wx => s13 = .int .u64 (tookN s k) ∧ wx = wc)
  case first =>
    have hsi : (0 : Int) ≤ (s : Int) / 4 := by omega
    by_cases k0 : k ≤ 0
    · have hk0 : decide (k ≤ 0) = true := by simpa using k0
      go_wp2_with fail
      go_meet
      exact ⟨by congr 1; unfold tookN; omega, rfl⟩
    have hk0 : decide (k ≤ 0) = false := by simpa using k0
    have hkp : 0 < k := by omega
    by_cases k1 : k < (s : Int) / 4
    · have hk1 : decide (k < (s : Int) / 4) = true := by simpa using k1
      go_wp2_with fail
      go_meet
      exact ⟨by congr 1; unfold tookN; omega, rfl⟩
    have hk1 : decide (k < (s : Int) / 4) = false := by simpa using k1
    by_cases k2 : 4 * (s : Int) < k
    · have hk2 : decide (4 * (s : Int) < k) = true := by simpa using k2
      go_wp2_with fail
      go_meet
      exact ⟨by congr 1; unfold tookN; omega, rfl⟩
    have hk2 : decide (4 * (s : Int) < k) = false := by simpa using k2
    go_wp2_with fail
    go_meet
    exact ⟨by congr 1; unfold tookN; omega, rfl⟩
  case rest =>
    obtain ⟨rfl, rfl⟩ := hcut
    have hsc := fun w ha hm => ref06_Scale va vb (tgt bits) (tookN s k) s (tgt l) w ha hm (tgt_lt hob) hto (by omega) hs0
    have hN : scaleN (tgt bits) (tookN s k) s (tgt l) < TOP := scaleN_lt (tgt_lt hol)
    generalize tookN s k = T at *
    generalize scaleN (tgt bits) T s (tgt l) = X at *
    go_wp2_with fail
    refine (hsc _ ha hbb).mono ?_
    rintro e w5 ⟨vq, rfl, hq, hc5⟩
    dsimp only
    go_wp2_with fail
    refine (ref06_Encode vq X hN _ hq).mono ?_
    rintro e w6 ⟨rfl, hc6⟩
    go_wp2
    go_ret
    exact ⟨by simp, (hcc4.trans hc5 (by simp)).trans hc6 (by simp)⟩
theorem law11_AdjustNext (v : Value) (a k : Int) (w : World) (hv : ∃ s l, RulesV v s l) (ha : (Lit.int .u32 a).wf = true) (hk : (Lit.int .i64 k).wf = true) :
    Calls Try.prog 9 #[v, .int .u32 a, .int .i64 k] w fun e w' => e = .returned (.bool true) ∧ Chg [] w w' := by
  obtain ⟨s, l, hv⟩ := hv
  obtain ⟨n, rfl, hn⟩ := wf_u32n ha
  obtain ⟨k1, k2⟩ := wf_i64n hk
  exact adjustNext_walk v s l n k hv hn k1 k2 w
end Go.Proofs.Ytbagkfeodjkdmaa

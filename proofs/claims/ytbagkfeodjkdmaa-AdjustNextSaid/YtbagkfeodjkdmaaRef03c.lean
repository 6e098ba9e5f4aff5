/- pontageref03: Of. -/
import Derived.Test.YtbagkfeodjkdmaaRef03b
namespace Go.Proofs.Ytbagkfeodjkdmaa
open Go.RowKit Go.Maps Go.Shelf

theorem pw_add (m : Nat) : ∀ n, pw (m + n) = pw m * pw n
  | 0 => by simp [pw]
  | n + 1 => by rw [show m + (n + 1) = (m + n) + 1 by omega, pw, pw, pw_add m n]; rw [← Int.mul_assoc, ← Int.mul_assoc, Int.mul_comm 65536]
/-- words, the lowest first. -/
def wds (a b c d : Int) : Int := a + pw 4 * b + pw 8 * c + pw 12 * d
def wd (a b c d : Int) (k : Nat) : Int := [a, b, c, d].getD k 0
def wsum (a b c d : Int) : Nat → Int
  | 0 => 0
  | k + 1 => wsum a b c d k + pw (4 * k) * wd a b c d k
theorem wsum4 (a b c d : Int) : wsum a b c d 4 = wds a b c d := by
  simp [wsum, wds, wd, pw]
set_option maxRecDepth 100000 in
theorem idx4 (a b c d : Int) (k : Nat) (hk : k < 4) (w : World) : (Instr.index 92 (.agg #[.int .u64 a, .int .u64 b, .int .u64 c, .int .u64 d]) (.int .i64 k)).run Try.prog w = .ok (.int .u64 (wd a b c d k)) w := by
  have h : k = 0 ∨ k = 1 ∨ k = 2 ∨ k = 3 := by omega
  rcases h with rfl | rfl | rfl | rfl
  all_goals (show Sem.run _ _ _ = _; kernel_rfl)

theorem of_step {vo V P q d : Int} (h : vo = V + P * q) : vo + P * d = V + P * (q + d) := by rw [h, Int.mul_add]; omega

set_option maxRecDepth 100000 in
set_option maxHeartbeats 4000000 in
theorem ref_Of (a b c d : Int) (w : World) (ha : (Lit.int .u64 a).wf = true) (hb : (Lit.int .u64 b).wf = true) (hc : (Lit.int .u64 c).wf = true) (hd : (Lit.int .u64 d).wf = true) :
    Calls Try.prog 97 #[.agg #[.int .u64 a, .int .u64 b, .int .u64 c, .int .u64 d]] w fun e w' => ∃ v, e = .returned v ∧ NAt w' v (wds a b c d).toNat ∧ (∀ k, inBlk v k → w.heap.size ≤ k) ∧ Chg [] w w' := by
  obtain ⟨i0, hi, hz0, hz1, hz2⟩ := info_parts infoU
  have hwd : ∀ k, k < 4 → 0 ≤ wd a b c d k ∧ wd a b c d k ≤ 18446744073709551615 := fun k hk => by
    have h1 := wf_u64.1 ha; have h2 := wf_u64.1 hb; have h3 := wf_u64.1 hc; have h4 := wf_u64.1 hd
    have h : k = 0 ∨ k = 1 ∨ k = 2 ∨ k = 3 := by omega
    rcases h with rfl | rfl | rfl | rfl <;> simp [wd] <;> omega
  have HWD := Lib.hid hwd
  clear hwd
  obtain ⟨w1, hw1⟩ : ∃ w1, w1 = w.alloc (.cells #[.int .u64 a, .int .u64 b, .int .u64 c, .int .u64 d] 92) := ⟨_, rfl⟩
  have hrow0 := ownsRow_empty w1 w.heap.size 23 (by rw [hw1]; simp)
  have hc0 : Chg [] w (w1.alloc (.cells #[] 23)) := by rw [hw1]; exact ((Chg.refl [] w).alloc _).alloc _
  have hcell := Blk.new w #[.int .u64 a, .int .u64 b, .int .u64 c, .int .u64 d] 92
  have hcell2 := hcell.alloc (.cells #[] 23)
  have k0 := hcell2.cell 0 (v := .int .u64 a) rfl
  have k1 := hcell2.cell 1 (v := .int .u64 b) rfl
  have k2 := hcell2.cell 2 (v := .int .u64 c) rfl
  have k3 := hcell2.cell 3 (v := .int .u64 d) rfl
  have hz : w1.heap.size = w.heap.size + 1 := by rw [hw1]; simp
  rw [hw1] at hrow0 hc0 hz
  clear hw1 hcell hcell2
  go_enter Try.func97, Try.ntmps97
  go_wp2
  rw [hz] at hrow0
  generalize (w.alloc (.cells #[.int .u64 a, .int .u64 b, .int .u64 c, .int .u64 d] 92)).alloc (.cells #[] 23) = w0 at hrow0 hc0 k0 k1 k2 k3 ⊢
  obtain ⟨s, hs⟩ : ∃ s, s = w.heap.size := ⟨_, rfl⟩
  have hs' := Lib.hid hs
  simp only [← hs] at hrow0 ⊢
  clear hs k0 k1 k2 k3 hz
  go_loopw [3, 9] (fun s3 s9 wr => ∃ (v : Value) (o : List Int) (k : Nat), v = s3 ∧ s9 = .int .i64 k ∧ k ≤ 4 ∧ wr.ownsRow s 23 1 v o.length (o.map (Value.int .u64)) ∧ o.length = 4 * k ∧ Dg o ∧ val o = wsum a b c d k ∧ Chg [] w wr) (fun _ s9 _ => 4 - (intOf s9).toNat)
  case atStart => exact ⟨_, [], 0, rfl, rfl, by omega, hrow0, rfl, (fun d hd => by cases hd), rfl, hc0⟩
  case round =>
    obtain ⟨v, o, k, rfl, rfl, hk, hrow, hol, hdo, hval, hch⟩ := hrel
    have HV := Lib.hid hval
    clear hval
    by_cases hlt : k < 4
    · have hidx := idx4 a b c d k hlt
      obtain ⟨x, hx⟩ : ∃ x, x = wd a b c d k := ⟨_, rfl⟩
      have hx1 := HWD.out k hlt
      have hsum : wsum a b c d (k + 1) = wsum a b c d k + pw (4 * k) * x := by rw [hx]; rfl
      have HS := Lib.hid hsum
      rw [← hx] at hx1
      simp only [← hx] at hidx
      clear hx hsum
      go_wp2
      have HLT := Lib.hid hlt
      clear hlt ‹(k : Int) < 4›
      go_loopw [3, 6] (fun s3 s6 wr2 => ∃ (v : Value) (o : List Int) (i : Nat), v = s3 ∧ s6 = .int .i64 i ∧ i ≤ 4 ∧ wr2.ownsRow s 23 1 v o.length (o.map (Value.int .u64)) ∧ o.length = 4 * k + i ∧ Dg o ∧ val o = wsum a b c d k + pw (4 * k) * (x % pw i) ∧ Chg [] w wr2) (fun _ s6 _ => 4 - (intOf s6).toNat)
      case atStart => exact ⟨v, o, 0, rfl, rfl, by omega, hrow, hol, hdo, by rw [HV.out]; simp [pw], hch⟩
      case round =>
        clear hrow hol hdo HV hch
        obtain ⟨v, o, i, rfl, rfl, hi4, hrow, hol, hdo, hval, hch⟩ := hrel
        have HV := Lib.hid hval
        clear hval
        by_cases hlt2 : i < 4
        · have hcase : i = 0 ∨ i = 1 ∨ i = 2 ∨ i = 3 := by omega
          rcases hcase with rfl | rfl | rfl | rfl
          · go_wp2_with (first
              | (at_builtin; refine wpList_append_own_at _ rfl _ _ 86 rfl s 23 i0 (.int .u64 0) 1 8 Try.underlying86 hi hz0 hz1 hz2 rfl (by decide) v _ _ rfl (hrow.alloc _) ⟨wr.heap.size, 0, none⟩ 1 1 [.int .u64 (x % 65536)] rfl rfl (cell_one_new _ _ _) (by simp [Value.oneCell']) (by unfold maxLen; omega) (by omega) (by have := hch.size; have := hs'.out; simp; omega) ?_; intro v' w10 hown' hgrow hnil' hloc)
              | go_in)
            have hy : 0 ≤ x % 65536 ∧ x % 65536 < 65536 := by omega
            go_roundw
            case rel =>
              refine ⟨v', o ++ [x % 65536], 1, rfl, rfl, by omega, by simpa using hown', by simp [hol], hdo.append (fun z hz => by simp at hz; subst hz; exact hy), ?_, chg_app hch (by rw [hs'.out]; exact Nat.le_refl _) hrow hgrow⟩
              rw [val_snoc, hol, pw_add, Int.mul_assoc, of_step HV.out]
              congr 1
              congr 1
              simp only [pw]
              omega
            case measure => simp [intOf]
          · go_wp2_with (first
              | (at_builtin; refine wpList_append_own_at _ rfl _ _ 86 rfl s 23 i0 (.int .u64 0) 1 8 Try.underlying86 hi hz0 hz1 hz2 rfl (by decide) v _ _ rfl (hrow.alloc _) ⟨wr.heap.size, 0, none⟩ 1 1 [.int .u64 (x / 65536 % 65536)] rfl rfl (cell_one_new _ _ _) (by simp [Value.oneCell']) (by unfold maxLen; omega) (by omega) (by have := hch.size; have := hs'.out; simp; omega) ?_; intro v' w10 hown' hgrow hnil' hloc)
              | go_in)
            have hy : 0 ≤ (x / 65536) % 65536 ∧ (x / 65536) % 65536 < 65536 := by omega
            go_roundw
            case rel =>
              refine ⟨v', o ++ [(x / 65536) % 65536], 2, rfl, rfl, by omega, by simpa using hown', by simp [hol], hdo.append (fun z hz => by simp at hz; subst hz; exact hy), ?_, chg_app hch (by rw [hs'.out]; exact Nat.le_refl _) hrow hgrow⟩
              rw [val_snoc, hol, pw_add, Int.mul_assoc, of_step HV.out]
              congr 1
              congr 1
              simp only [pw]
              omega
            case measure => simp [intOf]
          · go_wp2_with (first
              | (at_builtin; refine wpList_append_own_at _ rfl _ _ 86 rfl s 23 i0 (.int .u64 0) 1 8 Try.underlying86 hi hz0 hz1 hz2 rfl (by decide) v _ _ rfl (hrow.alloc _) ⟨wr.heap.size, 0, none⟩ 1 1 [.int .u64 (x / 4294967296 % 65536)] rfl rfl (cell_one_new _ _ _) (by simp [Value.oneCell']) (by unfold maxLen; omega) (by omega) (by have := hch.size; have := hs'.out; simp; omega) ?_; intro v' w10 hown' hgrow hnil' hloc)
              | go_in)
            have hy : 0 ≤ (x / 4294967296) % 65536 ∧ (x / 4294967296) % 65536 < 65536 := by omega
            go_roundw
            case rel =>
              refine ⟨v', o ++ [(x / 4294967296) % 65536], 3, rfl, rfl, by omega, by simpa using hown', by simp [hol], hdo.append (fun z hz => by simp at hz; subst hz; exact hy), ?_, chg_app hch (by rw [hs'.out]; exact Nat.le_refl _) hrow hgrow⟩
              rw [val_snoc, hol, pw_add, Int.mul_assoc, of_step HV.out]
              congr 1
              congr 1
              simp only [pw]
              omega
            case measure => simp [intOf]
          · go_wp2_with (first
              | (at_builtin; refine wpList_append_own_at _ rfl _ _ 86 rfl s 23 i0 (.int .u64 0) 1 8 Try.underlying86 hi hz0 hz1 hz2 rfl (by decide) v _ _ rfl (hrow.alloc _) ⟨wr.heap.size, 0, none⟩ 1 1 [.int .u64 (x / 281474976710656 % 65536)] rfl rfl (cell_one_new _ _ _) (by simp [Value.oneCell']) (by unfold maxLen; omega) (by omega) (by have := hch.size; have := hs'.out; simp; omega) ?_; intro v' w10 hown' hgrow hnil' hloc)
              | go_in)
            have hy : 0 ≤ (x / 281474976710656) % 65536 ∧ (x / 281474976710656) % 65536 < 65536 := by omega
            go_roundw
            case rel =>
              refine ⟨v', o ++ [(x / 281474976710656) % 65536], 4, rfl, rfl, by omega, by simpa using hown', by simp [hol], hdo.append (fun z hz => by simp at hz; subst hz; exact hy), ?_, chg_app hch (by rw [hs'.out]; exact Nat.le_refl _) hrow hgrow⟩
              rw [val_snoc, hol, pw_add, Int.mul_assoc, of_step HV.out]
              congr 1
              congr 1
              simp only [pw]
              omega
            case measure => simp [intOf]
        · obtain rfl : i = 4 := by omega
          have hlt := HLT.out
          have hv2 : val o = wsum a b c d (k + 1) := by
            rw [HV.out, HS.out]
            congr 1
            congr 1
            simp only [pw]
            omega
          have HV2 := Lib.hid hv2
          clear hv2
          go_wp2
          go_roundw
          case rel => exact ⟨v, o, k + 1, rfl, by simp, by omega, hrow, by omega, hdo, HV2.out, hch⟩
          case measure => simp [intOf]; omega
    · obtain rfl : k = 4 := by omega
      have hv := HV.out
      rw [wsum4] at hv
      obtain ⟨hD, hin⟩ := DgAt.of_own hrow hdo (by omega)
      have htr := ref_trim v o wr hD
      rw [hv] at htr
      clear hv HV
      go_wp2_with (go_at_call 143; refine htr.mono ?_; rintro e w9 ⟨u, rfl, hu, huv, rfl⟩)
      go_ret
      exact ⟨u, rfl, hu, fun k hk => by have := hin k (huv k hk); have := hs'.out; omega, hch⟩
end Go.Proofs.Ytbagkfeodjkdmaa

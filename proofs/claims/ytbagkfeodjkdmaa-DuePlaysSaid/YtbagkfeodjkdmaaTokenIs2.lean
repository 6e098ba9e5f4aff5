/- pontagelaw15.is: a ledger tells what a model has. -/
import Derived.Test.YtbagkfeodjkdmaaTokenIs
namespace Go.Proofs.Ytbagkfeodjkdmaa
open Go.RowKit Go.Maps Go.Shelf

/-- a map that has m (parties that it lacks have none). -/
def ModAt (w : World) (c : Nat) (m : Int → Int) : Prop := ∃ cnt f, MapV w 42 .u8 c cnt f ∧ ∀ k, (Lit.int .u8 k).wf = true → (f k).getD (.int .u64 0) = .int .u64 (m k)
theorem ModAt.chg {w w' : World} {c : Nat} {m : Int → Int} {S : List Nat} (h : ModAt w c m) (k : Chg S w w') (hc : c ∉ S) : ModAt w' c m := by
  obtain ⟨cnt, f, h, x⟩ := h; exact ⟨cnt, f, h.chg k hc, x⟩
theorem ModAt.look {w : World} {c : Nat} {m : Int → Int} (h : ModAt w c m) {k : Int} (hk : (Lit.int .u8 k).wf = true) : (Instr.lookup 40 (.map (some c)) (.int .u8 k) false).run Try.prog w = .ok (.int .u64 (m k)) w := by
  obtain ⟨cnt, f, h, x⟩ := h
  have := h.look Try.underlying42 (t := 40) (E := 41) Try.underlying40 (zAmount _) hk
  rwa [x k hk] at this

theorem keysTo_prefix (m : Int → Int) (i : Nat) : ∀ n : Nat, i ≤ n → keysTo m i <+: keysTo m n
  | 0, h => by obtain rfl : i = 0 := by omega
               exact List.prefix_refl _
  | n + 1, h => by
    by_cases e : i = n + 1
    · subst e; exact List.prefix_refl _
    · exact (keysTo_prefix m i n (by omega)).trans (List.prefix_append _ _)
theorem keysTo_at (m : Int → Int) (i n : Nat) (h : i < n) (h0 : m i ≠ 0) : ∃ hl : (keysTo m i).length < (keysTo m n).length, (keysTo m n)[(keysTo m i).length] = (i : Int) := by
  have hp := keysTo_prefix m (i + 1) n (by omega)
  have e : keysTo m (i + 1) = keysTo m i ++ [(i : Int)] := by rw [keysTo, if_neg h0]
  rw [e] at hp
  obtain ⟨t, ht⟩ := hp
  refine ⟨by rw [← ht]; simp, ?_⟩
  simp only [← ht]
  simp
theorem keysTo_skip (m : Int → Int) (i : Nat) (h0 : m i = 0) : keysTo m (i + 1) = keysTo m i := by rw [keysTo, if_pos h0, List.append_nil]
theorem keysTo_more (m : Int → Int) (i : Nat) (h0 : m i ≠ 0) : (keysTo m (i + 1)).length = (keysTo m i).length + 1 := by rw [keysTo, if_neg h0]; simp

theorem sumM_mono (m : Int → Int) (h : ∀ k, 0 ≤ m k) (i : Nat) : ∀ n : Nat, i ≤ n → sumM m i ≤ sumM m n
  | 0, e => by obtain rfl : i = 0 := by omega
               exact Int.le_refl _
  | n + 1, e => by
    by_cases h1 : i = n + 1
    · subst h1; exact Int.le_refl _
    · have := sumM_mono m h i n (by omega); have := h n; rw [sumM]; omega

set_option maxRecDepth 100000 in
set_option maxHeartbeats 4000000 in
theorem law15_is (p mb c : Nat) (L : Led) (w : World) (h : LedAt w p mb L) (ok : LedOk L) (hm : ModAt w c L.m) :
    Calls Try.prog 25 #[.pointer (some ⟨p, 0, none⟩), .map (some c), .int .u64 L.tot] w fun e w' => e = .returned (.bool true) ∧ Chg [] w w' := by
  have hall := token_All (some ⟨p, 0, none⟩) w
  have hc1 : Chg [] w (w.alloc (.cells #[.pointer (some ⟨p, 0, none⟩)] 38)) := (Chg.refl [] w).alloc _
  have hb1 := Blk.new w #[.pointer (some ⟨p, 0, none⟩)] 38
  have hled1 := h.chg hc1 (by simp) (by simp)
  have hcol := law15_all_led w.heap.size p mb L _ hb1 hled1
  generalize w.alloc (.cells #[.pointer (some ⟨p, 0, none⟩)] 38) = w1 at hall hc1 hb1 hled1 hcol
  have htot := ok.sum
  have hle := ok.le
  have hnn := ok.nn
  obtain ⟨N, hN⟩ : ∃ N : Nat, N = 256 := ⟨_, rfl⟩
  have hat := fun i hi h0 => keysTo_at L.m i N hi h0
  have hmono := fun i hi => sumM_mono L.m hnn i N hi
  rw [← hN] at hcol htot
  have hN1 : N ≤ 256 := by omega
  have hN2 : 256 ≤ N := by omega
  clear hN
  go_enter Try.func25, Try.ntmps25
  go_wp2_with (first
    | (go_at_call 32; refine hall.mono ?_; rintro e w' ⟨rfl, hw⟩; subst hw)
    | (go_at_call 31; refine hcol.mono ?_; rintro e w2 ⟨v, rfl, hs, hfr, hc2⟩; obtain ⟨va, vcap, rfl⟩ := hs.len))
  have hled2 := hled1.chg hc2 (by simp) (by simp)
  have hcx := hc1.trans hc2 (by simp)
  have hm2 := hm.chg hcx (by simp)
  clear hall hcol hled1 hb1 hc1 hc2 hm
  go_loopw [8, 9, 15] (fun k s i wr => ∃ n : Nat, n ≤ N ∧ i = .int .i64 n ∧ k = .int .i64 (keysTo L.m n).length ∧ s = .int .u64 (sumM L.m n) ∧ wr = w2) (fun _ _ i _ => N - (intOf i).toNat)
  case atStart => exact ⟨0, Nat.zero_le _, rfl, rfl, rfl, rfl⟩
  case round =>
    obtain ⟨n, hn, rfl, rfl, rfl, rfl⟩ := hrel
    by_cases hlt : n < N
    · have hwf : (Lit.int .u8 n).wf = true := wf_u8.2 (by omega)
      have hrun := hm2.look hwf
      have hmod : (n : Int) % 256 = n := by omega
      have hOf := token_Of p mb L n _ hled2 hwf
      have h1 := hmono n (by omega)
      have h2 := hmono (n + 1) (by omega)
      rw [sumM] at h2
      have hsn := sumM_nonneg L.m hnn n
      have hv := hnn n
      by_cases h0 : L.m n = 0
      · go_wp2_with (first | (go_at_call 29; refine hOf.mono ?_; rintro e w' ⟨rfl, rfl⟩))
        go_roundw
        case rel => exact ⟨n + 1, by omega, by simp, by rw [keysTo_skip _ _ h0], by rw [sumM, h0]; simp, trivial⟩
        case measure => simp [intOf]; omega
      · obtain ⟨hl, hget⟩ := hat n hlt h0
        have hl' : (keysTo L.m n).length < (have_ L.m (keysTo L.m N)).length := by simpa [have_] using hl
        have hge : (have_ L.m (keysTo L.m N))[(keysTo L.m n).length] = ((n : Int), L.m n) := by simp [have_, hget]
        rcases hs with ⟨_, e0⟩ | ⟨b, cap, cs, t, e0, hb, hcs⟩
        · rw [e0] at hl'; simp at hl'
        · cases e0
          obtain ⟨g1, g2⟩ := hcs _ hl'
          rw [hge] at g1 g2
          have d1 := hb.cell _ g1
          have d2 := hb.cell _ g2
          have hmore := keysTo_more L.m n h0
          have hkk := keysTo_length L.m n
          clear hge g1 g2 hcs hget
          generalize (keysTo L.m n).length = kk at d1 d2 hl hl' hmore hkk ⊢
          generalize (have_ L.m (keysTo L.m N)).length = len at hl' ⊢
          go_wp2_with (first | (go_at_call 29; refine hOf.mono ?_; rintro e w' ⟨rfl, rfl⟩))
          go_roundw
          case rel => exact ⟨n + 1, by omega, by simp, by rw [hmore]; simp, by rw [sumM], trivial⟩
          case measure => simp [intOf]; omega
    · obtain rfl : n = N := by omega
      have hTot := token_Total p mb L _ hled2
      have hlen : (have_ L.m (keysTo L.m n)).length = (keysTo L.m n).length := by simp [have_]
      rw [htot, hlen]
      generalize (keysTo L.m n).length = kk at hlen ⊢
      go_wp2_with (first | (go_at_call 30; refine hTot.mono ?_; rintro e w' ⟨rfl, rfl⟩))
      go_ret
      exact ⟨rfl, hcx⟩
end Go.Proofs.Ytbagkfeodjkdmaa

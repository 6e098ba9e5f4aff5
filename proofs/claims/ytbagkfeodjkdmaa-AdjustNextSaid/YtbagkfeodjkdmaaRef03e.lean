/- pontageref03: Add, Sub, Cmp at numbers; FromBits. -/
import Derived.Test.YtbagkfeodjkdmaaRef03d
namespace Go.Proofs.Ytbagkfeodjkdmaa
open Go.RowKit Go.Maps Go.Shelf

theorem pw_two : ∀ k, pw k = ((2 ^ (16 * k) : Nat) : Int)
  | 0 => rfl
  | k + 1 => by rw [pw, pw_two k, show 16 * (k + 1) = 16 * k + 16 by omega, Nat.pow_add, Nat.mul_comm]; simp; omega
theorem digs_blen (n : Nat) : (digs n).length ≤ blen n / 16 + 1 := by
  refine digs_len ?_
  rw [pw_two]
  have h1 := lt_blen n
  have h2 : 2 ^ blen n ≤ 2 ^ (16 * (blen n / 16 + 1)) := Nat.pow_le_pow_right (by decide) (by omega)
  omega
theorem blen_addN (n m k : Nat) (h1 : blen n ≤ k) (h2 : blen m ≤ k) : blen (n + m) ≤ k + 1 := by
  rw [blen_le] at *; rw [Nat.pow_succ]; omega

theorem ref_AddN (va vb : Value) (n m : Nat) (w : World) (ha : NAt w va n) (hb : NAt w vb m) (h1 : blen n ≤ 8000) (h2 : blen m ≤ 8000) :
    Calls Try.prog 96 #[va, vb] w fun e w' => ∃ v, e = .returned v ∧ NAt w' v (n + m) ∧ (∀ k, inBlk v k → w.heap.size ≤ k) ∧ Chg [] w w' :=
  (ref_Add va vb _ _ w ha hb ⟨by have := digs_blen n; omega, by have := digs_blen m; omega⟩).mono fun e w' ⟨v, he, hv, hf, hc⟩ => by
    rw [val_digs, val_digs] at hv
    exact ⟨v, he, by rwa [show ((n : Int) + (m : Int)).toNat = n + m by omega] at hv, hf, hc⟩
theorem ref_SubN (va vb : Value) (n m : Nat) (w : World) (ha : NAt w va n) (hb : NAt w vb m) (h1 : blen n ≤ 8000) (h2 : m ≤ n) :
    Calls Try.prog 98 #[va, vb] w fun e w' => ∃ v, e = .returned v ∧ NAt w' v (n - m) ∧ (∀ k, inBlk v k → w.heap.size ≤ k) ∧ Chg [] w w' :=
  (ref_Sub va vb _ _ w ha hb (by have := digs_blen n; omega) (by
      have h3 := val_lt (dg_digs n)
      rw [val_digs] at h3
      exact digs_len (by omega)) (by rw [val_digs, val_digs]; omega)).mono fun e w' ⟨v, he, hv, hf, hc⟩ => by
    rw [val_digs, val_digs] at hv
    exact ⟨v, he, by rwa [show ((n : Int) - (m : Int)).toNat = n - m by omega] at hv, hf, hc⟩
def cmpM (n m : Nat) : Int := if n < m then -1 else if m < n then 1 else 0
theorem ref_CmpN (va vb : Value) (n m : Nat) (w : World) (ha : NAt w va n) (hb : NAt w vb m) :
    Calls Try.prog 99 #[va, vb] w fun e w' => e = .returned (.int .i64 (cmpM n m)) ∧ w' = w :=
  (ref_Cmp va vb _ _ w ha hb).mono fun e w' ⟨he, hw⟩ => by
    refine ⟨?_, hw⟩
    rw [he, val_digs, val_digs]; unfold cmpM; simp only [Int.ofNat_lt]

/-! ### numbers that are laid -/
theorem NAt.none_ (w : World) (T : TypeId) : NAt (w.alloc (.cells #[] T)) (.slice (some ⟨w.heap.size, 0, none⟩) 0 0) 0 := by
  unfold NAt
  rw [digs_zero]
  exact ⟨.inr ⟨w.heap.size, 0, 0, #[], T, rfl, Blk.new w #[] T, fun i hi => absurd hi (by simp)⟩, fun a n c e => (by cases e; omega), fun d hd => (by cases hd), by simp⟩
theorem digs_one : digs 1 = [1] := by rw [digs_pos (by omega), show 1 / 65536 = 0 from rfl, digs_zero]; rfl
theorem NAt.one_ (w : World) (T : TypeId) : NAt (w.alloc (.cells #[.int .u64 1] T)) (.slice (some ⟨w.heap.size, 0, none⟩) 1 1) 1 := by
  unfold NAt
  rw [digs_one]
  refine ⟨.inr ⟨w.heap.size, 0, 1, #[.int .u64 1], T, rfl, Blk.new w _ T, fun i hi => ?_⟩, fun a n c e => by cases e; omega, fun d hd => by simp at hd; omega, by simp⟩
  have : i = 0 := by simpa using hi
  subst this; rfl

/-- the number of bits, the lowest first. -/
def bval : List Int → Nat
  | [] => 0
  | b :: t => (if b = 1 then 1 else 0) + 2 * bval t
theorem bval_lt : ∀ l : List Int, bval l < 2 ^ l.length
  | [] => by decide
  | b :: t => by have := bval_lt t; rw [bval, List.length_cons, Nat.pow_succ]; split <;> omega
theorem bval_blen (l : List Int) : blen (bval l) ≤ l.length := blen_le.2 (bval_lt l)
theorem bval_bitsOf (n : Nat) : bval (bitsOf n) = n := by
  induction n using Nat.strongRecOn with
  | _ n ih =>
    by_cases h : n = 0
    · subst h; rw [bitsOf_zero]; rfl
    · rw [bitsOf_pos h, bval, ih (n / 2) (by omega)]
      split <;> omega

set_option maxRecDepth 100000 in
set_option maxHeartbeats 2000000 in
theorem ref_FromBits (vl : Value) (l : List Int) (w : World) (hl : SlI w .u64 vl l) (hn : l.length ≤ 4000) :
    Calls Try.prog 146 #[vl] w fun e w' => ∃ v, e = .returned v ∧ NAt w' v (bval l) ∧ (∀ k, inBlk v k → w.heap.size ≤ k) ∧ Chg [] w w' := by
  obtain ⟨la, lc, rfl⟩ := hl.len
  have hc0 : Chg [] w (w.alloc (.cells #[] 23)) := (Chg.refl [] w).alloc _
  have hN0 := NAt.none_ w 23
  have hLw : wrap64 ((l.length : Int) - 1) = (l.length : Int) - 1 := by unfold wrap64; omega
  go_enter Try.func146, Try.ntmps146
  go_wp2
  try simp only [hLw]
  clear hLw
  generalize w.alloc (.cells #[] 23) = w0 at hN0 hc0 ⊢
  obtain ⟨s, hs⟩ : ∃ s, s = w.heap.size := ⟨_, rfl⟩
  have hs' := Lib.hid hs
  simp only [← hs] at hN0 ⊢
  have hf0 : ∀ k, inBlk (.slice (some ⟨s, 0, none⟩) 0 0) k → s ≤ k := fun k ⟨o, n, c, e⟩ => by cases e; exact Nat.le_refl _
  clear hs
  go_loopw [3, 4] (fun s3 s4 wr => ∃ k : Nat, s4 = .int .i64 ((k : Int) - 1) ∧ k ≤ l.length ∧ NAt wr s3 (bval (l.drop k)) ∧ (∀ b, inBlk s3 b → s ≤ b) ∧ Chg [] w wr) (fun _ s4 _ => (intOf s4 + 1).toNat)
  case atStart => exact ⟨l.length, rfl, Nat.le_refl _, by simpa [bval] using hN0, hf0, hc0⟩
  case round =>
    clear hN0 hf0 hc0
    obtain ⟨k, rfl, hk, hN, hfr, hch⟩ := hrel
    have HF := Lib.hid hfr
    clear hfr
    by_cases hk0 : k = 0
    · subst hk0
      simp only [List.drop_zero] at hN
      go_wp2
      go_ret
      exact ⟨_, rfl, hN, fun k hk => by have := HF.out k hk; have := hs'.out; omega, hch⟩
    · obtain ⟨j, rfl⟩ : ∃ j, k = j + 1 := ⟨k - 1, by omega⟩
      have hm1 : ((j + 1 : Nat) : Int) - 1 = (j : Int) := by omega
      simp only [hm1]
      clear hm1 hk0
      have hjl : j < l.length := by omega
      obtain ⟨b, off, rfl, hc⟩ := (hl.chg hch (by simp)).cell hjl
      have hdr := Lib.hid (show bval (l.drop j) = (if l[j] = 1 then 1 else 0) + 2 * bval (l.drop (j + 1)) by rw [drop_cons hjl]; rfl)
      have hbl : blen (bval (l.drop (j + 1))) ≤ 4000 := by have := bval_blen (l.drop (j + 1)); simp at this; omega
      generalize bval (l.drop (j + 1)) = X at hN hdr hbl
      have hadd := ref_AddN _ _ X X wr hN hN (by omega) (by omega)
      have hj2 : (j : Int) < l.length := by omega
      have hj3 : (j : Int) ≤ 4000 := by omega
      have hsz : w.heap.size ≤ wr.heap.size := hch.size
      have HSZ := Lib.hid hsz
      have hb2 := blen_addN X X 4000 hbl hbl
      clear hk hsz
      generalize hxe : l[j] = x at hc hdr
      have HXE := Lib.hid hxe
      clear hxe
      have HLJ := Lib.hid (fun W => fun hW : Chg [] w W => (hl.chg hW (by simp)).cell hjl)
      clear hl hc
      go_wp2_with fail
      refine hadd.mono ?_
      rintro e w5 ⟨v5, rfl, hN5, hf5, hc5⟩
      have hch5 := hch.trans hc5 (by simp)
      obtain ⟨b', off', e', hc'⟩ := HLJ.out w5 hch5
      cases e'
      rw [HXE.out] at hc'
      have hsz5 := Lib.hid hc5.size
      by_cases hx : x = 1
      · subst hx
        have hd2 := Lib.hid (show bval (l.drop j) = X + X + 1 by rw [hdr.out]; simp; omega)
        have hone := NAt.one_ w5 23
        have hN6 := NAt.same hN5 ((Chg.refl [] w5).alloc (.cells #[.int .u64 1] 23))
        have hadd2 := ref_AddN _ _ (X + X) 1 _ hN6 hone (by omega) (by decide)
        have hc6 : Chg [] w (w5.alloc (.cells #[.int .u64 1] 23)) := hch5.alloc _
        have hz6 : w5.heap.size ≤ (w5.alloc (.cells #[.int .u64 1] 23)).heap.size := by simp
        go_wp2_with fail
        refine hadd2.mono ?_
        rintro e w7 ⟨v7, rfl, hN7, hf7, hc7⟩
        go_wp2
        go_roundw
        case rel => exact ⟨j, rfl, by omega, by rw [hd2.out]; exact hN7, fun b hb => by have := hf7 b hb; have := hs'.out; have := HSZ.out; have := hsz5.out; omega, hc6.trans hc7 (by simp)⟩
        case measure => simp [intOf]
      · have hx' : (x == 1) = false := by simpa using hx
        have hd2 := Lib.hid (show bval (l.drop j) = X + X by rw [hdr.out, if_neg hx]; omega)
        clear hx
        go_wp2
        go_roundw
        case rel => exact ⟨j, rfl, by omega, by rw [hd2.out]; exact hN5, fun b hb => by have := hf5 b hb; have := hs'.out; have := HSZ.out; omega, hch5⟩
        case measure => simp [intOf]
end Go.Proofs.Ytbagkfeodjkdmaa

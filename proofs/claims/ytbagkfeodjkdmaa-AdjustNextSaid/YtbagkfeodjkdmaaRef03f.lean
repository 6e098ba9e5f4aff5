/- pontageref03: Div. Printed by refdiv.py. -/
import Derived.Test.YtbagkfeodjkdmaaRef03e
import Derived.Test.YtbagkfeodjkdmaaWideH
namespace Go.Proofs.Ytbagkfeodjkdmaa
open Go.RowKit Go.Maps Go.Shelf

set_option maxRecDepth 100000 in
set_option maxHeartbeats 8000000 in
theorem ref_Div (va vb : Value) (n m : Nat) (w : World) (ha : NAt w va n) (hb : NAt w vb m) (hm : m ≠ 0) (h1 : blen n ≤ 3000) (h2 : blen m ≤ 3000) :
    Calls Try.prog 105 #[va, vb] w fun e w' => ∃ vq vr, e = .returned (.tuple #[vq, vr]) ∧ NAt w' vq (n / m) ∧ NAt w' vr (n % m) ∧ (∀ k, inBlk vq k → w.heap.size ≤ k) ∧ (∀ k, inBlk vr k → w.heap.size ≤ k) ∧ Chg [] w w' := by
  have hbits := ref_Bits va n w ha (by omega)
  have hbl := bitsOf_length n
  have HGET := Lib.hid (bitsOf_get n)
  go_enter Try.func105, Try.ntmps105
  go_wp2_with fail
  refine hbits.mono ?_
  rintro e w1 ⟨v6, rfl, hl, hf6, hc1⟩
  obtain ⟨la, lc, rfl⟩ := hl.len
  generalize hBN : bitsOf n = bits at hl hbl HGET ⊢
  clear hBN
  have hL : bits.length ≤ 3000 := by omega
  have hmk := run_make_row' (P := Try.prog) 22 23 (.int .u64 0) 8 Try.underlying22 infoU' rfl .i64 .i64 bits.length (by omega) (by omega)
  have hout := (Blk.outNew w1 bits.length).alloc (.cells #[] 23)
  have hN0 := NAt.none_ (w1.alloc (.cells (madeCells #[.int .u64 0] bits.length) 23)) 23
  have hc2 : Chg [] w ((w1.alloc (.cells (madeCells #[.int .u64 0] bits.length) 23)).alloc (.cells #[] 23)) := (hc1.alloc _).alloc _
  have hl2 := hl.chg (((Chg.refl [] w1).alloc (.cells (madeCells #[.int .u64 0] bits.length) 23)).alloc (.cells #[] 23)) (by simp)
  have hlt := fun b (hb : inBlk (.slice la bits.length lc) b) => (show b < w1.heap.size from by
    obtain ⟨o, n', c', e⟩ := hb
    cases e
    rcases hl with ⟨e', _⟩ | ⟨b', off', cap', cs', T', e', hbk, _⟩
    · cases e'
    · cases e'; exact hbk.lt)
  have HLT := Lib.hid hlt
  have hBL := Lib.hid hbl
  have hLw : wrap64 ((bits.length : Int) - 1) = (bits.length : Int) - 1 := by unfold wrap64; omega
  have hz1 := hc1.size
  clear hl hlt hbl hf6
  simp only [World.size_alloc] at hN0
  go_wp2
  try simp only [hLw]
  clear hLw hmk
  generalize (w1.alloc (.cells (madeCells #[.int .u64 0] bits.length) 23)).alloc (.cells #[] 23) = w2 at hout hN0 hc2 hl2 ⊢
  obtain ⟨g, hg⟩ : ∃ g, g = w1.heap.size := ⟨_, rfl⟩
  rw [← hg] at hN0 hout HLT hz1
  simp only [← hg]
  have hg1 : g < w2.heap.size := hout.lt
  have hf0 : ∀ b, inBlk (.slice (some ⟨g + 1, 0, none⟩) 0 0) b → g < b := fun k ⟨o, n, c, e⟩ => by cases e; exact Nat.lt_succ_self _
  clear hg hc1
  have hall : ∀ {W}, Chg [g] w2 W → Chg [] w W := fun k => hc2.trans k (by simp [hz1])
  go_loopw [8, 9] (fun s8 s9 wr => ∃ (k : Nat) (ql : List Int), s9 = .int .i64 ((k : Int) - 1) ∧ k ≤ bits.length ∧ NAt wr s8 (n / 2 ^ k % m) ∧ ql.length = bits.length ∧ bval (ql.drop k) = n / 2 ^ k / m ∧ Hid (∀ i (h : i < ql.length), i < k → ql[i] = 0) ∧ Blk wr g (arrU ql) 23 ∧ (∀ b, inBlk s8 b → g < b) ∧ Chg [g] w2 wr) (fun _ s9 _ => (intOf s9 + 1).toNat)
  case atStart =>
    have e0 : n / 2 ^ bits.length = 0 := Nat.div_eq_of_lt (by rw [hBL.out]; exact lt_blen n)
    exact ⟨bits.length, List.replicate bits.length 0, rfl, Nat.le_refl _, by rw [e0, Nat.zero_mod]; exact hN0, by simp, by rw [e0]; simp [bval], Lib.hid (fun i h _ => by simp), hout, hf0, Chg.refl _ _⟩
  case round =>
    clear hN0 hout hf0
    obtain ⟨k, ql, rfl, hk, hN, hql, hbv, HZ, hblk, hfr, hch⟩ := hrel
    have HF := Lib.hid hfr
    have HBV := Lib.hid hbv
    have HQL := Lib.hid hql
    clear hfr hbv hql
    have hcw := hall hch
    by_cases hk0 : k = 0
    · subst hk0
      have hv := HBV.out
      simp only [List.drop_zero, Nat.pow_zero, Nat.div_one] at hv hN
      have hsl : SlI wr .u64 (.slice (some ⟨g, 0, none⟩) ql.length bits.length) ql := SlI.ofOut hblk
      rw [HQL.out] at hsl
      have hfb := ref_FromBits _ ql wr hsl (by have := HQL.out; omega)
      rw [hv] at hfb
      clear hv HBV
      go_wp2_with fail
      refine hfb.mono ?_
      rintro e w5 ⟨v5, rfl, hN5, hf5, hc5⟩
      have hN6 := NAt.same hN hc5
      have hz := hcw.size
      go_wp2
      go_ret2
      exact ⟨_, _, rfl, hN5, hN6, fun k hk => by have := hf5 k hk; omega, fun k hk => by have := HF.out k hk; omega, hcw.trans hc5 (by simp)⟩
    · obtain ⟨j, rfl⟩ : ∃ j, k = j + 1 := ⟨k - 1, by omega⟩
      have hm1 : ((j + 1 : Nat) : Int) - 1 = (j : Int) := by omega
      simp only [hm1]
      clear hm1 hk0
      have hjl : j < bits.length := by omega
      obtain ⟨hst1, hst2⟩ := div_step n m j (by omega)
      have hRlt := Nat.mod_lt (n / 2 ^ (j + 1)) (show 0 < m by omega)
      have hget := HGET.out j hjl
      have hβ1 : n / 2 ^ j % 2 < 2 := Nat.mod_lt _ (by omega)
      have hbv := HBV.out
      generalize n / 2 ^ (j + 1) % m = R at hst1 hst2 hRlt hN
      generalize n / 2 ^ (j + 1) / m = AN at hst2 hbv
      generalize n / 2 ^ j % 2 = β at hst1 hst2 hget hβ1
      have HS1 := Lib.hid hst1
      have HS2 := Lib.hid hst2
      have HBV2 := Lib.hid hbv
      have HXE := Lib.hid hget
      have hbR : blen R ≤ 3000 := Nat.le_trans (blen_mono (by omega)) h2
      have hb2R := blen_addN R R 3000 hbR hbR
      have HLJ := Lib.hid (fun W => fun hW : Chg [g] w2 W => (hl2.chg hW (by simp; intro hb; have := HLT.out g hb; omega)).cell hjl)
      clear HBV hst1 hst2 hbv hget hl2
      have hadd := ref_AddN _ _ R R wr hN hN (by omega) (by omega)
      have hjo : j < ql.length := by have := HQL.out; omega
      have hj2 : (j : Int) < bits.length := by omega
      have hj3 : (j : Int) ≤ 3000 := by omega
      have hgz : g < wr.heap.size := hblk.lt
      clear hk
      go_wp2_with fail
      refine hadd.mono ?_
      rintro e w5 ⟨v5, rfl, hN5, hf5, hc5⟩
      have hch5 := hch.trans hc5 (by simp)
      have hblk5 := hblk.chg hc5 (by simp)
      obtain ⟨b', off', rfl, hc'⟩ := HLJ.out w5 hch5
      rw [HXE.out] at hc'
      have hz5 := hc5.size
      clear hblk hN hadd hch hcw
      by_cases hx : β = 1
      · subst hx
        have hone := NAt.one_ w5 23
        have hN6 := NAt.same hN5 ((Chg.refl [] w5).alloc (.cells #[.int .u64 1] 23))
        have hadd2 := ref_AddN _ _ (R + R) 1 _ hN6 hone (by omega) (by have : blen 1 ≤ 8000 := by decide
                                                                       exact this)
        have hc6 : Chg [g] w2 (w5.alloc (.cells #[.int .u64 1] 23)) := hch5.alloc _
        have hblk6 := hblk5.alloc (.cells #[.int .u64 1] 23)
        have hz6 : w5.heap.size ≤ (w5.alloc (.cells #[.int .u64 1] 23)).heap.size := by simp
        go_wp2_with fail
        refine hadd2.mono ?_
        rintro e w7 ⟨v7, rfl, hN7, hf7, hc7⟩
        have hch7 := hc6.trans hc7 (by simp)
        have hblk7 := hblk6.chg hc7 (by simp)
        have hz7 := hc7.size
        have hz57 : w5.heap.size ≤ w7.heap.size := by omega
        have hg7 : ∀ b, inBlk v7 b → g < b := fun b hb => by have := hf7 b hb; omega
        have HG7 := Lib.hid hg7
        have hb7 : blen (R + R + 1) ≤ 8000 := by have := blen_addN (R + R) 1 3001 hb2R (by decide); omega
        clear hN6 hone hadd2 hc6 hblk6 hz6 hf7 hg7 hN5 hch5 hblk5 hc' hf5
        generalize hR2 : R + R + 1 = R2 at hN7 hb7
        have HR2 := Lib.hid (show R2 = 2 * R + 1 by omega)
        clear hR2
        have hN7' := Lib.hid (fun W => fun hW : Chg [] w7 W => NAt.same hN7 hW)
        have hcmp := ref_CmpN v7 vb R2 m w7 hN7 (NAt.same hb (hall hch7))
        by_cases hge : m ≤ R2
        · have hcv : 0 ≤ cmpM R2 m := by unfold cmpM; rw [if_neg (by omega)]; split <;> omega
          have hsub := ref_SubN v7 vb R2 m w7 hN7 (NAt.same hb (hall hch7)) (by omega) hge
          have HE1 := Lib.hid (show n / 2 ^ j % m = R2 - m by rw [HS1.out, if_pos (by have := HR2.out; omega), HR2.out])
          have HE2 := Lib.hid (show n / 2 ^ j / m = 2 * AN + 1 by rw [HS2.out, if_pos (by have := HR2.out; omega)])
          generalize cmpM R2 m = cv at hcmp hcv
          clear hge
          go_wp2_with fail
          refine hcmp.mono ?_
          rintro e w8 ⟨rfl, hw8⟩
          subst hw8
          go_wp2_with fail
          refine hsub.mono ?_
          rintro e w9 ⟨v9, rfl, hN9, hf9, hc9⟩
          have hblk9 := hblk7.chg hc9 (by simp)
          have hch9 := hch7.trans hc9 (by simp)
          have c0 := hblk9.cell j (arrU_get hjo)
          have f0 := hblk9.free j
          have hz9 := hc9.size
          generalize ql[j] = y at c0
          have hbq := hblk9.outSet j 1
          have hcq : Chg [g] w2 (w9.setCell ⟨g, j, none⟩ (.int .u64 1)) := hch9.setCell (.inl (by simp)) _
          have hNq := DgAt.chg hN9 (S := [g]) ((Chg.refl [g] w9).setCell (p := ⟨g, j, none⟩) (.inl (by simp)) (.int .u64 1)) (fun b hb hi => by have := hf9 b hi; rw [List.mem_singleton] at hb; omega)
          go_wp2
          go_roundw
          case rel =>
            refine ⟨j, ql.set j 1, rfl, by omega, by rw [HE1.out]; exact hNq, by rw [List.length_set]; exact HQL.out, ?_, Lib.hid (fun i h hi => by rw [List.getElem_set_ne (by omega)]; exact HZ.out i (by simpa using h) (by omega)), hbq, fun b hb => by have := hf9 b hb; omega, hcq⟩
            rw [drop_set_cons _ hjo, bval, HBV2.out, HE2.out]; simp; omega
          case measure => simp [intOf]
        · have hcv : cmpM R2 m < 0 := by unfold cmpM; rw [if_pos (by omega)]; decide
          have HE1 := Lib.hid (show n / 2 ^ j % m = R2 by rw [HS1.out, if_neg (by have := HR2.out; omega), HR2.out])
          have HE2 := Lib.hid (show n / 2 ^ j / m = 2 * AN by rw [HS2.out, if_neg (by have := HR2.out; omega), Nat.add_zero])
          generalize cmpM R2 m = cv at hcmp hcv
          clear hge
          go_wp2_with fail
          refine hcmp.mono ?_
          rintro e w8 ⟨rfl, hw8⟩
          subst hw8
          go_wp2
          go_roundw
          case rel =>
            refine ⟨j, ql, rfl, by omega, by rw [HE1.out]; exact hN7'.out _ (Chg.refl _ _), HQL.out, ?_, Lib.hid (fun i h hi => HZ.out i h (by omega)), hblk7, HG7.out, hch7⟩
            rw [drop_cons hjo, bval, HBV2.out, HE2.out, HZ.out j hjo (by omega)]; simp
          case measure => simp [intOf]
      · have hβ0 : β = 0 := by omega
        subst hβ0
        have hg7 : ∀ b, inBlk v5 b → g < b := fun b hb => by have := hf5 b hb; omega
        have HG7 := Lib.hid hg7
        have hb7 : blen (R + R) ≤ 8000 := by omega
        clear hf5 hg7 hx
        generalize hR2 : R + R = R2 at hN5 hb7
        have HR2 := Lib.hid (show R2 = 2 * R + 0 by omega)
        clear hR2
        have hN7' := Lib.hid (fun W => fun hW : Chg [] w5 W => NAt.same hN5 hW)
        have hcmp := ref_CmpN v5 vb R2 m w5 hN5 (NAt.same hb (hall hch5))
        by_cases hge : m ≤ R2
        · have hcv : 0 ≤ cmpM R2 m := by unfold cmpM; rw [if_neg (by omega)]; split <;> omega
          have hsub := ref_SubN v5 vb R2 m w5 hN5 (NAt.same hb (hall hch5)) (by omega) hge
          have HE1 := Lib.hid (show n / 2 ^ j % m = R2 - m by rw [HS1.out, if_pos (by have := HR2.out; omega), HR2.out])
          have HE2 := Lib.hid (show n / 2 ^ j / m = 2 * AN + 1 by rw [HS2.out, if_pos (by have := HR2.out; omega)])
          generalize cmpM R2 m = cv at hcmp hcv
          clear hge
          go_wp2_with fail
          refine hcmp.mono ?_
          rintro e w8 ⟨rfl, hw8⟩
          subst hw8
          go_wp2_with fail
          refine hsub.mono ?_
          rintro e w9 ⟨v9, rfl, hN9, hf9, hc9⟩
          have hblk9 := hblk5.chg hc9 (by simp)
          have hch9 := hch5.trans hc9 (by simp)
          have c0 := hblk9.cell j (arrU_get hjo)
          have f0 := hblk9.free j
          have hz9 := hc9.size
          generalize ql[j] = y at c0
          have hbq := hblk9.outSet j 1
          have hcq : Chg [g] w2 (w9.setCell ⟨g, j, none⟩ (.int .u64 1)) := hch9.setCell (.inl (by simp)) _
          have hNq := DgAt.chg hN9 (S := [g]) ((Chg.refl [g] w9).setCell (p := ⟨g, j, none⟩) (.inl (by simp)) (.int .u64 1)) (fun b hb hi => by have := hf9 b hi; rw [List.mem_singleton] at hb; omega)
          go_wp2
          go_roundw
          case rel =>
            refine ⟨j, ql.set j 1, rfl, by omega, by rw [HE1.out]; exact hNq, by rw [List.length_set]; exact HQL.out, ?_, Lib.hid (fun i h hi => by rw [List.getElem_set_ne (by omega)]; exact HZ.out i (by simpa using h) (by omega)), hbq, fun b hb => by have := hf9 b hb; omega, hcq⟩
            rw [drop_set_cons _ hjo, bval, HBV2.out, HE2.out]; simp; omega
          case measure => simp [intOf]
        · have hcv : cmpM R2 m < 0 := by unfold cmpM; rw [if_pos (by omega)]; decide
          have HE1 := Lib.hid (show n / 2 ^ j % m = R2 by rw [HS1.out, if_neg (by have := HR2.out; omega), HR2.out])
          have HE2 := Lib.hid (show n / 2 ^ j / m = 2 * AN by rw [HS2.out, if_neg (by have := HR2.out; omega), Nat.add_zero])
          generalize cmpM R2 m = cv at hcmp hcv
          clear hge
          go_wp2_with fail
          refine hcmp.mono ?_
          rintro e w8 ⟨rfl, hw8⟩
          subst hw8
          go_wp2
          go_roundw
          case rel =>
            refine ⟨j, ql, rfl, by omega, by rw [HE1.out]; exact hN7'.out _ (Chg.refl _ _), HQL.out, ?_, Lib.hid (fun i h hi => HZ.out i h (by omega)), hblk5, HG7.out, hch5⟩
            rw [drop_cons hjo, bval, HBV2.out, HE2.out, HZ.out j hjo (by omega)]; simp
          case measure => simp [intOf]
end Go.Proofs.Ytbagkfeodjkdmaa

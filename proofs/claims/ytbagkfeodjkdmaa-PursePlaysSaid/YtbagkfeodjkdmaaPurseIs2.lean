/- pontagelaw16.is. -/
import Derived.Test.YtbagkfeodjkdmaaPurseIs
import Derived.Test.YtbagkfeodjkdmaaArr
import Derived.Test.YtbagkfeodjkdmaaRef03c
namespace Go.Proofs.Ytbagkfeodjkdmaa
open Go.RowKit Go.Maps Go.Shelf

theorem digs_mono {n m : Nat} (h : n ≤ m) : (digs n).length ≤ (digs m).length := by
  have h1 := val_lt (dg_digs m)
  rw [val_digs] at h1
  exact digs_len (by omega)
theorem wds1 (a : Int) : wds a 0 0 0 = a := by simp [wds]
theorem digs_len4 {n : Nat} (h : (n : Int) ≤ 18446744073709551615) : (digs n).length ≤ 4 := digs_len (by simp [pw]; omega)

/-- both numbers are one. -/
theorem ref_Cmp_eq (va vb : Value) (n : Nat) (w : World) (ha : NAt w va n) (hb : NAt w vb n) :
    Calls Try.prog 99 #[va, vb] w fun e w' => e = .returned (.int .i64 0) ∧ w' = w :=
  (ref_Cmp va vb _ _ w ha hb).mono fun e w' ⟨he, hw⟩ => ⟨by rw [he]; simp, hw⟩

set_option maxRecDepth 100000 in
set_option maxHeartbeats 4000000 in
theorem law16_is (p fp mb q : Nat) (U : Pur) (w : World) (h : St16 w p fp mb q U) :
    Calls Try.prog 38 #[.pointer (some ⟨p, 0, none⟩), .pointer (some ⟨q, 0, none⟩)] w fun e w' => e = .returned (.bool true) ∧ Chg [] w w' := by
  have ok := h.ok
  have i0 := ok.i0
  have i1 := ok.i1
  have o0 := ok.o0
  have o1 := ok.o1
  have hh := ok.h0
  have tt := ok.led.tot_nn
  have tl := ok.led.le
  have bo := ok.both
  have hle : U.out ≤ U.inn := by omega
  have hhl : U.held ≤ 4611686018427387904 := by omega
  have BO := Lib.hid bo
  clear bo
  go_enter Try.func38, Try.ntmps38
  go_wp2_with fail
  refine (purse_Paid p fp mb U w h.pur).mono ?_
  rintro e w1 ⟨rfl, n1, hw1⟩
  have k1 : Chg [] w w1 := by rw [hw1]; exact (Chg.refl _ _).drewN _
  clear hw1
  have h1 := h.chg k1 (by simp) (by simp) (by simp) (by simp)
  go_wp2_with fail
  refine (purse_All p fp mb U w1 h1.pur).mono ?_
  rintro e w2 ⟨rfl, hw2⟩
  have hb2 := Blk.new w1 #[.pointer (some ⟨fp, 0, none⟩)] 38
  have k2 : Chg [] w1 w2 := by rw [hw2]; exact (Chg.refl _ _).alloc _
  rw [← hw2] at hb2
  clear hw2
  have h2 := h1.chg k2 (by simp) (by simp) (by simp) (by simp)
  go_wp2_with fail
  refine (law16_count _ fp mb U.L w2 hb2 h2.pur.led ok.led).mono ?_
  rintro e w3 ⟨rfl, k3⟩
  have h3 := h2.chg k3 (by simp) (by simp) (by simp) (by simp)
  have K := (k1.trans k2 (by simp)).trans k3 (by simp)
  clear h1 h2 k1 k2 k3 hb2 h
  have h3' := Lib.hid h3
  obtain ⟨cs, hmb, mc, ma, mi, mo⟩ := h3.mod
  have hsz : 258 < cs.size := (Array.getElem?_eq_some_iff.1 mo).1
  have har : ∀ k : Nat, k < 256 → (cs.extract 0 256)[k]? = some (.int .u64 (U.L.m k)) := fun k hk => by
    rw [Array.getElem?_extract, if_pos (by omega), Nat.zero_add]; exact mc k hk
  have HAR := Lib.hid har
  have hinfo : (Try.prog.info? 63).map (·.size) = some 256 := by kernel_rfl
  have hinfo2 : (Try.prog.info? 41).map (·.size) = some 1 := by kernel_rfl
  clear har mc
  obtain ⟨N, hN⟩ : ∃ N : Nat, N = 256 := ⟨_, rfl⟩
  rw [← hN]
  have hN1 : N ≤ 256 := by omega
  have hN2 : 256 ≤ N := by omega
  clear hN
  have hP := h3.pur
  clear h3
  go_wp2_with (refine wpList_load_pre rfl 63 _ rfl q rfl Try.underlying63 hinfo hmb (by omega) ?_)
  generalize cs.extract 0 256 = ar at HAR ⊢
  go_loopw [10, 31] (fun s i wr => ∃ n : Nat, n ≤ N ∧ i = .int .i64 n ∧ s = .int .i64 (keysTo U.L.m n).length ∧ wr = w3) (fun _ i _ => N - (intOf i).toNat)
  case atStart => exact ⟨0, Nat.zero_le _, rfl, rfl, rfl⟩
  case round =>
    obtain ⟨n, hn, rfl, rfl, rfl⟩ := hrel
    by_cases hlt : n < N
    · have hwf : (Lit.int .u8 n).wf = true := wf_u8.2 (by omega)
      have hmod : (n : Int) % 256 = n := by omega
      have hOf := purse_Of p fp mb U n _ hP hwf
      have hv := ok.led.nn n
      have hget := HAR.out n (by omega)
      have hkk := keysTo_length U.L.m n
      by_cases h0 : U.L.m n = 0
      · have hsk := Lib.hid (keysTo_skip U.L.m n h0)
        rw [h0] at hOf hget
        clear h0 hv
        go_wp2_with (first
          | (refine wpList_index_val rfl 63 _ _ rfl n rfl rfl Try.underlying63 Try.underlying41 rfl hinfo2 (by omega) hget ?_)
          | (go_at_call 45; refine hOf.mono ?_; rintro e w' ⟨rfl, rfl⟩))
        go_roundw
        case rel => exact ⟨n + 1, by omega, by simp, by rw [hsk.out], trivial⟩
        case measure => simp [intOf]; omega
      · have hsk := Lib.hid (keysTo_more U.L.m n h0)
        have hpos : 0 < U.L.m n := by omega
        clear h0
        generalize (keysTo U.L.m n).length = kk at hsk hkk ⊢
        go_wp2_with (first
          | (refine wpList_index_val rfl 63 _ _ rfl n rfl rfl Try.underlying63 Try.underlying41 rfl hinfo2 (by omega) hget ?_)
          | (go_at_call 45; refine hOf.mono ?_; rintro e w' ⟨rfl, rfl⟩))
        go_roundw
        case rel => exact ⟨n + 1, by omega, by simp, by rw [hsk.out]; simp, trivial⟩
        case measure => simp [intOf]; omega
    · obtain rfl : n = N := by omega
      generalize (keysTo U.L.m n).length = kk
      have z0 : (Lit.int .u64 0).wf = true := by decide
      go_wp2_with fail
      refine (ref_Of U.L.tot 0 0 0 _ (wf_u64.2 (by omega)) z0 z0 z0).mono ?_
      rintro e w4 ⟨v1, rfl, n1, g1, c1⟩
      rw [wds1] at n1
      have P4 := hP.same c1
      go_wp2_with fail
      refine (purse_Held p fp mb U _ P4).mono ?_
      rintro e w' ⟨rfl, rfl⟩
      go_wp2_with fail
      refine (ref_Of U.held 0 0 0 _ (wf_u64.2 (by omega)) z0 z0 z0).mono ?_
      rintro e w5 ⟨v2, rfl, n2, g2, c2⟩
      rw [wds1] at n2
      go_wp2_with fail
      have l1 := digs_len4 (n := U.L.tot.toNat) (by omega)
      have l2 := digs_len4 (n := U.held.toNat) (by omega)
      refine (ref_Add _ _ _ _ _ (NAt.same n1 c2) n2 ⟨by omega, by omega⟩).mono ?_
      rintro e w6 ⟨v3, rfl, n3, g3, c3⟩
      rw [val_digs, val_digs] at n3
      have P6 := (P4.same c2).same c3
      clear n1 n2 g1 g2 g3 P4 l1 l2 hP
      have K6 := ((K.trans c1 (by simp)).trans c2 (by simp)).trans c3 (by simp)
      have M6 := (((h3'.out.mod.chg c1 (by simp)).chg c2 (by simp)).chg c3 (by simp))
      clear K c1 c2 c3 hmb
      go_wp2_with fail
      refine (ref_Of U.inn 0 0 0 _ (wf_u64.2 (by omega)) z0 z0 z0).mono ?_
      rintro e w7 ⟨v4, rfl, n4, g4, c4⟩
      rw [wds1] at n4
      go_wp2_with fail
      refine (ref_Of U.out 0 0 0 _ (wf_u64.2 (by omega)) z0 z0 z0).mono ?_
      rintro e w8 ⟨v5, rfl, n5, g5, c5⟩
      rw [wds1] at n5
      go_wp2_with fail
      have l1 := digs_len4 (n := U.inn.toNat) (by omega)
      refine (ref_Sub _ _ _ _ _ (NAt.same n4 c5) n5 (by omega) (digs_mono (by omega)) (by rw [val_digs, val_digs]; omega)).mono ?_
      rintro e w9 ⟨v6, rfl, n6, g6, c6⟩
      rw [val_digs, val_digs] at n6
      have e1 : ((U.L.tot.toNat : Int) + (U.held.toNat : Int)).toNat = ((U.inn.toNat : Int) - (U.out.toNat : Int)).toNat := by have := BO.out; omega
      rw [← e1] at n6
      have n3' := ((NAt.same n3 c4).same c5).same c6
      have P9 := ((P6.same c4).same c5).same c6
      have M9 := ((M6.chg c4 (by simp)).chg c5 (by simp)).chg c6 (by simp)
      have K9 := ((K6.trans c4 (by simp)).trans c5 (by simp)).trans c6 (by simp)
      clear n3 n4 n5 g4 g5 g6 P6 l1 K6 M6 c4 c5 c6 e1
      generalize ((U.L.tot.toNat : Int) + (U.held.toNat : Int)).toNat = both at n3' n6
      obtain ⟨cs2, hmb2, mc2, ma2, mi2, mo2⟩ := M9
      have m256 := hmb2.cell 256 ma2
      have m257 := hmb2.cell 257 mi2
      have m258 := hmb2.cell 258 mo2
      have hheld : ∀ n, Calls Try.prog 46 #[.pointer (some ⟨p, 0, none⟩)] (w9.drewN n) fun e w'' => e = .returned (.int .u64 U.held) ∧ ∃ m, w'' = w9.drewN m := fun n =>
        (purse_Held p fp mb U _ (P9.same ((Chg.refl _ _).drewN n))).mono fun e w' ⟨he, hw⟩ => ⟨he, n, hw.symm⟩
      have hcmp : ∀ n, Calls Try.prog 99 #[v3, v6] (w9.drewN n) fun e w'' => e = .returned (.int .i64 0) ∧ ∃ m, w'' = w9.drewN m := fun n =>
        (ref_Cmp_eq v3 v6 both _ (NAt.same n3' ((Chg.refl _ _).drewN n)) (NAt.same n6 ((Chg.refl _ _).drewN n))).mono fun e w' ⟨he, hw⟩ => ⟨he, n, hw⟩
      clear mc2
      go_wp2
      go_quiet ((first | (go_at_call 46; exact hheld _) | (go_at_call 99; exact hcmp _)))
      go_wp2
      go_ret
      exact ⟨rfl, K9.drewN _⟩
end Go.Proofs.Ytbagkfeodjkdmaa

/- pontageref03: Sub, Cmp, Of. -/
import Derived.Test.YtbagkfeodjkdmaaRef03
namespace Go.Proofs.Ytbagkfeodjkdmaa
open Go.RowKit Go.Maps Go.Shelf

theorem sub_step {vo c A B P da db : Int} (h : vo - P * c = A - B) : vo + P * ((65536 + da - db - c) % 65536) - 65536 * P * (1 - (65536 + da - db - c) / 65536) = (A + P * da) - (B + P * db) := by
  have h1 : 65536 + da - db - c = (65536 + da - db - c) % 65536 + 65536 * ((65536 + da - db - c) / 65536) := by omega
  have h2 : P * (65536 + da - db - c) = P * ((65536 + da - db - c) % 65536) + P * (65536 * ((65536 + da - db - c) / 65536)) := by rw [← Int.mul_add, ← h1]
  have h3 : 65536 * P * (1 - (65536 + da - db - c) / 65536) = 65536 * P - P * (65536 * ((65536 + da - db - c) / 65536)) := by
    rw [Int.mul_sub, Int.mul_one, Int.mul_comm 65536 P, Int.mul_assoc]
  rw [h3]
  rw [Int.mul_sub, Int.mul_sub, Int.mul_add, Int.mul_comm P 65536] at h2
  omega

set_option maxRecDepth 100000 in
set_option maxHeartbeats 2000000 in
theorem ref_Sub (va vb : Value) (a b : List Int) (w : World) (ha : DgAt w va a) (hb : DgAt w vb b) (hl : a.length ≤ 1000) (hlen : b.length ≤ a.length) (hle : val b ≤ val a) :
    Calls Try.prog 98 #[va, vb] w fun e w' => ∃ v, e = .returned v ∧ NAt w' v (val a - val b).toNat ∧ (∀ k, inBlk v k → w.heap.size ≤ k) ∧ Chg [] w w' := by
  obtain ⟨i0, hi, hz0, hz1, hz2⟩ := info_parts infoU
  obtain ⟨aa, ac, rfl⟩ := ha.sl.len
  obtain ⟨ba, bc, rfl⟩ := hb.sl.len
  have hrow0 := ownsRow_empty w w.heap.size 23 (Nat.le_refl _)
  have hc0 : Chg [] w (w.alloc (.cells #[] 23)) := (Chg.refl [] w).alloc _
  have HLE := Lib.hid hle
  have HLEN := Lib.hid hlen
  clear hle hlen
  go_enter Try.func98, Try.ntmps98
  go_wp2
  generalize w.alloc (.cells #[] 23) = w0 at hrow0 hc0 ⊢
  obtain ⟨s, hs⟩ : ∃ s, s = w.heap.size := ⟨_, rfl⟩
  have hs' := Lib.hid hs
  simp only [← hs] at hrow0 ⊢
  clear hs
  go_loopw [5, 6, 12] (fun s5 s6 s7 wr => ∃ (v : Value) (o : List Int) (c : Int) (i : Nat), v = s5 ∧ s6 = .int .u64 c ∧ s7 = .int .i64 i ∧ wr.ownsRow s 23 1 v o.length (o.map (Value.int .u64)) ∧ o.length = i ∧ Dg o ∧ 0 ≤ c ∧ c ≤ 1 ∧
    val o - pw i * c = val (a.take i) - val (b.take i) ∧ i ≤ a.length ∧ Chg [] w wr) (fun _ _ s7 _ => a.length - (intOf s7).toNat)
  case atStart => exact ⟨_, [], 0, 0, rfl, rfl, rfl, hrow0, rfl, (fun d hd => by cases hd), Int.le_refl _, by omega, by simp [val], Nat.zero_le _, hc0⟩
  case round =>
    obtain ⟨v, o, c, i, rfl, rfl, rfl, hrow, hoi, hdo, hc1, hc2, hval, hiM, hch⟩ := hrel
    have HV := Lib.hid hval
    clear hval
    have ha2 := ha.same hch
    have hb2 := hb.same hch
    by_cases hgo : i < a.length
    · have d1 := ref_digit aa ac a i wr ha2.sl
      have d2 := ref_digit ba bc b i wr hb2.sl
      have q1 := dig_bound ha.dg i
      have q2 := dig_bound hb.dg i
      have t1 := Lib.hid (val_take_succ a i)
      have t2 := Lib.hid (val_take_succ b i)
      generalize dig a i = da at *
      generalize dig b i = db at *
      have hq0 : 0 ≤ 65536 + da - db - c := by omega
      have hq1 : 65536 + da - db - c < 200000 := by omega
      have hxx : 0 ≤ (65536 + da - db - c) % 65536 ∧ (65536 + da - db - c) % 65536 < 65536 := by omega
      have hyy : 0 ≤ (65536 + da - db - c) / 65536 ∧ (65536 + da - db - c) / 65536 ≤ 1 := by omega
      go_wp2_with fail
      refine d1.mono ?_
      rintro e w5 ⟨rfl, rfl⟩
      go_wp2_with fail
      refine d2.mono ?_
      rintro e w6 ⟨rfl, rfl⟩
      go_wp2_with (first
        | (at_builtin; refine wpList_append_own_at _ rfl _ _ 86 rfl s 23 i0 (.int .u64 0) 1 8 Try.underlying86 hi hz0 hz1 hz2 rfl (by decide) v _ _ rfl (hrow.alloc _) ⟨w6.heap.size, 0, none⟩ 1 1 [.int .u64 ((65536 + da - db - c) % 65536)] rfl rfl (cell_one_new _ _ _) (by simp [Value.oneCell']) (by unfold maxLen; omega) (by omega) (by have := hch.size; have := hs'.out; simp; omega) ?_; intro v' w10 hown' hgrow hnil' hloc)
        | go_in)
      go_roundw
      case rel =>
        refine ⟨v', o ++ [(65536 + da - db - c) % 65536], 1 - (65536 + da - db - c) / 65536, i + 1, rfl, rfl, by simp, by simpa using hown', by simp [hoi], hdo.append (fun d hd => by simp at hd; subst hd; exact hxx), by omega, by omega, ?_, by omega, chg_app hch (by rw [hs'.out]; exact Nat.le_refl _) hrow hgrow⟩
        rw [val_snoc, hoi, t1.out, t2.out, pw]
        exact sub_step HV.out
      case measure => simp [intOf]; omega
    · obtain rfl : i = a.length := by omega
      have hv := HV.out
      rw [List.take_length, List.take_of_length_le HLEN.out] at hv
      have hc : c = 0 := by
        have h1 := val_lt hdo
        rw [hoi] at h1
        have h2 := HLE.out
        have h3 : c = 0 ∨ c = 1 := by omega
        rcases h3 with h3 | h3
        · exact h3
        · rw [h3, Int.mul_one] at hv; omega
      rw [hc, Int.mul_zero, Int.sub_zero] at hv
      obtain ⟨hD, hin⟩ := DgAt.of_own hrow hdo (by omega)
      have htr := ref_trim v o wr hD
      rw [hv] at htr
      clear hv HV
      go_wp2_with (go_at_call 143; refine htr.mono ?_; rintro e w9 ⟨u, rfl, hu, huv, rfl⟩)
      go_ret
      exact ⟨u, rfl, hu, fun k hk => by have := hin k (huv k hk); have := hs'.out; omega, hch⟩

set_option maxRecDepth 100000 in
set_option maxHeartbeats 2000000 in
theorem ref_Cmp (va vb : Value) (a b : List Int) (w : World) (ha : DgAt w va a) (hb : DgAt w vb b) :
    Calls Try.prog 99 #[va, vb] w fun e w' => e = .returned (.int .i64 (if val a < val b then -1 else if val b < val a then 1 else 0)) ∧ w' = w := by
  obtain ⟨aa, ac, rfl⟩ := ha.sl.len
  obtain ⟨ba, bc, rfl⟩ := hb.sl.len
  obtain ⟨M, hM1, hM2, hM3⟩ : ∃ M : Nat, a.length ≤ M ∧ b.length ≤ M ∧ M = max a.length b.length := ⟨_, by omega, by omega, rfl⟩
  have la := ha.len
  have lb := hb.len
  have hM4 : M ≤ 100000 := by omega
  obtain ⟨R, hR⟩ : ∃ R : Int, R = (if val a < val b then -1 else if val b < val a then 1 else 0) := ⟨_, rfl⟩
  have HR := Lib.hid hR
  rw [← hR]
  clear hR
  have hmax : max (a.length : Int) (b.length : Int) = M := by omega
  have HM3 := Lib.hid hM3
  clear hM3
  go_enter Try.func99, Try.ntmps99
  go_wp2
  all_goals
    go_loopw [5] (fun s5 wr => ∃ k : Nat, s5 = .int .i64 ((k : Int) - 1) ∧ k ≤ M ∧ (∀ j, k ≤ j → dig a j = dig b j) ∧ wr = w) (fun s5 _ => (intOf s5 + 1).toNat)
    case atStart => first
      | exact ⟨b.length, rfl, by omega, fun j hj => by rw [dig_ge (by omega), dig_ge (by omega)], rfl⟩
      | exact ⟨a.length, rfl, by omega, fun j hj => by rw [dig_ge (by omega), dig_ge (by omega)], rfl⟩
    case round =>
      obtain ⟨k, rfl, hk, heq, rfl⟩ := hrel
      have HEQ := Lib.hid heq
      clear heq
      by_cases hk0 : k = 0
      · have hr : R = 0 := by
          have h1 := val_drop_eq (a := a) (b := b) (i := 0) (fun j hj => HEQ.out j (by omega))
          simp only [List.drop_zero] at h1
          rw [HR.out, h1]; simp
        subst hr
        subst hk0
        go_wp2
        go_ret
        exact ⟨rfl, rfl⟩
      · obtain ⟨m, rfl⟩ : ∃ m, k = m + 1 := ⟨k - 1, by omega⟩
        have hm1 : ((m + 1 : Nat) : Int) - 1 = (m : Int) := by omega
        simp only [hm1]
        have d1 := ref_digit aa ac a m wr ha.sl
        have d2 := ref_digit ba bc b m wr hb.sl
        have c1 : dig a m < dig b m → R = -1 := fun h => by rw [HR.out, if_pos (val_lt_of ha.dg hb.dg (i := m) (fun j hj => HEQ.out j hj) h)]
        have c2 : dig b m < dig a m → R = 1 := fun h => by
          have h1 := val_lt_of hb.dg ha.dg (i := m) (fun j hj => (HEQ.out j hj).symm) h
          rw [HR.out, if_neg (by omega), if_pos h1]
        have c3 : dig a m = dig b m → ∀ j, m ≤ j → dig a j = dig b j := fun h j hj => by
          by_cases e : j = m
          · rw [e]; exact h
          · exact HEQ.out j (by omega)
        have C1 := Lib.hid c1
        have C2 := Lib.hid c2
        have C3 := Lib.hid c3
        clear c1 c2 c3 hm1
        generalize dig a m = da at *
        generalize dig b m = db at *
        rcases Int.lt_trichotomy da db with hlt | hlt | hlt
        · have hr := C1.out hlt
          subst hr
          go_wp2_with fail
          refine d1.mono ?_
          rintro e w5 ⟨rfl, rfl⟩
          go_wp2_with fail
          refine d2.mono ?_
          rintro e w6 ⟨rfl, rfl⟩
          go_wp2
          go_ret
          exact ⟨rfl, rfl⟩
        · have hr := C3.out hlt
          subst hlt
          have HR2 := Lib.hid hr
          clear hr
          go_wp2_with fail
          refine d1.mono ?_
          rintro e w5 ⟨rfl, rfl⟩
          go_wp2_with fail
          refine d2.mono ?_
          rintro e w6 ⟨rfl, rfl⟩
          go_wp2
          go_roundw
          case rel => exact ⟨m, rfl, by omega, HR2.out, trivial⟩
          case measure => simp [intOf]
        · have hr := C2.out hlt
          subst hr
          go_wp2_with fail
          refine d1.mono ?_
          rintro e w5 ⟨rfl, rfl⟩
          go_wp2_with fail
          refine d2.mono ?_
          rintro e w6 ⟨rfl, rfl⟩
          go_wp2
          go_ret
          exact ⟨rfl, rfl⟩
end Go.Proofs.Ytbagkfeodjkdmaa

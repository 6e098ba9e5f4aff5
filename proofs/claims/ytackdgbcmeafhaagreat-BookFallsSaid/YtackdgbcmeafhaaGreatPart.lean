/- Package money: Part. -/
import Derived.Test.YtackdgbcmeafhaaGreatPart0
import Derived.Test.YtackdgbcmeafhaaGreatWideK
import Derived.Test.YtackdgbcmeafhaaGreatToken
import Derived.Test.YtackdgbcmeafhaaGreatWideQ
import Derived.Deep.RegionWith
namespace Go.Proofs.YtackdgbcmeafhaaGreat
open Go.RowKit Go.Maps Go.Shelf

def partQ (a up by_ : Nat) (more : Bool) : Nat := if more = true ∧ a * up % by_ ≠ 0 then a * up / by_ + 1 else a * up / by_
/-- the amount, and an error. -/
def partN (a up by_ : Nat) (more : Bool) : Nat × Int := if 4611686018427387904 < a then (0, 1) else if 4611686018427387904 < partQ a up by_ more then (0, 4) else (partQ a up by_ more, 0)
theorem blen_64 {q : Nat} : (blen q ≤ 64) ↔ q < 18446744073709551616 := by rw [blen_le]
theorem part_fin (Q : Nat) (R : Nat × Int) (h : R = (if 4611686018427387904 < Q then (0, 4) else (Q, 0))) : (Q < 18446744073709551616 ∧ Q ≤ 4611686018427387904 ∧ R = (Q, 0)) ∨ (Q < 18446744073709551616 ∧ 4611686018427387904 < Q ∧ R = (0, 4)) ∨ (18446744073709551616 ≤ Q ∧ R = (0, 4)) := by
  subst h; split <;> rename_i h
  · by_cases h2 : Q < 18446744073709551616
    · exact .inr (.inl ⟨h2, h, rfl⟩)
    · exact .inr (.inr ⟨by omega, rfl⟩)
  · exact .inl ⟨by omega, by omega, rfl⟩
set_option maxRecDepth 100000 in
set_option maxHeartbeats 4000000 in
theorem money_Part (a up by_ : Nat) (more : Bool) (hu : up < 18446744073709551616) (hb : by_ < 18446744073709551616) (hb0 : 0 < by_) (w : World) :
    Calls Tryz.prog 22 #[.int .u64 a, .int .u64 up, .int .u64 by_, .bool more] w fun e w' => e = .returned (.tuple #[.int .u64 (partN a up by_ more).1, .int .i64 (partN a up by_ more).2]) ∧ Chg [] w w' := by
  have hright := Amount_Right a
  by_cases ha : 4611686018427387904 < a
  · have hd : decide ((a : Int) ≤ 4611686018427387904) = false := by simp; omega
    rw [hd] at hright
    have he : partN a up by_ more = (0, 1) := by unfold partN; rw [if_pos ha]
    rw [he]
    go_enter Tryz.func22, Tryz.ntmps22
    go_wp2_with (go_at_call 51; refine (hright _).mono ?_; rintro e w' ⟨rfl, rfl⟩)
    go_ret2
    exact ⟨rfl, Chg.refl _ _⟩
  · have hd : decide ((a : Int) ≤ 4611686018427387904) = true := by simp; omega
    rw [hd] at hright
    have hp := prod_lt (show a < 18446744073709551616 by omega) hu
    have hP : a * up < TOP := by unfold TOP; omega
    have hB : by_ < TOP := by unfold TOP; omega
    have c1 := wide_Product a up (by omega) hu
    have c2 := wide_Of' by_ hb
    have c3 := wide_Div (a * up) by_ hP hB (by omega)
    have hqle : a * up / by_ ≤ a * up := Nat.div_le_self _ _
    have hQ : a * up / by_ < TOP := by omega
    have hR : a * up % by_ < TOP := by have := Nat.mod_le (a * up) by_; omega
    have hQ1 : partQ a up by_ more < TOP := by unfold partQ TOP; split <;> omega
    have c4 := wide_Add (a * up / by_) 1 hQ (by unfold TOP; omega)
    have c5 := wide_Of' 1 (by omega)
    have c6 := wide_Uint (partQ a up by_ more) hQ1
    have hsum : (a * up / by_ + 1) % TOP = a * up / by_ + 1 := Nat.mod_eq_of_lt (by unfold TOP; omega)
    rw [hsum] at c4
    obtain ⟨q0, q1, q2, q3, -, -, -, -, -, e1⟩ := words _ hQ
    obtain ⟨r0, r1, r2, r3, hr0, hr1, hr2, hr3, hre, e2⟩ := words _ hR
    have heq : ∀ w, (Op.equalIn 10000 116 (V4 r0 r1 r2 r3) (V4 0 0 0 0)).run Tryz.prog w = .ok (decide (a * up % by_ = 0)) w := fun w => by
      rw [run_eqW]
      have h1 : (r0 = 0 ∧ r1 = 0 ∧ r2 = 0 ∧ r3 = 0) ↔ a * up % by_ = 0 := by rw [n4_zero hr0 hr1 hr2 hr3, ← hre]; omega
      simp only [h1]
    rw [e1] at c3 c4
    rw [e2] at c3
    clear e2 hre hr0 hr1 hr2 hr3
    by_cases hm : more = true ∧ a * up % by_ ≠ 0
    · have hpq : partQ a up by_ more = a * up / by_ + 1 := by unfold partQ; rw [if_pos hm]
      rw [hpq] at c6 hQ1
      obtain ⟨s0, s1, s2, s3, -, -, -, -, -, e3⟩ := words _ hQ1
      have hf : partN a up by_ more = if 4611686018427387904 < a * up / by_ + 1 then (0, 4) else (a * up / by_ + 1, 0) := by unfold partN; rw [if_neg ha, hpq]
      rw [e3] at c4 c6
      have heq' : ∀ w, (Op.equalIn 10000 116 (V4 r0 r1 r2 r3) (V4 0 0 0 0)).run Tryz.prog w = .ok false w := fun w => by rw [heq]; simp [hm.2]
      obtain ⟨rfl, -⟩ := hm
      rw [hf]
      clear hf hpq heq hsum e1 e3
      unfold V4 at *
      generalize wv (a * up) = VX at c1 c3
      generalize wv by_ = VB at c2 c3
      generalize wv 1 = V1 at c4 c5
      generalize a * up / by_ + 1 = Q at *
      obtain ⟨R, hR'⟩ : ∃ R, R = (if 4611686018427387904 < Q then ((0 : Nat), (4 : Int)) else (Q, 0)) := ⟨_, rfl⟩
      rw [← hR']
      have hfin := part_fin Q
      rcases hfin R hR' with ⟨h1, h2, rfl⟩ | ⟨h1, h2, rfl⟩ | ⟨h1, rfl⟩
      · have hb64 := blen_64.2 h1
        have hd2 : decide ((Q : Int) ≤ 4611686018427387904) = true := by simp; omega
        have hrq := Amount_Right Q
        rw [if_pos hb64, decide_eq_true hb64] at c6
        rw [hd2] at hrq
        clear hb64
        go_enter Tryz.func22, Tryz.ntmps22
        go_wp2_with (first
          | (go_at_call 51; refine (hright _).mono ?_; rintro e w' ⟨rfl, rfl⟩)
          | (go_at_call 51; refine (hrq _).mono ?_; rintro e w' ⟨rfl, rfl⟩)
          | (go_at_call 60; refine (c1 _).mono ?_; rintro e w1 ⟨rfl, k1⟩)
          | (go_at_call_of 62 (Value.int IntKind.u64 by_); refine (c2 _).mono ?_; rintro e w2 ⟨rfl, k2⟩)
          | (go_at_call 61; refine (c3 _).mono ?_; rintro e w3 ⟨rfl, k3⟩)
          | fail)
        have hb := (Blk.new w3 #[.int .u64 q0, .int .u64 q1, .int .u64 q2, .int .u64 q3] 116).alloc (.cells #[.int .u64 r0, .int .u64 r1, .int .u64 r2, .int .u64 r3] 116)
        have kW : Chg [] w ((w3.alloc (.cells #[.int .u64 q0, .int .u64 q1, .int .u64 q2, .int .u64 q3] 116)).alloc (.cells #[.int .u64 r0, .int .u64 r1, .int .u64 r2, .int .u64 r3] 116)) := ((((k1.trans k2 (by simp)).trans k3 (by simp)).alloc _).alloc _)
        have hg := ((k1.trans k2 (by simp)).trans k3 (by simp)).size
        clear k1 k2 k3
        generalize (w3.alloc (.cells #[.int .u64 q0, .int .u64 q1, .int .u64 q2, .int .u64 q3] 116)).alloc (.cells #[.int .u64 r0, .int .u64 r1, .int .u64 r2, .int .u64 r3] 116) = W at hb kW ⊢
        generalize w3.heap.size = g at hb hg ⊢
        have hbd := hb.drew
        have xhbd0 := hbd.cell 0 (v := .int .u64 q0) rfl; have xhbd1 := hbd.cell 1 (v := .int .u64 q1) rfl; have xhbd2 := hbd.cell 2 (v := .int .u64 q2) rfl; have xhbd3 := hbd.cell 3 (v := .int .u64 q3) rfl
        go_region_with (first
          | (go_at_call 62; refine (c5 _).mono ?_; rintro e w5 ⟨rfl, k5⟩; have hb5 := hbd.chg k5 (by simp); have xhb50 := hb5.cell 0 (v := .int .u64 q0) rfl; have xhb51 := hb5.cell 1 (v := .int .u64 q1) rfl; have xhb52 := hb5.cell 2 (v := .int .u64 q2) rfl; have xhb53 := hb5.cell 3 (v := .int .u64 q3) rfl)
          | (go_at_call 63; refine (c4 _).mono ?_; rintro e w6 ⟨rfl, k6⟩; have hb6 := hb5.chg k6 (by simp); have xhb60 := hb6.cell 0 (v := .int .u64 q0) rfl; have xhb61 := hb6.cell 1 (v := .int .u64 q1) rfl; have xhb62 := hb6.cell 2 (v := .int .u64 q2) rfl; have xhb63 := hb6.cell 3 (v := .int .u64 q3) rfl; have fhb60 := hb6.free 0; have fhb61 := hb6.free 1; have fhb62 := hb6.free 2; have fhb63 := hb6.free 3))
        all_goals
          go_wp2_with (first
            | (go_at_call 51; refine (hrq _).mono ?_; rintro e w' ⟨rfl, rfl⟩)
            | (go_at_call 64; refine (c6 _).mono ?_; rintro e w7 ⟨rfl, k7⟩))
          go_ret2
          have kZ := (kW.drew.trans k5 (by simp)).trans k6 (by simp)
          exact ⟨rfl, ((((kZ.setCell (.inr hg) _).setCell (.inr hg) _).setCell (.inr hg) _).setCell (.inr hg) _).trans k7 (by simp)⟩
      · have hb64 := blen_64.2 h1
        have hd2 : decide ((Q : Int) ≤ 4611686018427387904) = false := by simp; omega
        have hrq := Amount_Right Q
        rw [if_pos hb64, decide_eq_true hb64] at c6
        rw [hd2] at hrq
        clear hb64
        go_enter Tryz.func22, Tryz.ntmps22
        go_wp2_with (first
          | (go_at_call 51; refine (hright _).mono ?_; rintro e w' ⟨rfl, rfl⟩)
          | (go_at_call 51; refine (hrq _).mono ?_; rintro e w' ⟨rfl, rfl⟩)
          | (go_at_call 60; refine (c1 _).mono ?_; rintro e w1 ⟨rfl, k1⟩)
          | (go_at_call_of 62 (Value.int IntKind.u64 by_); refine (c2 _).mono ?_; rintro e w2 ⟨rfl, k2⟩)
          | (go_at_call 61; refine (c3 _).mono ?_; rintro e w3 ⟨rfl, k3⟩)
          | fail)
        have hb := (Blk.new w3 #[.int .u64 q0, .int .u64 q1, .int .u64 q2, .int .u64 q3] 116).alloc (.cells #[.int .u64 r0, .int .u64 r1, .int .u64 r2, .int .u64 r3] 116)
        have kW : Chg [] w ((w3.alloc (.cells #[.int .u64 q0, .int .u64 q1, .int .u64 q2, .int .u64 q3] 116)).alloc (.cells #[.int .u64 r0, .int .u64 r1, .int .u64 r2, .int .u64 r3] 116)) := ((((k1.trans k2 (by simp)).trans k3 (by simp)).alloc _).alloc _)
        have hg := ((k1.trans k2 (by simp)).trans k3 (by simp)).size
        clear k1 k2 k3
        generalize (w3.alloc (.cells #[.int .u64 q0, .int .u64 q1, .int .u64 q2, .int .u64 q3] 116)).alloc (.cells #[.int .u64 r0, .int .u64 r1, .int .u64 r2, .int .u64 r3] 116) = W at hb kW ⊢
        generalize w3.heap.size = g at hb hg ⊢
        have hbd := hb.drew
        have xhbd0 := hbd.cell 0 (v := .int .u64 q0) rfl; have xhbd1 := hbd.cell 1 (v := .int .u64 q1) rfl; have xhbd2 := hbd.cell 2 (v := .int .u64 q2) rfl; have xhbd3 := hbd.cell 3 (v := .int .u64 q3) rfl
        go_region_with (first
          | (go_at_call 62; refine (c5 _).mono ?_; rintro e w5 ⟨rfl, k5⟩; have hb5 := hbd.chg k5 (by simp); have xhb50 := hb5.cell 0 (v := .int .u64 q0) rfl; have xhb51 := hb5.cell 1 (v := .int .u64 q1) rfl; have xhb52 := hb5.cell 2 (v := .int .u64 q2) rfl; have xhb53 := hb5.cell 3 (v := .int .u64 q3) rfl)
          | (go_at_call 63; refine (c4 _).mono ?_; rintro e w6 ⟨rfl, k6⟩; have hb6 := hb5.chg k6 (by simp); have xhb60 := hb6.cell 0 (v := .int .u64 q0) rfl; have xhb61 := hb6.cell 1 (v := .int .u64 q1) rfl; have xhb62 := hb6.cell 2 (v := .int .u64 q2) rfl; have xhb63 := hb6.cell 3 (v := .int .u64 q3) rfl; have fhb60 := hb6.free 0; have fhb61 := hb6.free 1; have fhb62 := hb6.free 2; have fhb63 := hb6.free 3))
        all_goals
          go_wp2_with (first
            | (go_at_call 51; refine (hrq _).mono ?_; rintro e w' ⟨rfl, rfl⟩)
            | (go_at_call 64; refine (c6 _).mono ?_; rintro e w7 ⟨rfl, k7⟩))
          go_ret2
          have kZ := (kW.drew.trans k5 (by simp)).trans k6 (by simp)
          exact ⟨rfl, ((((kZ.setCell (.inr hg) _).setCell (.inr hg) _).setCell (.inr hg) _).setCell (.inr hg) _).trans k7 (by simp)⟩
      · have hb64 : ¬ blen Q ≤ 64 := fun h => by have := blen_64.1 h; omega
        rw [if_neg hb64, decide_eq_false hb64] at c6
        clear hb64
        go_enter Tryz.func22, Tryz.ntmps22
        go_wp2_with (first
          | (go_at_call 51; refine (hright _).mono ?_; rintro e w' ⟨rfl, rfl⟩)
          | (go_at_call 60; refine (c1 _).mono ?_; rintro e w1 ⟨rfl, k1⟩)
          | (go_at_call_of 62 (Value.int IntKind.u64 by_); refine (c2 _).mono ?_; rintro e w2 ⟨rfl, k2⟩)
          | (go_at_call 61; refine (c3 _).mono ?_; rintro e w3 ⟨rfl, k3⟩)
          | fail)
        have hb := (Blk.new w3 #[.int .u64 q0, .int .u64 q1, .int .u64 q2, .int .u64 q3] 116).alloc (.cells #[.int .u64 r0, .int .u64 r1, .int .u64 r2, .int .u64 r3] 116)
        have kW : Chg [] w ((w3.alloc (.cells #[.int .u64 q0, .int .u64 q1, .int .u64 q2, .int .u64 q3] 116)).alloc (.cells #[.int .u64 r0, .int .u64 r1, .int .u64 r2, .int .u64 r3] 116)) := ((((k1.trans k2 (by simp)).trans k3 (by simp)).alloc _).alloc _)
        have hg := ((k1.trans k2 (by simp)).trans k3 (by simp)).size
        clear k1 k2 k3
        generalize (w3.alloc (.cells #[.int .u64 q0, .int .u64 q1, .int .u64 q2, .int .u64 q3] 116)).alloc (.cells #[.int .u64 r0, .int .u64 r1, .int .u64 r2, .int .u64 r3] 116) = W at hb kW ⊢
        generalize w3.heap.size = g at hb hg ⊢
        have hbd := hb.drew
        have xhbd0 := hbd.cell 0 (v := .int .u64 q0) rfl; have xhbd1 := hbd.cell 1 (v := .int .u64 q1) rfl; have xhbd2 := hbd.cell 2 (v := .int .u64 q2) rfl; have xhbd3 := hbd.cell 3 (v := .int .u64 q3) rfl
        go_region_with (first
          | (go_at_call 62; refine (c5 _).mono ?_; rintro e w5 ⟨rfl, k5⟩; have hb5 := hbd.chg k5 (by simp); have xhb50 := hb5.cell 0 (v := .int .u64 q0) rfl; have xhb51 := hb5.cell 1 (v := .int .u64 q1) rfl; have xhb52 := hb5.cell 2 (v := .int .u64 q2) rfl; have xhb53 := hb5.cell 3 (v := .int .u64 q3) rfl)
          | (go_at_call 63; refine (c4 _).mono ?_; rintro e w6 ⟨rfl, k6⟩; have hb6 := hb5.chg k6 (by simp); have xhb60 := hb6.cell 0 (v := .int .u64 q0) rfl; have xhb61 := hb6.cell 1 (v := .int .u64 q1) rfl; have xhb62 := hb6.cell 2 (v := .int .u64 q2) rfl; have xhb63 := hb6.cell 3 (v := .int .u64 q3) rfl; have fhb60 := hb6.free 0; have fhb61 := hb6.free 1; have fhb62 := hb6.free 2; have fhb63 := hb6.free 3))
        all_goals
          go_wp2_with (first
            | (go_at_call 51; refine (hright _).mono ?_; rintro e w' ⟨rfl, rfl⟩)
            | (go_at_call 64; refine (c6 _).mono ?_; rintro e w7 ⟨rfl, k7⟩))
          go_ret2
          have kZ := (kW.drew.trans k5 (by simp)).trans k6 (by simp)
          exact ⟨rfl, ((((kZ.setCell (.inr hg) _).setCell (.inr hg) _).setCell (.inr hg) _).setCell (.inr hg) _).trans k7 (by simp)⟩
    · have hpq : partQ a up by_ more = a * up / by_ := by unfold partQ; rw [if_neg hm]
      rw [hpq] at c6 hQ1
      have hf : partN a up by_ more = if 4611686018427387904 < a * up / by_ then (0, 4) else (a * up / by_, 0) := by unfold partN; rw [if_neg ha, hpq]
      rw [e1] at c6
      have heq' : more = true → ∀ w, (Op.equalIn 10000 116 (V4 r0 r1 r2 r3) (V4 0 0 0 0)).run Tryz.prog w = .ok true w := fun h w => by
        rw [heq]; have : a * up % by_ = 0 := by by_cases e : a * up % by_ = 0; exact e; exact absurd ⟨h, e⟩ hm
        simp [this]
      rw [hf]
      clear hf hpq c4 c5 hsum hQ1 heq hm e1
      unfold V4 at *
      generalize wv (a * up) = VX at c1 c3
      generalize wv by_ = VB at c2 c3
      generalize a * up / by_ = Q at *
      have hfin : ∀ R : Nat × Int, R = (if 4611686018427387904 < Q then (0, 4) else (Q, 0)) → (Q < 18446744073709551616 ∧ Q ≤ 4611686018427387904 ∧ R = (Q, 0)) ∨ (Q < 18446744073709551616 ∧ 4611686018427387904 < Q ∧ R = (0, 4)) ∨ (18446744073709551616 ≤ Q ∧ R = (0, 4)) := fun R h => by
        subst h; split <;> rename_i h
        · by_cases h2 : Q < 18446744073709551616
          · exact .inr (.inl ⟨h2, h, rfl⟩)
          · exact .inr (.inr ⟨by omega, rfl⟩)
        · exact .inl ⟨by omega, by omega, rfl⟩
      obtain ⟨R, hR'⟩ : ∃ R, R = (if 4611686018427387904 < Q then ((0 : Nat), (4 : Int)) else (Q, 0)) := ⟨_, rfl⟩
      rw [← hR']
      cases more with
      | false =>
        clear heq'
        rcases hfin R hR' with ⟨h1, h2, rfl⟩ | ⟨h1, h2, rfl⟩ | ⟨h1, rfl⟩
        · have hb64 := blen_64.2 h1
          have hd2 : decide ((Q : Int) ≤ 4611686018427387904) = true := by simp; omega
          have hrq := Amount_Right Q
          rw [if_pos hb64, decide_eq_true hb64] at c6
          rw [hd2] at hrq
          clear hb64
          clear hR' hfin
          go_enter Tryz.func22, Tryz.ntmps22
          go_wp2_with (first
            | (go_at_call 51; refine (hright _).mono ?_; rintro e w' ⟨rfl, rfl⟩)
            | (go_at_call 51; refine (hrq _).mono ?_; rintro e w' ⟨rfl, rfl⟩)
            | (go_at_call 60; refine (c1 _).mono ?_; rintro e w1 ⟨rfl, k1⟩)
            | (go_at_call_of 62 (Value.int IntKind.u64 by_); refine (c2 _).mono ?_; rintro e w2 ⟨rfl, k2⟩)
            | (go_at_call 61; refine (c3 _).mono ?_; rintro e w3 ⟨rfl, k3⟩)
            | (go_at_call 64; refine (c6 _).mono ?_; rintro e w4 ⟨rfl, k4⟩))
          go_ret2
          exact ⟨rfl, (((k1.trans k2 (by simp)).trans k3 (by simp)).alloc _ |>.alloc _).trans k4 (by simp)⟩
        · have hb64 := blen_64.2 h1
          have hd2 : decide ((Q : Int) ≤ 4611686018427387904) = false := by simp; omega
          have hrq := Amount_Right Q
          rw [if_pos hb64, decide_eq_true hb64] at c6
          rw [hd2] at hrq
          clear hb64
          clear hR' hfin
          go_enter Tryz.func22, Tryz.ntmps22
          go_wp2_with (first
            | (go_at_call 51; refine (hright _).mono ?_; rintro e w' ⟨rfl, rfl⟩)
            | (go_at_call 51; refine (hrq _).mono ?_; rintro e w' ⟨rfl, rfl⟩)
            | (go_at_call 60; refine (c1 _).mono ?_; rintro e w1 ⟨rfl, k1⟩)
            | (go_at_call_of 62 (Value.int IntKind.u64 by_); refine (c2 _).mono ?_; rintro e w2 ⟨rfl, k2⟩)
            | (go_at_call 61; refine (c3 _).mono ?_; rintro e w3 ⟨rfl, k3⟩)
            | (go_at_call 64; refine (c6 _).mono ?_; rintro e w4 ⟨rfl, k4⟩))
          go_ret2
          exact ⟨rfl, (((k1.trans k2 (by simp)).trans k3 (by simp)).alloc _ |>.alloc _).trans k4 (by simp)⟩
        · have hb64 : ¬ blen Q ≤ 64 := fun h => by have := blen_64.1 h; omega
          rw [if_neg hb64, decide_eq_false hb64] at c6
          clear hb64
          clear hR' hfin
          go_enter Tryz.func22, Tryz.ntmps22
          go_wp2_with (first
            | (go_at_call 51; refine (hright _).mono ?_; rintro e w' ⟨rfl, rfl⟩)
            | (go_at_call 60; refine (c1 _).mono ?_; rintro e w1 ⟨rfl, k1⟩)
            | (go_at_call_of 62 (Value.int IntKind.u64 by_); refine (c2 _).mono ?_; rintro e w2 ⟨rfl, k2⟩)
            | (go_at_call 61; refine (c3 _).mono ?_; rintro e w3 ⟨rfl, k3⟩)
            | (go_at_call 64; refine (c6 _).mono ?_; rintro e w4 ⟨rfl, k4⟩))
          go_ret2
          exact ⟨rfl, (((k1.trans k2 (by simp)).trans k3 (by simp)).alloc _ |>.alloc _).trans k4 (by simp)⟩
      | true =>
        have heq1 := heq' rfl
        clear heq'
        rcases hfin R hR' with ⟨h1, h2, rfl⟩ | ⟨h1, h2, rfl⟩ | ⟨h1, rfl⟩
        · have hb64 := blen_64.2 h1
          have hd2 : decide ((Q : Int) ≤ 4611686018427387904) = true := by simp; omega
          have hrq := Amount_Right Q
          rw [if_pos hb64, decide_eq_true hb64] at c6
          rw [hd2] at hrq
          clear hb64
          clear hR' hfin
          go_enter Tryz.func22, Tryz.ntmps22
          go_wp2_with (first
            | (go_at_call 51; refine (hright _).mono ?_; rintro e w' ⟨rfl, rfl⟩)
            | (go_at_call 51; refine (hrq _).mono ?_; rintro e w' ⟨rfl, rfl⟩)
            | (go_at_call 60; refine (c1 _).mono ?_; rintro e w1 ⟨rfl, k1⟩)
            | (go_at_call_of 62 (Value.int IntKind.u64 by_); refine (c2 _).mono ?_; rintro e w2 ⟨rfl, k2⟩)
            | (go_at_call 61; refine (c3 _).mono ?_; rintro e w3 ⟨rfl, k3⟩)
            | (go_at_call 64; refine (c6 _).mono ?_; rintro e w4 ⟨rfl, k4⟩))
          go_ret2
          exact ⟨rfl, (((k1.trans k2 (by simp)).trans k3 (by simp)).alloc _ |>.alloc _).trans k4 (by simp)⟩
        · have hb64 := blen_64.2 h1
          have hd2 : decide ((Q : Int) ≤ 4611686018427387904) = false := by simp; omega
          have hrq := Amount_Right Q
          rw [if_pos hb64, decide_eq_true hb64] at c6
          rw [hd2] at hrq
          clear hb64
          clear hR' hfin
          go_enter Tryz.func22, Tryz.ntmps22
          go_wp2_with (first
            | (go_at_call 51; refine (hright _).mono ?_; rintro e w' ⟨rfl, rfl⟩)
            | (go_at_call 51; refine (hrq _).mono ?_; rintro e w' ⟨rfl, rfl⟩)
            | (go_at_call 60; refine (c1 _).mono ?_; rintro e w1 ⟨rfl, k1⟩)
            | (go_at_call_of 62 (Value.int IntKind.u64 by_); refine (c2 _).mono ?_; rintro e w2 ⟨rfl, k2⟩)
            | (go_at_call 61; refine (c3 _).mono ?_; rintro e w3 ⟨rfl, k3⟩)
            | (go_at_call 64; refine (c6 _).mono ?_; rintro e w4 ⟨rfl, k4⟩))
          go_ret2
          exact ⟨rfl, (((k1.trans k2 (by simp)).trans k3 (by simp)).alloc _ |>.alloc _).trans k4 (by simp)⟩
        · have hb64 : ¬ blen Q ≤ 64 := fun h => by have := blen_64.1 h; omega
          rw [if_neg hb64, decide_eq_false hb64] at c6
          clear hb64
          clear hR' hfin
          go_enter Tryz.func22, Tryz.ntmps22
          go_wp2_with (first
            | (go_at_call 51; refine (hright _).mono ?_; rintro e w' ⟨rfl, rfl⟩)
            | (go_at_call 60; refine (c1 _).mono ?_; rintro e w1 ⟨rfl, k1⟩)
            | (go_at_call_of 62 (Value.int IntKind.u64 by_); refine (c2 _).mono ?_; rintro e w2 ⟨rfl, k2⟩)
            | (go_at_call 61; refine (c3 _).mono ?_; rintro e w3 ⟨rfl, k3⟩)
            | (go_at_call 64; refine (c6 _).mono ?_; rintro e w4 ⟨rfl, k4⟩))
          go_ret2
          exact ⟨rfl, (((k1.trans k2 (by simp)).trans k3 (by simp)).alloc _ |>.alloc _).trans k4 (by simp)⟩
end Go.Proofs.YtackdgbcmeafhaaGreat

/- Package rate: both, Enough. -/
import Derived.Test.YtackdgbcmeafhaaGreatPart0
import Derived.Test.YtackdgbcmeafhaaGreatRate0
import Derived.Test.YtackdgbcmeafhaaGreatReg
namespace Go.Proofs.YtackdgbcmeafhaaGreat
open Go.RowKit Go.Maps Go.Shelf

theorem mul_top {a b c A B C : Nat} (ha : a ≤ A) (hb : b ≤ B) (hc : c ≤ C) : a * b * c ≤ A * B * C := Nat.mul_le_mul (Nat.mul_le_mul ha hb) hc
set_option maxRecDepth 100000 in
set_option maxHeartbeats 2000000 in
theorem rate_both (c a p t : Nat) (hc : c ≤ 4611686018427387904) (ha : a ≤ 4611686018427387904) (hp : p ≤ 1099511627776) (ht : t ≤ 1000000) (w : World) :
    Calls Tryz.prog 126 #[.int .u64 c, .int .u64 a, .int .u64 p, .int .u64 t] w fun e w' => e = .returned (.tuple #[wv (c * 100000000 * 1000), wv (a * p * t)]) ∧ Chg [] w w' := by
  have h1 : c * 100000000 * 1000 < TOP := by unfold TOP; omega
  have h2 := mul_top ha hp ht
  have h3 : a * p * t < TOP := by unfold TOP; omega
  have h4 : c * 100000000 < TOP := by unfold TOP; omega
  have h5 := prod_lt (show a < 18446744073709551616 by omega) (show p < 18446744073709551616 by omega)
  have h6 : a * p < TOP := by unfold TOP; omega
  have c1 := wide_Product c 100000000 (by omega) (by omega)
  have c2 := wide_Mul (c * 100000000) 1000 h4 (by omega)
  have c3 := wide_Product a p (by omega) (by omega)
  have c4 := wide_Mul (a * p) t h6 (by omega)
  rw [Nat.mod_eq_of_lt h1] at c2
  rw [Nat.mod_eq_of_lt h3] at c4
  obtain ⟨a0, a1, a2, a3, _, _, _, _, _, e1⟩ := words _ h1
  obtain ⟨b0, b1, b2, b3, _, _, _, _, _, e2⟩ := words _ h3
  rw [e1] at c2 ⊢
  rw [e2] at c4 ⊢
  unfold V4 at c2 c4 ⊢
  generalize c * 100000000 = X at c1 c2
  generalize a * p = Y at c3 c4
  generalize wv X = VX at c1 c2
  generalize wv Y = VY at c3 c4
  clear h1 h2 h3 h4 h5 h6 e1 e2
  go_enter Tryz.func126, Tryz.ntmps126
  go_wp2_with fail
  refine (c1 _).mono ?_
  rintro e w1 ⟨rfl, k1⟩
  go_wp2_with fail
  refine (c2 _).mono ?_
  rintro e w2 ⟨rfl, k2⟩
  have n10 := Blk.new w2 #[.int .u64 a0, .int .u64 a1, .int .u64 a2, .int .u64 a3] 116
  have n8 := (Blk.new w #[.int .u64 0, .int .u64 0, .int .u64 0, .int .u64 0] 116).alloc (.cells #[.int .u64 0, .int .u64 0, .int .u64 0, .int .u64 0] 116)
  have n9 := Blk.new (w.alloc (.cells #[.int .u64 0, .int .u64 0, .int .u64 0, .int .u64 0] 116)) #[.int .u64 0, .int .u64 0, .int .u64 0, .int .u64 0] 116
  have s9 : (w.alloc (.cells #[.int .u64 0, .int .u64 0, .int .u64 0, .int .u64 0] 116)).heap.size = w.heap.size + 1 := by simp
  rw [s9] at n9
  have q5 := ((n9.chg k1 (by simp)).chg k2 (by simp)).lt
  have m8 := ((n8.chg k1 (by simp)).chg k2 (by simp)).alloc (.cells #[.int .u64 a0, .int .u64 a1, .int .u64 a2, .int .u64 a3] 116)
  have m9 := ((n9.chg k1 (by simp)).chg k2 (by simp)).alloc (.cells #[.int .u64 a0, .int .u64 a1, .int .u64 a2, .int .u64 a3] 116)
  have kk : Chg [] w (w2.alloc (.cells #[.int .u64 a0, .int .u64 a1, .int .u64 a2, .int .u64 a3] 116)) := ((((Chg.refl [] w).alloc _).alloc _).trans (k1.trans k2 (by simp)) (by simp)).alloc _
  clear n8 n9 s9
  go_wp2_with fail
  refine (c3 _).mono ?_
  rintro e w3 ⟨rfl, k3⟩
  go_wp2_with fail
  refine (c4 _).mono ?_
  rintro e w4 ⟨rfl, k4⟩
  have k34 := k3.trans k4 (by simp)
  have n12 := Blk.new w4 #[.int .u64 b0, .int .u64 b1, .int .u64 b2, .int .u64 b3] 116
  have p8 := (m8.chg k34 (by simp)).alloc (.cells #[.int .u64 b0, .int .u64 b1, .int .u64 b2, .int .u64 b3] 116)
  have p9 := (m9.chg k34 (by simp)).alloc (.cells #[.int .u64 b0, .int .u64 b1, .int .u64 b2, .int .u64 b3] 116)
  have p10 := (n10.chg k34 (by simp)).alloc (.cells #[.int .u64 b0, .int .u64 b1, .int .u64 b2, .int .u64 b3] 116)
  have kf := (kk.trans k34 (by simp)).alloc (.cells #[.int .u64 b0, .int .u64 b1, .int .u64 b2, .int .u64 b3] 116)
  have q1 := m8.lt
  have q2 := m9.lt
  have q3 := kk.size
  have q4 := k34.size
  simp at q1 q2 q3 q4
  clear m8 m9 n10 k1 k2 k3 k4 kk k34 c1 c2 c3 c4
  go_wp2
  have d1 : w.heap.size ≠ w.heap.size + 1 := by omega
  have d2 : w.heap.size ≠ w2.heap.size := by omega
  have d3 : w.heap.size ≠ w4.heap.size := by omega
  have d4 : w.heap.size + 1 ≠ w2.heap.size := by omega
  have d5 : w.heap.size + 1 ≠ w4.heap.size := by omega
  have d6 : w2.heap.size ≠ w4.heap.size := by omega
  have z1 : w.heap.size ≤ w.heap.size + 1 := by omega
  clear q1 q2 q3 q4
  generalize w4.alloc (.cells #[.int .u64 b0, .int .u64 b1, .int .u64 b2, .int .u64 b3] 116) = W at p8 p9 p10 n12 kf ⊢
  obtain ⟨S, hS⟩ : ∃ S, S = w.heap.size := ⟨_, rfl⟩
  rw [← hS] at p8 p9 d1 d2 d3 d4 d5 z1 ⊢
  have HS := Lib.hid hS
  clear hS
  generalize w2.heap.size = g10 at p10 d2 d4 d6 ⊢
  generalize w4.heap.size = g12 at n12 d3 d5 d6 ⊢
  generalize S + 1 = g9 at p9 d1 d4 d5 z1 ⊢
  have c8_0 := p8.drew.cell 0 (v := .int .u64 0) rfl
  have f8_0 := p8.drew.free 0
  have c8_1 := p8.drew.cell 1 (v := .int .u64 0) rfl
  have f8_1 := p8.drew.free 1
  have c8_2 := p8.drew.cell 2 (v := .int .u64 0) rfl
  have f8_2 := p8.drew.free 2
  have c8_3 := p8.drew.cell 3 (v := .int .u64 0) rfl
  have f8_3 := p8.drew.free 3
  have c9_0 := p9.drew.cell 0 (v := .int .u64 0) rfl
  have f9_0 := p9.drew.free 0
  have c9_1 := p9.drew.cell 1 (v := .int .u64 0) rfl
  have f9_1 := p9.drew.free 1
  have c9_2 := p9.drew.cell 2 (v := .int .u64 0) rfl
  have f9_2 := p9.drew.free 2
  have c9_3 := p9.drew.cell 3 (v := .int .u64 0) rfl
  have f9_3 := p9.drew.free 3
  have c10_0 := p10.drew.cell 0 (v := .int .u64 a0) rfl
  have c10_1 := p10.drew.cell 1 (v := .int .u64 a1) rfl
  have c10_2 := p10.drew.cell 2 (v := .int .u64 a2) rfl
  have c10_3 := p10.drew.cell 3 (v := .int .u64 a3) rfl
  have c12_0 := n12.drew.cell 0 (v := .int .u64 b0) rfl
  have c12_1 := n12.drew.cell 1 (v := .int .u64 b1) rfl
  have c12_2 := n12.drew.cell 2 (v := .int .u64 b2) rfl
  have c12_3 := n12.drew.cell 3 (v := .int .u64 b3) rfl
  have C8_0 := p8.cell 0 (v := .int .u64 0) rfl
  have F8_0 := p8.free 0
  have C8_1 := p8.cell 1 (v := .int .u64 0) rfl
  have F8_1 := p8.free 1
  have C8_2 := p8.cell 2 (v := .int .u64 0) rfl
  have F8_2 := p8.free 2
  have C8_3 := p8.cell 3 (v := .int .u64 0) rfl
  have F8_3 := p8.free 3
  have C9_0 := p9.cell 0 (v := .int .u64 0) rfl
  have F9_0 := p9.free 0
  have C9_1 := p9.cell 1 (v := .int .u64 0) rfl
  have F9_1 := p9.free 1
  have C9_2 := p9.cell 2 (v := .int .u64 0) rfl
  have F9_2 := p9.free 2
  have C9_3 := p9.cell 3 (v := .int .u64 0) rfl
  have F9_3 := p9.free 3
  have C10_0 := p10.cell 0 (v := .int .u64 a0) rfl
  have C10_1 := p10.cell 1 (v := .int .u64 a1) rfl
  have C10_2 := p10.cell 2 (v := .int .u64 a2) rfl
  have C10_3 := p10.cell 3 (v := .int .u64 a3) rfl
  have C12_0 := n12.cell 0 (v := .int .u64 b0) rfl
  have C12_1 := n12.cell 1 (v := .int .u64 b1) rfl
  have C12_2 := n12.cell 2 (v := .int .u64 b2) rfl
  have C12_3 := n12.cell 3 (v := .int .u64 b3) rfl
  go_region
  go_wp2
  have g0 : w.heap.size ≤ S := by rw [HS.out]; exact Nat.le_refl _
  have g1 : w.heap.size ≤ g9 := by rw [← HS.out]; exact z1
  exact bodyPost_ret (v := .tuple #[.agg #[.int .u64 a0, .int .u64 a1, .int .u64 a2, .int .u64 a3], .agg #[.int .u64 b0, .int .u64 b1, .int .u64 b2, .int .u64 b3]]) (by simp [results, Tryz.results126, go_sem, C8_0, C8_1, C8_2, C8_3, C9_0, C9_1, C9_2, C9_3, d1]) rfl ⟨rfl, ((((((((kf.setCell (.inr g0) _).setCell (.inr g0) _).setCell (.inr g0) _).setCell (.inr g0) _).setCell (.inr g1) _).setCell (.inr g1) _).setCell (.inr g1) _).setCell (.inr g1) _).drew⟩

def enoughB (c a p t : Nat) : Bool := rightB p t [(c : Int), a] && decide (a * p * t ≤ c * 100000000 * 1000)
theorem rightB_two {c a p t : Nat} (h : rightB p t [(c : Int), a] = true) : c ≤ 4611686018427387904 ∧ a ≤ 4611686018427387904 ∧ 1 ≤ p ∧ p ≤ 1099511627776 ∧ 1 ≤ t ∧ t ≤ 1000000 := by
  simp [rightB, prB, thB] at h
  omega
set_option maxRecDepth 100000 in
set_option maxHeartbeats 2000000 in
theorem rate_Enough (c a p t : Nat) (w : World) :
    Calls Tryz.prog 104 #[.int .u64 c, .int .u64 a, .int .u64 p, .int .u64 t] w fun e w' => e = .returned (.bool (enoughB c a p t)) ∧ Chg [] w w' := by
  have hr := fun T => rate_right p t w.heap.size [(c : Int), a] T _ (Blk.new w #[.int .u64 c, .int .u64 a] T) (by simp)
  cases hb : rightB p t [(c : Int), a] with
  | false =>
    have he : enoughB c a p t = false := by unfold enoughB; rw [hb]; rfl
    rw [hb] at hr
    go_enter Tryz.func104, Tryz.ntmps104
    go_wp2_with (go_at_call 43; refine (hr _).mono ?_; rintro e w' ⟨rfl, rfl⟩)
    go_ret
    exact ⟨by rw [he]; rfl, (by repeat (first | exact Chg.refl _ _ | refine Chg.alloc ?_ _ | refine Chg.drew ?_ | refine Chg.drewN ?_ _ | refine Chg.setCell ?_ (.inr (by simp)) _))⟩
  | true =>
    obtain ⟨h1, h2, _, h4, _, h6⟩ := rightB_two hb
    have t1 : c * 100000000 * 1000 < TOP := by unfold TOP; omega
    have t2 : a * p * t < TOP := by have := mul_top h2 h4 h6; unfold TOP; omega
    have hbo := rate_both c a p t h1 h2 h4 h6
    have hcmp := wide_Cmp (c * 100000000 * 1000) (a * p * t) t1 t2
    have he : enoughB c a p t = decide (0 ≤ cmpN (c * 100000000 * 1000) (a * p * t)) := by
      unfold enoughB cmpN; rw [hb]
      rw [Bool.true_and, Bool.eq_iff_iff]
      simp only [decide_eq_true_eq]
      split
      · omega
      · split <;> omega
    rw [hb] at hr
    obtain ⟨a0, a1, a2, a3, _, _, _, _, _, e1⟩ := words _ t1
    obtain ⟨b0, b1, b2, b3, _, _, _, _, _, e2⟩ := words _ t2
    rw [e1, e2] at hbo hcmp
    unfold V4 at hbo hcmp
    generalize cmpN (c * 100000000 * 1000) (a * p * t) = R at hcmp he
    clear t1 t2 h1 h2 h4 h6 e1 e2
    go_enter Tryz.func104, Tryz.ntmps104
    go_wp2_with (first
      | (go_at_call 43; refine (hr _).mono ?_; rintro e w' ⟨rfl, rfl⟩)
      | (go_at_call 126; refine (hbo _).mono ?_; rintro e w1 ⟨rfl, k1⟩)
      | (go_at_call 109; refine (hcmp _).mono ?_; rintro e w2 ⟨rfl, k2⟩))
    go_ret
    exact ⟨by rw [he]; rfl, (((((Chg.refl [] w).alloc _).trans k1 (by simp)).alloc _).alloc _).trans k2 (by simp)⟩
end Go.Proofs.YtackdgbcmeafhaaGreat

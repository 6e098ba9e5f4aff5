/- Package wide: Div, bit by bit: the parts. -/
import Derived.Test.YtackdgbcmeafhaaGreatWideQ
namespace Go.Proofs.YtackdgbcmeafhaaGreat
open Go.RowKit Go.Maps Go.Shelf

theorem leftV (r0 r1 r2 r3 : Int) (h0 : Wd r0) (h1 : Wd r1) (h2 : Wd r2) (h3 : Wd r3) : ∃ t0 t1 t2 t3 : Int, Wd t0 ∧ Wd t1 ∧ Wd t2 ∧ Wd t3 ∧ n4 t0 t1 t2 t3 = n4 r0 r1 r2 r3 * 2 % TOP ∧
    ∀ w, Calls Tryz.prog 108 #[V4 r0 r1 r2 r3, .int .i64 1] w fun e w' => e = .returned (V4 t0 t1 t2 t3) ∧ Chg [] w w' := by
  obtain ⟨l0, l1⟩ := n4_lt h0 h1 h2 h3
  obtain ⟨N, hN⟩ : ∃ N : Nat, (N : Int) = n4 r0 r1 r2 r3 := ⟨(n4 r0 r1 r2 r3).toNat, Int.toNat_of_nonneg l0⟩
  have hlt : N * 2 ^ 1 % TOP < TOP := Nat.mod_lt _ (by unfold TOP; omega)
  obtain ⟨t0, t1, t2, t3, k0, k1, k2, k3, e, hv⟩ := words _ hlt
  refine ⟨t0, t1, t2, t3, k0, k1, k2, k3, ?_, fun w => ?_⟩
  · rw [← e, ← hN, Int.natCast_emod, Int.natCast_mul]; rfl
  · have h := wide_Left N 1 (by omega) (by omega) w
    rw [hv, wv_of (n := N) h0 h1 h2 h3 hN |>.symm] at h
    exact h
theorem subV (a0 a1 a2 a3 b0 b1 b2 b3 : Int) (ha0 : Wd a0) (ha1 : Wd a1) (ha2 : Wd a2) (ha3 : Wd a3) (hb0 : Wd b0) (hb1 : Wd b1) (hb2 : Wd b2) (hb3 : Wd b3) : ∃ (u0 u1 u2 u3 : Int) (z : Bool), Wd u0 ∧ Wd u1 ∧ Wd u2 ∧ Wd u3 ∧ n4 u0 u1 u2 u3 = (n4 a0 a1 a2 a3 - n4 b0 b1 b2 b3) % TOP ∧
    ∀ w, Calls Tryz.prog 110 #[V4 a0 a1 a2 a3, V4 b0 b1 b2 b3] w fun e w' => e = .returned (.tuple #[V4 u0 u1 u2 u3, .bool z]) ∧ Chg [] w w' := by
  obtain ⟨l0, l1⟩ := n4_lt ha0 ha1 ha2 ha3
  obtain ⟨l2, l3⟩ := n4_lt hb0 hb1 hb2 hb3
  obtain ⟨N, hN⟩ : ∃ N : Nat, (N : Int) = n4 a0 a1 a2 a3 := ⟨(n4 a0 a1 a2 a3).toNat, Int.toNat_of_nonneg l0⟩
  obtain ⟨M, hM⟩ : ∃ M : Nat, (M : Int) = n4 b0 b1 b2 b3 := ⟨(n4 b0 b1 b2 b3).toNat, Int.toNat_of_nonneg l2⟩
  have hlt : (N + TOP - M) % TOP < TOP := Nat.mod_lt _ (by unfold TOP; omega)
  obtain ⟨t0, t1, t2, t3, k0, k1, k2, k3, e, hv⟩ := words _ hlt
  refine ⟨t0, t1, t2, t3, decide (N < M), k0, k1, k2, k3, ?_, fun w => ?_⟩
  · rw [← e, ← hN, ← hM]; unfold TOP at *; omega
  · have h := wide_Sub N M (by omega) (by omega) w
    rw [hv, wv_of (n := N) ha0 ha1 ha2 ha3 hN |>.symm, wv_of (n := M) hb0 hb1 hb2 hb3 hM |>.symm] at h
    exact h

theorem div_step (N M j : Nat) (hM : 0 < M) : N / 2 ^ j % M = (if M ≤ 2 * (N / 2 ^ (j + 1) % M) + N / 2 ^ j % 2 then 2 * (N / 2 ^ (j + 1) % M) + N / 2 ^ j % 2 - M else 2 * (N / 2 ^ (j + 1) % M) + N / 2 ^ j % 2) ∧
    N / 2 ^ j / M = 2 * (N / 2 ^ (j + 1) / M) + (if M ≤ 2 * (N / 2 ^ (j + 1) % M) + N / 2 ^ j % 2 then 1 else 0) := by
  have h1 : N / 2 ^ (j + 1) = N / 2 ^ j / 2 := by rw [Nat.pow_succ, Nat.div_div_eq_div_mul]
  rw [h1]
  generalize N / 2 ^ j = X
  have h2 : X = 2 * (X / 2) + X % 2 := by omega
  have h3 := Nat.div_add_mod (X / 2) M
  have h4 := Nat.mod_lt (X / 2) hM
  generalize hq : X / 2 / M = q at *
  generalize hr : X / 2 % M = r at *
  have h5 : X = M * (2 * q) + (2 * r + X % 2) := by
    have : M * (2 * q) = 2 * (M * q) := by rw [← Nat.mul_assoc, Nat.mul_comm M 2, Nat.mul_assoc]
    omega
  generalize X % 2 = b at *
  have hb : b < 2 ∨ 2 ≤ b := by omega
  have hb1 : b ≤ 1 ∨ b > 1 := by omega
  by_cases hge : M ≤ 2 * r + b
  · rw [if_pos hge, if_pos hge]
    have hlt : 2 * r + b - M < M := by
      rcases hb1 with h | h
      · omega
      · exfalso; subst h5; omega
    have h6 : X = (2 * r + b - M) + M * (2 * q + 1) := by rw [Nat.mul_add, Nat.mul_one]; omega
    exact ⟨by rw [h6, Nat.add_mul_mod_self_left, Nat.mod_eq_of_lt hlt], by rw [h6, Nat.add_mul_div_left _ _ hM, Nat.div_eq_of_lt hlt]; omega⟩
  · rw [if_neg hge, if_neg hge]
    have h6 : X = (2 * r + b) + M * (2 * q) := by omega
    exact ⟨by rw [h6, Nat.add_mul_mod_self_left, Nat.mod_eq_of_lt (by omega)], by rw [h6, Nat.add_mul_div_left _ _ hM, Nat.div_eq_of_lt (by omega)]; omega⟩
theorem bit_word {x y s : Nat} (hs : s < 64) : (x + 18446744073709551616 * y) / 2 ^ s % 2 = x / 2 ^ s % 2 := by
  have e : 18446744073709551616 * y = 2 ^ s * (2 * (2 ^ (63 - s) * y)) := by
    have : (18446744073709551616 : Nat) = 2 ^ s * (2 * 2 ^ (63 - s)) := by
      rw [← Nat.mul_assoc, Nat.mul_comm _ 2, Nat.mul_assoc, ← Nat.pow_add, show s + (63 - s) = 63 by omega]
    rw [this]; simp only [Nat.mul_assoc]
  rw [e, Nat.add_mul_div_left _ _ (Nat.two_pow_pos s)]
  omega
end Go.Proofs.YtackdgbcmeafhaaGreat

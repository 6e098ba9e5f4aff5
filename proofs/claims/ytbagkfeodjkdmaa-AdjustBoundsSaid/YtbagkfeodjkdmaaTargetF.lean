/- Package target: Scale, as numbers. -/
import Derived.Test.YtbagkfeodjkdmaaTargetE
import Derived.Test.YtbagkfeodjkdmaaWideK
namespace Go.Proofs.Ytbagkfeodjkdmaa
open Go.RowKit Go.Maps Go.Shelf

theorem scaleN_eq (T up by_ most : Nat) (hT : T < TOP) (hm : most < TOP) (hu : up < 18446744073709551616) (hb : by_ < 18446744073709551616) (hb0 : 0 < by_) :
    scaleN T up by_ most = if (decide (TOP ≤ T / by_ * up) || decide (TOP ≤ T / by_ * up % TOP + T % by_ * up % TOP / by_) || decide (0 < cmpN ((T / by_ * up % TOP + T % by_ * up % TOP / by_) % TOP) most)) = true then most
      else if ((T / by_ * up % TOP + T % by_ * up % TOP / by_) % TOP) = 0 then 1 else ((T / by_ * up % TOP + T % by_ * up % TOP / by_) % TOP) := by
  have e : T * up / by_ = T / by_ * up + T % by_ * up / by_ := by
    have h := Nat.div_add_mod T by_
    conv => lhs; rw [← h]
    rw [Nat.add_mul, Nat.mul_assoc, Nat.mul_add_div hb0]
  have hr : T % by_ * up < TOP := by
    have := Nat.mod_lt T hb0
    have h2 : T % by_ * up ≤ 18446744073709551616 * 18446744073709551616 := Nat.mul_le_mul (by omega) (by omega)
    unfold TOP; omega
  rw [Nat.mod_eq_of_lt hr]
  unfold scaleN
  rw [e]
  generalize T / by_ * up = p
  generalize T % by_ * up / by_ = s
  by_cases h1 : TOP ≤ p
  · simp only [h1, decide_true, Bool.true_or, if_true]
    rw [if_pos (by omega)]
  rw [Nat.mod_eq_of_lt (show p < TOP by omega)]
  by_cases h2 : TOP ≤ p + s
  · simp only [h2, decide_true, Bool.true_or, Bool.or_true, if_true]
    rw [if_pos (by omega)]
  rw [Nat.mod_eq_of_lt (show p + s < TOP by omega)]
  have h3 : (0 < cmpN (p + s) most) ↔ most < p + s := by unfold cmpN; split <;> (try split) <;> omega
  simp only [h1, h2, h3, decide_false, Bool.false_or, decide_eq_true_eq]

theorem target_Scale (T up by_ most : Nat) (hT : T < TOP) (hm : most < TOP) (hm0 : most ≠ 0) (hu : up < 18446744073709551616) (hb : by_ < 18446744073709551616) (hb0 : 0 < by_) (w : World) :
    Calls Try.prog 58 #[wv T, .int .u64 up, .int .u64 by_, wv most] w fun e w' => e = .returned (.tuple #[wv (scaleN T up by_ most), .int .i64 0]) ∧ Chg [] w w' := by
  rw [scaleN_eq T up by_ most hT hm hu hb hb0]
  have hbT : by_ < TOP := by unfold TOP; omega
  have hq : T / by_ < TOP := Nat.lt_of_le_of_lt (Nat.div_le_self _ _) hT
  have hr : T % by_ < TOP := Nat.lt_of_le_of_lt (Nat.mod_le _ _) hT
  have hTop : 0 < TOP := by unfold TOP; omega
  have hH : T / by_ * up % TOP < TOP := Nat.mod_lt _ hTop
  have hL : T % by_ * up % TOP < TOP := Nat.mod_lt _ hTop
  have hY : T % by_ * up % TOP / by_ < TOP := Nat.lt_of_le_of_lt (Nat.div_le_self _ _) hL
  have hZ : T % by_ * up % TOP % by_ < TOP := Nat.lt_of_le_of_lt (Nat.mod_le _ _) hL
  have hO : (T / by_ * up % TOP + T % by_ * up % TOP / by_) % TOP < TOP := Nat.mod_lt _ hTop
  have c1 := wide_Of' by_ hb
  have c2 := wide_Div T by_ hT hbT (by omega)
  have c3 := wide_Mul (T / by_) up hq hu
  have c4 := wide_Mul (T % by_) up hr hu
  have c5 := wide_Div _ by_ hL hbT (by omega)
  have c6 := wide_Add _ _ hH hY
  have c7 := wide_Cmp _ most hO hm
  have c8 := wide_Of' 1 (by omega)
  rw [wv_small (n := 1) (by omega)] at c8
  generalize decide (TOP ≤ T / by_ * up) = ov at c3 ⊢
  generalize decide (TOP ≤ T % by_ * up) = ov2 at c4
  generalize T / by_ * up % TOP = H at *
  generalize T % by_ * up % TOP = L at *
  generalize T / by_ = q at *
  generalize T % by_ = r at *
  generalize L / by_ = y at *
  generalize L % by_ = z at *
  generalize decide (TOP ≤ H + y) = mo at c6 ⊢
  generalize (H + y) % TOP = O at *
  generalize cmpN O most = c at *
  obtain ⟨t0, t1, t2, t3, ht0, ht1, ht2, ht3, eT, eT'⟩ := words T hT
  obtain ⟨m0, m1, m2, m3, hm0', hm1, hm2, hm3, eM, eM'⟩ := words most hm
  obtain ⟨q0, q1, q2, q3, _, _, _, _, _, eQ'⟩ := words q hq
  obtain ⟨r0, r1, r2, r3, _, _, _, _, _, eR'⟩ := words r hr
  obtain ⟨b0, b1, b2, b3, _, _, _, _, _, eB'⟩ := words by_ hbT
  obtain ⟨h0, h1, h2, h3, _, _, _, _, _, eH'⟩ := words H hH
  obtain ⟨l0, l1, l2, l3, _, _, _, _, _, eL'⟩ := words L hL
  obtain ⟨y0, y1, y2, y3, _, _, _, _, _, eY'⟩ := words y hY
  obtain ⟨z0, z1, z2, z3, _, _, _, _, _, eZ'⟩ := words z hZ
  obtain ⟨o0, o1, o2, o3, ho0, ho1, ho2, ho3, eO, eO'⟩ := words O hO
  rw [eB'] at c1
  rw [eT', eB', eQ', eR'] at c2
  rw [eQ', eH'] at c3
  rw [eR', eL'] at c4
  rw [eL', eB', eY', eZ'] at c5
  rw [eH', eY', eO'] at c6
  rw [eO', eM'] at c7
  rw [eT', eM']
  have heq : ∀ w, (Op.equalIn 10000 93 (V4 m0 m1 m2 m3) (V4 0 0 0 0)).run Try.prog w = .ok false w := fun w => by
    rw [run_eqW, decide_eq_false]
    rw [n4_zero hm0' hm1 hm2 hm3, ← eM]; omega
  have hzo : ∀ w, (Op.equalIn 10000 93 (V4 o0 o1 o2 o3) (V4 0 0 0 0)).run Try.prog w = .ok (decide (O = 0)) w := fun w => by
    rw [run_eqW]
    have := n4_zero ho0 ho1 ho2 ho3
    rw [← eO] at this
    rw [decide_eq_decide.2 (this.trans (by constructor <;> intro h <;> omega : ((O : Int) = 0) ↔ O = 0))]
  refine (target_ScaleW t0 t1 t2 t3 m0 m1 m2 m3 q0 q1 q2 q3 r0 r1 r2 r3 b0 b1 b2 b3 up by_ w (by omega) (by simp; omega) (by simp; omega) ov ov2 mo (decide (O = 0)) c h0 h1 h2 h3 l0 l1 l2 l3 y0 y1 y2 y3 z0 z1 z2 z3 o0 o1 o2 o3 heq c1 c2 c3 c4 c5 c6 c7 hzo c8).mono ?_
  rintro e w' ⟨rfl, hc⟩
  refine ⟨?_, hc⟩
  have key : (if (ov || mo || decide (0 < c)) = true then V4 m0 m1 m2 m3 else if decide (O = 0) = true then V4 1 0 0 0 else V4 o0 o1 o2 o3) = wv (if (ov || mo || decide (0 < c)) = true then most else if O = 0 then 1 else O) := by
    split
    · exact eM'.symm
    · by_cases h : O = 0
      · rw [if_pos (by simpa using h), if_pos h, wv_small (by omega)]; rfl
      · rw [if_neg (by simpa using h), if_neg h, eO']
  rw [key]
end Go.Proofs.Ytbagkfeodjkdmaa

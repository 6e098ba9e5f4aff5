/- Layer 20: lives. -/
import Derived.Test.YtackdgbcmeafhaaGreatReg0
import Derived.Test.YtackdgbcmeafhaaGreatBookOps
namespace Go.Proofs.YtackdgbcmeafhaaGreat
open Go.RowKit Go.Maps Go.Shelf

theorem BkAt.ne {w : World} {x : Lc} {B : Bk} (h : BkAt w x B) : x.b ≠ x.fd ∧ x.t ≠ x.fd ∧ x.tm ≠ x.fd ∧ x.p ≠ x.fd ∧ x.pf ≠ x.fd ∧ x.pm ≠ x.fd ∧ x.vm ≠ x.fd ∧ (x.b ≠ x.p ∧ x.b ≠ x.pf ∧ x.b ≠ x.pm) ∧ (x.t ≠ x.p ∧ x.t ≠ x.pf ∧ x.t ≠ x.pm) ∧ (x.tm ≠ x.p ∧ x.tm ≠ x.pf ∧ x.tm ≠ x.pm) ∧ (x.vm ≠ x.p ∧ x.vm ≠ x.pf ∧ x.vm ≠ x.pm) := by
  have hnd := h.nd
  simp only [Lc.all, List.nodup_cons, List.mem_cons, List.not_mem_nil, or_false, not_or] at hnd
  obtain ⟨⟨q1, q2, q3, q4, q5, q6, q7⟩, ⟨q8, q9, q10, q11, q12, q13⟩, ⟨q14, q15, q16, q17, q18⟩, ⟨q19, q20, q21, q22⟩, ⟨q23, q24, q25⟩, ⟨q26, q27⟩, q28, -⟩ := hnd
  exact ⟨q6, q12, q17, q21, q24, q26, Ne.symm q28, ⟨q3, q4, q5⟩, ⟨q9, q10, q11⟩, ⟨q14, q15, q16⟩, Ne.symm q22, Ne.symm q25, Ne.symm q27⟩
theorem BkAt.setF {w w' : World} {x : Lc} {B : Bk} (h : BkAt w x B) {F : Fd} (hF : FdAt w' x.fd F) (c : Chg [x.fd] w w') : BkAt w' x { B with F := F } := by
  obtain ⟨n1, n2, n3, n4, n5, n6, n7, -⟩ := h.ne
  exact ⟨h.blk.chg c (by simp [n1]), h.led.chg c (by simp [n2]) (by simp [n3]), h.pur.chg c (by simp [n4]) (by simp [n5]) (by simp [n6]), hF, h.vm.chg c (by simp [n7]), h.nd⟩
theorem BkAt.setU {w w' : World} {x : Lc} {B : Bk} (h : BkAt w x B) {U : Pur} (hU : PurAt w' x.p x.pf x.pm U) (c : Chg [x.p, x.pf, x.pm] w w') : BkAt w' x { B with U := U } := by
  obtain ⟨n1, n2, n3, n4, n5, n6, n7, ⟨m1, m2, m3⟩, ⟨m4, m5, m6⟩, ⟨m7, m8, m9⟩, m10, m11, m12⟩ := h.ne
  exact ⟨h.blk.chg c (by simp [m1, m2, m3]), h.led.chg c (by simp [m4, m5, m6]) (by simp [m7, m8, m9]), hU, h.fd.chg c (by simp [n4.symm, n5.symm, n6.symm]), h.vm.chg c (by simp [m10, m11, m12]), h.nd⟩
def ad1 : Array Value := #[.int .u8 1] ++ Array.replicate 19 (.int .u8 0)
theorem ad1_size : ad1.size = 20 := rfl
theorem ad1_one : ad1.all (·.oneCell') = true := by kernel_rfl
def vt1 : Vt := ⟨1, ad1, 200, 0, 0, 0, 0, false⟩
def F1 : Fd := ⟨100, 50, 100, 0⟩
def U1 : Pur := ⟨⟨updM Led.zero.m 1 200, 200⟩, 0, 200, 0⟩
def U2 : Pur := (U1.dHold 1 200).2
set_option maxRecDepth 100000 in
set_option maxHeartbeats 2000000 in
theorem law20_lives (w : World) :
    Calls Tryz.prog 7 #[] w fun e w' => e = .returned (.bool true) ∧ Chg [] w w' := by
  go_enter Tryz.func7, Tryz.ntmps7
  go_wp2_with fail
  refine (law20_Usual _).mono ?_
  rintro e w1 ⟨rfl, k1⟩
  go_wp2_with fail
  refine (book_New _).mono ?_
  rintro e w2 ⟨x, rfl, h2, k2, fx⟩
  go_wp2_with fail
  refine (book_Feed x _ w2 h2).mono ?_
  rintro e w' ⟨rfl, rfl⟩
  go_wp2_with fail
  refine (oracle_Set0 x.fd _ 100 0 w2 h2.fd rfl).mono ?_
  rintro e w3 ⟨rfl, hF, k3⟩
  have h3 := h2.setF hF k3
  rw [show (Fd.set0 Bk.zero.F 100 0) = (0, F1) by rfl] at h3 ⊢
  clear hF
  go_wp2_with fail
  refine (book_Purse x _ w3 h3).mono ?_
  rintro e w' ⟨rfl, rfl⟩
  go_wp2_with fail
  refine (purse_In x.p x.pf x.pm _ 1 200 w3 h3.pur PurOk.zero (by decide) (by decide)).mono ?_
  rintro e w4 ⟨rfl, hU, k4⟩
  have ok4 : PurOk U1 := PurOk.zero.dIn (k := 1) (a := 200) (by decide) (by decide) (by decide)
  have h4 := h3.setU hU k4
  rw [show (Pur.dIn Bk.zero.U 1 200) = (0, U1) by rfl] at h4 ⊢
  clear hU
  go_wp2_with fail
  refine (book_Register0 x _ 1 ad1 200 rfl ad1_one (by decide) (by decide) (fun _ => rfl) rfl ok4 w4 h4 rfl).mono ?_
  rintro e w5 ⟨rfl, h5, k5⟩
  have hB5 : ({ ({ Bk.zero with F := F1, U := U1 } : Bk) with U := (U1.dHold 1 (200 : Nat)).2 } : Bk).put ⟨1, ad1, 200, 0, 0, 0, 0, false⟩ = { Bk.zero with F := F1, U := U2, f := fun y => if y = 1 then some vt1 else none, cnt := 1 } := rfl
  have h5' : BkAt w5 x { Bk.zero with F := F1, U := U2, f := fun y => if y = 1 then some vt1 else none, cnt := 1 } := hB5 ▸ h5
  have okF : FdOk F1 := ⟨by decide, by decide, by decide, by decide⟩
  go_wp2_with fail
  refine (book_Reserve x _ 1 100000000 vt1 ⟨rfl, ad1_one⟩ (by decide) rfl rfl rfl rfl (by decide) (by decide) (by decide) okF w5 h5').mono ?_
  rintro e w6 ⟨rfl, h6, k6⟩
  have es : Bk.sec { Bk.zero with F := F1, U := U2, f := fun y => if y = 1 then some vt1 else none, cnt := 1 } vt1.col (vt1.bur + 100000000) = 0 := by kernel_rfl
  rw [es] at h6 ⊢
  rw [if_pos rfl] at h6
  obtain ⟨B6, hB6⟩ : ∃ B6, B6 = (Bk.put { Bk.zero with F := F1, U := U2, f := fun y => if y = 1 then some vt1 else none, cnt := 1 } { vt1 with com := vt1.com + 100000000 }) := ⟨_, rfl⟩
  rw [← hB6] at h6
  have e1 : B6.f 1 = some { vt1 with com := 100000000 } := by rw [hB6]; rfl
  have e2 : B6.cnt = 1 := by rw [hB6]; rfl
  have e3 : B6.now = 0 := by rw [hB6]; rfl
  have e4 : B6.F = F1 := by rw [hB6]; rfl
  clear hB6
  go_wp2_with fail
  refine (book_Reserve x B6 1 1 { vt1 with com := 100000000 } ⟨rfl, ad1_one⟩ (by decide) rfl e1 rfl rfl (by decide) (by omega) (by omega) (e4 ▸ okF) w6 h6).mono ?_
  rintro e w7 ⟨rfl, -, k7⟩
  have es : Bk.sec B6 ({ vt1 with com := 100000000 } : Vt).col (({ vt1 with com := 100000000 } : Vt).bur + 1) = 19 := by unfold Bk.sec; rw [e3, e4]; kernel_rfl
  rw [es]
  have g1 : ∀ t ∈ x.all, t ∈ ([] : List Nat) ∨ w.heap.size ≤ t := fun t ht => .inr (Nat.le_trans k1.size (fx t ht))
  go_wp2
  go_ret
  have n2 : ∀ t ∈ [x.fd], t ∈ ([] : List Nat) ∨ w.heap.size ≤ t := fun t ht => g1 t (by simp [Lc.all] at ht ⊢; simp [ht])
  have n3 : ∀ t ∈ [x.p, x.pf, x.pm], t ∈ ([] : List Nat) ∨ w.heap.size ≤ t := fun t ht => g1 t (by simp [Lc.all] at ht ⊢; rcases ht with h | h | h <;> simp [h])
  have n4 : ∀ t ∈ [x.vm], t ∈ ([] : List Nat) ∨ w.heap.size ≤ t := fun t ht => g1 t (by simp [Lc.all] at ht ⊢; simp [ht])
  exact ⟨rfl, ((((((k1.trans k2 (by simp)).trans k3 n2).trans k4 n3).trans k5 g1).trans k6 n4).trans k7 n4)⟩
end Go.Proofs.YtackdgbcmeafhaaGreat

/- Package oracle: New, Price, Last, Set. -/
import Derived.Test.YtackdgbcmeafhaaGreatRate
import Derived.Test.YtackdgbcmeafhaaGreatPart
namespace Go.Proofs.YtackdgbcmeafhaaGreat
open Go.RowKit Go.Maps Go.Shelf

structure Fd where
  mv : Nat
  ag : Nat
  pr : Nat
  at_ : Nat
structure FdOk (F : Fd) : Prop where
  m : F.mv ≤ 1000
  a : F.ag ≤ 1099511627776
  p : F.pr ≤ 1099511627776
  t : F.at_ ≤ 1099511627776
def FdAt (w : World) (p : Nat) (F : Fd) : Prop := Blk w p #[.int .u64 F.mv, .int .u64 F.ag, .int .u64 F.pr, .int .u64 F.at_] 99
theorem FdAt.chg {w w' : World} {p : Nat} {F : Fd} {S : List Nat} (h : FdAt w p F) (c : Chg S w w') (hp : p ∉ S) : FdAt w' p F := Blk.chg h c hp

set_option maxHeartbeats 1000000 in
theorem oracle_New (mv ag : Nat) (hm : mv ≤ 1000) (ha : ag ≤ 1099511627776) (w : World) :
    Calls Tryz.prog 38 #[.agg #[.int .u64 mv, .int .u64 ag]] w fun e w' => ∃ p, e = .returned (.tuple #[.pointer (some ⟨p, 0, none⟩), .int .i64 0]) ∧ FdAt w' p ⟨mv, ag, 0, 0⟩ ∧ Chg [] w w' ∧ w.heap.size ≤ p := by
  have h1 : decide (1000 < (mv : Int)) = false := by simp; omega
  have h2 : decide (1099511627776 < (ag : Int)) = false := by simp; omega
  go_enter Tryz.func38, Tryz.ntmps38
  go_wp2
  go_ret2
  exact ⟨w.heap.size + 1, rfl, by have := Blk.new (w.alloc (.cells #[.int .u64 mv, .int .u64 ag] 28)) #[.int .u64 mv, .int .u64 ag, .int .u64 0, .int .u64 0] 99; simpa [FdAt] using this, (by repeat (first | exact Chg.refl _ _ | refine Chg.alloc ?_ _ | refine Chg.drew ?_ | refine Chg.drewN ?_ _ | refine Chg.setCell ?_ (.inr (by simp)) _)), by omega⟩

def Fd.price (F : Fd) (now : Nat) : Nat × Int := if F.pr = 0 then (0, 12) else if now < F.at_ then (0, 11) else if F.ag < now - F.at_ then (0, 18) else (F.pr, 0)
set_option maxRecDepth 100000 in
set_option maxHeartbeats 1000000 in
theorem oracle_Price (p : Nat) (F : Fd) (now : Nat) (hn : now ≤ 1099511627776) (w : World) (h : FdAt w p F) (ok : FdOk F) :
    Calls Tryz.prog 89 #[.pointer (some ⟨p, 0, none⟩), .int .u64 now] w fun e w' => e = .returned (.tuple #[.int .u64 (F.price now).1, .int .i64 (F.price now).2]) ∧ Chg [] w w' := by
  have c0 := Blk.cell h 0 (v := .int .u64 F.mv) rfl
  have c1 := Blk.cell h 1 (v := .int .u64 F.ag) rfl
  have c2 := Blk.cell h 2 (v := .int .u64 F.pr) rfl
  have c3 := Blk.cell h 3 (v := .int .u64 F.at_) rfl
  have o1 := ok.a; have o2 := ok.p; have o3 := ok.t
  obtain ⟨mv, ag, pr, at_⟩ := F
  simp only at c0 c1 c2 c3 o1 o2 o3
  unfold Fd.price
  by_cases h1 : pr = 0
  · subst h1
    go_enter Tryz.func89, Tryz.ntmps89
    go_wp2
    go_ret2
    exact ⟨by simp, Chg.refl _ _⟩
  · have b1 : (((pr : Nat) : Int) == 0) = false := by simp; omega
    by_cases h2 : now < at_
    · have b2 : (now : Int) < at_ := by omega
      simp only [h1, h2, if_true, if_false]
      clear h1 h2
      go_enter Tryz.func89, Tryz.ntmps89
      go_wp2
      go_ret2
      exact ⟨by simp, Chg.refl _ _⟩
    · have b2 : ((at_ : Nat) : Int) ≤ now := by omega
      by_cases h3 : ag < now - at_
      · have b3 : (ag : Int) < (now : Int) - at_ := by omega
        simp only [h1, h2, h3, if_true, if_false]
        clear h1 h2 h3
        go_enter Tryz.func89, Tryz.ntmps89
        go_wp2
        go_quiet (fail)
        go_wp2
        go_ret2
        exact ⟨by simp, (Chg.refl _ _).drewN _⟩
      · have b3 : (now : Int) - at_ ≤ ag := by omega
        simp only [h1, h2, h3, if_true, if_false]
        clear h1 h2 h3
        go_enter Tryz.func89, Tryz.ntmps89
        go_wp2
        go_quiet (fail)
        go_wp2
        go_ret2
        exact ⟨by simp, (Chg.refl _ _).drewN _⟩

set_option maxHeartbeats 1000000 in
theorem oracle_Bounds0 (p : Nat) (F : Fd) (w : World) (h : FdAt w p F) (h0 : F.pr = 0) :
    Calls Tryz.prog 42 #[.pointer (some ⟨p, 0, none⟩)] w fun e w' => e = .returned (.tuple #[.int .u64 1, .int .u64 1099511627776]) ∧ w = w' := by
  have c2 := Blk.cell h 2 (v := .int .u64 F.pr) rfl
  rw [h0] at c2
  go_enter Tryz.func42, Tryz.ntmps42
  go_wp2
  go_ret2
  exact ⟨rfl, rfl⟩
/-- Set of a feed that has no price. -/
def Fd.set0 (F : Fd) (p now : Nat) : Int × Fd := if prB p = true ∧ now ≤ 1099511627776 then (0, ⟨F.mv, F.ag, p, now⟩) else (1, F)
set_option maxRecDepth 100000 in
set_option maxHeartbeats 1000000 in
theorem oracle_Set0 (b : Nat) (F : Fd) (p now : Nat) (w : World) (h : FdAt w b F) (h0 : F.pr = 0) :
    Calls Tryz.prog 11 #[.pointer (some ⟨b, 0, none⟩), .int .u64 p, .int .u64 now] w fun e w' => e = .returned (.int .i64 (F.set0 p now).1) ∧ FdAt w' b (F.set0 p now).2 ∧ Chg [b] w w' := by
  have hpr := Price_Right p
  have hbd := fun w h => oracle_Bounds0 b F w h h0
  have c2 := Blk.cell h 2 (v := .int .u64 F.pr) rfl
  have c3 := Blk.cell h 3 (v := .int .u64 F.at_) rfl
  have f2 := Blk.free h 2
  have f3 := Blk.free h 3
  rw [h0] at c2
  unfold Fd.set0
  by_cases h1 : prB p = true
  · rw [h1] at hpr
    by_cases h2 : now ≤ 1099511627776
    · rw [if_pos ⟨h1, h2⟩]
      have b1 : (now : Int) ≤ 1099511627776 := by omega
      have hp : 1 ≤ (p : Int) ∧ (p : Int) ≤ 1099511627776 := by simpa [prB] using h1
      obtain ⟨hp1, hp2⟩ := hp
      go_enter Tryz.func11, Tryz.ntmps11
      go_wp2_with (first
        | (go_at_call 41; refine (hpr _).mono ?_; rintro e w' ⟨rfl, rfl⟩)
        | (go_at_call 42; refine (hbd _ ?_).mono ?_; exact h; rintro e w' ⟨rfl, rfl⟩))
      go_ret
      refine ⟨rfl, ?_, ((Chg.refl _ _).setCell (.inl (by simp)) _).setCell (.inl (by simp)) _⟩
      have := (Blk.set h 2 (.int .u64 p)).set 3 (.int .u64 now)
      simpa [FdAt] using this
    · rw [if_neg (fun h => h2 h.2)]
      have b1 : 1099511627776 < (now : Int) := by omega
      go_enter Tryz.func11, Tryz.ntmps11
      go_wp2_with (go_at_call 41; refine (hpr _).mono ?_; rintro e w' ⟨rfl, rfl⟩)
      go_ret
      exact ⟨rfl, h, Chg.refl _ _⟩
  · rw [if_neg (fun h => h1 h.1)]
    have h1' : prB p = false := by simpa using h1
    rw [h1'] at hpr
    go_enter Tryz.func11, Tryz.ntmps11
    go_wp2_with (go_at_call 41; refine (hpr _).mono ?_; rintro e w' ⟨rfl, rfl⟩)
    go_ret
    exact ⟨rfl, h, Chg.refl _ _⟩
end Go.Proofs.YtackdgbcmeafhaaGreat

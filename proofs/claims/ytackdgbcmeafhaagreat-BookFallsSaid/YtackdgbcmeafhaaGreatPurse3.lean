/- Package purse: the invariant, what is told, and a purse that isn't there; the law PurseNone's walk. -/
import Derived.Test.YtackdgbcmeafhaaGreatPurse2
import Derived.Test.YtackdgbcmeafhaaGreatBase
import Derived.RegionIn
namespace Go.Proofs.YtackdgbcmeafhaaGreat
open Go.RowKit Go.Maps Go.Shelf
attribute [local go_sem] Oper.semAt_some

theorem PurOk.zero : PurOk ⟨Led.zero, 0, 0, 0⟩ := ⟨LedOk.zero, by decide, by decide, by decide, by decide, by decide, by decide⟩
theorem LedOk.mint0 {L : Led} (h : LedOk L) {k a : Int} (h0 : 0 ≤ k) (h1 : k ≤ 255) (ha : 0 ≤ a) : LedOk (L.mint0 k a) := by
  unfold Led.mint0; split
  · exact h
  · exact h.mint h0 h1 ha
theorem LedOk.burn0 {L : Led} (h : LedOk L) {k a : Int} (h0 : 0 ≤ k) (h1 : k ≤ 255) (ha : 0 ≤ a) : LedOk (L.burn0 k a) := by
  unfold Led.burn0; split
  · exact h
  · exact h.burn h0 h1 ha
theorem mint0_tot {L : Led} {k a : Int} (h1 : a ≤ 4611686018427387904) (h2 : L.tot + a ≤ 4611686018427387904) : (L.mint0 k a).tot = L.tot + a := by
  unfold Led.mint0 Led.mint
  by_cases h : a = 0
  · simp [h]
  · rw [if_neg h, if_neg (by omega), if_pos h2]
theorem burn0_tot {L : Led} {k a : Int} (h1 : a ≤ 4611686018427387904) (h2 : a ≤ L.m k) : (L.burn0 k a).tot = L.tot - a := by
  unfold Led.burn0 Led.burn
  by_cases h : a = 0
  · simp [h]
  · rw [if_neg h, if_neg (by omega), if_neg (by omega)]
theorem PurOk.dIn {U : Pur} (h : PurOk U) {k a : Int} (h0 : 0 ≤ k) (h1 : k ≤ 255) (ha : 0 ≤ a) : PurOk (U.dIn k a).2 := by
  have := h.both; have := h.h0; have := h.i0; have := h.o0; have := h.o1
  unfold Pur.dIn; split
  · exact h
  · split
    · exact h
    · split
      · exact h
      · have e := mint0_tot (L := U.L) (k := k) (a := a) (by omega) (by omega)
        exact ⟨h.led.mint0 h0 h1 ha, by simpa using h.h0, by simp; omega, by simp; omega, h.o0, h.o1, by simp only [e]; omega⟩
theorem PurOk.dOut {U : Pur} (h : PurOk U) {k a : Int} (h0 : 0 ≤ k) (h1 : k ≤ 255) (ha : 0 ≤ a) : PurOk (U.dOut k a).2 := by
  have := h.both; have := h.h0; have := h.i0; have := h.o0; have := h.o1
  unfold Pur.dOut; split
  · exact h
  · split
    · exact h
    · split
      · exact h
      · have e := burn0_tot (L := U.L) (k := k) (a := a) (by omega) (by omega)
        exact ⟨h.led.burn0 h0 h1 ha, h.h0, h.i0, h.i1, by simp; omega, by simp; omega, by simp only [e]; omega⟩
theorem PurOk.dHold {U : Pur} (h : PurOk U) {k a : Int} (h0 : 0 ≤ k) (h1 : k ≤ 255) (ha : 0 ≤ a) : PurOk (U.dHold k a).2 := by
  have := h.both; have := h.h0; have := h.i0; have := h.o0; have := h.o1
  unfold Pur.dHold; split
  · exact h
  · split
    · exact h
    · unfold Pur.dHold1; split
      · exact h
      · have e : (U.L.burn k a).2.tot = U.L.tot - a := by
          have := burn0_tot (L := U.L) (k := k) (a := a) (by omega) (by omega)
          rwa [Led.burn0, if_neg (by omega)] at this
        exact ⟨h.led.burn h0 h1 ha, by simp; omega, h.i0, h.i1, h.o0, h.o1, by simp only [e]; omega⟩
theorem PurOk.dFree {U : Pur} (h : PurOk U) {k a : Int} (h0 : 0 ≤ k) (h1 : k ≤ 255) (ha : 0 ≤ a) : PurOk (U.dFree k a).2 := by
  have := h.both; have := h.h0; have := h.i0; have := h.o0; have := h.o1; have := h.i1
  unfold Pur.dFree; split
  · exact h
  · split
    · exact h
    · have e := mint0_tot (L := U.L) (k := k) (a := a) (by omega) (by omega)
      exact ⟨h.led.mint0 h0 h1 ha, by simp; omega, h.i0, h.i1, h.o0, h.o1, by simp only [e]; omega⟩

set_option maxHeartbeats 400000 in
theorem purse_Of (p fp mb : Nat) (U : Pur) (k : Int) (w : World) (h : PurAt w p fp mb U) (hk : (Lit.int .u8 k).wf = true) :
    Calls Tryz.prog 87 #[.pointer (some ⟨p, 0, none⟩), .int .u8 k] w fun e w' => e = .returned (.int .u64 (U.L.m k)) ∧ w = w' := by
  have c0 := h.blk.cell 0 rfl
  have hl := h.led
  go_enter Tryz.func87, Tryz.ntmps87
  go_wp2_with (go_at_call 86; refine (token_Of fp mb _ _ _ hl hk).mono ?_; rintro e w' ⟨rfl, rfl⟩)
  go_ret
  exact ⟨rfl, rfl⟩
set_option maxHeartbeats 400000 in
theorem purse_Held (p fp mb : Nat) (U : Pur) (w : World) (h : PurAt w p fp mb U) :
    Calls Tryz.prog 65 #[.pointer (some ⟨p, 0, none⟩)] w fun e w' => e = .returned (.int .u64 U.held) ∧ w = w' := by
  have c0 := h.blk.cell 1 rfl
  go_enter Tryz.func65, Tryz.ntmps65
  go_wp2
  go_ret
  exact ⟨rfl, rfl⟩
set_option maxHeartbeats 400000 in
theorem purse_Of_nil (k : Int) (w : World) : Calls Tryz.prog 87 #[.pointer none, .int .u8 k] w fun e w' => e = .returned (.int .u64 0) ∧ w = w' := by
  go_enter Tryz.func87, Tryz.ntmps87
  go_wp2
  go_ret
  exact ⟨rfl, rfl⟩
set_option maxHeartbeats 400000 in
theorem purse_Held_nil (w : World) : Calls Tryz.prog 65 #[.pointer none] w fun e w' => e = .returned (.int .u64 0) ∧ w = w' := by
  go_enter Tryz.func65, Tryz.ntmps65
  go_wp2
  go_ret
  exact ⟨rfl, rfl⟩
set_option maxHeartbeats 400000 in
theorem purse_Paid_nil (w : World) : Calls Tryz.prog 83 #[.pointer none] w fun e w' => e = .returned (.tuple #[.int .u64 0, .int .u64 0]) ∧ w = w' := by
  go_enter Tryz.func83, Tryz.ntmps83
  go_wp2
  go_ret2
  exact ⟨rfl, rfl⟩
set_option maxHeartbeats 400000 in
theorem purse_Copy_nil (w : World) : Calls Tryz.prog 94 #[.pointer none] w fun e w' => e = .returned (.pointer none) ∧ w = w' := by
  go_enter Tryz.func94, Tryz.ntmps94
  go_wp2
  go_ret
  exact ⟨rfl, rfl⟩
/-- In, Out, Hold, Free of a purse that isn't there -/
theorem purse_ops_nil (k a : Int) (w : World) :
    (Calls Tryz.prog 14 #[.pointer none, .int .u8 k, .int .u64 a] w fun e w' => e = .returned (.int .i64 1) ∧ Chg [] w w') ∧
    (Calls Tryz.prog 69 #[.pointer none, .int .u8 k, .int .u64 a] w fun e w' => e = .returned (.int .i64 1) ∧ Chg [] w w') ∧
    (Calls Tryz.prog 52 #[.pointer none, .int .u8 k, .int .u64 a] w fun e w' => e = .returned (.int .i64 1) ∧ Chg [] w w') ∧
    (Calls Tryz.prog 118 #[.pointer none, .int .u8 k, .int .u64 a] w fun e w' => e = .returned (.int .i64 1) ∧ Chg [] w w') := by
  refine ⟨?_, ?_, ?_, ?_⟩
  · go_enter Tryz.func14, Tryz.ntmps14
    go_wp2
    go_ret
    exact ⟨rfl, (((Chg.refl [] w).alloc _).alloc _).alloc _⟩
  · go_enter Tryz.func69, Tryz.ntmps69
    go_wp2
    go_ret
    exact ⟨rfl, (((Chg.refl [] w).alloc _).alloc _).alloc _⟩
  · go_enter Tryz.func52, Tryz.ntmps52
    go_wp2
    go_ret
    exact ⟨rfl, (((Chg.refl [] w).alloc _).alloc _).alloc _⟩
  · go_enter Tryz.func118, Tryz.ntmps118
    go_wp2
    go_ret
    exact ⟨rfl, (((Chg.refl [] w).alloc _).alloc _).alloc _⟩
end Go.Proofs.YtackdgbcmeafhaaGreat

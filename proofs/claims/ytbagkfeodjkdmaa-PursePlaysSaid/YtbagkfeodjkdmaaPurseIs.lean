/- pontagelaw16: do of any kind; Paid, All of a purse that is there. -/
import Derived.Test.YtbagkfeodjkdmaaPurseDo2
namespace Go.Proofs.Ytbagkfeodjkdmaa
open Go.RowKit Go.Maps Go.Shelf

def Pur.act (U : Pur) (kind k a : Int) : Pur := if kind = 0 then (U.dIn k a).2 else if kind = 1 then (U.dOut k a).2 else if kind = 2 then (U.dHold k a).2 else (U.dFree k a).2

theorem law16_do (p fp mb q : Nat) (U : Pur) (kind k a : Int) (w : World) (h : St16 w p fp mb q U) (hk : (Lit.int .u8 k).wf = true) (ha : (Lit.int .u64 a).wf = true) :
    Calls Try.prog 35 #[.pointer (some ⟨p, 0, none⟩), .pointer (some ⟨q, 0, none⟩), .agg #[.int .i64 kind, .int .u8 k, .int .u64 a]] w fun e w' => e = .returned (.bool true) ∧ St16 w' p fp mb q (U.act kind k a) ∧ Chg [p, fp, mb, q] w w' := by
  have hb := wf_u8.1 hk
  obtain ⟨n, rfl⟩ : ∃ n : Nat, k = n := ⟨k.toNat, by omega⟩
  unfold Pur.act
  by_cases h0 : kind = 0
  · subst h0; exact law16_do0 p fp mb q U n a w h (by omega) ha
  · by_cases h1 : kind = 1
    · subst h1; exact law16_do1 p fp mb q U n a w h (by omega) ha
    · by_cases h2 : kind = 2
      · subst h2; exact law16_do2 p fp mb q U n a w h (by omega) ha
      · rw [if_neg h0, if_neg h1, if_neg h2]
        exact law16_do3 p fp mb q U kind n a (by simpa using h0) (by simpa using h1) (by simpa using h2) w h (by omega) ha

set_option maxHeartbeats 400000 in
theorem purse_Paid (p fp mb : Nat) (U : Pur) (w : World) (h : PurAt w p fp mb U) :
    Calls Try.prog 40 #[.pointer (some ⟨p, 0, none⟩)] w fun e w' => e = .returned (.tuple #[.int .u64 U.inn, .int .u64 U.out]) ∧ ∃ n, w' = w.drewN n := by
  have c2 := h.blk.cell 2 (v := .int .u64 U.inn) rfl
  have c3 := h.blk.cell 3 (v := .int .u64 U.out) rfl
  go_enter Try.func40, Try.ntmps40
  go_wp2
  first
    | (go_quiet (fail); go_wp2; go_ret2; exact ⟨rfl, _, rfl⟩)
    | (go_ret2; exact ⟨rfl, 0, rfl⟩)

set_option maxHeartbeats 400000 in
theorem purse_All (p fp mb : Nat) (U : Pur) (w : World) (h : PurAt w p fp mb U) :
    Calls Try.prog 42 #[.pointer (some ⟨p, 0, none⟩)] w fun e w' => e = .returned (.func (.func 88) #[] #[.pointer (some ⟨w.heap.size, 0, none⟩)]) ∧ w' = w.alloc (.cells #[.pointer (some ⟨fp, 0, none⟩)] 38) := by
  have c0 := h.blk.cell 0 (v := .pointer (some ⟨fp, 0, none⟩)) rfl
  go_enter Try.func42, Try.ntmps42
  go_wp2_with (go_at_call 32; refine (token_All _ _).mono ?_; rintro e w' ⟨rfl, rfl⟩)
  go_ret
  exact ⟨rfl, rfl⟩
end Go.Proofs.Ytbagkfeodjkdmaa

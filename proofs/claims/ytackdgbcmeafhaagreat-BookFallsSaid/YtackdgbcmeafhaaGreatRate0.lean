/- Package rate: Right, threshold, right, both, Enough. -/
import Derived.Test.YtackdgbcmeafhaaGreatToken2
namespace Go.Proofs.YtackdgbcmeafhaaGreat
open Go.RowKit Go.Maps Go.Shelf

def prB (p : Int) : Bool := decide (1 ≤ p) && decide (p ≤ 1099511627776)
def thB (t : Int) : Bool := decide (1 ≤ t) && decide (t ≤ 1000000)
set_option maxHeartbeats 400000 in
theorem Price_Right (p : Int) (w : World) : Calls Tryz.prog 41 #[.int .u64 p] w fun e w' => e = .returned (.bool (prB p)) ∧ w = w' := by
  unfold prB
  by_cases h : 1 ≤ p
  · have hd : decide (1 ≤ p) = true := by simpa using h
    go_enter Tryz.func41, Tryz.ntmps41
    go_wp2
    go_ret
    exact ⟨by simp [hd], rfl⟩
  · have hd : decide (1 ≤ p) = false := by simpa using h
    go_enter Tryz.func41, Tryz.ntmps41
    go_wp2
    go_ret
    exact ⟨by simp [hd], rfl⟩
set_option maxHeartbeats 400000 in
theorem rate_threshold (p : Int) (w : World) : Calls Tryz.prog 98 #[.int .u64 p] w fun e w' => e = .returned (.bool (thB p)) ∧ w = w' := by
  unfold thB
  by_cases h : 1 ≤ p
  · have hd : decide (1 ≤ p) = true := by simpa using h
    go_enter Tryz.func98, Tryz.ntmps98
    go_wp2
    go_ret
    exact ⟨by simp [hd], rfl⟩
  · have hd : decide (1 ≤ p) = false := by simpa using h
    go_enter Tryz.func98, Tryz.ntmps98
    go_wp2
    go_ret
    exact ⟨by simp [hd], rfl⟩
def rightB (p t : Int) (l : List Int) : Bool := l.all (fun a => decide (a ≤ 4611686018427387904)) && (prB p && thB t)
set_option maxRecDepth 100000 in
set_option maxHeartbeats 2000000 in
theorem rate_right (p t : Int) (b : Nat) (l : List Int) (T : TypeId) (w : World) (hb : Blk w b (l.map (Value.int .u64)).toArray T) (hl : l.length ≤ 1000) :
    Calls Tryz.prog 43 #[.int .u64 p, .int .u64 t, .slice (some ⟨b, 0, none⟩) l.length l.length] w fun e w' => e = .returned (.bool (rightB p t l)) ∧ w = w' := by
  go_enter Tryz.func43, Tryz.ntmps43
  go_wp2
  go_loopw [11] (fun i wr => ∃ k : Nat, k ≤ l.length ∧ i = .int .i64 k ∧ (l.take k).all (fun a => decide (a ≤ 4611686018427387904)) = true ∧ wr = w) (fun i _ => l.length - (intOf i).toNat)
  case atStart => exact ⟨0, Nat.zero_le _, rfl, by simp, rfl⟩
  case round =>
    obtain ⟨k, hk, rfl, hall, rfl⟩ := hrel
    by_cases hlt : k < l.length
    · have hc := hb.cell k (v := .int .u64 l[k]) (by simp [hlt])
      have hal2 : (l.take (k + 1)).all (fun a => decide (a ≤ 4611686018427387904)) = decide (l[k] ≤ 4611686018427387904) := by
        rw [List.take_succ_eq_append_getElem hlt, List.all_append, hall]; simp
      by_cases hm : l[k] ≤ 4611686018427387904
      · have hd : decide (l[k] ≤ 4611686018427387904) = true := by simpa using hm
        rw [hd] at hal2
        go_wp2_with (go_at_call 51; refine (Amount_Right _ _).mono ?_; rintro e w' ⟨rfl, rfl⟩)
        go_roundw
        case rel => exact ⟨k + 1, by omega, by simp, hal2, by first | rfl | trivial⟩
        case measure => simp [intOf]; omega
      · have hd : decide (l[k] ≤ 4611686018427387904) = false := by simpa using hm
        have hr : rightB p t l = false := by
          unfold rightB
          have : l.all (fun a => decide (a ≤ 4611686018427387904)) = false := by
            rw [List.all_eq_false]; exact ⟨l[k], List.getElem_mem hlt, by simpa using hm⟩
          rw [this]; rfl
        go_wp2_with (go_at_call 51; refine (Amount_Right _ _).mono ?_; rintro e w' ⟨rfl, rfl⟩)
        go_ret
        exact ⟨by rw [hr]; rfl, rfl⟩
    · obtain rfl : k = l.length := by omega
      rw [List.take_length] at hall
      have hr : rightB p t l = (prB p && thB t) := by unfold rightB; rw [hall]; rfl
      cases hp : prB p
      all_goals rw [hp] at hr
      · go_wp2_with (go_at_call 41; refine (Price_Right p _).mono ?_; rintro e w' ⟨rfl, rfl⟩; rw [hp])
        go_ret
        exact ⟨by rw [hr]; rfl, rfl⟩
      · go_wp2_with (first
          | (go_at_call 41; refine (Price_Right p _).mono ?_; rintro e w' ⟨rfl, rfl⟩; rw [hp])
          | (go_at_call 98; refine (rate_threshold t _).mono ?_; rintro e w' ⟨rfl, rfl⟩))
        go_ret
        exact ⟨by rw [hr]; rfl, rfl⟩
end Go.Proofs.YtackdgbcmeafhaaGreat

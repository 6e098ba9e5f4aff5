/- Package token: the ledger's functions, each by a contract. -/
import Derived.Test.YtackdgbcmeafhaaGreatLib
namespace Go.Proofs.YtackdgbcmeafhaaGreat
open Go.RowKit Go.Maps

theorem zAmount (w : World) : (zeroValue 23).run Tryz.prog w = .ok (.int .u64 0) w := by kernel_rfl

set_option maxHeartbeats 400000 in
theorem Amount_Right (a : Int) (w : World) :
    Calls Tryz.prog 51 #[.int .u64 a] w fun e w' => e = .returned (.bool (decide (a ≤ 4611686018427387904))) ∧ w = w' := by
  go_enter Tryz.func51, Tryz.ntmps51
  go_wp2
  go_ret
  exact ⟨rfl, rfl⟩

/-- the sum, and an error -/
def addA (a b : Int) : Int × Int :=
  if a ≤ 4611686018427387904 ∧ b ≤ 4611686018427387904 then (if a + b ≤ 4611686018427387904 then (a + b, 0) else (0, 4)) else (0, 1)
def subA (a b : Int) : Int × Int :=
  if a ≤ 4611686018427387904 ∧ b ≤ 4611686018427387904 then (if a < b then (0, 16) else (a - b, 0)) else (0, 1)

set_option maxHeartbeats 400000 in
theorem Amount_Add (a b : Int) (w : World) (ha : 0 ≤ a) (hb : 0 ≤ b) :
    Calls Tryz.prog 46 #[.int .u64 a, .int .u64 b] w fun e w' => e = .returned (.tuple #[.int .u64 (addA a b).1, .int .i64 (addA a b).2]) ∧ w = w' := by
  by_cases h1 : a ≤ 4611686018427387904 <;> by_cases h2 : b ≤ 4611686018427387904 <;> by_cases h3 : a + b ≤ 4611686018427387904 <;>
    (simp only [addA, h1, h2, h3, and_true, true_and, and_false, false_and, and_self, if_true, if_false]
     go_enter Tryz.func46, Tryz.ntmps46
     go_wp2
     go_ret2
     exact ⟨rfl, rfl⟩)

set_option maxHeartbeats 400000 in
theorem Amount_Sub (a b : Int) (w : World) (ha : 0 ≤ a) (hb : 0 ≤ b) :
    Calls Tryz.prog 105 #[.int .u64 a, .int .u64 b] w fun e w' => e = .returned (.tuple #[.int .u64 (subA a b).1, .int .i64 (subA a b).2]) ∧ w = w' := by
  by_cases h1 : a ≤ 4611686018427387904 <;> by_cases h2 : b ≤ 4611686018427387904 <;> by_cases h3 : a < b <;>
    (simp only [subA, h1, h2, h3, and_true, true_and, and_false, false_and, and_self, if_true, if_false]
     go_enter Tryz.func105, Tryz.ntmps105
     go_wp2
     go_ret2
     exact ⟨rfl, rfl⟩)

/-- may it be done with so many? -/
def chkA (p : Option Addr) (a : Int) : Int := if p = none ∨ a = 0 ∨ ¬ a ≤ 4611686018427387904 then 1 else 0

set_option maxHeartbeats 400000 in
theorem token_check (p : Option Addr) (a : Int) (w : World) :
    Calls Tryz.prog 100 #[.pointer p, .int .u64 a] w fun e w' => e = .returned (.int .i64 (chkA p a)) ∧ w = w' := by
  cases p with
  | none =>
    go_enter Tryz.func100, Tryz.ntmps100
    go_wp2
    go_ret
    exact ⟨by simp [chkA], rfl⟩
  | some p =>
    by_cases h1 : a = 0
    · subst h1
      go_enter Tryz.func100, Tryz.ntmps100
      go_wp2
      go_ret
      exact ⟨by simp [chkA], rfl⟩
    · by_cases h2 : a ≤ 4611686018427387904 <;>
        (simp only [chkA, h1, h2, reduceCtorEq, not_true, not_false_iff, or_true, or_false, false_or, if_true, if_false]
         have hb : (a == 0) = false := by simpa using h1
         go_enter Tryz.func100, Tryz.ntmps100
         go_wp2
         go_ret
         exact ⟨rfl, rfl⟩)

/-- the sum of what the first n have -/
def sumM (m : Int → Int) : Nat → Int
  | 0 => 0
  | n + 1 => sumM m n + m n
def updM (m : Int → Int) (k a : Int) : Int → Int := fun y => if y = k then a else m y
theorem sumM_upd (m : Int → Int) (k a : Int) : ∀ n : Nat, sumM (updM m k a) n = sumM m n + (if 0 ≤ k ∧ k < n then a - m k else 0)
  | 0 => by simp only [sumM]; rw [if_neg (by omega)]; rfl
  | n + 1 => by
    simp only [sumM, sumM_upd m k a n, updM]
    by_cases h : (n : Int) = k
    · subst h; rw [if_neg (by omega), if_pos rfl, if_pos (by omega)]; omega
    · rw [if_neg h]
      by_cases h2 : 0 ≤ k ∧ k < n
      · rw [if_pos h2, if_pos (by omega)]; omega
      · rw [if_neg h2, if_neg (by omega)]; omega
theorem sumM_nonneg (m : Int → Int) (h : ∀ k, 0 ≤ m k) : ∀ n, 0 ≤ sumM m n
  | 0 => by simp [sumM]
  | n + 1 => by have := sumM_nonneg m h n; have := h n; simp only [sumM]; omega
theorem le_sumM (m : Int → Int) (h : ∀ k, 0 ≤ m k) (k : Int) : ∀ n : Nat, 0 ≤ k → k < n → m k ≤ sumM m n
  | 0 => fun h0 h1 => by omega
  | n + 1 => fun h0 h1 => by
    simp only [sumM]
    by_cases e : (n : Int) = k
    · subst e; have := sumM_nonneg m h n; omega
    · have := le_sumM m h k n h0 (by omega); have := h n; omega

/-- what a ledger holds -/
structure Led where
  m : Int → Int
  tot : Int
structure LedOk (L : Led) : Prop where
  nn : ∀ k, 0 ≤ L.m k
  sum : sumM L.m 256 = L.tot
  le : L.tot ≤ 4611686018427387904
theorem LedOk.m_le {L : Led} (h : LedOk L) {k : Int} (h0 : 0 ≤ k) (h1 : k ≤ 255) : L.m k ≤ L.tot := by
  rw [← h.sum]; exact le_sumM L.m h.nn k 256 h0 (by omega)
theorem LedOk.tot_nn {L : Led} (h : LedOk L) : 0 ≤ L.tot := by rw [← h.sum]; exact sumM_nonneg _ h.nn _

def Led.mint (L : Led) (k a : Int) : Int × Led :=
  if a = 0 ∨ ¬ a ≤ 4611686018427387904 then (1, L) else if L.tot + a ≤ 4611686018427387904 then (0, ⟨updM L.m k (L.m k + a), L.tot + a⟩) else (4, L)
def Led.burn (L : Led) (k a : Int) : Int × Led :=
  if a = 0 ∨ ¬ a ≤ 4611686018427387904 then (1, L) else if L.m k < a then (16, L) else (0, ⟨updM L.m k (L.m k - a), L.tot - a⟩)
def Led.move (L : Led) (k j a : Int) : Int × Led :=
  if a = 0 ∨ ¬ a ≤ 4611686018427387904 then (1, L) else if L.m k < a then (16, L) else (0, ⟨updM (updM L.m k (L.m k - a)) j (updM L.m k (L.m k - a) j + a), L.tot⟩)
theorem LedOk.mint {L : Led} (h : LedOk L) {k a : Int} (h0 : 0 ≤ k) (h1 : k ≤ 255) (ha : 0 ≤ a) : LedOk (L.mint k a).2 := by
  unfold Led.mint
  split
  · exact h
  · split
    · refine ⟨fun y => ?_, ?_, by assumption⟩
      · have := h.nn y; have := h.nn k; simp only [updM]; split <;> omega
      · have := h.sum; simp only [sumM_upd, this]; rw [if_pos (by omega)]; omega
    · exact h
theorem LedOk.burn {L : Led} (h : LedOk L) {k a : Int} (h0 : 0 ≤ k) (h1 : k ≤ 255) (ha : 0 ≤ a) : LedOk (L.burn k a).2 := by
  unfold Led.burn
  split
  · exact h
  · split
    · exact h
    · refine ⟨fun y => ?_, ?_, ?_⟩
      · have := h.nn y; have := h.nn k; simp only [updM]; split <;> omega
      · have := h.sum; simp only [sumM_upd, this]; rw [if_pos (by omega)]; omega
      · have := h.le; simp only; omega
theorem LedOk.move {L : Led} (h : LedOk L) {k j a : Int} (h0 : 0 ≤ k) (h1 : k ≤ 255) (h2 : 0 ≤ j) (h3 : j ≤ 255) (ha : 0 ≤ a) : LedOk (L.move k j a).2 := by
  unfold Led.move
  split
  · exact h
  · split
    · exact h
    · refine ⟨fun y => ?_, ?_, ?_⟩
      · have := h.nn y; have := h.nn k; have := h.nn j; simp only [updM]; (repeat' split) <;> omega
      · have := h.sum; simp only [sumM_upd, this]; rw [if_pos (by omega), if_pos (by omega)]; simp only [updM]; omega
      · exact h.le

/-- a ledger at block p, its map at mb. -/
structure LedAt (w : World) (p mb : Nat) (L : Led) : Prop where
  blk : Blk w p #[.map (some mb), .int .u64 L.tot] 151
  ne : p ≠ mb
  map : ∃ cnt, MapV w 45 .u8 mb cnt (fun k => if L.m k = 0 then none else some (.int .u64 (L.m k)))

theorem LedAt.chg {w w' : World} {p mb : Nat} {L : Led} {S : List Nat} (h : LedAt w p mb L) (c : Chg S w w') (hp : p ∉ S) (hm : mb ∉ S) : LedAt w' p mb L :=
  ⟨h.blk.chg c hp, h.ne, h.map.imp fun _ x => x.chg c hm⟩

theorem getD_led (x : Int) : (if x = 0 then none else some (Value.int .u64 x)).getD (.int .u64 0) = .int .u64 x := by
  by_cases h : x = 0 <;> simp [h]

set_option maxHeartbeats 400000 in
/-- set: a party has so many. -/
theorem token_set (p mb : Nat) (L : Led) (k a : Int) (w : World) (h : LedAt w p mb L) (hk : (Lit.int .u8 k).wf = true) :
    Calls Tryz.prog 101 #[.pointer (some ⟨p, 0, none⟩), .int .u8 k, .int .u64 a] w fun e w' => e = .returned (.tuple #[]) ∧ LedAt w' p mb ⟨updM L.m k a, L.tot⟩ ∧ Chg [mb] w w' := by
  obtain ⟨hb, hne, cnt, hm⟩ := h
  have hn := hm.le_u8 Tryz.underlying45
  have c0 := hb.cell 0 (v := .map (some mb)) rfl
  by_cases h1 : a = 0
  · subst h1
    go_enter Tryz.func101, Tryz.ntmps101
    go_wp2_with (first
      | (at_delete; refine wpList_del_v _ rfl _ _ 149 45 rfl 23 .u8 Tryz.underlying45 Tryz.underlying149 mb cnt _ hm rfl k rfl hk ?_; intro w1 hm1 ht1)
      | go_in)
    go_end0
    have c := (Chg.refl [mb] w).turned ht1 (by simp)
    exact ⟨rfl, ⟨hb.chg c (by simpa using hne), hne, _, hm1.congr (fun y _ => by by_cases e : y = k <;> simp [updM, e])⟩, c⟩
  · go_enter Tryz.func101, Tryz.ntmps101
    go_wp2_with (first
      | (at_mapUpdate; refine wpList_upd_v _ rfl _ _ _ 149 rfl 45 23 .u8 Tryz.underlying45 Tryz.underlying149 mb cnt _ hm (by unfold maxLen; omega) rfl k (.int .u64 a) rfl rfl hk ?_; intro w1 hm1 ht1)
      | go_in)
    go_end0
    have c := (Chg.refl [mb] w).turned ht1 (by simp)
    exact ⟨rfl, ⟨hb.chg c (by simpa using hne), hne, _, hm1.congr (fun y _ => by by_cases e : y = k <;> simp [updM, e, h1])⟩, c⟩

theorem chkA_nz {p : Addr} {a : Int} (h : ¬ (a = 0 ∨ ¬ a ≤ 4611686018427387904)) : chkA (some p) a = 0 := by simp [chkA]; omega
theorem chkA_z {p : Addr} {a : Int} (h : a = 0 ∨ ¬ a ≤ 4611686018427387904) : chkA (some p) a = 1 := by simp [chkA]; omega

set_option maxHeartbeats 400000 in
theorem token_Mint (p mb : Nat) (L : Led) (k a : Int) (w : World) (h : LedAt w p mb L) (ok : LedOk L) (hk : (Lit.int .u8 k).wf = true) (ha : 0 ≤ a) :
    Calls Tryz.prog 50 #[.pointer (some ⟨p, 0, none⟩), .int .u8 k, .int .u64 a] w fun e w' => e = .returned (.int .i64 (L.mint k a).1) ∧ LedAt w' p mb (L.mint k a).2 ∧ Chg [p, mb] w w' := by
  have h00 := h
  obtain ⟨hb, hne, cnt, hm⟩ := h
  have c0 := hb.cell 0 (v := .map (some mb)) rfl
  have c1 := hb.cell 1 (v := .int .u64 L.tot) rfl
  have f1 := hb.free 1
  have t0 := ok.tot_nn
  have t1 := ok.le
  have hkk := wf_u8.1 hk
  have m0 := ok.nn k
  have m1 := ok.m_le hkk.1 hkk.2
  unfold Led.mint
  by_cases h1 : a = 0 ∨ ¬ a ≤ 4611686018427387904
  · rw [if_pos h1]
    have e1 := chkA_z (p := ⟨p, 0, none⟩) h1
    go_enter Tryz.func50, Tryz.ntmps50
    go_wp2_with (go_at_call 100; refine (token_check _ _ _).mono ?_; rintro e w' ⟨rfl, rfl⟩)
    go_ret
    exact ⟨rfl, h00, Chg.refl _ _⟩
  · rw [if_neg h1]
    have e1 := chkA_nz (p := ⟨p, 0, none⟩) h1
    have h2 : a ≤ 4611686018427387904 := by omega
    by_cases h3 : L.tot + a ≤ 4611686018427387904
    · rw [if_pos h3]
      have e2 : addA L.tot a = (L.tot + a, 0) := by simp [addA, t1, h2, h3]
      have w1 : LedAt (w.setCell ⟨p, 1, none⟩ (.int .u64 (L.tot + a))) p mb ⟨L.m, L.tot + a⟩ := ⟨hb.set 1 _, hne, cnt, hm.setCell (fun e => hne e.symm) _⟩
      have hm1 := hm.setCell (p := ⟨p, 1, none⟩) (fun e => hne e.symm) (.int .u64 (L.tot + a))
      go_enter Tryz.func50, Tryz.ntmps50
      go_wp2_with (first
        | (go_at_call 100; refine (token_check _ _ _).mono ?_; rintro e w' ⟨rfl, rfl⟩)
        | (go_at_call 46; refine (Amount_Add _ _ _ t0 ha).mono ?_; rintro e w' ⟨rfl, rfl⟩)
        | (at_lookup; refine wpList_look_v _ rfl _ _ 149 rfl 45 23 .u8 Tryz.underlying45 Tryz.underlying149 (.int .u64 0) (zAmount _) mb cnt _ hm1 rfl k rfl hk ?_; rw [getD_led])
        | (go_at_call 101; refine (token_set _ _ _ _ _ _ w1 hk).mono ?_; rintro e w' ⟨rfl, hl, hc⟩))
      go_ret
      exact ⟨rfl, hl, ((Chg.refl [p, mb] w).setCell (by simp) _).trans hc (by simp)⟩
    · rw [if_neg h3]
      have e2 : addA L.tot a = (0, 4) := by simp [addA, t1, h2, h3]
      go_enter Tryz.func50, Tryz.ntmps50
      go_wp2_with (first
        | (go_at_call 100; refine (token_check _ _ _).mono ?_; rintro e w' ⟨rfl, rfl⟩)
        | (go_at_call 46; refine (Amount_Add _ _ _ t0 ha).mono ?_; rintro e w' ⟨rfl, rfl⟩))
      go_ret
      exact ⟨rfl, h00, Chg.refl _ _⟩

set_option maxHeartbeats 400000 in
theorem token_Burn (p mb : Nat) (L : Led) (k a : Int) (w : World) (h : LedAt w p mb L) (ok : LedOk L) (hk : (Lit.int .u8 k).wf = true) (ha : 0 ≤ a) :
    Calls Tryz.prog 58 #[.pointer (some ⟨p, 0, none⟩), .int .u8 k, .int .u64 a] w fun e w' => e = .returned (.int .i64 (L.burn k a).1) ∧ LedAt w' p mb (L.burn k a).2 ∧ Chg [p, mb] w w' := by
  have h00 := h
  obtain ⟨hb, hne, cnt, hm⟩ := h
  have c0 := hb.cell 0 (v := .map (some mb)) rfl
  have c1 := hb.cell 1 (v := .int .u64 L.tot) rfl
  have f1 := hb.free 1
  have t1 := ok.le
  have hkk := wf_u8.1 hk
  have m0 := ok.nn k
  have m1 := ok.m_le hkk.1 hkk.2
  unfold Led.burn
  by_cases h1 : a = 0 ∨ ¬ a ≤ 4611686018427387904
  · rw [if_pos h1]
    have e1 := chkA_z (p := ⟨p, 0, none⟩) h1
    go_enter Tryz.func58, Tryz.ntmps58
    go_wp2_with (go_at_call 100; refine (token_check _ _ _).mono ?_; rintro e w' ⟨rfl, rfl⟩)
    go_ret
    exact ⟨rfl, h00, Chg.refl _ _⟩
  · rw [if_neg h1]
    have e1 := chkA_nz (p := ⟨p, 0, none⟩) h1
    have h2 : a ≤ 4611686018427387904 := by omega
    have h4 : L.m k ≤ 4611686018427387904 := by omega
    by_cases h3 : L.m k < a
    · rw [if_pos h3]
      have e2 : subA (L.m k) a = (0, 16) := by simp [subA, h2, h3, h4]
      go_enter Tryz.func58, Tryz.ntmps58
      go_wp2_with (first
        | (go_at_call 100; refine (token_check _ _ _).mono ?_; rintro e w' ⟨rfl, rfl⟩)
        | (at_lookup; refine wpList_look_v _ rfl _ _ 149 rfl 45 23 .u8 Tryz.underlying45 Tryz.underlying149 (.int .u64 0) (zAmount _) mb cnt _ hm rfl k rfl hk ?_; rw [getD_led])
        | (go_at_call 105; refine (Amount_Sub _ _ _ m0 ha).mono ?_; rintro e w' ⟨rfl, rfl⟩))
      go_ret
      exact ⟨rfl, h00, Chg.refl _ _⟩
    · rw [if_neg h3]
      have e2 : subA (L.m k) a = (L.m k - a, 0) := by simp [subA, h2, h3, h4]
      have w1 : LedAt (w.setCell ⟨p, 1, none⟩ (.int .u64 (L.tot - a))) p mb ⟨L.m, L.tot - a⟩ := ⟨hb.set 1 _, hne, cnt, hm.setCell (fun e => hne e.symm) _⟩
      go_enter Tryz.func58, Tryz.ntmps58
      go_wp2_with (first
        | (go_at_call 100; refine (token_check _ _ _).mono ?_; rintro e w' ⟨rfl, rfl⟩)
        | (at_lookup; refine wpList_look_v _ rfl _ _ 149 rfl 45 23 .u8 Tryz.underlying45 Tryz.underlying149 (.int .u64 0) (zAmount _) mb cnt _ hm rfl k rfl hk ?_; rw [getD_led])
        | (go_at_call 105; refine (Amount_Sub _ _ _ m0 ha).mono ?_; rintro e w' ⟨rfl, rfl⟩)
        | (go_at_call 101; refine (token_set _ _ _ _ _ _ w1 hk).mono ?_; rintro e w' ⟨rfl, hl, hc⟩))
      go_ret
      exact ⟨rfl, hl, ((Chg.refl [p, mb] w).setCell (by simp) _).trans hc (by simp)⟩

set_option maxHeartbeats 400000 in
theorem token_Move (p mb : Nat) (L : Led) (k j a : Int) (w : World) (h : LedAt w p mb L) (ok : LedOk L) (hk : (Lit.int .u8 k).wf = true) (hj : (Lit.int .u8 j).wf = true) (ha : 0 ≤ a) :
    Calls Tryz.prog 70 #[.pointer (some ⟨p, 0, none⟩), .int .u8 k, .int .u8 j, .int .u64 a] w fun e w' => e = .returned (.int .i64 (L.move k j a).1) ∧ LedAt w' p mb (L.move k j a).2 ∧ Chg [p, mb] w w' := by
  have h00 := h
  obtain ⟨hb, hne, cnt, hm⟩ := h
  have c0 := hb.cell 0 (v := .map (some mb)) rfl
  have t1 := ok.le
  have hkk := wf_u8.1 hk
  have hjj := wf_u8.1 hj
  have m0 := ok.nn k
  have m1 := ok.m_le hkk.1 hkk.2
  have m2 := ok.nn j
  have m3 := ok.m_le hjj.1 hjj.2
  unfold Led.move
  by_cases h1 : a = 0 ∨ ¬ a ≤ 4611686018427387904
  · rw [if_pos h1]
    have e1 := chkA_z (p := ⟨p, 0, none⟩) h1
    go_enter Tryz.func70, Tryz.ntmps70
    go_wp2_with (go_at_call 100; refine (token_check _ _ _).mono ?_; rintro e w' ⟨rfl, rfl⟩)
    go_ret
    exact ⟨rfl, h00, Chg.refl _ _⟩
  · rw [if_neg h1]
    have e1 := chkA_nz (p := ⟨p, 0, none⟩) h1
    have h2 : a ≤ 4611686018427387904 := by omega
    have h4 : L.m k ≤ 4611686018427387904 := by omega
    by_cases h3 : L.m k < a
    · rw [if_pos h3]
      have e2 : subA (L.m k) a = (0, 16) := by simp [subA, h2, h3, h4]
      go_enter Tryz.func70, Tryz.ntmps70
      go_wp2_with (first
        | (go_at_call 100; refine (token_check _ _ _).mono ?_; rintro e w' ⟨rfl, rfl⟩)
        | (at_lookup; refine wpList_look_v _ rfl _ _ 149 rfl 45 23 .u8 Tryz.underlying45 Tryz.underlying149 (.int .u64 0) (zAmount _) mb cnt _ hm rfl k rfl hk ?_; rw [getD_led])
        | (go_at_call 105; refine (Amount_Sub _ _ _ m0 ha).mono ?_; rintro e w' ⟨rfl, rfl⟩))
      go_ret
      exact ⟨rfl, h00, Chg.refl _ _⟩
    · rw [if_neg h3]
      have e2 : subA (L.m k) a = (L.m k - a, 0) := by simp [subA, h2, h3, h4]
      have q0 : 0 ≤ updM L.m k (L.m k - a) j := by simp only [updM]; split <;> omega
      have q1 : updM L.m k (L.m k - a) j ≤ 4611686018427387904 := by simp only [updM]; split <;> omega
      go_enter Tryz.func70, Tryz.ntmps70
      go_wp2_with (first
        | (go_at_call 100; refine (token_check _ _ _).mono ?_; rintro e w' ⟨rfl, rfl⟩)
        | (at_lookup; refine wpList_look_v _ rfl _ _ 149 rfl 45 23 .u8 Tryz.underlying45 Tryz.underlying149 (.int .u64 0) (zAmount _) mb cnt _ hm rfl k rfl hk ?_; rw [getD_led])
        | (go_at_call 105; refine (Amount_Sub _ _ _ m0 ha).mono ?_; rintro e w' ⟨rfl, rfl⟩)
        | fail)
      refine (token_set _ _ _ _ _ _ h00 hk).mono ?_
      rintro e w1 ⟨rfl, hl, hc⟩
      clear c0
      have c0 := hl.blk.cell 0 (v := .map (some mb)) rfl
      obtain ⟨cnt1, hm1⟩ := hl.map
      go_wp2_with (first
        | (at_lookup; refine wpList_look_v _ rfl _ _ 149 rfl 45 23 .u8 Tryz.underlying45 Tryz.underlying149 (.int .u64 0) (zAmount _) mb cnt1 _ hm1 rfl j rfl hj ?_; rw [getD_led])
        | (go_at_call 101; refine (token_set _ _ _ _ _ _ hl hj).mono ?_; rintro e w2 ⟨rfl, hl2, hc2⟩))
      go_ret
      exact ⟨rfl, hl2, (hc.trans hc2 (by simp)).mono (by simp)⟩
end Go.Proofs.YtackdgbcmeafhaaGreat

/- pontagelaw15.do: an act on a ledger and on a model. -/
import Derived.Test.YtbagkfeodjkdmaaTokenIs2
namespace Go.Proofs.Ytbagkfeodjkdmaa
open Go.RowKit Go.Maps Go.Shelf

/-- a ledger (p, mb), a model's map (c), a model's total (tb): all say L. -/
structure St15 (w : World) (p mb c tb : Nat) (L : Led) : Prop where
  led : LedAt w p mb L
  ok : LedOk L
  mod : ModAt w c L.m
  tot : Blk w tb #[.int .u64 L.tot] 41
  cp : c ≠ p
  cm : c ≠ mb
  tp : tb ≠ p
  tm : tb ≠ mb
  tc : tb ≠ c
theorem St15.chg {w w' : World} {p mb c tb : Nat} {L : Led} {S : List Nat} (h : St15 w p mb c tb L) (k : Chg S w w') (h1 : p ∉ S) (h2 : mb ∉ S) (h3 : c ∉ S) (h4 : tb ∉ S) : St15 w' p mb c tb L :=
  ⟨h.led.chg k h1 h2, h.ok, h.mod.chg k h3, h.tot.chg k h4, h.cp, h.cm, h.tp, h.tm, h.tc⟩
theorem LedAt.drewN {w : World} {p mb : Nat} {L : Led} (h : LedAt w p mb L) (n : Nat) : LedAt (w.drewN n) p mb L := h.chg ((Chg.refl [] w).drewN n) (by simp) (by simp)
theorem ModAt.upd {w : World} {c : Nat} {m : Int → Int} {key val : Int} {cnt : Nat} {f : Int → Option Value} (hx : ∀ k, (Lit.int .u8 k).wf = true → (f k).getD (.int .u64 0) = .int .u64 (m k))
    (h : MapV w 42 .u8 c cnt (fun y => if y = key then some (.int .u64 val) else f y)) : ModAt w c (updM m key val) :=
  ⟨_, _, h, fun k hk => by by_cases e : k = key <;> simp [updM, e, hx k hk]⟩

/-- the boxed act. -/
def actC (kind A B a : Int) : Array Value := #[.int .i64 kind, .int .u8 A, .int .u8 B, .int .u64 a]

set_option maxRecDepth 100000 in
set_option maxHeartbeats 4000000 in
theorem law15_do0 (p mb c tb : Nat) (L : Led) (A B a : Int) (w : World) (h : St15 w p mb c tb L) (hA : (Lit.int .u8 A).wf = true) (hB : (Lit.int .u8 B).wf = true) (ha : (Lit.int .u64 a).wf = true) :
    Calls Try.prog 23 #[.pointer (some ⟨p, 0, none⟩), .map (some c), .pointer (some ⟨tb, 0, none⟩), .agg (actC 0 A B a)] w fun e w' => e = .returned (.bool true) ∧ St15 w' p mb c tb (L.mint A a).2 ∧ Chg [p, mb, c, tb] w w' := by
  have h00 := h
  have ha' := (wf_u64.1 ha).1
  have hAk := wf_u8.1 hA
  have t0 := h.ok.tot_nn
  have t1 := h.ok.le
  have m0 := h.ok.nn A
  have m1 := h.ok.m_le hAk.1 hAk.2
  have okL := h.ok.mint (k := A) (a := a) hAk.1 hAk.2 ha'
  have hq := Blk.new w (actC 0 A B a) 44
  have hc1 : Chg [] w (w.alloc (.cells (actC 0 A B a) 44)) := (Chg.refl [] w).alloc _
  have h1 := h.chg hc1 (by simp) (by simp) (by simp) (by simp)
  have l1 := h.led.blk.lt
  have l2 : mb < w.heap.size := by obtain ⟨cnt, hm⟩ := h.led.map; exact hm.lt
  have l3 : c < w.heap.size := by obtain ⟨cnt, f, hm, _⟩ := h.mod; exact hm.lt
  have l4 := h.tot.lt
  have q0 := hq.cell 0 (v := .int .i64 0) rfl
  have q1 := hq.cell 1 (v := .int .u8 A) rfl
  have q3 := hq.cell 3 (v := .int .u64 a) rfl
  have hMint := token_Mint p mb L A a _ h1.led h1.ok hA ha'
  have hbad : ¬ (w.heap.size = p ∨ w.heap.size = mb) := by omega
  unfold actC at hq hc1 h1 q0 q1 q3 hMint ⊢
  unfold Led.mint at okL hMint ⊢
  by_cases e1 : a = 0 ∨ ¬ a ≤ 4611686018427387904
  · rw [if_pos e1] at okL hMint ⊢
    have fin : ∀ w2, Chg [p, mb] (w.alloc (.cells #[.int .i64 0, .int .u8 A, .int .u8 B, .int .u64 a] 44)) w2 → LedAt w2 p mb L → St15 w2 p mb c tb L ∧ Chg [p, mb, c, tb] w w2 := fun w2 k hl =>
      ⟨⟨hl, h1.ok, h1.mod.chg k (by simp [h.cp, h.cm]), h1.tot.chg k (by simp [h.tp, h.tm]), h.cp, h.cm, h.tp, h.tm, h.tc⟩, (hc1.mono (by simp)).trans k (by simp)⟩
    by_cases e2 : a = 0
    · subst e2
      go_enter Try.func23, Try.ntmps23
      go_wp2_with (go_at_call 26; refine hMint.mono ?_; rintro e w2 ⟨rfl, hl, hc2⟩; have q1 := (hq.chg hc2 (by simp; omega)).cell 1 (v := .int .u8 A) rfl; have q3 := (hq.chg hc2 (by simp; omega)).cell 3 (v := .int .u64 0) rfl)
      go_quiet (fail)
      go_wp2
      go_ret
      exact ⟨rfl, fin _ (hc2.drewN _) (hl.drewN _)⟩
    · have e3 : 4611686018427387904 < a := by omega
      have e4 : (a == 0) = false := by simpa using e2
      go_enter Try.func23, Try.ntmps23
      go_wp2_with (go_at_call 26; refine hMint.mono ?_; rintro e w2 ⟨rfl, hl, hc2⟩; have q1 := (hq.chg hc2 (by simp; omega)).cell 1 (v := .int .u8 A) rfl; have q3 := (hq.chg hc2 (by simp; omega)).cell 3 (v := .int .u64 a) rfl)
      go_quiet (fail)
      go_wp2
      go_ret
      exact ⟨rfl, fin _ (hc2.drewN _) (hl.drewN _)⟩
  · rw [if_neg e1] at okL hMint ⊢
    have e3 : a ≤ 4611686018427387904 := by omega
    have e4 : (a == 0) = false := by simp; omega
    by_cases e5 : L.tot + a ≤ 4611686018427387904
    · rw [if_pos e5] at okL hMint ⊢
      have e6 : L.tot ≤ 4611686018427387904 - a := by omega
      go_enter Try.func23, Try.ntmps23
      go_wp2_with (go_at_call 26; refine hMint.mono ?_; rintro e w2 ⟨rfl, hl, hc2⟩; have hq2 := hq.chg hc2 (by simp; omega); have hm2 := h1.mod.chg hc2 (by simp [h.cp, h.cm]); have ht2 := h1.tot.chg hc2 (by simp [h.tp, h.tm]); have q1 := hq2.cell 1 (v := .int .u8 A) rfl; have q3 := hq2.cell 3 (v := .int .u64 a) rfl; have x0 := ht2.cell 0 (v := .int .u64 L.tot) rfl)
      go_quiet (fail)
      have k3 := hc2.drewN nq
      have hq3 := hq2.drewN nq
      have hm3 := hm2.chg ((Chg.refl [] w2).drewN nq) (by simp)
      have ht3 := ht2.drewN nq
      have hl3 := hl.drewN nq
      generalize w2.drewN nq = w3 at k3 hq3 hm3 ht3 hl3 ⊢
      clear hl hc2 hm2 ht2 hq2 x0 q1 q3
      have q1 := hq3.cell 1 (v := .int .u8 A) rfl
      have q3 := hq3.cell 3 (v := .int .u64 a) rfl
      have hrun := hm3.look hA
      obtain ⟨cnt, f, hf, hx⟩ := hm3
      have hn := hf.le_u8 Try.underlying42
      go_wp2_with (first
        | (at_mapUpdate; refine wpList_upd_v _ rfl _ _ _ 40 rfl 42 41 .u8 Try.underlying42 Try.underlying40 c cnt f hf (by unfold maxLen; omega) rfl A (.int .u64 (L.m A + a)) rfl rfl hA ?_; intro w4 hm4 hw4)
        | go_in)
      have k4 := (Chg.refl [c] w3).turned hw4 (by simp)
      have hm5 := ModAt.upd hx hm4
      have ht4 := ht3.chg k4 (by simp [h.tc])
      have hq4 := hq3.chg k4 (by simp; omega)
      have hl4 := hl3.chg k4 (by simp [h.cp.symm]) (by simp [h.cm.symm])
      clear q1 q3 hrun
      have q3 := hq4.cell 3 (v := .int .u64 a) rfl
      have x0 := ht4.cell 0 (v := .int .u64 L.tot) rfl
      have xf := ht4.free 0
      go_still_tail 7, (by kernel_rfl)
      go_wp2
      go_ret
      have k5 := ((Chg.refl [tb] w4).setCell (p := ⟨tb, 0, none⟩) (by simp) (.int .u64 (L.tot + a))).drew
      have k := (((hc1.mono (T := [p, mb, c, tb]) (by simp)).trans k3 (by simp)).trans k4 (by simp)).trans k5 (by simp)
      refine ⟨rfl, ⟨hl4.chg k5 (by simp [h.tp.symm]) (by simp [h.tm.symm]), okL, hm5.chg k5 (by simp [h.tc.symm]), ?_, h.cp, h.cm, h.tp, h.tm, h.tc⟩, k⟩
      simpa using (ht4.set 0 (.int .u64 (L.tot + a))).drew
    · rw [if_neg e5] at okL hMint ⊢
      have e6 : 4611686018427387904 - a < L.tot := by omega
      have fin : ∀ w2, Chg [p, mb] (w.alloc (.cells #[.int .i64 0, .int .u8 A, .int .u8 B, .int .u64 a] 44)) w2 → LedAt w2 p mb L → St15 w2 p mb c tb L ∧ Chg [p, mb, c, tb] w w2 := fun w2 k hl =>
        ⟨⟨hl, h1.ok, h1.mod.chg k (by simp [h.cp, h.cm]), h1.tot.chg k (by simp [h.tp, h.tm]), h.cp, h.cm, h.tp, h.tm, h.tc⟩, (hc1.mono (by simp)).trans k (by simp)⟩
      go_enter Try.func23, Try.ntmps23
      go_wp2_with (go_at_call 26; refine hMint.mono ?_; rintro e w2 ⟨rfl, hl, hc2⟩; have q1 := (hq.chg hc2 (by simp; omega)).cell 1 (v := .int .u8 A) rfl; have q3 := (hq.chg hc2 (by simp; omega)).cell 3 (v := .int .u64 a) rfl; have x0 := (h1.tot.chg hc2 (by simp [h.tp, h.tm])).cell 0 (v := .int .u64 L.tot) rfl)
      go_quiet (fail)
      go_wp2
      go_ret
      exact ⟨rfl, fin _ (hc2.drewN _) (hl.drewN _)⟩
set_option maxRecDepth 100000 in
set_option maxHeartbeats 4000000 in
theorem law15_do1 (p mb c tb : Nat) (L : Led) (A B a : Int) (w : World) (h : St15 w p mb c tb L) (hA : (Lit.int .u8 A).wf = true) (hB : (Lit.int .u8 B).wf = true) (ha : (Lit.int .u64 a).wf = true) :
    Calls Try.prog 23 #[.pointer (some ⟨p, 0, none⟩), .map (some c), .pointer (some ⟨tb, 0, none⟩), .agg (actC 1 A B a)] w fun e w' => e = .returned (.bool true) ∧ St15 w' p mb c tb (L.burn A a).2 ∧ Chg [p, mb, c, tb] w w' := by
  have h00 := h
  have ha' := (wf_u64.1 ha).1
  have hAk := wf_u8.1 hA
  have t0 := h.ok.tot_nn
  have t1 := h.ok.le
  have m0 := h.ok.nn A
  have m1 := h.ok.m_le hAk.1 hAk.2
  have okL := h.ok.burn (k := A) (a := a) hAk.1 hAk.2 ha'
  have hq := Blk.new w (actC 1 A B a) 44
  have hc1 : Chg [] w (w.alloc (.cells (actC 1 A B a) 44)) := (Chg.refl [] w).alloc _
  have h1 := h.chg hc1 (by simp) (by simp) (by simp) (by simp)
  have l1 := h.led.blk.lt
  have l2 : mb < w.heap.size := by obtain ⟨cnt, hm⟩ := h.led.map; exact hm.lt
  have l3 : c < w.heap.size := by obtain ⟨cnt, f, hm, _⟩ := h.mod; exact hm.lt
  have l4 := h.tot.lt
  have q0 := hq.cell 0 (v := .int .i64 1) rfl
  have q1 := hq.cell 1 (v := .int .u8 A) rfl
  have q3 := hq.cell 3 (v := .int .u64 a) rfl
  have hCall := token_Burn p mb L A a _ h1.led h1.ok hA ha'
  have hbad : ¬ (w.heap.size = p ∨ w.heap.size = mb) := by omega
  unfold actC at hq hc1 h1 q0 q1 q3 hCall ⊢
  unfold Led.burn at okL hCall ⊢
  by_cases e1 : a = 0 ∨ ¬ a ≤ 4611686018427387904
  · rw [if_pos e1] at okL hCall ⊢
    have fin : ∀ w2, Chg [p, mb] (w.alloc (.cells #[.int .i64 1, .int .u8 A, .int .u8 B, .int .u64 a] 44)) w2 → LedAt w2 p mb L → St15 w2 p mb c tb L ∧ Chg [p, mb, c, tb] w w2 := fun w2 k hl =>
      ⟨⟨hl, h1.ok, h1.mod.chg k (by simp [h.cp, h.cm]), h1.tot.chg k (by simp [h.tp, h.tm]), h.cp, h.cm, h.tp, h.tm, h.tc⟩, (hc1.mono (by simp)).trans k (by simp)⟩
    by_cases e2 : a = 0
    · subst e2
      go_enter Try.func23, Try.ntmps23
      go_wp2_with (go_at_call 27; refine hCall.mono ?_; rintro e w2 ⟨rfl, hl, hc2⟩; have q1 := (hq.chg hc2 (by simp; omega)).cell 1 (v := .int .u8 A) rfl; have q3 := (hq.chg hc2 (by simp; omega)).cell 3 (v := .int .u64 0) rfl)
      go_ret
      exact ⟨rfl, fin _ hc2 hl⟩
    · have e3 : 4611686018427387904 < a := by omega
      have e4 : (a == 0) = false := by simpa using e2
      go_enter Try.func23, Try.ntmps23
      go_wp2_with (go_at_call 27; refine hCall.mono ?_; rintro e w2 ⟨rfl, hl, hc2⟩; have q1 := (hq.chg hc2 (by simp; omega)).cell 1 (v := .int .u8 A) rfl; have q3 := (hq.chg hc2 (by simp; omega)).cell 3 (v := .int .u64 a) rfl)
      go_ret
      exact ⟨rfl, fin _ hc2 hl⟩
  · rw [if_neg e1] at okL hCall ⊢
    have e3 : a ≤ 4611686018427387904 := by omega
    have e4 : (a == 0) = false := by simp; omega
    by_cases e5 : L.m A < a
    · rw [if_pos e5] at okL hCall ⊢
      have fin : ∀ w2, Chg [p, mb] (w.alloc (.cells #[.int .i64 1, .int .u8 A, .int .u8 B, .int .u64 a] 44)) w2 → LedAt w2 p mb L → St15 w2 p mb c tb L ∧ Chg [p, mb, c, tb] w w2 := fun w2 k hl =>
        ⟨⟨hl, h1.ok, h1.mod.chg k (by simp [h.cp, h.cm]), h1.tot.chg k (by simp [h.tp, h.tm]), h.cp, h.cm, h.tp, h.tm, h.tc⟩, (hc1.mono (by simp)).trans k (by simp)⟩
      go_enter Try.func23, Try.ntmps23
      go_wp2_with (go_at_call 27; refine hCall.mono ?_; rintro e w2 ⟨rfl, hl, hc2⟩; have q1 := (hq.chg hc2 (by simp; omega)).cell 1 (v := .int .u8 A) rfl; have q3 := (hq.chg hc2 (by simp; omega)).cell 3 (v := .int .u64 a) rfl; have hrun := (h1.mod.chg hc2 (by simp [h.cp, h.cm])).look hA)
      go_ret
      exact ⟨rfl, fin _ hc2 hl⟩
    · rw [if_neg e5] at okL hCall ⊢
      have e6 : a ≤ L.m A := by omega
      go_enter Try.func23, Try.ntmps23
      go_wp2_with (first
        | (go_at_call 27; refine hCall.mono ?_; rintro e w2 ⟨rfl, hl, hc2⟩; have q1 := (hq.chg hc2 (by simp; omega)).cell 1 (v := .int .u8 A) rfl; have q3 := (hq.chg hc2 (by simp; omega)).cell 3 (v := .int .u64 a) rfl; have hq2 := hq.chg hc2 (by simp; omega); have hm2 := h1.mod.chg hc2 (by simp [h.cp, h.cm]); have ht2 := h1.tot.chg hc2 (by simp [h.tp, h.tm]); have hrun := hm2.look hA; obtain ⟨cnt, f, hf, hx⟩ := hm2; have hn := hf.le_u8 Try.underlying42)
        | (at_mapUpdate; refine wpList_upd_v _ rfl _ _ _ 40 rfl 42 41 .u8 Try.underlying42 Try.underlying40 c cnt f hf (by unfold maxLen; omega) rfl A (.int .u64 (L.m A - a)) rfl rfl hA ?_; intro w4 hm4 hw4)
        | go_in)
      have k4 := (Chg.refl [c] w2).turned hw4 (by simp)
      have hm5 := ModAt.upd hx hm4
      have ht4 := ht2.chg k4 (by simp [h.tc])
      have hq4 := hq2.chg k4 (by simp; omega)
      have hl4 := hl.chg k4 (by simp [h.cp.symm]) (by simp [h.cm.symm])
      clear q1 q3 hrun
      have q3 := hq4.cell 3 (v := .int .u64 a) rfl
      have x0 := ht4.cell 0 (v := .int .u64 L.tot) rfl
      have xf := ht4.free 0
      go_still_tail 7, (by kernel_rfl)
      go_wp2
      go_ret
      have k5 := ((Chg.refl [tb] w4).setCell (p := ⟨tb, 0, none⟩) (by simp) (.int .u64 (L.tot - a))).drew
      have k := (((hc1.mono (T := [p, mb, c, tb]) (by simp)).trans hc2 (by simp)).trans k4 (by simp)).trans k5 (by simp)
      refine ⟨rfl, ⟨hl4.chg k5 (by simp [h.tp.symm]) (by simp [h.tm.symm]), okL, hm5.chg k5 (by simp [h.tc.symm]), ?_, h.cp, h.cm, h.tp, h.tm, h.tc⟩, k⟩
      simpa using (ht4.set 0 (.int .u64 (L.tot - a))).drew

set_option maxRecDepth 100000 in
set_option maxHeartbeats 4000000 in
theorem law15_do2 (p mb c tb : Nat) (L : Led) (kind A B a : Int) (z0 : (kind == 0) = false) (z1 : (kind == 1) = false) (w : World) (h : St15 w p mb c tb L) (hA : (Lit.int .u8 A).wf = true) (hB : (Lit.int .u8 B).wf = true) (ha : (Lit.int .u64 a).wf = true) :
    Calls Try.prog 23 #[.pointer (some ⟨p, 0, none⟩), .map (some c), .pointer (some ⟨tb, 0, none⟩), .agg (actC kind A B a)] w fun e w' => e = .returned (.bool true) ∧ St15 w' p mb c tb (L.move A B a).2 ∧ Chg [p, mb, c, tb] w w' := by
  have h00 := h
  have ha' := (wf_u64.1 ha).1
  have hAk := wf_u8.1 hA
  have hBk := wf_u8.1 hB
  have t0 := h.ok.tot_nn
  have t1 := h.ok.le
  have m0 := h.ok.nn A
  have m1 := h.ok.m_le hAk.1 hAk.2
  have okL := h.ok.move (k := A) (j := B) (a := a) hAk.1 hAk.2 hBk.1 hBk.2 ha'
  have hq := Blk.new w (actC kind A B a) 44
  have hc1 : Chg [] w (w.alloc (.cells (actC kind A B a) 44)) := (Chg.refl [] w).alloc _
  have h1 := h.chg hc1 (by simp) (by simp) (by simp) (by simp)
  have l1 := h.led.blk.lt
  have l2 : mb < w.heap.size := by obtain ⟨cnt, hm⟩ := h.led.map; exact hm.lt
  have l3 : c < w.heap.size := by obtain ⟨cnt, f, hm, _⟩ := h.mod; exact hm.lt
  have l4 := h.tot.lt
  have q0 := hq.cell 0 (v := .int .i64 kind) rfl
  have q1 := hq.cell 1 (v := .int .u8 A) rfl
  have q2 := hq.cell 2 (v := .int .u8 B) rfl
  have q3 := hq.cell 3 (v := .int .u64 a) rfl
  have hCall := token_Move p mb L A B a _ h1.led h1.ok hA hB ha'
  have hbad : ¬ (w.heap.size = p ∨ w.heap.size = mb) := by omega
  unfold actC at hq hc1 h1 q0 q1 q2 q3 hCall ⊢
  unfold Led.move at okL hCall ⊢
  by_cases e1 : a = 0 ∨ ¬ a ≤ 4611686018427387904
  · rw [if_pos e1] at okL hCall ⊢
    have fin : ∀ w2, Chg [p, mb] (w.alloc (.cells #[.int .i64 kind, .int .u8 A, .int .u8 B, .int .u64 a] 44)) w2 → LedAt w2 p mb L → St15 w2 p mb c tb L ∧ Chg [p, mb, c, tb] w w2 := fun w2 k hl =>
      ⟨⟨hl, h1.ok, h1.mod.chg k (by simp [h.cp, h.cm]), h1.tot.chg k (by simp [h.tp, h.tm]), h.cp, h.cm, h.tp, h.tm, h.tc⟩, (hc1.mono (by simp)).trans k (by simp)⟩
    by_cases e2 : a = 0
    · subst e2
      go_enter Try.func23, Try.ntmps23
      go_wp2_with (go_at_call 28; refine hCall.mono ?_; rintro e w2 ⟨rfl, hl, hc2⟩; have q1 := (hq.chg hc2 (by simp; omega)).cell 1 (v := .int .u8 A) rfl; have q2 := (hq.chg hc2 (by simp; omega)).cell 2 (v := .int .u8 B) rfl; have q3 := (hq.chg hc2 (by simp; omega)).cell 3 (v := .int .u64 0) rfl)
      go_ret
      exact ⟨rfl, fin _ hc2 hl⟩
    · have e3 : 4611686018427387904 < a := by omega
      have e4 : (a == 0) = false := by simpa using e2
      go_enter Try.func23, Try.ntmps23
      go_wp2_with (go_at_call 28; refine hCall.mono ?_; rintro e w2 ⟨rfl, hl, hc2⟩; have q1 := (hq.chg hc2 (by simp; omega)).cell 1 (v := .int .u8 A) rfl; have q2 := (hq.chg hc2 (by simp; omega)).cell 2 (v := .int .u8 B) rfl; have q3 := (hq.chg hc2 (by simp; omega)).cell 3 (v := .int .u64 a) rfl)
      go_ret
      exact ⟨rfl, fin _ hc2 hl⟩
  · rw [if_neg e1] at okL hCall ⊢
    have e3 : a ≤ 4611686018427387904 := by omega
    have e4 : (a == 0) = false := by simp; omega
    by_cases e5 : L.m A < a
    · rw [if_pos e5] at okL hCall ⊢
      have fin : ∀ w2, Chg [p, mb] (w.alloc (.cells #[.int .i64 kind, .int .u8 A, .int .u8 B, .int .u64 a] 44)) w2 → LedAt w2 p mb L → St15 w2 p mb c tb L ∧ Chg [p, mb, c, tb] w w2 := fun w2 k hl =>
        ⟨⟨hl, h1.ok, h1.mod.chg k (by simp [h.cp, h.cm]), h1.tot.chg k (by simp [h.tp, h.tm]), h.cp, h.cm, h.tp, h.tm, h.tc⟩, (hc1.mono (by simp)).trans k (by simp)⟩
      go_enter Try.func23, Try.ntmps23
      go_wp2_with (go_at_call 28; refine hCall.mono ?_; rintro e w2 ⟨rfl, hl, hc2⟩; have q1 := (hq.chg hc2 (by simp; omega)).cell 1 (v := .int .u8 A) rfl; have q2 := (hq.chg hc2 (by simp; omega)).cell 2 (v := .int .u8 B) rfl; have q3 := (hq.chg hc2 (by simp; omega)).cell 3 (v := .int .u64 a) rfl; have hrun := (h1.mod.chg hc2 (by simp [h.cp, h.cm])).look hA)
      go_ret
      exact ⟨rfl, fin _ hc2 hl⟩
    · rw [if_neg e5] at okL hCall ⊢
      have e6 : a ≤ L.m A := by omega
      have e7 := okL.m_le (k := B) hBk.1 hBk.2
      have e8 := okL.nn B
      have e9 : updM L.m A (L.m A - a) B + a ≤ 4611686018427387904 := by have := okL.le; simp [updM] at e7 ⊢; simp only [] at this; omega
      have e10 : 0 ≤ updM L.m A (L.m A - a) B := by have := h.ok.nn B; unfold updM; split <;> omega
      go_enter Try.func23, Try.ntmps23
      go_wp2_with (first
        | (go_at_call 28; refine hCall.mono ?_; rintro e w2 ⟨rfl, hl, hc2⟩; have q1 := (hq.chg hc2 (by simp; omega)).cell 1 (v := .int .u8 A) rfl; have q2 := (hq.chg hc2 (by simp; omega)).cell 2 (v := .int .u8 B) rfl; have q3 := (hq.chg hc2 (by simp; omega)).cell 3 (v := .int .u64 a) rfl; have hq2 := hq.chg hc2 (by simp; omega); have hm2 := h1.mod.chg hc2 (by simp [h.cp, h.cm]); have ht2 := h1.tot.chg hc2 (by simp [h.tp, h.tm]); have hrun := hm2.look hA; obtain ⟨cnt, f, hf, hx⟩ := hm2; have hn := hf.le_u8 Try.underlying42)
        | (at_mapUpdate; refine wpList_upd_v _ rfl _ _ _ 40 rfl 42 41 .u8 Try.underlying42 Try.underlying40 c cnt f hf (by unfold maxLen; omega) rfl A (.int .u64 (L.m A - a)) rfl rfl hA ?_; intro w4 hm4 hw4; have k4 := (Chg.refl [c] w2).turned hw4 (by simp); have q2 := (hq2.chg k4 (by simp; omega)).cell 2 (v := .int .u8 B) rfl; have q3 := (hq2.chg k4 (by simp; omega)).cell 3 (v := .int .u64 a) rfl; have hm5 := ModAt.upd hx hm4; have hrun2 := hm5.look hB; obtain ⟨cnt2, f2, hf2, hx2⟩ := hm5; have hn2 := hf2.le_u8 Try.underlying42)
        | (at_mapUpdate; refine wpList_upd_v _ rfl _ _ _ 40 rfl 42 41 .u8 Try.underlying42 Try.underlying40 c cnt2 f2 hf2 (by unfold maxLen; omega) rfl B (.int .u64 (updM L.m A (L.m A - a) B + a)) rfl rfl hB ?_; intro w5 hm6 hw5)
        | go_in)
      go_ret
      have k5 := (Chg.refl [c] w4).turned hw5 (by simp)
      have k6 := k4.trans k5 (by simp)
      have hm7 := ModAt.upd hx2 hm6
      have k := (((hc1.mono (T := [p, mb, c, tb]) (by simp)).trans hc2 (by simp)).trans k6 (by simp))
      exact ⟨rfl, ⟨hl.chg k6 (by simp [h.cp.symm]) (by simp [h.cm.symm]), okL, hm7, ht2.chg k6 (by simp [h.tc]), h.cp, h.cm, h.tp, h.tm, h.tc⟩, k⟩
end Go.Proofs.Ytbagkfeodjkdmaa

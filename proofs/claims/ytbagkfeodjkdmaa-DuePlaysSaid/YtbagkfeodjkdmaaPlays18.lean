/- DuePlays: the walk. -/
import Derived.Test.YtbagkfeodjkdmaaLate18
import Derived.Deep.RegionHeld3
namespace Go.Proofs.Ytbagkfeodjkdmaa
open Go.RowKit Go.Maps Go.Shelf Go.Deep

/-- a slice of n acts. -/
def Acts18 (w : World) (v : Value) (n : Nat) : Prop := ∃ V, RowsAt w v n 4 V ∧ ∀ i, i < n → ∃ (kind I A : Int) (x : ByteArray), V i 0 = .int .i64 kind ∧ V i 1 = .int .u64 I ∧ V i 2 = .int .u64 A ∧ V i 3 = .string x ∧ (Lit.int .u64 I).wf = true ∧ (Lit.int .u64 A).wf = true
theorem Acts18.chg {w w' : World} {v : Value} {n : Nat} (h : Acts18 w v n) (c : Chg [] w w') : Acts18 w' v n := by obtain ⟨V, h, k⟩ := h; exact ⟨V, h.chg c, k⟩
theorem Acts18.len {w : World} {v : Value} {n : Nat} (h : Acts18 w v n) : ∃ a cap, v = .slice a n cap := by obtain ⟨V, ⟨a, cap, e, _⟩, _⟩ := h; exact ⟨a, cap, e⟩
theorem Acts18.at {w : World} {a : Option Addr} {n cap : Nat} (h : Acts18 w (.slice a n cap) n) {i : Nat} (hi : i < n) : ∃ b off, a = some ⟨b, off, none⟩ ∧ b < w.heap.size ∧ ∃ (kind I A : Int) (x : ByteArray), (Lit.int .u64 I).wf = true ∧ (Lit.int .u64 A).wf = true ∧
    w.cell? ⟨b, off + i * 4, none⟩ = some (.int .i64 kind) ∧ w.cell? ⟨b, off + i * 4 + 1, none⟩ = some (.int .u64 I) ∧ w.cell? ⟨b, off + i * 4 + 2, none⟩ = some (.int .u64 A) ∧ w.cell? ⟨b, off + i * 4 + 3, none⟩ = some (.string x) := by
  obtain ⟨V, ⟨a', cap', e, hc⟩, hk⟩ := h
  cases e
  obtain ⟨b, off, rfl, hb, hc⟩ := hc i hi
  obtain ⟨kind, I, A, x, e0, e1, e2, e3, w1, w2⟩ := hk i hi
  refine ⟨b, off, rfl, hb, kind, I, A, x, w1, w2, ?_, ?_, ?_, ?_⟩
  · rw [← e0]; exact hc 0 (by omega)
  · rw [← e1]; exact hc 1 (by omega)
  · rw [← e2]; exact hc 2 (by omega)
  · rw [← e3]; exact hc 3 (by omega)

theorem TabOk.drop {T : Tab} (h : TabOk T) (k : Int) : TabOk (T.drop k).2 := by
  have := h.cm
  unfold Tab.drop
  split
  · refine ⟨h.m0, h.m1, by simp only; omega, h.l0, h.l1, fun y x hy => ?_, fun y x hy => ?_⟩
    · simp only at hy; split at hy
      · cases hy
      · exact h.key y x hy
    · simp only at hy; split at hy
      · cases hy
      · exact h.due y x hy
  · exact h
theorem TabOk.set {T : Tab} (h : TabOk T) (k : Int) (z : ByteArray) : TabOk (T.set k z).2 := by
  unfold Tab.set
  split
  · rename_i hs
    obtain ⟨y0, hy0⟩ := Option.isSome_iff_exists.1 hs
    refine ⟨h.m0, h.m1, h.cm, h.l0, h.l1, fun y x hy => ?_, fun y x hy => ?_⟩
    · simp only at hy; split at hy
      · rename_i e; subst e; exact h.key y y0 hy0
      · exact h.key y x hy
    · simp only at hy; split at hy
      · cases hy
        simp only [Tab.dueOf, hy0, Option.getD_some]
        exact h.due k y0 hy0
      · exact h.due y x hy
  · exact h

theorem late_wf {T : Tab} (h : TabOk T) {x now : Int} (e : T.late x now = true) : (Lit.int .u64 x).wf = true := by
  unfold Tab.late at e
  cases hf : T.f x with
  | none => rw [hf] at e; cases e
  | some y => have h1 := h.key x y hf; have h2 := h.l1; exact wf_u64.2 (by omega)

/-- the search by number: of the first k. -/
def Find (mm : List Thing) (id : Int) (k : Nat) (a : Int) : Prop :=
  (a = -1 ∧ ∀ u ∈ mm.take k, u.id ≠ id) ∨ ∃ (j : Nat) (h : j < mm.length), a = j ∧ mm[j].id = id
theorem Find.start (mm : List Thing) (id : Int) : Find mm id 0 (-1) := .inl ⟨rfl, by simp⟩
theorem Find.hit {mm : List Thing} {id : Int} {k : Nat} (hk : k < mm.length) (e : mm[k].id = id) : Find mm id (k + 1) k := .inr ⟨k, hk, rfl, e⟩
theorem Find.miss {mm : List Thing} {id : Int} {k : Nat} {a : Int} (h : Find mm id k a) (hk : k < mm.length) (e : ¬ mm[k].id = id) : Find mm id (k + 1) a := by
  rcases h with ⟨rfl, h⟩ | h
  · refine .inl ⟨rfl, fun u hu => ?_⟩
    rcases mem_take_succ hk hu with hu | rfl
    · exact h u hu
    · exact e
  · exact .inr h
theorem Find.done {mm : List Thing} {id : Int} {a : Int} (h : Find mm id mm.length a) {T : Tab} (hm : TabM T mm) : (a = -1 ∧ T.f id = none) ∨ ∃ (j : Nat) (h : j < mm.length), a = j ∧ mm[j].id = id := by
  rcases h with ⟨rfl, h⟩ | h
  · refine .inl ⟨rfl, ?_⟩
    rw [hm.f, lookT_none]
    rw [List.take_length] at h
    exact h
  · exact .inr h
theorem mid_split {mm : List Thing} {j : Nat} (hj : j < mm.length) : mm = mm.take j ++ mm[j] :: mm.drop (j + 1) := by rw [← List.drop_eq_getElem_cons hj, List.take_append_drop]

/-- the state between two acts. -/
structure S18 (s : Nat) (w : World) (p mb : Nat) (T : Tab) (v : Value) (mm : List Thing) (most : Int) : Prop where
  tab : TabAt w p mb T
  ok : TabOk T
  mod : TabM T mm
  th : Th s w v mm
  mst : T.most = most
  hp : p < s
  hmb : mb < s
theorem S18.chg {s : Nat} {w w' : World} {p mb : Nat} {T : Tab} {v : Value} {mm : List Thing} {most : Int} (h : S18 s w p mb T v mm most) (c : Chg [] w w') : S18 s w' p mb T v mm most :=
  ⟨h.tab.same c, h.ok, h.mod, h.th.chg c (by simp), h.mst, h.hp, h.hmb⟩
theorem S18.len {s : Nat} {w : World} {p mb : Nat} {T : Tab} {v : Value} {mm : List Thing} {most : Int} (h : S18 s w p mb T v mm most) : mm.length ≤ 256 := by
  have := h.mod.cnt; have := h.ok.cm; have := h.ok.m1; omega
theorem S18.th_ne {s : Nat} {w : World} {p mb : Nat} {T : Tab} {v : Value} {mm : List Thing} {most : Int} (h : S18 s w p mb T v mm most) : v.ownBlock ≠ some p ∧ v.ownBlock ≠ some mb := by
  have h1 := h.hp; have h2 := h.hmb
  exact ⟨fun e => by have := (h.th.low e).1; omega, fun e => by have := (h.th.low e).1; omega⟩

theorem TabAt.below {s : Nat} {w w' : World} {p mb : Nat} {T : Tab} (h : TabAt w p mb T) (b : Below s w w') (hp : p < s) (hm : mb < s) : TabAt w' p mb T := by
  have hb := h.blk
  obtain ⟨D, ⟨es, clock, h1, r⟩, k⟩ := h.map
  exact ⟨(b.block p hp).trans hb, h.ne, ⟨D, ⟨es, clock, (b.block mb hm).trans h1, r⟩, k⟩⟩
theorem Chg.then_below {S : List Nat} {a b c : World} (h : Chg S a b) (k : Below a.heap.size b c) : Chg S a c :=
  ⟨k.os.trans h.os, k.tape.trans h.tape, k.output.trans h.output, Nat.le_trans h.size k.size, fun i hi hn => (k.block i hi).trans (h.block i hi hn)⟩
theorem th_one (W : World) (t : Thing) (ty : TypeId) : ThR (W.alloc (.cells #[.int .u64 t.id, .int .u64 t.due, .string t.x] ty)) (.slice (some ⟨W.heap.size, 0, none⟩) 1 1) [t] := by
  refine .inr ⟨W.heap.size, 0, 1, rfl, by simp, fun j u hu => (Blk.new W _ ty).cell (0 + j) ?_⟩
  match j, hu with
  | 0, hu => simpa [flatT, cellsT] using hu
  | 1, hu => simpa [flatT, cellsT] using hu
  | 2, hu => simpa [flatT, cellsT] using hu
  | k + 3, hu => simp [flatT, cellsT] at hu
theorem flatT_set : ∀ (m : List Thing) (j : Nat) (h : j < m.length) (z : ByteArray), (flatT m).set (j * 3 + 2) (.string z) = flatT (m.take j ++ ⟨m[j].id, m[j].due, z⟩ :: m.drop (j + 1))
  | [], j, h, _ => by cases h
  | t :: m, 0, h, z => by simp [flatT, cellsT]
  | t :: m, j + 1, h, z => by
    have ih := flatT_set m j (by simpa using h) z
    have e3 : (j + 1) * 3 + 2 = j * 3 + 2 + 1 + 1 + 1 := by omega
    rw [e3]
    simpa [flatT, cellsT] using ih
theorem Th.free {n₀ : Nat} {W : World} {g n cap : Nat} {m : List Thing} (h : Th n₀ W (.slice (some ⟨g, 0, none⟩) n cap) m) (i : Nat) : W.frozen? ⟨g, i, none⟩ = false := by
  rcases h.2 with ⟨e, _⟩ | ⟨g', cap', cur, e, _, hg, _⟩
  · cases e
  · cases e; exact Blk.free (c := cur) (t := 111) hg i
theorem Th.setx {n₀ : Nat} {W : World} {g n cap : Nat} {m : List Thing} (h : Th n₀ W (.slice (some ⟨g, 0, none⟩) n cap) m) {j : Nat} (hj : j < m.length) (z : ByteArray) :
    Th n₀ (W.setCell ⟨g, j * 3 + 2, none⟩ (.string z)) (.slice (some ⟨g, 0, none⟩) n cap) (m.take j ++ ⟨m[j].id, m[j].due, z⟩ :: m.drop (j + 1)) := by
  have hlen : (m.take j ++ (⟨m[j].id, m[j].due, z⟩ : Thing) :: m.drop (j + 1)).length = m.length := by simp; omega
  refine ⟨by rw [flatT_len], ?_⟩
  rw [hlen]
  rcases h.2 with ⟨e, h0⟩ | ⟨g', cap', cur, e, hb, hg, h1, h2, h3, h4⟩
  · cases e
  · cases e
    refine .inr ⟨g, cap, cur.setIfInBounds (j * 3 + 2) (.string z), rfl, hb, Blk.set (c := cur) (t := 111) hg _ _, h1, h2, by simpa using h3, ?_⟩
    rw [← flatT_set m j hj z, ← h4, Array.toList_setIfInBounds, List.take_set]

set_option maxRecDepth 100000 in
set_option maxHeartbeats 8000000 in
theorem law18_DuePlays (most : Int) (vl : Value) (w : World) (hl : ∃ n, n ≤ maxLen ∧ Acts18 w vl n) :
    Calls Try.prog 12 #[.int .i64 most, vl] w fun e w' => e = .returned (.bool true) ∧ Chg [] w w' := by
  obtain ⟨n, hn, hl⟩ := hl
  obtain ⟨la, lcap, rfl⟩ := hl.len
  by_cases h1 : n ≤ 60
  · by_cases hbad : most < 1 ∨ 256 < most
    · have hbadc := due_New_bad most
      rcases Int.lt_or_le most 1 with hb1 | hb1
      · have hb := fun w => due_New_bad most w (.inl hb1)
        clear hbad hbadc
        go_enter Try.func12, Try.ntmps12
        go_wp2_with fail
        refine (law18_lives _).mono ?_
        rintro e w1 ⟨rfl, hc1⟩
        go_wp2_with (go_at_call 16; refine (hb _).mono ?_; rintro e w2 ⟨rfl, rfl⟩)
        go_ret
        exact ⟨rfl, hc1⟩
      · have hb2 : 256 < most := by omega
        have hb := fun w => due_New_bad most w (.inr hb2)
        clear hbad hbadc
        go_enter Try.func12, Try.ntmps12
        go_wp2_with fail
        refine (law18_lives _).mono ?_
        rintro e w1 ⟨rfl, hc1⟩
        go_wp2_with (go_at_call 16; refine (hb _).mono ?_; rintro e w2 ⟨rfl, rfl⟩)
        go_ret
        exact ⟨rfl, hc1⟩
    · have hb1 : 1 ≤ most := by omega
      have hb2 : most ≤ 256 := by omega
      clear hbad
      go_enter Try.func12, Try.ntmps12
      go_wp2_with fail
      refine (law18_lives _).mono ?_
      rintro e w1 ⟨rfl, hc1⟩
      go_wp2_with fail
      refine (due_New most _ hb1 hb2).mono ?_
      rintro e w2 ⟨p, mb, rfl, htab, hc2, hfr⟩
      have hf1 := hfr p (by simp)
      have hf2 := hfr mb (by simp)
      have z1 := hc1.size
      have l1 := htab.lt
      have g1 : w.heap.size ≤ p := by omega
      have g2 : w.heap.size ≤ mb := by omega
      have hcx := hc1.trans hc2 (by simp)
      obtain ⟨s, hs⟩ : ∃ s, s = w2.heap.size := ⟨_, rfl⟩
      have hst : S18 s w2 p mb (Tab.new most) (.slice none 0 0) [] most := ⟨htab, TabOk.new most hb1 hb2, TabM.new most, ⟨rfl, .inl ⟨rfl, rfl⟩⟩, rfl, by omega, by omega⟩
      have hs' := Lib.hid hs
      clear htab hc1 hc2 hfr hf1 hf2 l1 z1 hs
      clear w1
      have hall : ∀ {W}, Chg [p, mb] w2 W → Chg [] w W := fun k => hcx.trans k (by simp [g1, g2])
      go_wp2
      go_loopw [7, 8, 50] (fun s7 s8 s50 wr => ∃ (k : Nat) (T : Tab) (mm : List Thing) (v : Value), v = s7 ∧ s8 = .int .u64 T.last ∧ k ≤ n ∧ s50 = .int .i64 k ∧ S18 s wr p mb T v mm most ∧ T.last ≤ k ∧ Chg [p, mb] w2 wr) (fun _ _ s50 _ => n - (intOf s50).toNat)
      case atStart => exact ⟨0, _, [], _, rfl, rfl, Nat.zero_le _, rfl, hst, by simp [Tab.new], Chg.refl _ _⟩
      case round =>
        obtain ⟨k, T, mm, v, rfl, rfl, hk, rfl, hsr, hlast, hcr⟩ := hrel
        have hlen := hsr.len
        obtain ⟨va, vcap, rfl⟩ := hsr.th.len
        by_cases hlt : k < n
        · obtain ⟨b, off, rfl, hbl, kind, I, A, x, wI, wA', q0, q1, q2, q3⟩ := (hl.chg (hall hcr)).at hlt
          have hq : Chg [] wr (wr.alloc (.cells #[.int .i64 kind, .int .u64 I, .int .u64 A, .string x] 109)) := (Chg.refl [] wr).alloc _
          have hbt := Blk.new wr #[.int .i64 kind, .int .u64 I, .int .u64 A, .string x] 109
          have hS := hsr.chg hq
          have hcA := hcr.trans hq (by simp)
          have hbA : s ≤ wr.heap.size := by have := hcr.size; have := hs'.out; omega
          go_wp2
          generalize wr.alloc (.cells #[.int .i64 kind, .int .u64 I, .int .u64 A, .string x] 109) = wA at hbt hS hcA ⊢
          generalize wr.heap.size = bA at hbt hbA ⊢
          clear hq hsr hcr q0 q1 q2 q3 hst
          go_loopw [11, 56] (fun s11 s56 ws => ∃ (i : Nat) (a : Int), s11 = .int .i64 a ∧ s56 = .int .i64 i ∧ i ≤ mm.length ∧ Find mm I i a ∧ Chg [] wA ws) (fun _ s56 _ => mm.length - (intOf s56).toNat)
          case atStart => exact ⟨0, -1, rfl, rfl, Nat.zero_le _, Find.start _ _, Chg.refl _ _⟩
          case round =>
            obtain ⟨i, a, rfl, rfl, hi, hfind, hcs⟩ := hrel
            have hb2 := hbt.chg hcs (by simp)
            have z0 := hb2.cell 0 (v := .int .i64 kind) rfl
            have z1 := hb2.cell 1 (v := .int .u64 I) rfl
            have z2 := hb2.cell 2 (v := .int .u64 A) rfl
            have z3 := hb2.cell 3 (v := .string x) rfl
            by_cases hil : i < mm.length
            · obtain ⟨g, rfl, q0, q1, q2⟩ := (hS.chg hcs).th.cell hil
              have hcq := hcs.alloc (.cells #[.int .u64 mm[i].id, .int .u64 mm[i].due, .string mm[i].x] 111)
              have y0 := (Blk.new wr #[.int .u64 mm[i].id, .int .u64 mm[i].due, .string mm[i].x] 111).cell 0 (v := .int .u64 mm[i].id) rfl
              have y1 := (hb2.alloc (.cells #[.int .u64 mm[i].id, .int .u64 mm[i].due, .string mm[i].x] 111)).cell 1 (v := .int .u64 I) rfl
              by_cases he : mm[i].id = I
              · have hf2 := Find.hit hil he
                have hb : (mm[i].id == I) = true := by simp [he]
                clear he hfind z0 z2 z3
                go_wp2
                go_roundw
                case rel => exact ⟨i + 1, _, rfl, by simp, by omega, hf2, hcq⟩
                case measure => simp [intOf]; omega
              · have hf2 := hfind.miss hil he
                have hb : (mm[i].id == I) = false := by simp [he]
                clear he hfind z0 z2 z3
                go_wp2
                go_roundw
                case rel => exact ⟨i + 1, _, rfl, by simp, by omega, hf2, hcq⟩
                case measure => simp [intOf]; omega
            · obtain rfl : i = mm.length := by omega
              have hS2 := hS.chg hcs
              have hcB := hcA.trans hcs (by simp)
              have hfd := hfind.done hS2.mod
              clear hfind hS hcA hbt hcs hil hi
              have hA0 := (wf_u64.1 wA').1
              have hws : s ≤ wr.heap.size := by have := hcB.size; have := hs'.out; omega
              have l0 := hS2.ok.l0
              have hcnt := hS2.mod.cnt
              have hmst := hS2.mst
              have hp := hS2.hp
              have hmb := hS2.hmb
              have hne := hS2.th_ne
              obtain ⟨i0, hi0, hz0, hz1, hz2⟩ := info_parts infoThing
              by_cases k0 : kind = 0
              · subst k0
                clear hfd
                have hadd := due_Add p mb T x A wr hS2.tab hS2.ok hA0
                have hokA := hS2.ok.add (x := x) hA0 (by omega)
                by_cases c1 : 1099511627776 < A
                · have e1 : T.add x A = (0, 1, T) := by unfold Tab.add; rw [if_pos c1]
                  rw [e1] at hadd
                  simp only at hadd
                  rcases Bool.eq_false_or_eq_true ((0 : Int) == T.last) with hb0 | hb0
                  all_goals
                    as_aux_lemma =>
                      go_wp2_with (go_at_call 17; refine hadd.mono ?_; rintro e w5 ⟨rfl, ht5, hc5⟩; have y2 := (hb2.chg hc5 (by simp; omega)).cell 2 (v := .int .u64 A) rfl)
                      go_roundw
                      case rel => exact ⟨k + 1, T, mm, _, rfl, rfl, by omega, by simp, ⟨ht5, hS2.ok, hS2.mod, hS2.th.chg hc5 (by simp [hne]), hmst, hp, hmb⟩, by omega, hcB.trans hc5 (fun t ht => .inl ht)⟩
                      case measure => simp [intOf]; omega
                · by_cases c2 : T.most ≤ T.cnt
                  · have e1 : T.add x A = (0, 10, T) := by unfold Tab.add; rw [if_neg c1, if_pos c2]
                    rw [e1] at hadd
                    simp only at hadd
                    have c1' : A ≤ 1099511627776 := by omega
                    have c2' : most ≤ (mm.length : Int) := by omega
                    clear c1
                    rcases Bool.eq_false_or_eq_true ((0 : Int) == T.last) with hb0 | hb0
                    all_goals
                      as_aux_lemma =>
                        go_wp2_with (go_at_call 17; refine hadd.mono ?_; rintro e w5 ⟨rfl, ht5, hc5⟩; have y2 := (hb2.chg hc5 (by simp; omega)).cell 2 (v := .int .u64 A) rfl)
                        go_roundw
                        case rel => exact ⟨k + 1, T, mm, _, rfl, rfl, by omega, by simp, ⟨ht5, hS2.ok, hS2.mod, hS2.th.chg hc5 (by simp [hne]), hmst, hp, hmb⟩, by omega, hcB.trans hc5 (fun t ht => .inl ht)⟩
                        case measure => simp [intOf]; omega
                  · have hmodA := hS2.mod.add (x := x) l0 c1 c2
                    have e1 : (T.add x A).1 = T.last + 1 ∧ (T.add x A).2.1 = 0 ∧ (T.add x A).2.2.last = T.last + 1 ∧ (T.add x A).2.2.most = T.most := by unfold Tab.add; rw [if_neg c1, if_neg c2]; exact ⟨rfl, rfl, rfl, rfl⟩
                    obtain ⟨e1, e2, e3, e4⟩ := e1
                    rw [e1, e2] at hadd
                    generalize (T.add x A).2.2 = T2 at hadd hmodA hokA e3 e4
                    have c1' : A ≤ 1099511627776 := by omega
                    have c2' : (mm.length : Int) < most := by omega
                    have hpos : 0 < T.last + 1 := by omega
                    clear c1 c2 e1 e2
                    as_aux_lemma =>
                      go_wp2_with (first
                        | (go_at_call 17; refine hadd.mono ?_; rintro e w5 ⟨rfl, ht5, hc5⟩; have y2 := (hb2.chg hc5 (by simp; omega)).cell 2 (v := .int .u64 A) rfl; have y3 := (hb2.chg hc5 (by simp; omega)).cell 3 (v := .string x) rfl; have hth5 := hS2.th.chg hc5 (by simp [hne]); have hs5 : s ≤ w5.heap.size := (by have := hc5.size; omega))
                        | (at_builtin; go_loud (refine wpList_append_T rfl _ _ rfl s _ _ mm [⟨T.last + 1, A, x⟩] rfl rfl (hth5.alloc _) (th_one _ ⟨T.last + 1, A, x⟩ _) (by simp; omega) (by simp; omega) ?_); intro v6 w6 ht6 hg6 hl6)
                        | go_in)
                      have hb6 : Below s w5 w6 := ((Below.refl s w5).alloc hs5 _).grown hg6 (by simp; omega) (fun k e => (Th.low hth5 e).1)
                      go_roundw
                      case rel => exact ⟨k + 1, T2, mm ++ [⟨T.last + 1, A, x⟩], v6, rfl, by rw [e3], by omega, by simp, ⟨ht5.below hb6 hp hmb, hokA, hmodA, ht6, by rw [e4]; exact hmst, hp, hmb⟩, by omega, (hcB.trans hc5 (fun t ht => .inl ht)).then_below (by rw [← hs'.out]; exact hb6)⟩
                      case measure => simp [intOf]; omega
              · by_cases k1 : kind = 1
                · subst k1
                  rcases hfd with ⟨rfl, hnone⟩ | ⟨j, hj, rfl, hid⟩
                  · have hdrop := due_Drop p mb T I wr hS2.tab wI
                    have e1 : T.drop I = (12, T) := by unfold Tab.drop; rw [hnone]; rfl
                    rw [e1] at hdrop
                    simp only at hdrop
                    as_aux_lemma =>
                      go_wp2_with (go_at_call 60; refine hdrop.mono ?_; rintro e w5 ⟨rfl, ht5, hc5⟩)
                      go_roundw
                      case rel => exact ⟨k + 1, T, mm, _, rfl, rfl, by omega, by simp, ⟨ht5, hS2.ok, hS2.mod, hS2.th.chg hc5 (by simp [hne]), hmst, hp, hmb⟩, by omega, hcB.trans hc5 (fun t ht => .inl (by simp at ht; simp [ht]))⟩
                      case measure => simp [intOf]; omega
                  · have hdrop := due_Drop p mb T I wr hS2.tab wI
                    have hmodD : TabM (T.drop I).2 (mm.take j ++ mm.drop (j + 1)) := by
                      have h := hS2.mod
                      rw [mid_split hj] at h
                      have := h.drop
                      rw [hid] at this
                      exact this
                    have hokD := hS2.ok.drop I
                    have e1 : (T.drop I).1 = 0 ∧ (T.drop I).2.last = T.last ∧ (T.drop I).2.most = T.most := by
                      have hsm := hS2.mod.there (List.getElem_mem hj)
                      rw [hid] at hsm
                      unfold Tab.drop; rw [if_pos hsm]; exact ⟨rfl, rfl, rfl⟩
                    obtain ⟨e1, e3, e4⟩ := e1
                    rw [e1] at hdrop
                    generalize (T.drop I).2 = T2 at hdrop hmodD hokD e3 e4
                    obtain ⟨g, rfl, q0, q1, q2⟩ := hS2.th.cell hj
                    clear e1 q0 q1 q2
                    as_aux_lemma =>
                      go_wp2_with (go_at_call 60; refine hdrop.mono ?_; rintro e w5 ⟨rfl, ht5, hc5⟩; have hth5 := hS2.th.chg hc5 (by simp [hne]); have hs5 : s ≤ w5.heap.size := (by have := hc5.size; omega))
                      --CUT
                      have hcap : mm.length ≤ vcap := th_cap hth5
                      refine wp_region_any (by kernel_rfl) ?_
                      change wpAny _ _ _ _ _ _ _ (World.drew _)
                      refine wpAny_take (i := 1) (v := .slice (some ⟨g, 0, none⟩) mm.length vcap) rfl (by kernel_rfl) (by kernel_rfl) (by kernel_rfl) (fun _ _ _ h => h) (Or.inl ⟨by rfl, fun w' => ?_⟩) ?_
                      · go_simp
                      try simp only [Act.put, List.setIfInBounds_toArray, List.set_cons_zero, List.set_cons_succ, List.getElem_toArray, List.getElem_cons_succ, List.getElem_cons_zero]
                      refine wpAny_take (i := 2) (v := .int .i64 j) rfl (by kernel_rfl) (by kernel_rfl) (by kernel_rfl) (fun _ _ _ h => h) (Or.inl ⟨by rfl, fun w' => ?_⟩) ?_
                      · go_simp
                      try simp only [Act.put, List.setIfInBounds_toArray, List.set_cons_zero, List.set_cons_succ, List.getElem_toArray, List.getElem_cons_succ, List.getElem_cons_zero]
                      refine wpAny_take (i := 3) (v := .slice (some ⟨g, 0, none⟩) j vcap) rfl (by kernel_rfl) (by kernel_rfl) (by kernel_rfl) (fun _ _ _ h => h) (Or.inl ⟨by rfl, fun w' => ?_⟩) ?_
                      · go_simp
                        intro h
                        exfalso
                        omega
                      try simp only [Act.put, List.setIfInBounds_toArray, List.set_cons_zero, List.set_cons_succ, List.getElem_toArray, List.getElem_cons_succ, List.getElem_cons_zero]
                      refine wpAny_take (i := 5) (v := .slice (some ⟨g, 0, none⟩) mm.length vcap) rfl (by kernel_rfl) (by kernel_rfl) (by kernel_rfl) (fun _ _ _ h => h) (Or.inl ⟨by rfl, fun w' => ?_⟩) ?_
                      · go_simp
                      try simp only [Act.put, List.setIfInBounds_toArray, List.set_cons_zero, List.set_cons_succ, List.getElem_toArray, List.getElem_cons_succ, List.getElem_cons_zero]
                      refine wpAny_take (i := 6) (v := .int .i64 j) rfl (by kernel_rfl) (by kernel_rfl) (by kernel_rfl) (fun _ _ _ h => h) (Or.inl ⟨by rfl, fun w' => ?_⟩) ?_
                      · go_simp
                      try simp only [Act.put, List.setIfInBounds_toArray, List.set_cons_zero, List.set_cons_succ, List.getElem_toArray, List.getElem_cons_succ, List.getElem_cons_zero]
                      refine wpAny_take (i := 7) (v := .int .i64 (j + 1)) rfl (by kernel_rfl) (by kernel_rfl) (by kernel_rfl) (fun _ _ _ h => h) (Or.inl ⟨by rfl, fun w' => ?_⟩) ?_
                      · go_simp
                        rw [IntKind.wrap_i64]
                        omega
                      try simp only [Act.put, List.setIfInBounds_toArray, List.set_cons_zero, List.set_cons_succ, List.getElem_toArray, List.getElem_cons_succ, List.getElem_cons_zero]
                      refine wpAny_take (i := 8) (v := .slice (if vcap = j + 1 then some ⟨g, 0, none⟩ else some ⟨g, (j + 1) * 3, none⟩) (mm.length - (j + 1)) (vcap - (j + 1))) rfl (by kernel_rfl) (by kernel_rfl) (by kernel_rfl) (fun _ _ _ h => h) (Or.inl ⟨by rfl, fun w' => ?_⟩) ?_
                      · go_simp
                        first | (intro h; exfalso; have := h (by omega); omega) | (rw [if_pos (by omega)])
                      try simp only [Act.put, List.setIfInBounds_toArray, List.set_cons_zero, List.set_cons_succ, List.getElem_toArray, List.getElem_cons_succ, List.getElem_cons_zero]
                      refine wpAny_ready (rs := [0]) (by kernel_rfl) (by simp) (AllReady.cons rfl (fun K hK => ?_) AllReady.nil)
                      go_simp
                      refine hK _ _ ?_
                      clear hK K
                      try simp only [Act.put, List.setIfInBounds_toArray, List.set_cons_zero, List.set_cons_succ, List.getElem_toArray, List.getElem_cons_succ, List.getElem_cons_zero]
                      refine wpAny_ready (rs := [4]) (by kernel_rfl) (by simp) (AllReady.cons rfl (fun K hK => ?_) AllReady.nil)
                      rw [if_pos (by rfl)]
                      refine op_append_T _ _ rfl s (.slice (some ⟨(w5).drew.heap.size, 0, none⟩) 0 0) (.slice (some ⟨g, 0, none⟩) j vcap) [] _ rfl rfl (Th.empty s (w5).drew hs5) ((Th.readTake (Th.drew hth5) (Nat.le_of_lt hj)).alloc _) (by have := hs5; simp; omega) (by simp only [List.length_nil, List.length_take]; omega) ?_
                      intro vx wx htx hgx hlx
                      refine hK _ _ ?_
                      clear hK K
                      try simp only [Act.put, List.setIfInBounds_toArray, List.set_cons_zero, List.set_cons_succ, List.getElem_toArray, List.getElem_cons_succ, List.getElem_cons_zero]
                      refine wpAny_ready (rs := [9]) (by kernel_rfl) (by simp) (AllReady.cons rfl (fun K hK => ?_) AllReady.nil)
                      rw [if_pos (by rfl)]
                      have hsx : (w5).heap.size + 1 ≤ wx.heap.size := by have h1 : ((w5).alloc (.cells #[] 111)).heap.size ≤ wx.heap.size := hgx.size; rwa [World.size_alloc] at h1
                      have hgl := (Th.low hth5 (g := g) rfl).2
                      refine op_append_T _ _ rfl s vx _ _ _ rfl rfl htx (((Th.readDrop (Th.drew hth5) hj (vcap - (j + 1))).alloc _).kept hgx (fun g2 e => by rw [th_if_block] at e; cases e; intro e2; have e3 : g = (w5).heap.size := Option.some.inj e2; omega)) (by have h2 := hs5; omega) (by simp only [List.length_append, List.length_nil, List.length_take, List.length_drop]; omega) ?_
                      intro vz wz htz hgz hlz
                      refine hK _ _ ?_
                      clear hK K
                      try simp only [Act.put, List.setIfInBounds_toArray, List.set_cons_zero, List.set_cons_succ, List.getElem_toArray, List.getElem_cons_succ, List.getElem_cons_zero]
                      have hcz : Chg [] (w5) wz := (((Chg.refl [] (w5)).drew.alloc (.cells #[] 111)).grown hgx (fun k e => .inr (by cases e; exact Nat.le_refl _))).grown hgz (fun k e => .inr (by rcases hlx with h | h <;> rw [h] at e <;> have e3 := Option.some.inj e; exact Nat.le_of_eq e3; have e4 : ((w5).alloc (.cells #[] 111)).heap.size = k := e3; rw [World.size_alloc] at e4; omega))
                      clear hgx hlx hgz hlz htx
                      refine wpAny_ready (rs := [10]) (by kernel_rfl) (by simp) (AllReady.cons rfl (fun K hK => ?_) AllReady.nil)
                      go_simp
                      refine hK _ _ ?_
                      clear hK K
                      try simp only [Act.put, List.setIfInBounds_toArray, List.set_cons_zero, List.set_cons_succ, List.getElem_toArray, List.getElem_cons_succ, List.getElem_cons_zero]
                      refine wpAny_done (by kernel_rfl) ?_ _
                      --END
                      go_wp2
                      go_roundw
                      case rel => exact ⟨k + 1, T2, mm.take j ++ mm.drop (j + 1), vz, rfl, by rw [e3], by omega, by simp, ⟨ht5.same hcz, hokD, hmodD, htz, by rw [e4]; exact hmst, hp, hmb⟩, by omega, (hcB.trans hc5 (fun t ht => .inl (by simp at ht; simp [ht]))).trans hcz (by simp)⟩
                      case measure => simp [intOf]; omega
                · by_cases k2 : kind = 2
                  · subst k2
                    rcases hfd with ⟨rfl, hnone⟩ | ⟨j, hj, rfl, hid⟩
                    · have hset := due_Set p mb T I x wr hS2.tab wI (by omega)
                      have e1 : T.set I x = (12, T) := by unfold Tab.set; rw [hnone]; rfl
                      rw [e1] at hset
                      simp only at hset
                      as_aux_lemma =>
                        go_wp2_with (go_at_call 61; refine hset.mono ?_; rintro e w5 ⟨rfl, ht5, hc5⟩)
                        go_roundw
                        case rel => exact ⟨k + 1, T, mm, _, rfl, rfl, by omega, by simp, ⟨ht5, hS2.ok, hS2.mod, hS2.th.chg hc5 (by simp [hne]), hmst, hp, hmb⟩, by omega, hcB.trans hc5 (fun t ht => .inl (by simp at ht; simp [ht]))⟩
                        case measure => simp [intOf]; omega
                    · have hset := due_Set p mb T I x wr hS2.tab wI (by omega)
                      have hmodD : TabM (T.set I x).2 (mm.take j ++ ⟨mm[j].id, mm[j].due, x⟩ :: mm.drop (j + 1)) := by
                        have h := hS2.mod
                        rw [mid_split hj] at h
                        have := h.set (z := x)
                        rw [hid] at this ⊢
                        exact this
                      have hokD := hS2.ok.set I x
                      have e1 : (T.set I x).1 = 0 ∧ (T.set I x).2.last = T.last ∧ (T.set I x).2.most = T.most := by
                        have hsm := hS2.mod.there (List.getElem_mem hj)
                        rw [hid] at hsm
                        unfold Tab.set; rw [if_pos hsm]; exact ⟨rfl, rfl, rfl⟩
                      obtain ⟨e1, e3, e4⟩ := e1
                      rw [e1] at hset
                      generalize (T.set I x).2 = T2 at hset hmodD hokD e3 e4
                      obtain ⟨g, rfl, q0, q1, q2⟩ := hS2.th.cell hj
                      clear e1 q0 q1 q2
                      as_aux_lemma =>
                        go_wp2_with (go_at_call 61; refine hset.mono ?_; rintro e w5 ⟨rfl, ht5, hc5⟩; have hth5 := hS2.th.chg hc5 (by simp [hne]); have hs5 : s ≤ w5.heap.size := (by have := hc5.size; omega); have y3 := (hb2.chg hc5 (by simp; omega)).cell 3 (v := .string x) rfl; obtain ⟨g', eg, q0, q1, q2⟩ := hth5.cell hj; cases eg; have hfz := hth5.free (j * 3 + 2))
                        have hb6 : Below s w5 (w5.setCell ⟨g, j * 3 + 2, none⟩ (.string x)) := (Below.refl s w5).setCell (p := ⟨g, j * 3 + 2, none⟩) (Th.low hth5 rfl).1 _
                        have ht6 := hth5.setx hj x
                        have hlen2 : (mm.take j ++ (⟨mm[j].id, mm[j].due, x⟩ : Thing) :: mm.drop (j + 1)).length = mm.length := by simp; omega
                        go_roundw
                        case rel => exact ⟨k + 1, T2, _, _, rfl, by rw [e3], by omega, by simp, ⟨ht5.below hb6 hp hmb, hokD, hmodD, ht6, by rw [e4]; exact hmst, hp, hmb⟩, by omega, (hcB.trans hc5 (fun t ht => .inl (by simp at ht; simp [ht]))).then_below (by rw [← hs'.out]; exact hb6)⟩
                        case measure => simp [intOf]; omega
                  · have k0' : (kind == 0) = false := by simp [k0]
                    have k1' : (kind == 1) = false := by simp [k1]
                    have k2' : (kind == 2) = false := by simp [k2]
                    clear k0 k1 k2
                    rcases hfd with ⟨rfl, hnone⟩ | ⟨j, hj, rfl, hid⟩
                    have hlate : T.late I A = false := by unfold Tab.late; rw [hnone]
                    as_aux_lemma =>
                      go_wp2
                      --HELD0
                      refine wp_region_held_drew (S := fun w' => Chg [] wr w') (by kernel_rfl) ((Chg.refl _ _).drew) (fun hH0 => ?_)
                      refine wpAnyH_take (i := 0) (v := .pointer (some ⟨p, 0, none⟩)) rfl (by kernel_rfl) (by kernel_rfl) (by kernel_rfl) (fun _ _ _ h => h) (.inl ⟨by rfl, fun w' hw' => ?_⟩) hH0 ?_
                      · go_simp
                      try simp only [Act.put, List.setIfInBounds_toArray, List.set_cons_zero, List.set_cons_succ, List.getElem_toArray, List.getElem_cons_succ, List.getElem_cons_zero]
                      refine wpAnyH_take (i := 1) (v := .pointer (some ⟨bA, 2, none⟩)) rfl (by kernel_rfl) (by kernel_rfl) (by kernel_rfl) (fun _ _ _ h => h) (.inl ⟨by rfl, fun w' hw' => ?_⟩) hH0 ?_
                      · go_simp
                      try simp only [Act.put, List.setIfInBounds_toArray, List.set_cons_zero, List.set_cons_succ, List.getElem_toArray, List.getElem_cons_succ, List.getElem_cons_zero]
                      refine wpAnyH_take (i := 2) (v := .int .u64 A) rfl (by kernel_rfl) (by kernel_rfl) (by kernel_rfl) (fun _ _ _ h => h) (.inl ⟨by rfl, fun w' hw' => ?_⟩) hH0 ?_
                      · have hz := (hb2.chg hw' (by simp)).cell 2 (v := .int .u64 A) rfl
                        go_simp
                      try simp only [Act.put, List.setIfInBounds_toArray, List.set_cons_zero, List.set_cons_succ, List.getElem_toArray, List.getElem_cons_succ, List.getElem_cons_zero]
                      refine wpAnyH_take (i := 5) (v := .slice va mm.length vcap) rfl (by kernel_rfl) (by kernel_rfl) (by kernel_rfl) (fun _ _ _ h => h) (.inl ⟨by rfl, fun w' hw' => ?_⟩) hH0 ?_
                      · go_simp
                      try simp only [Act.put, List.setIfInBounds_toArray, List.set_cons_zero, List.set_cons_succ, List.getElem_toArray, List.getElem_cons_succ, List.getElem_cons_zero]
                      refine wpAnyH_take (i := 6) (v := .pointer (some ⟨bA, 2, none⟩)) rfl (by kernel_rfl) (by kernel_rfl) (by kernel_rfl) (fun _ _ _ h => h) (.inl ⟨by rfl, fun w' hw' => ?_⟩) hH0 ?_
                      · go_simp
                      try simp only [Act.put, List.setIfInBounds_toArray, List.set_cons_zero, List.set_cons_succ, List.getElem_toArray, List.getElem_cons_succ, List.getElem_cons_zero]
                      refine wpAnyH_take (i := 7) (v := .int .u64 A) rfl (by kernel_rfl) (by kernel_rfl) (by kernel_rfl) (fun _ _ _ h => h) (.inl ⟨by rfl, fun w' hw' => ?_⟩) hH0 ?_
                      · have hz := (hb2.chg hw' (by simp)).cell 2 (v := .int .u64 A) rfl
                        go_simp
                      try simp only [Act.put, List.setIfInBounds_toArray, List.set_cons_zero, List.set_cons_succ, List.getElem_toArray, List.getElem_cons_succ, List.getElem_cons_zero]
                      refine wpAnyH_ready (rs := [3]) (by kernel_rfl) (by simp) (AllReadyH.cons rfl (fun K hK => ?_) AllReadyH.nil)
                      try rw [if_pos (by rfl)]
                      go_simp
                      go_at_call 19
                      refine (due_Over p mb T A _ (hS2.tab.same hH0) (by omega)).mono ?_
                      rintro e wk1 ⟨B1, u1, ys, rfl, hB1, hu1, _, _, hd1, hy1, hy2, hy3⟩
                      dsimp only
                      have hH1 := hH0.trans hd1 (by simp)
                      refine hK.out _ _ hH1 (fun _ => ?_)
                      try simp only [Act.put, List.setIfInBounds_toArray, List.set_cons_zero, List.set_cons_succ, List.getElem_toArray, List.getElem_cons_succ, List.getElem_cons_zero]
                      refine wpAnyH_ready (rs := [4]) (by kernel_rfl) (by simp) (AllReadyH.cons rfl (fun K hK => ?_) AllReadyH.nil)
                      try rw [if_pos (by rfl)]
                      go_simp
                      go_at_call 18
                      refine (law18_over_vals B1 u1 ys _ hB1 hu1 (by omega)).mono ?_
                      rintro e wk2 ⟨u2, rfl, hu2, _, hd2, _⟩
                      dsimp only
                      have hH2 := hH1.trans hd2 (by simp)
                      refine hK.out _ _ hH2 (fun _ => ?_)
                      try simp only [Act.put, List.setIfInBounds_toArray, List.set_cons_zero, List.set_cons_succ, List.getElem_toArray, List.getElem_cons_succ, List.getElem_cons_zero]
                      refine wpAnyH_ready (rs := [8]) (by kernel_rfl) (by simp) (AllReadyH.cons rfl (fun K hK => ?_) AllReadyH.nil)
                      try rw [if_pos (by rfl)]
                      go_simp
                      go_at_call 62
                      refine (law18_late s _ mm T A _ (hS2.th.chg hH2 (by simp)) hS2.mod (by omega)).mono ?_
                      rintro e wk3 ⟨u3, os, rfl, hu3, hy4, hy5, _, _, hd3⟩
                      dsimp only
                      have hH3 := hH2.trans hd3 (by simp)
                      refine hK.out _ _ hH3 (fun _ => ?_)
                      try simp only [Act.put, List.setIfInBounds_toArray, List.set_cons_zero, List.set_cons_succ, List.getElem_toArray, List.getElem_cons_succ, List.getElem_cons_zero]
                      refine wpAnyH_ready (rs := [9]) (by kernel_rfl) (by simp) (AllReadyH.cons rfl (fun K hK => ?_) AllReadyH.nil)
                      try rw [if_pos (by rfl)]
                      go_simp
                      go_at_call 20
                      obtain rfl : ys = os := late_unique hy1 hy4 hy3 (fun x => by rw [hy5 x]; exact ⟨fun h => ⟨late_wf hS2.ok h, h⟩, fun h => h.2⟩)
                      have hu2x := hu2.chg hd3 (by simp)
                      obtain ⟨a2, cap2, rfl⟩ := hu2.len
                      obtain ⟨a3, cap3, rfl⟩ := hu3.len
                      refine (law18_same a2 cap2 a3 cap3 ys _ hu2x hu3 (by omega)).mono ?_
                      rintro e wk4 ⟨rfl, hd4⟩
                      dsimp only
                      have hH4 := hH3.trans hd4 (by simp)
                      refine hK.out _ _ hH4 (fun _ => ?_)
                      try simp only [Act.put, List.setIfInBounds_toArray, List.set_cons_zero, List.set_cons_succ, List.getElem_toArray, List.getElem_cons_succ, List.getElem_cons_zero]
                      refine wpAnyH_take (i := 10) (v := .bool false) rfl (by kernel_rfl) (by kernel_rfl) (by kernel_rfl) (fun _ _ _ h => h) (.inl ⟨by rfl, fun w' hw' => ?_⟩) hH4 ?_
                      · go_simp
                      try simp only [Act.put, List.setIfInBounds_toArray, List.set_cons_zero, List.set_cons_succ, List.getElem_toArray, List.getElem_cons_succ, List.getElem_cons_zero]
                      refine wpAnyH_take (i := 11) (v := .bool false) rfl (by kernel_rfl) (by kernel_rfl) (by kernel_rfl) (fun _ _ _ h => h) (.inl ⟨by rfl, fun w' hw' => ?_⟩) hH4 ?_
                      · go_simp
                      try simp only [Act.put, List.setIfInBounds_toArray, List.set_cons_zero, List.set_cons_succ, List.getElem_toArray, List.getElem_cons_succ, List.getElem_cons_zero]
                      refine wpAnyH_take (i := 12) (v := .pointer (some ⟨p, 0, none⟩)) rfl (by kernel_rfl) (by kernel_rfl) (by kernel_rfl) (fun _ _ _ h => h) (.inl ⟨by rfl, fun w' hw' => ?_⟩) hH4 ?_
                      · go_simp
                      try simp only [Act.put, List.setIfInBounds_toArray, List.set_cons_zero, List.set_cons_succ, List.getElem_toArray, List.getElem_cons_succ, List.getElem_cons_zero]
                      refine wpAnyH_take (i := 13) (v := .pointer (some ⟨bA, 1, none⟩)) rfl (by kernel_rfl) (by kernel_rfl) (by kernel_rfl) (fun _ _ _ h => h) (.inl ⟨by rfl, fun w' hw' => ?_⟩) hH4 ?_
                      · go_simp
                      try simp only [Act.put, List.setIfInBounds_toArray, List.set_cons_zero, List.set_cons_succ, List.getElem_toArray, List.getElem_cons_succ, List.getElem_cons_zero]
                      refine wpAnyH_take (i := 14) (v := .int .u64 I) rfl (by kernel_rfl) (by kernel_rfl) (by kernel_rfl) (fun _ _ _ h => h) (.inl ⟨by rfl, fun w' hw' => ?_⟩) hH4 ?_
                      · have hz := (hb2.chg hw' (by simp)).cell 1 (v := .int .u64 I) rfl
                        go_simp
                      try simp only [Act.put, List.setIfInBounds_toArray, List.set_cons_zero, List.set_cons_succ, List.getElem_toArray, List.getElem_cons_succ, List.getElem_cons_zero]
                      refine wpAnyH_take (i := 15) (v := .pointer (some ⟨bA, 2, none⟩)) rfl (by kernel_rfl) (by kernel_rfl) (by kernel_rfl) (fun _ _ _ h => h) (.inl ⟨by rfl, fun w' hw' => ?_⟩) hH4 ?_
                      · go_simp
                      try simp only [Act.put, List.setIfInBounds_toArray, List.set_cons_zero, List.set_cons_succ, List.getElem_toArray, List.getElem_cons_succ, List.getElem_cons_zero]
                      refine wpAnyH_take (i := 16) (v := .int .u64 A) rfl (by kernel_rfl) (by kernel_rfl) (by kernel_rfl) (fun _ _ _ h => h) (.inl ⟨by rfl, fun w' hw' => ?_⟩) hH4 ?_
                      · have hz := (hb2.chg hw' (by simp)).cell 2 (v := .int .u64 A) rfl
                        go_simp
                      try simp only [Act.put, List.setIfInBounds_toArray, List.set_cons_zero, List.set_cons_succ, List.getElem_toArray, List.getElem_cons_succ, List.getElem_cons_zero]
                      refine wpAnyH_take (i := 18) (v := .int .i64 (-1)) rfl (by kernel_rfl) (by kernel_rfl) (by kernel_rfl) (fun _ _ _ h => h) (.inl ⟨by rfl, fun w' hw' => ?_⟩) hH4 ?_
                      · go_simp
                      try simp only [Act.put, List.setIfInBounds_toArray, List.set_cons_zero, List.set_cons_succ, List.getElem_toArray, List.getElem_cons_succ, List.getElem_cons_zero]
                      refine wpAnyH_take (i := 19) (v := .bool false) rfl (by kernel_rfl) (by kernel_rfl) (by kernel_rfl) (fun _ _ _ h => h) (.inl ⟨by rfl, fun w' hw' => ?_⟩) hH4 ?_
                      · go_simp
                      try simp only [Act.put, List.setIfInBounds_toArray, List.set_cons_zero, List.set_cons_succ, List.getElem_toArray, List.getElem_cons_succ, List.getElem_cons_zero]
                      refine wpAnyH_ready (rs := [17]) (by kernel_rfl) (by simp) (AllReadyH.cons rfl (fun K hK => ?_) AllReadyH.nil)
                      try rw [if_pos (by rfl)]
                      go_simp
                      go_at_call 63
                      refine (due_Late p mb T I A _ (hS2.tab.same hH4) wI).mono ?_
                      rintro e wk5 ⟨rfl, hd5⟩
                      dsimp only
                      have hH5 := hH4.trans hd5 (by simp)
                      refine hK.out _ _ hH5 (fun _ => ?_)
                      try simp only [Act.put, List.setIfInBounds_toArray, List.set_cons_zero, List.set_cons_succ, List.getElem_toArray, List.getElem_cons_succ, List.getElem_cons_zero]
                      refine wpAnyH_take (i := 20) (v := .bool false) rfl (by kernel_rfl) (by kernel_rfl) (by kernel_rfl) (fun _ _ _ h => h) (.inl ⟨by rfl, fun w' hw' => ?_⟩) hH5 ?_
                      · go_simp
                      try simp only [Act.put, List.setIfInBounds_toArray, List.set_cons_zero, List.set_cons_succ, List.getElem_toArray, List.getElem_cons_succ, List.getElem_cons_zero]
                      refine wpAnyH_take (i := 21) (v := undef) rfl (by kernel_rfl) (by kernel_rfl) (by kernel_rfl) (fun _ _ _ h => h) (.inr ⟨by rfl, rfl⟩) hH5 ?_
                      try simp only [Act.put, List.setIfInBounds_toArray, List.set_cons_zero, List.set_cons_succ, List.getElem_toArray, List.getElem_cons_succ, List.getElem_cons_zero]
                      refine wpAnyH_take (i := 22) (v := undef) rfl (by kernel_rfl) (by kernel_rfl) (by kernel_rfl) (fun _ _ _ h => h) (.inr ⟨by rfl, rfl⟩) hH5 ?_
                      try simp only [Act.put, List.setIfInBounds_toArray, List.set_cons_zero, List.set_cons_succ, List.getElem_toArray, List.getElem_cons_succ, List.getElem_cons_zero]
                      refine wpAnyH_take (i := 23) (v := undef) rfl (by kernel_rfl) (by kernel_rfl) (by kernel_rfl) (fun _ _ _ h => h) (.inr ⟨by rfl, rfl⟩) hH5 ?_
                      try simp only [Act.put, List.setIfInBounds_toArray, List.set_cons_zero, List.set_cons_succ, List.getElem_toArray, List.getElem_cons_succ, List.getElem_cons_zero]
                      refine wpAnyH_take (i := 24) (v := undef) rfl (by kernel_rfl) (by kernel_rfl) (by kernel_rfl) (fun _ _ _ h => h) (.inr ⟨by rfl, rfl⟩) hH5 ?_
                      try simp only [Act.put, List.setIfInBounds_toArray, List.set_cons_zero, List.set_cons_succ, List.getElem_toArray, List.getElem_cons_succ, List.getElem_cons_zero]
                      refine wpAnyH_take (i := 25) (v := undef) rfl (by kernel_rfl) (by kernel_rfl) (by kernel_rfl) (fun _ _ _ h => h) (.inr ⟨by rfl, rfl⟩) hH5 ?_
                      try simp only [Act.put, List.setIfInBounds_toArray, List.set_cons_zero, List.set_cons_succ, List.getElem_toArray, List.getElem_cons_succ, List.getElem_cons_zero]
                      refine wpAnyH_take (i := 26) (v := undef) rfl (by kernel_rfl) (by kernel_rfl) (by kernel_rfl) (fun _ _ _ h => h) (.inr ⟨by rfl, rfl⟩) hH5 ?_
                      try simp only [Act.put, List.setIfInBounds_toArray, List.set_cons_zero, List.set_cons_succ, List.getElem_toArray, List.getElem_cons_succ, List.getElem_cons_zero]
                      refine wpAnyH_take (i := 27) (v := undef) rfl (by kernel_rfl) (by kernel_rfl) (by kernel_rfl) (fun _ _ _ h => h) (.inr ⟨by rfl, rfl⟩) hH5 ?_
                      try simp only [Act.put, List.setIfInBounds_toArray, List.set_cons_zero, List.set_cons_succ, List.getElem_toArray, List.getElem_cons_succ, List.getElem_cons_zero]
                      refine wpAnyH_take (i := 28) (v := undef) rfl (by kernel_rfl) (by kernel_rfl) (by kernel_rfl) (fun _ _ _ h => h) (.inr ⟨by rfl, rfl⟩) hH5 ?_
                      try simp only [Act.put, List.setIfInBounds_toArray, List.set_cons_zero, List.set_cons_succ, List.getElem_toArray, List.getElem_cons_succ, List.getElem_cons_zero]
                      refine wpAnyH_take (i := 29) (v := .bool false) rfl (by kernel_rfl) (by kernel_rfl) (by kernel_rfl) (fun _ _ _ h => h) (.inl ⟨by rfl, fun w' hw' => ?_⟩) hH5 ?_
                      · go_simp
                      try simp only [Act.put, List.setIfInBounds_toArray, List.set_cons_zero, List.set_cons_succ, List.getElem_toArray, List.getElem_cons_succ, List.getElem_cons_zero]
                      refine wpAnyH_take (i := 30) (v := .bool false) rfl (by kernel_rfl) (by kernel_rfl) (by kernel_rfl) (fun _ _ _ h => h) (.inl ⟨by rfl, fun w' hw' => ?_⟩) hH5 ?_
                      · go_simp
                      try simp only [Act.put, List.setIfInBounds_toArray, List.set_cons_zero, List.set_cons_succ, List.getElem_toArray, List.getElem_cons_succ, List.getElem_cons_zero]
                      refine wpAnyH_take (i := 31) (v := .bool false) rfl (by kernel_rfl) (by kernel_rfl) (by kernel_rfl) (fun _ _ _ h => h) (.inl ⟨by rfl, fun w' hw' => ?_⟩) hH5 ?_
                      · go_simp
                      try simp only [Act.put, List.setIfInBounds_toArray, List.set_cons_zero, List.set_cons_succ, List.getElem_toArray, List.getElem_cons_succ, List.getElem_cons_zero]
                      refine wpAnyH_done (by kernel_rfl) ?_ _
                      --HELD0END
                      go_wp2
                      go_roundw
                      case rel => exact ⟨k + 1, T, mm, _, rfl, rfl, by omega, by simp, hS2.chg hH5, by omega, hcB.trans hH5 (by simp)⟩
                      case measure => simp [intOf]; omega
                    have hlate : decide (mm[j].due < A) = T.late I A := by
                      have h := lookT_mem hS2.mod.asc (List.getElem_mem hj)
                      rw [← hS2.mod.f, hid] at h
                      unfold Tab.late; rw [h]
                    obtain ⟨g, rfl, _⟩ := hS2.th.cell hj
                    as_aux_lemma =>
                      go_wp2
                      --HELD1
                      refine wp_region_held_drew (S := fun w' => Chg [] wr w') (by kernel_rfl) ((Chg.refl _ _).drew) (fun hH0 => ?_)
                      refine wpAnyH_take (i := 0) (v := .pointer (some ⟨p, 0, none⟩)) rfl (by kernel_rfl) (by kernel_rfl) (by kernel_rfl) (fun _ _ _ h => h) (.inl ⟨by rfl, fun w' hw' => ?_⟩) hH0 ?_
                      · go_simp
                      try simp only [Act.put, List.setIfInBounds_toArray, List.set_cons_zero, List.set_cons_succ, List.getElem_toArray, List.getElem_cons_succ, List.getElem_cons_zero]
                      refine wpAnyH_take (i := 1) (v := .pointer (some ⟨bA, 2, none⟩)) rfl (by kernel_rfl) (by kernel_rfl) (by kernel_rfl) (fun _ _ _ h => h) (.inl ⟨by rfl, fun w' hw' => ?_⟩) hH0 ?_
                      · go_simp
                      try simp only [Act.put, List.setIfInBounds_toArray, List.set_cons_zero, List.set_cons_succ, List.getElem_toArray, List.getElem_cons_succ, List.getElem_cons_zero]
                      refine wpAnyH_take (i := 2) (v := .int .u64 A) rfl (by kernel_rfl) (by kernel_rfl) (by kernel_rfl) (fun _ _ _ h => h) (.inl ⟨by rfl, fun w' hw' => ?_⟩) hH0 ?_
                      · have hz := (hb2.chg hw' (by simp)).cell 2 (v := .int .u64 A) rfl
                        go_simp
                      try simp only [Act.put, List.setIfInBounds_toArray, List.set_cons_zero, List.set_cons_succ, List.getElem_toArray, List.getElem_cons_succ, List.getElem_cons_zero]
                      refine wpAnyH_take (i := 5) (v := .slice (some ⟨g, 0, none⟩) mm.length vcap) rfl (by kernel_rfl) (by kernel_rfl) (by kernel_rfl) (fun _ _ _ h => h) (.inl ⟨by rfl, fun w' hw' => ?_⟩) hH0 ?_
                      · go_simp
                      try simp only [Act.put, List.setIfInBounds_toArray, List.set_cons_zero, List.set_cons_succ, List.getElem_toArray, List.getElem_cons_succ, List.getElem_cons_zero]
                      refine wpAnyH_take (i := 6) (v := .pointer (some ⟨bA, 2, none⟩)) rfl (by kernel_rfl) (by kernel_rfl) (by kernel_rfl) (fun _ _ _ h => h) (.inl ⟨by rfl, fun w' hw' => ?_⟩) hH0 ?_
                      · go_simp
                      try simp only [Act.put, List.setIfInBounds_toArray, List.set_cons_zero, List.set_cons_succ, List.getElem_toArray, List.getElem_cons_succ, List.getElem_cons_zero]
                      refine wpAnyH_take (i := 7) (v := .int .u64 A) rfl (by kernel_rfl) (by kernel_rfl) (by kernel_rfl) (fun _ _ _ h => h) (.inl ⟨by rfl, fun w' hw' => ?_⟩) hH0 ?_
                      · have hz := (hb2.chg hw' (by simp)).cell 2 (v := .int .u64 A) rfl
                        go_simp
                      try simp only [Act.put, List.setIfInBounds_toArray, List.set_cons_zero, List.set_cons_succ, List.getElem_toArray, List.getElem_cons_succ, List.getElem_cons_zero]
                      refine wpAnyH_ready (rs := [3]) (by kernel_rfl) (by simp) (AllReadyH.cons rfl (fun K hK => ?_) AllReadyH.nil)
                      try rw [if_pos (by rfl)]
                      go_simp
                      go_at_call 19
                      refine (due_Over p mb T A _ (hS2.tab.same hH0) (by omega)).mono ?_
                      rintro e wk1 ⟨B1, u1, ys, rfl, hB1, hu1, _, _, hd1, hy1, hy2, hy3⟩
                      dsimp only
                      have hH1 := hH0.trans hd1 (by simp)
                      refine hK.out _ _ hH1 (fun _ => ?_)
                      try simp only [Act.put, List.setIfInBounds_toArray, List.set_cons_zero, List.set_cons_succ, List.getElem_toArray, List.getElem_cons_succ, List.getElem_cons_zero]
                      refine wpAnyH_ready (rs := [4]) (by kernel_rfl) (by simp) (AllReadyH.cons rfl (fun K hK => ?_) AllReadyH.nil)
                      try rw [if_pos (by rfl)]
                      go_simp
                      go_at_call 18
                      refine (law18_over_vals B1 u1 ys _ hB1 hu1 (by omega)).mono ?_
                      rintro e wk2 ⟨u2, rfl, hu2, _, hd2, _⟩
                      dsimp only
                      have hH2 := hH1.trans hd2 (by simp)
                      refine hK.out _ _ hH2 (fun _ => ?_)
                      try simp only [Act.put, List.setIfInBounds_toArray, List.set_cons_zero, List.set_cons_succ, List.getElem_toArray, List.getElem_cons_succ, List.getElem_cons_zero]
                      refine wpAnyH_ready (rs := [8]) (by kernel_rfl) (by simp) (AllReadyH.cons rfl (fun K hK => ?_) AllReadyH.nil)
                      try rw [if_pos (by rfl)]
                      go_simp
                      go_at_call 62
                      refine (law18_late s _ mm T A _ (hS2.th.chg hH2 (by simp)) hS2.mod (by omega)).mono ?_
                      rintro e wk3 ⟨u3, os, rfl, hu3, hy4, hy5, _, _, hd3⟩
                      dsimp only
                      have hH3 := hH2.trans hd3 (by simp)
                      refine hK.out _ _ hH3 (fun _ => ?_)
                      try simp only [Act.put, List.setIfInBounds_toArray, List.set_cons_zero, List.set_cons_succ, List.getElem_toArray, List.getElem_cons_succ, List.getElem_cons_zero]
                      refine wpAnyH_ready (rs := [9]) (by kernel_rfl) (by simp) (AllReadyH.cons rfl (fun K hK => ?_) AllReadyH.nil)
                      try rw [if_pos (by rfl)]
                      go_simp
                      go_at_call 20
                      obtain rfl : ys = os := late_unique hy1 hy4 hy3 (fun x => by rw [hy5 x]; exact ⟨fun h => ⟨late_wf hS2.ok h, h⟩, fun h => h.2⟩)
                      have hu2x := hu2.chg hd3 (by simp)
                      obtain ⟨a2, cap2, rfl⟩ := hu2.len
                      obtain ⟨a3, cap3, rfl⟩ := hu3.len
                      refine (law18_same a2 cap2 a3 cap3 ys _ hu2x hu3 (by omega)).mono ?_
                      rintro e wk4 ⟨rfl, hd4⟩
                      dsimp only
                      have hH4 := hH3.trans hd4 (by simp)
                      refine hK.out _ _ hH4 (fun _ => ?_)
                      try simp only [Act.put, List.setIfInBounds_toArray, List.set_cons_zero, List.set_cons_succ, List.getElem_toArray, List.getElem_cons_succ, List.getElem_cons_zero]
                      refine wpAnyH_take (i := 10) (v := .bool false) rfl (by kernel_rfl) (by kernel_rfl) (by kernel_rfl) (fun _ _ _ h => h) (.inl ⟨by rfl, fun w' hw' => ?_⟩) hH4 ?_
                      · go_simp
                      try simp only [Act.put, List.setIfInBounds_toArray, List.set_cons_zero, List.set_cons_succ, List.getElem_toArray, List.getElem_cons_succ, List.getElem_cons_zero]
                      refine wpAnyH_take (i := 11) (v := .bool false) rfl (by kernel_rfl) (by kernel_rfl) (by kernel_rfl) (fun _ _ _ h => h) (.inl ⟨by rfl, fun w' hw' => ?_⟩) hH4 ?_
                      · go_simp
                      try simp only [Act.put, List.setIfInBounds_toArray, List.set_cons_zero, List.set_cons_succ, List.getElem_toArray, List.getElem_cons_succ, List.getElem_cons_zero]
                      refine wpAnyH_take (i := 12) (v := .pointer (some ⟨p, 0, none⟩)) rfl (by kernel_rfl) (by kernel_rfl) (by kernel_rfl) (fun _ _ _ h => h) (.inl ⟨by rfl, fun w' hw' => ?_⟩) hH4 ?_
                      · go_simp
                      try simp only [Act.put, List.setIfInBounds_toArray, List.set_cons_zero, List.set_cons_succ, List.getElem_toArray, List.getElem_cons_succ, List.getElem_cons_zero]
                      refine wpAnyH_take (i := 13) (v := .pointer (some ⟨bA, 1, none⟩)) rfl (by kernel_rfl) (by kernel_rfl) (by kernel_rfl) (fun _ _ _ h => h) (.inl ⟨by rfl, fun w' hw' => ?_⟩) hH4 ?_
                      · go_simp
                      try simp only [Act.put, List.setIfInBounds_toArray, List.set_cons_zero, List.set_cons_succ, List.getElem_toArray, List.getElem_cons_succ, List.getElem_cons_zero]
                      refine wpAnyH_take (i := 14) (v := .int .u64 I) rfl (by kernel_rfl) (by kernel_rfl) (by kernel_rfl) (fun _ _ _ h => h) (.inl ⟨by rfl, fun w' hw' => ?_⟩) hH4 ?_
                      · have hz := (hb2.chg hw' (by simp)).cell 1 (v := .int .u64 I) rfl
                        go_simp
                      try simp only [Act.put, List.setIfInBounds_toArray, List.set_cons_zero, List.set_cons_succ, List.getElem_toArray, List.getElem_cons_succ, List.getElem_cons_zero]
                      refine wpAnyH_take (i := 15) (v := .pointer (some ⟨bA, 2, none⟩)) rfl (by kernel_rfl) (by kernel_rfl) (by kernel_rfl) (fun _ _ _ h => h) (.inl ⟨by rfl, fun w' hw' => ?_⟩) hH4 ?_
                      · go_simp
                      try simp only [Act.put, List.setIfInBounds_toArray, List.set_cons_zero, List.set_cons_succ, List.getElem_toArray, List.getElem_cons_succ, List.getElem_cons_zero]
                      refine wpAnyH_take (i := 16) (v := .int .u64 A) rfl (by kernel_rfl) (by kernel_rfl) (by kernel_rfl) (fun _ _ _ h => h) (.inl ⟨by rfl, fun w' hw' => ?_⟩) hH4 ?_
                      · have hz := (hb2.chg hw' (by simp)).cell 2 (v := .int .u64 A) rfl
                        go_simp
                      try simp only [Act.put, List.setIfInBounds_toArray, List.set_cons_zero, List.set_cons_succ, List.getElem_toArray, List.getElem_cons_succ, List.getElem_cons_zero]
                      refine wpAnyH_take (i := 18) (v := .int .i64 j) rfl (by kernel_rfl) (by kernel_rfl) (by kernel_rfl) (fun _ _ _ h => h) (.inl ⟨by rfl, fun w' hw' => ?_⟩) hH4 ?_
                      · go_simp
                      try simp only [Act.put, List.setIfInBounds_toArray, List.set_cons_zero, List.set_cons_succ, List.getElem_toArray, List.getElem_cons_succ, List.getElem_cons_zero]
                      refine wpAnyH_take (i := 19) (v := .bool true) rfl (by kernel_rfl) (by kernel_rfl) (by kernel_rfl) (fun _ _ _ h => h) (.inl ⟨by rfl, fun w' hw' => ?_⟩) hH4 ?_
                      · go_simp
                      try simp only [Act.put, List.setIfInBounds_toArray, List.set_cons_zero, List.set_cons_succ, List.getElem_toArray, List.getElem_cons_succ, List.getElem_cons_zero]
                      refine wpAnyH_ready (rs := [17]) (by kernel_rfl) (by simp) (AllReadyH.cons rfl (fun K hK => ?_) AllReadyH.nil)
                      try rw [if_pos (by rfl)]
                      go_simp
                      go_at_call 63
                      refine (due_Late p mb T I A _ (hS2.tab.same hH4) wI).mono ?_
                      rintro e wk5 ⟨rfl, hd5⟩
                      dsimp only
                      have hH5 := hH4.trans hd5 (by simp)
                      refine hK.out _ _ hH5 (fun _ => ?_)
                      try simp only [Act.put, List.setIfInBounds_toArray, List.set_cons_zero, List.set_cons_succ, List.getElem_toArray, List.getElem_cons_succ, List.getElem_cons_zero]
                      refine wpAnyH_take (i := 20) (v := .bool true) rfl (by kernel_rfl) (by kernel_rfl) (by kernel_rfl) (fun _ _ _ h => h) (.inl ⟨by rfl, fun w' hw' => ?_⟩) hH5 ?_
                      · go_simp
                      try simp only [Act.put, List.setIfInBounds_toArray, List.set_cons_zero, List.set_cons_succ, List.getElem_toArray, List.getElem_cons_succ, List.getElem_cons_zero]
                      refine wpAnyH_take (i := 21) (v := .slice (some ⟨g, 0, none⟩) mm.length vcap) rfl (by kernel_rfl) (by kernel_rfl) (by kernel_rfl) (fun _ _ _ h => h) (.inl ⟨by rfl, fun w' hw' => ?_⟩) hH5 ?_
                      · go_simp
                      try simp only [Act.put, List.setIfInBounds_toArray, List.set_cons_zero, List.set_cons_succ, List.getElem_toArray, List.getElem_cons_succ, List.getElem_cons_zero]
                      refine wpAnyH_take (i := 22) (v := .int .i64 j) rfl (by kernel_rfl) (by kernel_rfl) (by kernel_rfl) (fun _ _ _ h => h) (.inl ⟨by rfl, fun w' hw' => ?_⟩) hH5 ?_
                      · go_simp
                      try simp only [Act.put, List.setIfInBounds_toArray, List.set_cons_zero, List.set_cons_succ, List.getElem_toArray, List.getElem_cons_succ, List.getElem_cons_zero]
                      refine wpAnyH_take (i := 23) (v := .pointer (some ⟨g, j * 3, none⟩)) rfl (by kernel_rfl) (by kernel_rfl) (by kernel_rfl) (fun _ _ _ h => h) (.inl ⟨by rfl, fun w' hw' => ?_⟩) hH5 ?_
                      · go_simp
                      try simp only [Act.put, List.setIfInBounds_toArray, List.set_cons_zero, List.set_cons_succ, List.getElem_toArray, List.getElem_cons_succ, List.getElem_cons_zero]
                      refine wpAnyH_take (i := 24) (v := .pointer (some ⟨g, j * 3 + 1, none⟩)) rfl (by kernel_rfl) (by kernel_rfl) (by kernel_rfl) (fun _ _ _ h => h) (.inl ⟨by rfl, fun w' hw' => ?_⟩) hH5 ?_
                      · go_simp
                      try simp only [Act.put, List.setIfInBounds_toArray, List.set_cons_zero, List.set_cons_succ, List.getElem_toArray, List.getElem_cons_succ, List.getElem_cons_zero]
                      refine wpAnyH_take (i := 25) (v := .int .u64 mm[j].due) rfl (by kernel_rfl) (by kernel_rfl) (by kernel_rfl) (fun _ _ _ h => h) (.inl ⟨by rfl, fun w' hw' => ?_⟩) hH5 ?_
                      · obtain ⟨g', eg, q0, q1, q2⟩ := (hS2.th.chg hw' (by simp)).cell hj
                        cases eg
                        go_simp
                      try simp only [Act.put, List.setIfInBounds_toArray, List.set_cons_zero, List.set_cons_succ, List.getElem_toArray, List.getElem_cons_succ, List.getElem_cons_zero]
                      refine wpAnyH_take (i := 26) (v := .pointer (some ⟨bA, 2, none⟩)) rfl (by kernel_rfl) (by kernel_rfl) (by kernel_rfl) (fun _ _ _ h => h) (.inl ⟨by rfl, fun w' hw' => ?_⟩) hH5 ?_
                      · go_simp
                      try simp only [Act.put, List.setIfInBounds_toArray, List.set_cons_zero, List.set_cons_succ, List.getElem_toArray, List.getElem_cons_succ, List.getElem_cons_zero]
                      refine wpAnyH_take (i := 27) (v := .int .u64 A) rfl (by kernel_rfl) (by kernel_rfl) (by kernel_rfl) (fun _ _ _ h => h) (.inl ⟨by rfl, fun w' hw' => ?_⟩) hH5 ?_
                      · have hz := (hb2.chg hw' (by simp)).cell 2 (v := .int .u64 A) rfl
                        go_simp
                      try simp only [Act.put, List.setIfInBounds_toArray, List.set_cons_zero, List.set_cons_succ, List.getElem_toArray, List.getElem_cons_succ, List.getElem_cons_zero]
                      refine wpAnyH_take (i := 28) (v := .bool (T.late I A)) rfl (by kernel_rfl) (by kernel_rfl) (by kernel_rfl) (fun _ _ _ h => h) (.inl ⟨by rfl, fun w' hw' => ?_⟩) hH5 ?_
                      · go_simp
                      try simp only [Act.put, List.setIfInBounds_toArray, List.set_cons_zero, List.set_cons_succ, List.getElem_toArray, List.getElem_cons_succ, List.getElem_cons_zero]
                      refine wpAnyH_take (i := 29) (v := .bool (T.late I A)) rfl (by kernel_rfl) (by kernel_rfl) (by kernel_rfl) (fun _ _ _ h => h) (.inl ⟨by rfl, fun w' hw' => ?_⟩) hH5 ?_
                      · go_simp
                      try simp only [Act.put, List.setIfInBounds_toArray, List.set_cons_zero, List.set_cons_succ, List.getElem_toArray, List.getElem_cons_succ, List.getElem_cons_zero]
                      refine wpAnyH_take (i := 30) (v := .bool false) rfl (by kernel_rfl) (by kernel_rfl) (by kernel_rfl) (fun _ _ _ h => h) (.inl ⟨by rfl, fun w' hw' => ?_⟩) hH5 ?_
                      · go_simp
                      try simp only [Act.put, List.setIfInBounds_toArray, List.set_cons_zero, List.set_cons_succ, List.getElem_toArray, List.getElem_cons_succ, List.getElem_cons_zero]
                      refine wpAnyH_take (i := 31) (v := .bool false) rfl (by kernel_rfl) (by kernel_rfl) (by kernel_rfl) (fun _ _ _ h => h) (.inl ⟨by rfl, fun w' hw' => ?_⟩) hH5 ?_
                      · go_simp
                      try simp only [Act.put, List.setIfInBounds_toArray, List.set_cons_zero, List.set_cons_succ, List.getElem_toArray, List.getElem_cons_succ, List.getElem_cons_zero]
                      refine wpAnyH_done (by kernel_rfl) ?_ _
                      --HELD1END
                      go_wp2
                      go_roundw
                      case rel => exact ⟨k + 1, T, mm, _, rfl, rfl, by omega, by simp, hS2.chg hH5, by omega, hcB.trans hH5 (by simp)⟩
                      case measure => simp [intOf]; omega
        · obtain rfl : k = n := by omega
          clear hst
          have hlr := hsr.tab.lt
          have hcw := hall hcr
          have hne0 : ∀ g, (Value.slice va mm.length vcap).ownBlock = some g → g < wr.heap.size := fun g e => (hsr.th.low e).2
          have hf0 : T.f 0 = none := by
            cases hf : T.f 0 with
            | none => rfl
            | some y => have := (hsr.ok.key 0 y hf).1; omega
          as_aux_lemma =>
            go_wp2_with fail
            refine (due_Copy p mb T wr hsr.tab).mono ?_
            rintro e w5 ⟨p2, mb2, rfl, ht2, hc5, hfr2⟩
            have hf1 := hfr2 p2 (by simp)
            have hf2 := hfr2 mb2 (by simp)
            have hS5 := hsr.chg hc5
            have hc05 := hcw.trans hc5 (by simp)
            have hz5 := hcw.size
            clear hfr2 hc5
            go_wp2_with (go_at_call 17; refine (due_Add p2 mb2 T ⟨#[109, 111, 114, 101]⟩ 0 w5 ht2 hsr.ok (by omega)).mono ?_; rintro e w6 ⟨rfl, ht6, hc6⟩)
            go_loopw [209] (fun s209 ws => ∃ (i : Nat) (T2 : Tab), s209 = .int .i64 i ∧ i ≤ mm.length ∧ TabAt ws p2 mb2 T2 ∧ Chg [p2, mb2] w5 ws) (fun s209 _ => mm.length - (intOf s209).toNat)
            case atStart => exact ⟨0, _, rfl, Nat.zero_le _, ht6, hc6⟩
            case round =>
              obtain ⟨i, T2, rfl, hi, ht, hc⟩ := hrel
              have hth := hS5.th.chg hc (by simp; exact ⟨fun e => by have := hne0 _ e; omega, fun e => by have := hne0 _ e; omega⟩)
              by_cases hil : i < mm.length
              · obtain ⟨g, rfl, q0, q1, q2⟩ := hth.cell hil
                have hq : Chg [] wr (wr.alloc (.cells #[.int .u64 mm[i].id, .int .u64 mm[i].due, .string mm[i].x] 111)) := (Chg.refl [] wr).alloc _
                have hdrop := due_Drop p2 mb2 T2 mm[i].id _ (ht.same hq) (hsr.mod.wf hsr.ok (List.getElem_mem hil))
                go_wp2_with (go_at_call 60; refine hdrop.mono ?_; rintro e w7 ⟨rfl, ht7, hc7⟩)
                go_roundw
                case rel => exact ⟨i + 1, _, by simp, by omega, ht7, (hc.trans hq (by simp)).trans hc7 (fun t ht => .inl (by simp at ht; simp [ht]))⟩
                case measure => simp [intOf]; omega
              · obtain rfl : i = mm.length := by omega
                have hT : TabAt wr p mb T := hS5.tab.chg hc (by simp; omega) (by simp; omega)
                have hget := due_Get p mb T 0 wr hT (by decide)
                rw [hf0] at hget
                have hcz := hc05.trans hc (by simp; omega)
                go_wp2_with (first
                  | (go_at_call 65; refine hget.mono ?_; rintro e w7 ⟨rfl, hc7⟩)
                  | (go_at_call 66; refine (law18_is s p mb T mm _ _ (hT.same hc7) hsr.ok hsr.mod (hth.chg hc7 (by simp))).mono ?_; rintro e w8 ⟨rfl, hc8⟩)
                  | (go_at_call 67; refine (due_Last p mb T _ (hT.same (hc7.trans hc8 (by simp)))).mono ?_; rintro e w9 ⟨rfl, hc9⟩))
                go_ret
                exact ⟨rfl, ((hcz.trans hc7 (by simp)).trans hc8 (by simp)).trans hc9 (by simp)⟩
  · have h2 : 60 < n := by omega
    go_enter Try.func12, Try.ntmps12
    go_wp2_with fail
    refine (law18_lives _).mono ?_
    rintro e w1 ⟨rfl, hc1⟩
    go_wp2_with fail
    refine (law18_lives _).mono ?_
    rintro e w2 ⟨rfl, hc2⟩
    go_wp2
    go_ret
    exact ⟨rfl, hc1.trans hc2 (by simp)⟩
end Go.Proofs.Ytbagkfeodjkdmaa

/- due.Over, walked. -/
import Derived.Test.YtbagkfeodjkdmaaDueOver
namespace Go.Proofs.Ytbagkfeodjkdmaa
open Go.RowKit Go.Maps Go.Shelf

theorem TabAt.lt {w : World} {p mb : Nat} {T : Tab} (h : TabAt w p mb T) : p < w.heap.size ∧ mb < w.heap.size := ⟨h.blk.lt, h.map.lt⟩

theorem ownsRow_chg {w w' : World} {n₀ : Nat} {e : TypeId} {sz : Nat} {v : Value} {k : Nat} {xs : List Value} {S : List Nat} (h : w.ownsRow n₀ e sz v k xs) (c : Chg S w w') (hS : ∀ g, v.ownBlock = some g → g ∉ S) : w'.ownsRow n₀ e sz v k xs := by
  obtain ⟨h1, h2⟩ := h
  refine ⟨h1, h2.imp id ?_⟩
  rintro ⟨g, cap, cur, rfl, hb, hg, r⟩
  exact ⟨g, cap, cur, rfl, hb, (c.block g (Array.getElem?_eq_some_iff.1 hg).1 (hS g rfl)).trans hg, r⟩
theorem ownsRow_cells {w : World} {n₀ : Nat} {e : TypeId} {sz : Nat} {v : Value} {k : Nat} {xs : List Value} (h : w.ownsRow n₀ e sz v k xs) {g : Nat} (hg : v.ownBlock = some g) : n₀ ≤ g ∧ g < w.heap.size ∧ ∃ c, w.heap[g]? = some (.cells c e (0, 0)) := by
  rcases h.2 with ⟨rfl, _⟩ | ⟨g', cap, cur, rfl, hb, hgb, _⟩
  · cases hg
  · simp [Value.ownBlock] at hg; subst hg
    exact ⟨hb, (Array.getElem?_eq_some_iff.1 hgb).1, cur, hgb⟩
theorem inBlk_own {v : Value} {k : Nat} (h : inBlk v k) : v.ownBlock = some k := by obtain ⟨o, n, c, rfl⟩ := h; rfl

set_option maxRecDepth 100000 in
set_option maxHeartbeats 1000000 in
theorem due_Over (p mb : Nat) (T : Tab) (now : Int) (w : World) (h : TabAt w p mb T) (hcnt : T.cnt ≤ 100000) :
    Calls Try.prog 19 #[.pointer (some ⟨p, 0, none⟩), .int .u64 now] w fun e w' => ∃ B v ys, e = .returned (.func (.func 136) #[] #[.pointer (some ⟨B, 0, none⟩)]) ∧ Blk w' B #[v] 22 ∧ SlI w' .u64 v ys ∧ w.heap.size ≤ B ∧ (∀ k, inBlk v k → w.heap.size ≤ k ∧ k ≠ B) ∧ Chg [] w w' ∧
      ys.Pairwise T.lt ∧ ys.length ≤ T.cnt ∧ ∀ x, x ∈ ys ↔ ((Lit.int .u64 x).wf = true ∧ T.late x now = true) := by
  obtain ⟨i0, hi, hz0, hz1, hz2⟩ := info_parts infoU64
  have hl := h.lt
  have hB := Blk.new w #[.pointer (some ⟨p, 0, none⟩)] 25
  have hc1 : Chg [] w (w.alloc (.cells #[.pointer (some ⟨p, 0, none⟩)] 25)) := (Chg.refl [] w).alloc _
  have h1 := h.same hc1
  have b0 := hB.cell 0 (v := .pointer (some ⟨p, 0, none⟩)) rfl
  have c2 := h1.blk.cell 2 (v := .map (some mb)) rfl
  obtain ⟨F, hm1, hF⟩ : ∃ F : Int → Option Value, MapV (w.alloc (.cells #[.pointer (some ⟨p, 0, none⟩)] 25)) 23 .u64 mb T.cnt F ∧ Hid (∀ x, (F x).isSome = (T.f x).isSome) := ⟨_, h1.map, fun x => by simp⟩
  have hsz : (w.alloc (.cells #[.pointer (some ⟨p, 0, none⟩)] 25)).heap.size = w.heap.size + 1 := by simp
  go_enter Try.func19, Try.ntmps19
  go_wp2_with (first
    | (at_range; refine wpList_range_v _ rfl _ 140 rfl 23 144 .u64 Try.underlying23 Try.underlying140 mb T.cnt F rfl hm1 ?_; intro w2 hrg0 hg0 hs0)
    | go_in)
  rw [hsz] at hrg0 hs0
  obtain ⟨r, hr⟩ : ∃ r, r = w.heap.size + 1 := ⟨_, rfl⟩
  rw [← hr] at hrg0
  have k2 := (Chg.refl [] _).grown hg0 (fun k e => by cases e)
  have hc2 := hc1.trans k2 (by simp)
  simp only [hsz, ← hr]
  have hB2 := hB.chg k2 (by simp)
  have hr1 : w.heap.size ≤ r := by omega
  have hr2 : r ≠ w.heap.size := by omega
  have hr3 : w2.heap.size = r + 1 := by omega
  have hr4 : mb ≠ r := by omega
  clear hr hB hc1 h1 hm1 b0 c2 hg0 hs0 hsz k2
  go_frame
  go_loopw [5] (fun s5 wr => ∃ (v : Value) (ss xs : List Int) (cn : Nat), v = s5 ∧ RngV wr 23 .u64 mb r F ss cn ∧ wr.ownsRow w.heap.size 23 1 v xs.length (xs.map (Value.int .u64)) ∧ v.ownBlock ≠ some w.heap.size ∧ xs = ss.filter (fun k => T.late k now) ∧ ss.length + cn ≤ T.cnt ∧ Blk wr w.heap.size #[.pointer (some ⟨p, 0, none⟩)] 25 ∧ Chg [] w wr) (fun _ wr => wr.rangeLeft mb r)
  case atStart => exact ⟨.slice none 0 0, [], [], T.cnt, rfl, hrg0, by simpa using World.ownsRow_nil _ _ _ _, by simp [Value.ownBlock], by simp, by simp, hB2, hc2⟩
  case round =>
    obtain ⟨v, ss, xs, cn, rfl, hrg, hrow, hnb, hxs, hcs, hBr, hcr⟩ := hrel
    subst hxs
    have hwalk := hrg.walk
    have hgr : ∀ g, v.ownBlock = some g → g ≠ r := fun g hg e => by
      obtain ⟨_, _, c, hc⟩ := ownsRow_cells hrow hg
      obtain ⟨o, ho, hw⟩ := hwalk
      rw [← e, hc] at ho; cases ho; cases hw
    go_wp2_with (first
      | (at_next; refine wpList_next_v _ rfl _ rfl 23 .u64 Try.underlying23 mb r F ss cn rfl hrg ?_ ?_)
      | go_in)
    · intro hc0 hl0
      obtain ⟨hsl, hin⟩ := SlI.of_own hrow
      obtain ⟨S, hS1, hS2⟩ : ∃ S : List Nat, (∀ k, inBlk v k → k ∈ S) ∧ ∀ k ∈ S, v.ownBlock = some k := by
        cases hv : v.ownBlock with
        | none => exact ⟨[], (fun k hk => by have := inBlk_own hk; rw [hv] at this; cases this), by simp⟩
        | some g => exact ⟨[g], (fun k hk => by have := inBlk_own hk; rw [hv] at this; cases this; simp), by simp⟩
      have hS3 : ∀ k ∈ S, w.heap.size ≤ k := fun k hk => (ownsRow_cells hrow (hS2 k hk)).1
      have hvlt : ∀ k, inBlk v k → k < wr.heap.size := fun k hk => (ownsRow_cells hrow (inBlk_own hk)).2.1
      obtain ⟨_, _, _, _, _, hnd, _⟩ := hrg
      have hmem : ∀ x, x ∈ ss.filter (fun k => T.late k now) ↔ ((Lit.int .u64 x).wf = true ∧ T.late x now = true) := fun x => by
        rw [List.mem_filter, hl0 x]
        constructor
        · rintro ⟨⟨h1, _⟩, h2⟩; exact ⟨h1, h2⟩
        · rintro ⟨h1, h2⟩
          refine ⟨⟨h1, ?_⟩, h2⟩
          unfold Tab.late at h2
          cases hf : T.f x with
          | none => rw [hf] at h2; cases h2
          | some y => rw [hF.out, hf]; rfl
      have hlen : (ss.filter (fun k => T.late k now)).length ≤ T.cnt := Nat.le_trans (List.length_filter_le _ _) (by omega)
      have hsort := sortFunc_due w.heap.size p mb T v _ S wr hBr (h.same hcr) hsl (fun x hx => ((hmem x).1 hx).1) (hnd.filter _) (by omega) hS1 (fun hk => hnb (hS2 _ hk)) (fun hk => by have := hS3 _ hk; omega) (fun hk => by have := hS3 _ hk; omega)
      have hvl : ∀ W, Calls Try.prog 82 #[v] W fun e w' => e = .returned (.func (.func 136) #[] #[.pointer (some ⟨W.heap.size, 0, none⟩)]) ∧ w' = W.alloc (.cells #[v] 22) := fun W => by
        obtain ⟨va, vcap, hv⟩ := hsl.len
        rw [hv]; exact Values_u64 _ _ _ W
      generalize ss.filter (fun k => T.late k now) = xs at *
      go_wp2_with (first
        | (go_at_call 78; refine hsort.mono ?_; rintro e w3 ⟨rfl, ys, hperm, hpw, hs3, hc3⟩)
        | (go_at_call 82; refine (hvl _).mono ?_; rintro e w4 ⟨rfl, rfl⟩))
      go_ret
      have hz := hc3.size
      have hz2 := hcr.size
      refine ⟨w3.heap.size, v, ys, rfl, Blk.new w3 #[v] 22, hs3.chg ((Chg.refl [] w3).alloc _) (by simp), by omega, fun k hk => ⟨hin k hk, ?_⟩, (hcr.trans hc3 (fun t ht => .inr (hS3 t ht))).alloc _, hpw, ?_, fun x => ?_⟩
      · have := hvlt k hk; omega
      · rw [hperm.length_eq]; exact hlen
      · rw [hperm.mem_iff, hmem]
    · intro x v0 w8 cn2 hwx hfx hxs hrg2 hlt2 hg2 hs2 hen
      have k8 := (Chg.refl [r] wr).grown hg2 (fun k e => by cases e; simp)
      have hc8 := hcr.trans k8 (by simp [hr1])
      have hB8 := hBr.chg k8 (by simp; omega)
      have b0 := hB8.cell 0 (v := .pointer (some ⟨p, 0, none⟩)) rfl
      have hLate := due_Late p mb T x now w8 (h.same hc8) hwx
      have hflen : (ss.filter (fun k => T.late k now)).length ≤ 100000 := Nat.le_trans (List.length_filter_le _ _) (by omega)
      have hrow8 := ownsRow_chg hrow k8 (fun g hg => by simp; exact hgr g hg)
      by_cases hb : T.late x now = true
      · rw [hb] at hLate
        go_wp2_with (first
          | (go_at_call 63; refine hLate.mono ?_; rintro e w9 ⟨rfl, hc9⟩; have hrow9 := ownsRow_chg hrow8 hc9 (by simp); have hz9 := (hc8.trans hc9 (by simp)).size)
          | (at_builtin; refine wpList_append_own_at _ rfl _ _ 22 rfl w.heap.size 23 i0 (.int .u64 0) 1 8 Try.underlying22 hi hz0 hz1 hz2 rfl (by decide) v _ _ rfl (hrow9.alloc _) ⟨w9.heap.size, 0, none⟩ 1 1 [.int .u64 x] rfl rfl (cell_one_new _ _ _) (by simp [Value.oneCell']) (by unfold maxLen; omega) (by omega) (by simp; omega) ?_; intro v' w10 hown' hgrow hnil' hloc)
          | go_in)
        have k9 := k8.trans hc9 (fun t ht => by cases ht)
        have hgr9 := hgrow
        obtain ⟨Sg, hSg1, hSg2⟩ : ∃ Sg : List Nat, (∀ k, v.ownBlock = some k → k ∈ Sg) ∧ ∀ k ∈ Sg, v.ownBlock = some k := by
          cases hv : v.ownBlock with
          | none => exact ⟨[], (fun k hk => by cases hk), by simp⟩
          | some g => exact ⟨[g], (fun k hk => by cases hk; simp), by simp⟩
        have hSg3 : ∀ k ∈ Sg, w.heap.size ≤ k := fun k hk => (ownsRow_cells hrow (hSg2 k hk)).1
        have kA : Chg Sg w9 w10 := ((Chg.refl Sg w9).alloc _).grown hgrow (fun k e => .inl (hSg1 k e))
        have hrgA := (hrg2.chg hc9 (by simp) (by simp)).chg kA (fun h => by have := hSg3 _ h; omega) (fun h => hgr _ (hSg2 _ h) rfl)
        have hBA := (hB8.chg hc9 (by simp)).chg kA (fun h => hnb (hSg2 _ h))
        have hcA := (hc8.trans hc9 (by simp)).trans kA (fun t ht => .inr (hSg3 t ht))
        go_roundw
        case rel =>
          refine ⟨v', ss ++ [x], (ss ++ [x]).filter (fun k => T.late k now), cn2, rfl, hrgA, ?_, ?_, rfl, by simp; omega, hBA, hcA⟩
          · rw [List.filter_append, show [x].filter (fun k => T.late k now) = [x] by simp [hb]]
            simpa using hown'
          · rcases hloc with h | h
            · rw [h]; exact hnb
            · rw [h]; simp; omega
        case measure => rw [hrgA.left_eq, hrg.left_eq]; exact hlt2
      · have hb' : T.late x now = false := by simpa using hb
        rw [hb'] at hLate
        go_wp2_with (go_at_call 63; refine hLate.mono ?_; rintro e w9 ⟨rfl, hc9⟩)
        have hrgA := hrg2.chg hc9 (by simp) (by simp)
        go_roundw
        case rel =>
          refine ⟨v, ss ++ [x], (ss ++ [x]).filter (fun k => T.late k now), cn2, rfl, hrgA, ?_, hnb, rfl, by simp; omega, hB8.chg hc9 (by simp), hc8.trans hc9 (by simp)⟩
          rw [List.filter_append, show [x].filter (fun k => T.late k now) = [] by simp [hb'], List.append_nil]
          exact ownsRow_chg hrow8 hc9 (by simp)
        case measure => rw [hrgA.left_eq, hrg.left_eq]; exact hlt2
end Go.Proofs.Ytbagkfeodjkdmaa

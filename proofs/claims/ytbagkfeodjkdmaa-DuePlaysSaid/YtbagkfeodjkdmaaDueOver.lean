/- due.Over of a table that is there. -/
import Derived.Test.YtbagkfeodjkdmaaDueCmp
import Derived.Test.YtbagkfeodjkdmaaDueLays
import Derived.Test.YtbagkfeodjkdmaaDueNone
import Derived.Shelf.SlSortCmp.NoneTotal
namespace Go.Proofs.Ytbagkfeodjkdmaa
open Go.RowKit Go.Maps Go.Shelf

/-- whole numbers that a u64 can be. -/
abbrev U64 : Type := { x : Int // (Lit.int .u64 x).wf = true }
instance : Inhabited U64 := ⟨⟨0, by decide⟩⟩
def encU : U64 → Value := fun x => .int .u64 x.1

open Go.Sort in
theorem SlI.laid {W : World} {g off cap len : Nat} {l : List Int} (h : SlI W .u64 (.slice (some ⟨g, off, none⟩) len cap) l) (ts : List U64) (hl : ts.length = l.length) (n : Nat) (os : Array Obj) :
    SlI (grow (putRow encU (Sort.ahead W n) g off ts.toArray) os) .u64 (.slice (some ⟨g, off, none⟩) len cap) (ts.map (·.1)) := by
  rcases h with ⟨e, _⟩ | ⟨b, off', cap', c, t, e, hb, hc⟩
  · cases e
  · cases e
    refine .inr ⟨g, off, cap, putCells encU off ts.toArray c, t, by simp [hl], ?_, fun i hi => ?_⟩
    · show (grow _ os).heap[g]? = _
      have hg : g < W.heap.size := hb.lt
      rw [heap_grow_old _ _ (by simpa using hg)]
      have hb' : W.heap[g]? = some (.cells c t (0, 0)) := hb
      simp [putRow, mapBlock, Sort.ahead, Array.getElem?_modify, hb', onCells]
    · have hi' : i < ts.length := by simpa using hi
      have := hc i (by omega)
      have hlt : off + i < c.size := by
        by_cases h : off + i < c.size
        · exact h
        · rw [Array.getElem?_eq_none (by omega)] at this; cases this
      simp [putCells, hi', hlt, encU]
open Go.Sort in
theorem chg_laid {α : Type} [Inhabited α] (W : World) (enc : α → Value) (g off n : Nat) (d : Array α) (os : Array Obj) (S : List Nat) (hg : g ∈ S) : Chg S W (grow (putRow enc (Sort.ahead W n) g off d) os) := by
  refine ⟨rfl, rfl, rfl, by simp, fun k hk hne => ?_⟩
  rw [heap_grow_old _ _ (by simpa using hk)]
  have : g ≠ k := fun e => hne (by rw [← e]; exact hg)
  simp [putRow, mapBlock, Sort.ahead, Array.getElem?_modify, this]
open Go.Sort in
theorem SlI.holdsU {W : World} {g off cap len : Nat} {ts : List U64} (h : SlI W .u64 (.slice (some ⟨g, off, none⟩) len cap) (ts.map (·.1))) : Holds encU W g off ts.toArray ∧ g < W.heap.size ∧ len = ts.length := by
  rcases h with ⟨e, _⟩ | ⟨b, off', cap', c, t, e, hb, hc⟩
  · cases e
  · cases e
    refine ⟨fun j hj => ?_, hb.lt, by simp⟩
    have hj' : j < ts.length := by simpa using hj
    exact ⟨by rw [hb.cell _ (hc j (by simpa using hj'))]; simp [hj', encU], hb.free _⟩

/-! ### the order -/
theorem cmpI_lt (x y : Int) : cmpI x y < 0 ↔ x < y := by unfold cmpI; split <;> (try split) <;> omega
theorem cmpI_eq (x y : Int) : cmpI x y = 0 ↔ x = y := by unfold cmpI; split <;> (try split) <;> omega
def Tab.lt (T : Tab) (x y : Int) : Prop := T.dueOf x < T.dueOf y ∨ (T.dueOf x = T.dueOf y ∧ x < y)
instance (T : Tab) (x y : Int) : Decidable (T.lt x y) := by unfold Tab.lt; exact inferInstance
theorem Tab.cf_lt (T : Tab) (x y : Int) : T.cf x y < 0 ↔ T.lt x y := by
  unfold Tab.cf Tab.lt
  by_cases h : cmpI (T.dueOf x) (T.dueOf y) = 0
  · rw [if_pos h, cmpI_lt]; have := (cmpI_eq _ _).1 h; omega
  · rw [if_neg h, cmpI_lt]; have : T.dueOf x ≠ T.dueOf y := fun e => h ((cmpI_eq _ _).2 e); omega
def Tab.cfU (T : Tab) (x y : U64) : Int := T.cf x.1 y.1
theorem Tab.swo (T : Tab) : Sort.SWO (ltOf T.cfU) := by
  have e : ∀ x y : U64, ltOf T.cfU x y = decide (T.lt x.1 y.1) := fun x y => decide_eq_decide.2 (T.cf_lt x.1 y.1)
  refine ⟨fun x => ?_, fun x y z => ?_, fun x y z => ?_⟩
  · rw [e]; simp [Tab.lt]
  · rw [e, e, e]; simp only [decide_eq_true_eq]; unfold Tab.lt; intro h1 h2; omega
  · rw [e, e, e]; simp only [decide_eq_false_iff_not]; unfold Tab.lt; intro h1 h2; omega
theorem Tab.total (T : Tab) (x y : U64) (h1 : ltOf T.cfU x y = false) (h2 : ltOf T.cfU y x = false) : x = y := by
  have e : ∀ x y : U64, ltOf T.cfU x y = decide (T.lt x.1 y.1) := fun x y => decide_eq_decide.2 (T.cf_lt x.1 y.1)
  rw [e] at h1 h2
  have h3 : ¬ T.lt x.1 y.1 := of_decide_eq_false h1
  have h4 : ¬ T.lt y.1 x.1 := of_decide_eq_false h2
  unfold Tab.lt at h3 h4
  exact Subtype.ext (by omega)

/-- slices.SortFunc with Over's order. -/
theorem sortFunc_due (B p mb : Nat) (T : Tab) (v : Value) (xs : List Int) (S : List Nat) (w : World) (hB : Blk w B #[.pointer (some ⟨p, 0, none⟩)] 25) (h : TabAt w p mb T) (hs : SlI w .u64 v xs) (hwf : ∀ x ∈ xs, (Lit.int .u64 x).wf = true) (hnd : xs.Nodup)
    (hl : xs.length ≤ 1000000) (hS : ∀ k, inBlk v k → k ∈ S) (s1 : B ∉ S) (s2 : p ∉ S) (s3 : mb ∉ S) :
    Calls Try.prog 78 #[v, .func (.func 79) #[] #[.pointer (some ⟨B, 0, none⟩)]] w fun e w' => e = .returned (.tuple #[]) ∧ ∃ ys, ys.Perm xs ∧ ys.Pairwise T.lt ∧ SlI w' .u64 v ys ∧ Chg S w w' := by
  have hs0 := hs
  rcases hs with ⟨rfl, rfl⟩ | ⟨b, off, cap, c, t, rfl, hb, hc⟩
  · refine (AnyF.slices_SortFunc_none { Try.dueSort with } none 0 _ w).mono ?_
    rintro e w' ⟨rfl, rfl⟩
    exact ⟨rfl, [], .refl _, List.Pairwise.nil, hs0, Chg.refl _ _⟩
  · obtain ⟨us, rfl⟩ : ∃ us : List U64, us.map (·.1) = xs := ⟨xs.attach.map (fun x => ⟨x.1, hwf x.1 x.2⟩), by simp⟩
    obtain ⟨hH, hlt, hlen⟩ := hs0.holdsU
    have hcmp : CmpLays1 Try.prog 79 #[.pointer (some ⟨B, 0, none⟩)] encU T.cfU b off us.toArray.size w := fun m os dk _ x y => by
      have hk : Chg S w (sortWorld encU w b off m dk os) := chg_laid w encU b off m dk os S (hS b ⟨off, _, cap, rfl⟩)
      exact due_Over1 B p mb T x.1 y.1 _ (hB.chg hk s1) (h.chg hk s2 s3) x.2 y.2
    have hT := Any.slices_SortFunc_total Try.dueSort encU (fun _ => rfl) T.cfU T.swo 79 #[.pointer (some ⟨B, 0, none⟩)] b off cap us.toArray w (enters_of Try.func79 (by kernel_rfl) rfl) hcmp hH hlt (show us.toArray.size < 4611686018427387904 by simp at hl ⊢; omega) T.total
    simp only [List.size_toArray] at hT
    rw [show (us.map (·.1)).length = us.length by simp]
    refine hT.mono ?_
    rintro e w' ⟨rfl, n, os, rfl⟩
    have hperm : (us.mergeSort fun x y => !(ltOf T.cfU) y x).Perm us := List.mergeSort_perm us _
    refine ⟨rfl, (us.mergeSort fun x y => !(ltOf T.cfU) y x).map (·.1), hperm.map _, ?_, ?_, chg_laid w encU b off n _ os S (hS b ⟨off, _, cap, rfl⟩)⟩
    · have e : ∀ x y : U64, ltOf T.cfU x y = decide (T.lt x.1 y.1) := fun x y => decide_eq_decide.2 (T.cf_lt x.1 y.1)
      have hp := List.pairwise_mergeSort (le := fun x y : U64 => !(ltOf T.cfU) y x) (fun a b c h1 h2 => by
        simp only [Bool.not_eq_true'] at *; exact T.swo.ntrans _ _ _ h2 h1) (fun a b => by
        rw [e, e]; simp only [Bool.or_eq_true, Bool.not_eq_true', decide_eq_false_iff_not]; unfold Tab.lt; omega) us
      have hnd2 : (us.mergeSort fun x y => !(ltOf T.cfU) y x).Nodup := hperm.nodup_iff.2 (by
        have h := hnd
        rw [List.Nodup, List.pairwise_map] at h
        exact h.imp (fun hne e => hne (by rw [e])))
      rw [List.pairwise_map]
      refine (hp.and hnd2).imp ?_
      rintro a b ⟨h1, h2⟩
      simp only [Bool.not_eq_true'] at h1
      rw [e] at h1
      simp only [decide_eq_false_iff_not] at h1
      have h3 : a.1 ≠ b.1 := fun h => h2 (Subtype.ext h)
      unfold Tab.lt at h1 ⊢
      omega
    · have := hs0.laid (us.mergeSort fun x y => !(ltOf T.cfU) y x) (by simp) n os
      rw [show (us.map (·.1)).length = us.length by simp] at this
      exact this
end Go.Proofs.Ytbagkfeodjkdmaa

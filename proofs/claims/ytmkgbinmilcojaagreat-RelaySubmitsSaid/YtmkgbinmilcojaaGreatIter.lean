/- Range over functions: what a loop's body may change (Kp), slices of whole numbers that are read (SlI), . -/
import Derived.Test.YtmkgbinmilcojaaGreatLib
import Derived.RangeFuncNested
import Derived.RangeFuncBound
import Derived.RangeFuncCalls
import Derived.RangeFuncLeaves
import Derived.Shelf.Abstract
import Derived.Shelf.RegionOpen
import Derived.OwnWalkIn
import Derived.TacticsInMore
import Derived.LoopNIn
import Derived.LoopIn
import Derived.RangeFuncBox
import Derived.Maps.OwnIn
import Derived.Maps.AppendAt
namespace Go.Proofs.YtmkgbinmilcojaaGreat
open Go.RowKit Go.Maps Go.Shelf
attribute [local go_sem] Oper.semAt_some

/-- blocks that a body may write: those of Fx, the boxes Bs, and the rows to which the slices in the boxes lead. -/
def Tch (Fx Bs : List Nat) (W : World) (k : Nat) : Prop := k ∈ Fx ∨ k ∈ Bs ∨ ∃ B ∈ Bs, ∃ o n c, W.cell? ⟨B, 0, none⟩ = some (.slice (some ⟨k, o, none⟩) n c)
/-- what a round of the body leaves: cells, maps and their walks stand, but for what the body may write. -/
structure Kp (Fx Bs : List Nat) (W W' : World) : Prop where
  size : W.heap.size ≤ W'.heap.size
  same : ∀ k o, W.heap[k]? = some o → (o.isCells = true ∨ o.isWalk = true) → ¬ Tch Fx Bs W k → W'.heap[k]? = some o
  old : ∀ k, k < W.heap.size → Tch Fx Bs W' k → Tch Fx Bs W k
  low : (∀ k, Tch Fx Bs W k → k < W.heap.size) → ∀ k, Tch Fx Bs W' k → k < W'.heap.size
theorem Kp.refl (Fx Bs : List Nat) (W : World) : Kp Fx Bs W W := ⟨Nat.le_refl _, fun _ _ h _ _ => h, fun _ _ h => h, fun h => h⟩
theorem Kp.trans {Fx Bs : List Nat} {A B C : World} (h : Kp Fx Bs A B) (k : Kp Fx Bs B C) : Kp Fx Bs A C :=
  ⟨Nat.le_trans h.size k.size, fun b o hb ho hn => k.same b o (h.same b o hb ho hn) ho (fun t => hn (h.old b (Array.getElem?_eq_some_iff.1 hb).1 t)),
    fun b hb t => h.old b hb (k.old b (Nat.lt_of_lt_of_le hb h.size) t), fun l => k.low (h.low l)⟩
theorem Tch.of_cells {Fx Bs : List Nat} {W W' : World} (h : ∀ B ∈ Bs, ∀ o n c k, W'.cell? ⟨B, 0, none⟩ = some (.slice (some ⟨k, o, none⟩) n c) → W.cell? ⟨B, 0, none⟩ = some (.slice (some ⟨k, o, none⟩) n c)) {k : Nat} (t : Tch Fx Bs W' k) : Tch Fx Bs W k := by
  rcases t with t | t | ⟨B, hB, o, n, c, t⟩
  · exact .inl t
  · exact .inr (.inl t)
  · exact .inr (.inr ⟨B, hB, o, n, c, h B hB o n c k t⟩)
theorem cell_putObj {W : World} {l : Nat} {o o' : Obj} (hl : W.heap[l]? = some o) (_ : o.isCells = false) {a : Addr} {v : Value} (h : (W.putObj l o').cell? a = some v) (hs : o'.isCells = false) : W.cell? a = some v := by
  by_cases e : a.block = l
  · exfalso
    have hl' : l < W.heap.size := (Array.getElem?_eq_some_iff.1 hl).1
    have : (W.putObj l o').heap[a.block]? = some o' := by rw [e]; simp [World.putObj, hl']
    simp only [World.cell?, this] at h
    cases o' <;> simp [Obj.isCells] at hs h
  · simp only [World.cell?] at h ⊢
    rwa [World.putObj_heap_other e] at h
theorem Kp.trans' {Fx Bs : List Nat} : ∀ {A B C : World}, Kp Fx Bs A B → Kp Fx Bs B C → Kp Fx Bs A C := fun h k => h.trans k

theorem kp_b {Fx Bs : List Nat} {s : Nat} (hBs : ∀ B ∈ Bs, B < s) (W : World) (l : Nat) (o o' : Obj) (hl : s ≤ l) (hw : W.heap[l]? = some o) (hc : o.isCells = false) (hk : o.isWalk = false) : Kp Fx Bs W (W.putObj l o') := by
  have hcell : ∀ B ∈ Bs, (W.putObj l o').cell? ⟨B, 0, none⟩ = W.cell? ⟨B, 0, none⟩ := fun B hB => by
    simp only [World.cell?]; rw [World.putObj_heap_other (by have := hBs B hB; omega)]
  have ht : ∀ k, Tch Fx Bs (W.putObj l o') k → Tch Fx Bs W k := fun k t => t.of_cells (fun B hB o n c k h => (hcell B hB) ▸ h)
  refine ⟨by simp, fun k o1 h1 h2 _ => ?_, fun k _ t => ht k t, fun hlow k t => by have := hlow k (ht k t); simpa using this⟩
  by_cases e : k = l
  · subst e; rw [hw] at h1; cases h1; rcases h2 with h2 | h2 <;> simp_all
  · rw [World.putObj_heap_other e]; exact h1

/-- what an iterator's contract is told of the loop's boxes. -/
structure ItPre (Fx Bs : List Nat) (w : World) : Prop where
  lt : ∀ B ∈ Bs, B < w.heap.size
  low : ∀ k, Tch Fx Bs w k → k < w.heap.size
theorem ItPre.tch {Fx Bs : List Nat} {w W : World} {R : List Nat} (h : ItPre Fx Bs w) (c : Chg R w W) (hR : ∀ B ∈ Bs, B ∉ R) (k : Nat) : Tch Fx Bs W k ↔ Tch Fx Bs w k := by
  have hcell : ∀ B ∈ Bs, W.cell? ⟨B, 0, none⟩ = w.cell? ⟨B, 0, none⟩ := fun B hB => World.cell?_of_block (w := w) (c.block B (h.lt B hB) (hR B hB))
  exact ⟨fun t => t.of_cells (fun B hB o n c k e => (hcell B hB) ▸ e), fun t => t.of_cells (fun B hB o n c k e => (hcell B hB).symm ▸ e)⟩
theorem ItPre.chg {Fx Bs : List Nat} {w W : World} {R : List Nat} (h : ItPre Fx Bs w) (c : Chg R w W) (hR : ∀ B ∈ Bs, B ∉ R) : ItPre Fx Bs W :=
  ⟨fun B hB => Nat.lt_of_lt_of_le (h.lt B hB) c.size, fun k t => Nat.lt_of_lt_of_le (h.low k ((h.tch c hR k).1 t)) c.size⟩
theorem ItPre.kp {Fx Bs : List Nat} {w W : World} (h : ItPre Fx Bs w) (c : Kp Fx Bs w W) : ItPre Fx Bs W :=
  ⟨fun B hB => Nat.lt_of_lt_of_le (h.lt B hB) c.size, c.low h.low⟩
theorem Chg.of_below' {s : Nat} {a w : World} (h : Below s a w) (hs : a.heap.size ≤ s) : Chg [] a w :=
  ⟨h.os, h.tape, h.output, h.size, fun k hk _ => h.block k (by omega)⟩
theorem Blk.kp {Fx Bs : List Nat} {w W : World} {b : Nat} {c : Array Value} {t : TypeId} (h : Blk w b c t) (k : Kp Fx Bs w W) (hn : ¬ Tch Fx Bs w b) : Blk W b c t := k.same b _ h (.inl rfl) hn

/-- the slice value v holds the whole numbers l. -/
def SlI (W : World) (kq : IntKind) (v : Value) (l : List Int) : Prop :=
  (v = .slice none 0 0 ∧ l = []) ∨ ∃ b off cap c t, v = .slice (some ⟨b, off, none⟩) l.length cap ∧ Blk W b c t ∧ ∀ i (h : i < l.length), c[off + i]? = some (.int kq l[i])
/-- the block of a slice value. -/
def inBlk (v : Value) (k : Nat) : Prop := ∃ o n c, v = .slice (some ⟨k, o, none⟩) n c
theorem SlI.chg {w W : World} {S : List Nat} {kq : IntKind} {v : Value} {l : List Int} (h : SlI w kq v l) (c : Chg S w W) (hS : ∀ b ∈ S, ¬ inBlk v b) : SlI W kq v l := by
  rcases h with h | ⟨b, off, cap, cs, t, rfl, hb, hc⟩
  · exact .inl h
  · exact .inr ⟨b, off, cap, cs, t, rfl, hb.chg c (fun e => hS b e ⟨off, _, cap, rfl⟩), hc⟩
theorem SlI.kp {Fx Bs : List Nat} {w W : World} {kq : IntKind} {v : Value} {l : List Int} (h : SlI w kq v l) (c : Kp Fx Bs w W) (hS : ∀ b, inBlk v b → ¬ Tch Fx Bs w b) : SlI W kq v l := by
  rcases h with h | ⟨b, off, cap, cs, t, rfl, hb, hc⟩
  · exact .inl h
  · exact .inr ⟨b, off, cap, cs, t, rfl, hb.kp c (hS b ⟨off, _, cap, rfl⟩), hc⟩
theorem SlI.cell {W : World} {kq : IntKind} {a : Option Addr} {n cap : Nat} {l : List Int} (h : SlI W kq (.slice a n cap) l) {i : Nat} (hi : i < l.length) : ∃ b off, a = some ⟨b, off, none⟩ ∧ W.cell? ⟨b, off + i, none⟩ = some (.int kq l[i]) := by
  rcases h with ⟨_, rfl⟩ | ⟨b, off, cap, cs, t, e, hb, hc⟩
  · cases hi
  · cases e
    exact ⟨b, off, rfl, hb.cell _ (hc i hi)⟩
theorem SlI.len {W : World} {kq : IntKind} {v : Value} {l : List Int} (h : SlI W kq v l) : ∃ a cap, v = .slice a l.length cap := by
  rcases h with ⟨rfl, rfl⟩ | ⟨b, off, cap, cs, t, rfl, hb, hc⟩
  · exact ⟨none, 0, rfl⟩
  · exact ⟨_, cap, rfl⟩
theorem take_succ_getD (l : List Int) {k : Nat} (h : k < l.length) : l.take (k + 1) = l.take k ++ [l[k]] := by
  rw [List.take_succ_eq_append_getElem h]

/-- what an append to a boxed slice of the body's own leaves. -/
theorem kp_app {W w1 : World} {n₀ B : Nat} {t e : TypeId} {size : Nat} {v v' : Value} {k m : Nat} {xs ys : List Value} {tmp : Obj} (hv : Boxed W B t v) (hte : t ≠ e) (hrow : W.ownsRow n₀ e size v k xs)
    (hown' : w1.ownsRow n₀ e size v' m ys) (hgrow : (W.alloc tmp).grownBy w1 v.ownBlock) (hloc : v'.ownBlock = v.ownBlock ∨ v'.ownBlock = some (W.alloc tmp).heap.size) : Kp [] [B] W (w1.setCell ⟨B, 0, none⟩ v') := by
  have hv1 : Boxed w1 B t v := (hv.alloc tmp).kept hgrow (hv.not_row hte hrow)
  have hv2 := hv1.set v'
  have hsz : W.heap.size + 1 ≤ w1.heap.size := by have := hgrow.size; simpa using this
  have hsz2 : (w1.setCell ⟨B, 0, none⟩ v').heap.size = w1.heap.size := by simp [World.setCell]
  have hnew : ∀ k, Tch [] [B] (w1.setCell ⟨B, 0, none⟩ v') k → k = B ∨ v'.ownBlock = some k := by
    rintro k (h | h | ⟨B', hB', o, n, c, h⟩)
    · cases h
    · exact .inl (by simpa using h)
    · obtain rfl : B' = B := by simpa using hB'
      rw [hv2.cell] at h; cases h; exact .inr rfl
  have hv'lt : ∀ g, v'.ownBlock = some g → g < w1.heap.size := by
    intro g hg
    rcases hown'.2 with ⟨rfl, _⟩ | ⟨g', cap, cur, rfl, _, hgb, _⟩
    · cases hg
    · simp [Value.ownBlock] at hg; subst hg; exact (Array.getElem?_eq_some_iff.1 hgb).1
  have hold : ∀ g, v.ownBlock = some g → Tch [] [B] W g := by
    intro g hg
    rcases hrow.2 with ⟨rfl, _⟩ | ⟨g', cap, cur, rfl, _, hgb, _⟩
    · cases hg
    · simp [Value.ownBlock] at hg; subst hg; exact .inr (.inr ⟨B, by simp, 0, k, cap, hv.cell⟩)
  refine ⟨by omega, fun b o hb ho hn => ?_, fun b hb h => ?_, fun _ b h => ?_⟩
  · have hb1 : b ≠ B := fun e => hn (.inr (.inl (by simp [e])))
    have hb2 : some b ≠ v.ownBlock := fun e => hn (hold b e.symm)
    have hlt := (Array.getElem?_eq_some_iff.1 hb).1
    rw [Below.heap_setCell _ _ _ b (by simpa using hb1), hgrow.block b (by simp; omega) hb2, Below.heap_alloc _ _ _ hlt]
    exact hb
  · rcases hnew b h with rfl | h
    · exact .inr (.inl (by simp))
    · rcases hloc with hl | hl
      · exact hold b (hl ▸ h)
      · rw [hl] at h; simp at h; omega
  · rcases hnew b h with rfl | h
    · rw [hsz2]; exact hv1.lt
    · rw [hsz2]; exact hv'lt b h
end Go.Proofs.YtmkgbinmilcojaaGreat

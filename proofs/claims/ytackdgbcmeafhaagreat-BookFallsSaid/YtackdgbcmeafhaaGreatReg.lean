/- Laws for single operations of a drawn region: alloc, a whole store into a block that is known. -/
import Derived.Test.YtackdgbcmeafhaaGreatLib
import Derived.Deep.RegionHeld3
import Derived.Deep.MidRow
import Derived.Deep.DeepCutAuto
namespace Go.Proofs.YtackdgbcmeafhaaGreat
open Go.RowKit Go.Maps

section
variable {w : World} {o : Oper} {a : Act} {K : Act → World → Prop} {Q : Exit → Act → World → Prop}
theorem op_alloc (t : TypeId) (d : Nat) (hd : o.dst = some d) (ho : o.op = .alloc t) {z : Array Value} (hz : ∀ w, (zeroValue t).run Tryz.prog w = .ok (.agg z) w)
    (h : K (a.put (some d) (.pointer (some ⟨w.heap.size, 0, none⟩))) (w.alloc (.cells z t))) : o.wp Tryz.prog a w K Q := by
  unfold Oper.wp
  simp [execOp, ho, Instr.alloc, Sem.run_bind, hz, newVar, newRow, Value.cells, Result.andThen]
  show K (a.put o.dst _) _; rw [hd]; exact h
theorem setCells_blkR {b : Nat} {t : TypeId} : ∀ (vs : List Value) (o : Nat) (w : World) (c : Array Value), Blk w b c t → ∃ c', Blk (w.setCells b o vs) b c' t ∧ c'.size = c.size
  | [], _, _, c, h => ⟨c, h, rfl⟩
  | v :: vs, o, w, c, h => by
    obtain ⟨c', h', e⟩ := setCells_blkR vs (o + 1) (w.setCell ⟨b, o, none⟩ v) _ (h.set o v)
    exact ⟨c', h', by simpa using e⟩
theorem setCells_chgR {b : Nat} {S : List Nat} {a : World} (hb : b ∈ S ∨ a.heap.size ≤ b) : ∀ (vs : List Value) (o : Nat) (w : World), Chg S a w → Chg S a (w.setCells b o vs)
  | [], _, _, h => h
  | v :: vs, o, w, h => setCells_chgR hb vs (o + 1) _ (h.setCell hb v)
theorem op_store (t : TypeId) (x y : Operand) (hd : o.dst = none) (ho : o.op = .store t x y) {b : Nat} (hx : a.eval x = .pointer (some ⟨b, 0, none⟩)) {cs : List Value} (hy : a.eval y = .agg cs.toArray) {old : Array Value} {T : TypeId} (hb : Blk w b old T)
    (hs : old.size = cs.length) (hi : (Tryz.prog.info? t).map (·.size) = some cs.length) (h1 : ∀ v ∈ cs, v.oneCell' = true)
    (h : ∀ w2, Blk w2 b cs.toArray T → Chg [b] w w2 → K a w2) : o.wp Tryz.prog a w K Q := by
  refine wp_store_mid t x y ho b 0 cs.toArray hx hy (fun j hj => ⟨?_, hb.free _⟩) (by simpa using hi) (all_oneCell_toArray h1) ?_
  · rw [hb.cell (0 + j) (v := old.getD (0 + j) undef) (by simp [show j < old.size by simp at hj; omega])]; rfl
  · rw [hd]; refine h _ ?_ ?_
    · obtain ⟨c', h', e'⟩ := setCells_blkR cs.toArray.toList 0 w old hb
      have : c' = cs.toArray := by
        apply Array.ext_getElem?
        intro j
        by_cases hj : j < cs.length
        · have h1 := World.cell?_setCells_in b cs.toArray.toList 0 w (fun j hj => by
            rw [hb.cell (0 + j) (v := old.getD (0 + j) undef) (by simp [show j < old.size by simp at hj; omega])]; rfl) j (by simpa using hj)
          have h2 := h'.cell (0 + j) (v := c'.getD j undef) (by simp [show j < c'.size by omega])
          rw [h1] at h2
          simp [show j < c'.size by omega, hj] at h2 ⊢
          exact h2.symm
        · simp [show ¬ j < c'.size by omega, hj]
      rw [this] at h'; exact h'
    · exact setCells_chgR (.inl (by simp)) _ _ _ (Chg.refl _ _)
end
end Go.Proofs.YtackdgbcmeafhaaGreat

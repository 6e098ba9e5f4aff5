/- Maps with whole-number keys inside a fenced walk; clones. -/
import Derived.Test.YtackdgbcmeafhaaGreatRange
namespace Go.Proofs.YtackdgbcmeafhaaGreat
open Go.RowKit Go.Maps Go.Shelf

section
variable {w w' : World} {K : TypeId} {kq : IntKind} {b cnt : Nat} {f : Int → Option Value}
theorem MapV.cloned (h : MapV w K kq b cnt f) : ∃ es clock, w.heap[b]? = some (.map es clock) ∧ ∀ W c, W.heap[c]? = some (.map es clock) → MapV W K kq c cnt f := by
  obtain ⟨D, ⟨es, clock, h1, r⟩, k⟩ := h
  exact ⟨es, clock, h1, fun W c hc => ⟨D, ⟨es, clock, hc, r⟩, k⟩⟩
end
section
variable (w : World) {F : Fence} {n : Nat} {ops : Array Oper} {rest : List Oper} {o : Oper} {a : Act} {Q : Exit → Act → World → Prop}
theorem wpListIn_look_v (hg : o.guard = none) (m x : Operand) (t : TypeId) (hop : o.op = Op.lookup t m x false)
    (K E : TypeId) (kq : IntKind) (hK : Tryz.prog.underlying K = some (.int kq)) (ht : Tryz.prog.underlying t = some (.map K E)) (z : Value) (hz : (zeroValue E).run Tryz.prog w = .ok z w) (b cnt : Nat) (f : Int → Option Value) (hf : MapV w K kq b cnt f) (hm : a.eval m = .map (some b)) (v : Int) (hx : a.eval x = .int kq v) (hv : (Lit.int kq v).wf = true)
    (hk : wpListIn F n Tryz.prog ops Q rest (a.put o.dst ((f v).getD z)) w) : wpListIn F n Tryz.prog ops Q (o :: rest) a w := by
  refine wpListIn_plain hg fun K' hK' => ?_
  have hrun := hf.look hK ht hz hv
  unfold Oper.wpIn
  refine ⟨by simp [Oper.about, hop], ?_⟩
  rw [Oper.semAt_plain F _ _ (by rw [hop]; intro c hc'; cases hc')]
  simp [execOp, hop, hm, hx, hrun, Result.andThen]
  exact hK' _ _ hk
end
theorem callsIn_of {P : Program} {f : FuncId} {args : Array Value} {w : World} {n : Nat} {R : Ending → World → Prop} (h : Calls P f args w R) : CallsIn Fence.wide n P f args w R := callsIn_wide.2 h
theorem take_succ_get {α : Type} (l : List α) {k : Nat} (h : k < l.length) : l.take (k + 1) = l.take k ++ [l[k]] := by
  rw [List.take_succ_eq_append_getElem h]

/-- nothing that lay before has turned, as a growth. -/
theorem Chg.grew {w w' : World} (h : Chg [] w w') : w.grownBy w' none := ⟨h.os, h.tape, h.output, h.size, fun k hk _ => h.block k hk (by simp)⟩

theorem itPre_new (w : World) (o : Obj) (c : Value) (t : TypeId) (ho : o = .cells #[c] t) (hc : ∀ k o n q, c ≠ .slice (some ⟨k, o, none⟩) n q) : ItPre [] [w.heap.size] (w.alloc o) ∧ ∀ k, Tch [] [w.heap.size] (w.alloc o) k ↔ k = w.heap.size := by
  subst ho
  have hcell : (w.alloc (.cells #[c] t)).cell? ⟨w.heap.size, 0, none⟩ = some c := (Blk.new w #[c] t).cell 0 rfl
  have ht : ∀ k, Tch [] [w.heap.size] (w.alloc (.cells #[c] t)) k ↔ k = w.heap.size := by
    intro k
    constructor
    · rintro (h | h | ⟨B, hB, o, n, q, h⟩)
      · cases h
      · simpa using h
      · simp at hB; subst hB; rw [hcell] at h; simp at h; exact absurd h (hc k o n q)
    · rintro rfl; exact .inr (.inl (by simp))
  exact ⟨⟨by simp, fun k hk => by rw [ht k] at hk; subst hk; simp⟩, ht⟩
end Go.Proofs.YtackdgbcmeafhaaGreat

/- Maps with whole-number keys inside a fenced walk; clones. -/
import Derived.Test.YtbagkfeodjkdmaaRange
namespace Go.Proofs.Ytbagkfeodjkdmaa
open Go.RowKit Go.Maps Go.Shelf

section
variable {w w' : World} {K : TypeId} {kq : IntKind} {b cnt : Nat} {f : Int → Option Value}
theorem MapV.cloned (h : MapV w K kq b cnt f) : ∃ es clock, w.heap[b]? = some (.map es clock) ∧ ∀ W c, W.heap[c]? = some (.map es clock) → MapV W K kq c cnt f := by
  obtain ⟨D, ⟨es, clock, h1, r⟩, k⟩ := h
  exact ⟨es, clock, h1, fun W c hc => ⟨D, ⟨es, clock, hc, r⟩, k⟩⟩
end
section
variable (w : World) {F : Fence} {n : Nat} {ops : Array Oper} {rest : List Oper} {o : Oper} {a : Act} {Q : Exit → Act → World → Prop}
theorem wpListIn_look_v (hg : o.guard = none) (m x : Operand) (t : TypeId) (hop : o.op = Op.lookup t m x false)
    (K E : TypeId) (kq : IntKind) (hK : Try.prog.underlying K = some (.int kq)) (ht : Try.prog.underlying t = some (.map K E)) (z : Value) (hz : (zeroValue E).run Try.prog w = .ok z w) (b cnt : Nat) (f : Int → Option Value) (hf : MapV w K kq b cnt f) (hm : a.eval m = .map (some b)) (v : Int) (hx : a.eval x = .int kq v) (hv : (Lit.int kq v).wf = true)
    (hk : wpListIn F n Try.prog ops Q rest (a.put o.dst ((f v).getD z)) w) : wpListIn F n Try.prog ops Q (o :: rest) a w := by
  refine wpListIn_plain hg fun K' hK' => ?_
  have hrun := hf.look hK ht hz hv
  unfold Oper.wpIn
  refine ⟨by simp [Oper.about, hop], ?_⟩
  rw [Oper.semAt_plain F _ _ (by rw [hop]; intro c hc'; cases hc')]
  simp [execOp, hop, hm, hx, hrun, Result.andThen]
  exact hK' _ _ hk
end
theorem callsIn_of {P : Program} {f : FuncId} {args : Array Value} {w : World} {n : Nat} {R : Ending → World → Prop} (h : Calls P f args w R) : CallsIn Fence.wide n P f args w R := callsIn_wide.2 h
end Go.Proofs.Ytbagkfeodjkdmaa

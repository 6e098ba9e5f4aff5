/- Arrays: an element at a place that is not known, of an array by value; a whole array loaded out of the head of a block. -/
import Derived.Test.YtbagkfeodjkdmaaLib
import Derived.Laws.Cells
import Derived.Laws.Rows
namespace Go.Proofs.Ytbagkfeodjkdmaa
open Go.RowKit Go.Maps

def flat (d : TypeDesc) : Bool := match d with | .struct _ | .array _ _ => false | _ => true
theorem run_isAgg_flat {e : TypeId} {d : TypeDesc} (he : Try.prog.underlying e = some d) (hd : flat d = true) (w : World) : (isAgg e).run Try.prog w = .ok false w := by
  unfold isAgg
  rw [Sem.run_bind, run_underlying he w]
  cases d <;> simp_all [flat]
theorem run_isAgg_arr {t e : TypeId} {n : Nat} (ht : Try.prog.underlying t = some (.array n e)) (w : World) : (isAgg t).run Try.prog w = .ok true w := by
  unfold isAgg
  rw [Sem.run_bind, run_underlying ht w]
  simp
theorem run_sizeOf_n {t : TypeId} {n : Nat} (hi : (Try.prog.info? t).map (·.size) = some n) (w : World) : (sizeOf t).run Try.prog w = .ok n w := by
  cases hq : Try.prog.info? t with
  | none => simp [hq] at hi
  | some i => have : i.size = n := by simpa [hq] using hi
              simp [sizeOf, typeInfo, hq, Sem.run_bind, this]

theorem run_index_val {t e : TypeId} {n : Nat} {d : TypeDesc} (ht : Try.prog.underlying t = some (.array n e)) (he : Try.prog.underlying e = some d) (hd : flat d = true)
    (hs : (Try.prog.info? e).map (·.size) = some 1) {cs : Array Value} {k : IntKind} {i : Nat} {v : Value} (hi : i < n) (hv : cs[i]? = some v) (w : World) :
    (Instr.index t (.agg cs) (.int k i)).run Try.prog w = .ok v w := by
  have h0 : (0 : Int) ≤ i ∧ (i : Int) < n := by omega
  have hi' : (i : Int).toNat = i := by omega
  simp [Instr.index, asIntOf, Sem.run_bind, run_underlying ht, part, run_isAgg_flat he hd, run_sizeOf_n hs, hv, hi]

theorem run_load_pre {t e : TypeId} {n : Nat} (ht : Try.prog.underlying t = some (.array n e)) (hi : (Try.prog.info? t).map (·.size) = some n) {w : World} {g : Nat} {cs : Array Value} {T : TypeId} (hb : Blk w g cs T) (hn : n ≤ cs.size) :
    (loadVar t ⟨g, 0, none⟩).run Try.prog w = .ok (.agg (cs.extract 0 n)) w := by
  have hl := run_loadCells (P := Try.prog) w ⟨g, 0, none⟩ n (fun j => cs.getD j undef) (fun j hj => by
    have hadd : (⟨g, 0, none⟩ : Addr).add j = ⟨g, j, none⟩ := by unfold Addr.add; split <;> simp_all
    rw [hadd]; exact hb.cell j (by simp [Array.getElem?_eq_getElem (show j < cs.size by omega)]))
  have he : ((List.range n).map (fun j => cs.getD j undef)).toArray = cs.extract 0 n := by
    apply Array.ext_getElem?
    intro j
    by_cases hj : j < n
    · simp [hj, Array.getElem?_extract, Array.getElem?_eq_getElem (show j < cs.size by omega), show j < cs.size by omega]
      omega
    · simp [hj, Array.getElem?_extract]
      omega
  rw [he] at hl
  simp [loadVar, Sem.run_bind, run_isAgg_arr ht, run_sizeOf_n hi, hl]

section
variable {w : World} {ops : Array Oper} {rest : List Oper} {o : Oper} {a : Act} {Q : Exit → Act → World → Prop}
theorem wpList_load_pre (hg : o.guard = none) (t : TypeId) (x : Operand) (ho : o.op = .load t x) (g : Nat) (hx : a.eval x = .pointer (some ⟨g, 0, none⟩)) {e : TypeId} {n : Nat}
    (ht : Try.prog.underlying t = some (.array n e)) (hi : (Try.prog.info? t).map (·.size) = some n) {cs : Array Value} {T : TypeId} (hb : Blk w g cs T) (hn : n ≤ cs.size)
    (h : wpList Try.prog ops Q rest (a.put o.dst (.agg (cs.extract 0 n))) w) : wpList Try.prog ops Q (o :: rest) a w := by
  refine wpList_plain hg fun K hK => ?_
  unfold Oper.wp execOp
  simp only [ho, hx, Instr.loadAt, Instr.sureAddr, Sem.run_bind, Sem.run_pure, Result.andThen_ok, run_load_pre ht hi hb hn]
  exact hK _ _ h
theorem wpList_index_val (hg : o.guard = none) (t : TypeId) (x y : Operand) (ho : o.op = .index t x y) {cs : Array Value} {k : IntKind} (i : Nat) (hx : a.eval x = .agg cs) (hy : a.eval y = .int k i) {e : TypeId} {n : Nat} {d : TypeDesc}
    (ht : Try.prog.underlying t = some (.array n e)) (he : Try.prog.underlying e = some d) (hd : flat d = true) (hs : (Try.prog.info? e).map (·.size) = some 1) {v : Value} (hi : i < n) (hv : cs[i]? = some v)
    (h : wpList Try.prog ops Q rest (a.put o.dst v) w) : wpList Try.prog ops Q (o :: rest) a w := by
  refine wpList_plain hg fun K hK => ?_
  have hrun := run_index_val (k := k) ht he hd hs hi hv w
  unfold Oper.wp
  simp [execOp, ho, hx, hy, hrun, Result.andThen]
  exact hK _ _ h
end
end Go.Proofs.Ytbagkfeodjkdmaa

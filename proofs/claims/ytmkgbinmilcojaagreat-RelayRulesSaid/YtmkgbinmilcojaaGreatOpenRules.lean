/- An argument that is adjust.Rules, opened. -/
import Derived.Test.YtmkgbinmilcojaaGreatTargetRules
import Derived.Test.YtmkgbinmilcojaaGreatRows0
namespace Go.Proofs.YtmkgbinmilcojaaGreat
open Go.RowKit Go.Maps Go.Shelf Go.ChangeShapes Go.WideShapes Go.Deep
variable {H : Type} {base : Nat} {sp : Nat → Bool} {held : Bool}

theorem take1_of {L : List Value} {i : Nat} {x : Value} (h : (L.drop i).take 1 = [x]) : L[i]? = some x := by
  have h2 : ((L.drop i).take 1)[0]? = some x := by rw [h]; rfl
  simpa using h2
theorem wf_u32n {a : Int} (h : (Lit.int .u32 a).wf = true) : ∃ n : Nat, a = n ∧ n < 4294967296 := by
  have z : 0 ≤ a ∧ a ≤ 4294967295 := by simpa [Lit.wf, IntKind.min, IntKind.max, IntKind.signed, IntKind.bits] using h
  exact ⟨a.toNat, by omega, by omega⟩
theorem wf_i64n {a : Int} (h : (Lit.int .i64 a).wf = true) : -9223372036854775808 ≤ a ∧ a ≤ 9223372036854775807 := by
  simpa [Lit.wf, IntKind.min, IntKind.max, IntKind.signed, IntKind.bits] using h
set_option maxRecDepth 100000 in
theorem open_rules (enc : TypeId × Value → H) (W : World) (v : Value) (d : DataW H) (ps : List MemPlace) {r : Reach} {b0 : Nat} (h : DataW.Trod enc Tryz.prog W base sp held 30 v d ps) (hval : Value.okWide Tryz.prog W r b0 30 v) :
    ∃ s l, RulesV v s l := by
  obtain ⟨cs, rfl, hsz⟩ := okWide_struct Tryz.underlying30 hval
  obtain ⟨fuel, hf⟩ := h
  obtain ⟨xs, n, _, _, hl, hlen, hfield⟩ := DataW.trod_struct Tryz.underlying30 hf
  have hlen' : xs.length = 5 := hlen
  have h1 := hfield 1 _ rfl
  have h2 := hfield 2 _ rfl
  rw [List.getElem?_eq_getElem (by omega)] at h1 h2
  obtain ⟨a1, e1, _, w1⟩ := DataW.trod_int Tryz.underlying22 h1
  obtain ⟨a2, e2, _, w2⟩ := DataW.trod_int Tryz.underlying22 h2
  have o1 := take1_of e1
  have o2 := take1_of e2
  have z1 : 0 ≤ a1 ∧ a1 ≤ 4294967295 := by simpa [Lit.wf, IntKind.min, IntKind.max, IntKind.signed, IntKind.bits] using w1
  have z2 : 0 ≤ a2 ∧ a2 ≤ 4294967295 := by simpa [Lit.wf, IntKind.min, IntKind.max, IntKind.signed, IntKind.bits] using w2
  refine ⟨a1.toNat, a2.toNat, cs, rfl, by rw [hsz]; kernel_rfl, ?_, ?_, by omega, by omega⟩
  · rw [Int.toNat_of_nonneg z1.1]; simpa [Value.cells] using o1
  · rw [Int.toNat_of_nonneg z2.1]; simpa [Value.cells] using o2
end Go.Proofs.YtmkgbinmilcojaaGreat

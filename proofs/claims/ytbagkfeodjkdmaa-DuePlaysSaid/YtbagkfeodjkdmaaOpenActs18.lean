/- DuePlays: the acts among the arguments. -/
import Derived.Test.YtbagkfeodjkdmaaPlays18
namespace Go.Proofs.Ytbagkfeodjkdmaa
open Go.RowKit Go.Maps Go.Shelf
theorem law18_DuePlays_ (most : Int) (vl : Value) (w : World) (_ : (Lit.int .i64 most).wf = true) (hl : ∃ n, n ≤ maxLen ∧ Acts18 w vl n) :
    Calls Try.prog 12 #[.int .i64 most, vl] w fun e w' => e = .returned (.bool true) ∧ Chg [] w w' := law18_DuePlays most vl w hl
section
open Go.ChangeShapes Go.WideShapes Go.Deep
variable {H : Type} {W : World} {base : Nat} {sp : Nat → Bool} {held : Bool}
set_option maxRecDepth 100000 in
theorem open_acts18 (enc : TypeId × Value → H) (W : World) (v : Value) (d : DataW H) (ps : List MemPlace) {r : Reach} {b0 : Nat} (h : DataW.Trod enc Try.prog W base sp held 106 v d ps) (hval : Value.okWide Try.prog W r b0 106 v) :
    ∃ n, n ≤ maxLen ∧ Acts18 W v n := by
  obtain ⟨n, N, V, hN, hR, hV⟩ := open_rows Try.underlying106 Try.underlying109 (hone_of (by kernel_rfl)) (by kernel_rfl) (by decide) h hval
  refine ⟨N, hN, V, hR, fun i hi => ?_⟩
  obtain ⟨Y0, h0⟩ := hV i hi 0 _ rfl
  obtain ⟨Y1, h1⟩ := hV i hi 1 _ rfl
  obtain ⟨Y2, h2⟩ := hV i hi 2 _ rfl
  obtain ⟨Y3, h3⟩ := hV i hi 3 _ rfl
  obtain ⟨a0, e0, _, w0⟩ := DataW.trod_int Try.underlying3 h0
  obtain ⟨a1, e1, _, w1⟩ := DataW.trod_int Try.underlying23 h1
  obtain ⟨a2, e2, _, w2⟩ := DataW.trod_int Try.underlying23 h2
  obtain ⟨a3, e3, _, w3⟩ := DataW.trod_string Try.underlying9 h3
  simp only [List.cons.injEq, and_true] at e0 e1 e2 e3
  exact ⟨a0, a1, a2, a3, e0, e1, e2, e3, w1, w2⟩
end
end Go.Proofs.Ytbagkfeodjkdmaa

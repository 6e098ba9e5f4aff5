/- An argument that is a deed of layer 20, opened. -/
import Derived.Test.YtackdgbcmeafhaaGreatNilDo
import Derived.Test.YtackdgbcmeafhaaGreatRows0
import Derived.OpenShut
namespace Go.Proofs.YtackdgbcmeafhaaGreat
open Go.RowKit Go.Maps Go.Shelf Go.ChangeShapes Go.WideShapes Go.Deep
variable {H : Type} {base : Nat} {sp : Nat → Bool} {held : Bool}

theorem take1_of' {L : List Value} {i : Nat} {x : Value} (h : (L.drop i).take 1 = [x]) : L[i]? = some x := by
  have h2 : ((L.drop i).take 1)[0]? = some x := by rw [h]; rfl
  simpa using h2
theorem arr_cut {cs ad : Array Value} {c0 c1 c2 c3 : Value} (hsz : cs.size = 24) (h0 : cs[0]? = some c0) (h1 : cs[1]? = some c1) (h2 : cs[2]? = some c2) (h3 : cs[3]? = some c3) (had : ad = cs.extract 4 24) : cs = #[c0, c1, c2, c3] ++ ad := by
  subst had
  apply Array.ext_getElem?
  intro i
  rw [Array.getElem?_append]
  split
  · rename_i hi
    have hi4 : i < 4 := by simpa using hi
    rcases i with _ | _ | _ | _ | i
    · simpa using h0
    · simpa using h1
    · simpa using h2
    · simpa using h3
    · omega
  · rename_i hi
    have hi4 : 4 ≤ i := by simpa using hi
    simp only [List.size_toArray, List.length_cons, List.length_nil, Nat.reduceAdd, Array.getElem?_extract]
    rw [show 4 + (i - 4) = i by omega]
    split
    · rfl
    · rw [Array.getElem?_eq_none (by omega)]
set_option maxRecDepth 100000 in
theorem open_deed (enc : TypeId × Value → H) (W : World) (v : Value) (d : DataW H) (ps : List MemPlace) {r : Reach} {b0 : Nat} (h : DataW.Trod enc Tryz.prog W base sp held 63 v d ps) (hval : Value.okWide Tryz.prog W r b0 63 v) :
    ∃ kind x y a ad, v = .agg (deed kind x y a ad) ∧ ad.size = 20 ∧ ad.all (·.oneCell') = true ∧ (Lit.int .i64 kind).wf = true ∧ (Lit.int .i64 x).wf = true ∧ (Lit.int .i64 y).wf = true ∧ (Lit.int .u64 a).wf = true := by
  obtain ⟨cs, rfl, hsz⟩ := okWide_struct Tryz.underlying63 hval
  have hsz : cs.size = 24 := by rw [hsz]; kernel_rfl
  obtain ⟨fuel, hf⟩ := h
  obtain ⟨xs, n, _, _, hl, hlen, hfield⟩ := DataW.trod_struct Tryz.underlying63 hf
  have hlen' : xs.length = 5 := hlen
  have h0 := hfield 0 _ rfl
  have h1 := hfield 1 _ rfl
  have h2 := hfield 2 _ rfl
  have h3 := hfield 3 _ rfl
  have h4 := hfield 4 _ rfl
  rw [List.getElem?_eq_getElem (by omega)] at h0 h1 h2 h3 h4
  obtain ⟨a0, e0, _, w0⟩ := DataW.trod_int Tryz.underlying3 h0
  obtain ⟨a1, e1, _, w1⟩ := DataW.trod_int Tryz.underlying3 h1
  obtain ⟨a2, e2, _, w2⟩ := DataW.trod_int Tryz.underlying3 h2
  obtain ⟨a3, e3, _, w3⟩ := DataW.trod_int Tryz.underlying22 h3
  obtain ⟨ys, m, _, _, hl4, hlen4, hel⟩ := DataW.trod_array Tryz.underlying47 h4
  have o0 := take1_of' e0
  have o1 := take1_of' e1
  have o2 := take1_of' e2
  have o3 := take1_of' e3
  have toL : ∀ i : Nat, ((Value.agg cs).cells.toList)[i]? = cs[i]? := fun i => by simp [Value.cells]
  rw [toL] at o0 o1 o2 o3
  refine ⟨a0, a1, a2, a3, cs.extract 4 24, ?_, by simp [hsz], ?_, w0, w1, w2, w3⟩
  · rw [deed]; congr 1
    exact arr_cut hsz o0 o1 o2 o3 rfl
  · rw [Array.all_eq_true]
    intro i hi
    have hi20 : i < 20 := by simpa [hsz] using hi
    have hc := hel i hi20
    rw [List.getElem?_eq_getElem (by omega)] at hc
    obtain ⟨b, eb, _, _⟩ := DataW.trod_int Tryz.underlying5 hc
    have ob := take1_of' eb
    have ob2 : (List.take (Tryz.prog.cellsOf 47) (List.drop 4 cs.toList))[i * Tryz.prog.cellsOf 5]? = some (.int .u8 b) := ob
    rw [show Tryz.prog.cellsOf 47 = 20 by kernel_rfl, show Tryz.prog.cellsOf 5 = 1 by kernel_rfl, Nat.mul_one, List.getElem?_take, if_pos hi20, List.getElem?_drop, Array.getElem?_toList] at ob2
    rw [Array.getElem_extract]
    have h2 : cs[4 + i]? = some cs[4 + i] := Array.getElem?_eq_getElem (by omega)
    rw [h2] at ob2
    rw [Option.some.inj ob2]
    rfl
end Go.Proofs.YtackdgbcmeafhaaGreat

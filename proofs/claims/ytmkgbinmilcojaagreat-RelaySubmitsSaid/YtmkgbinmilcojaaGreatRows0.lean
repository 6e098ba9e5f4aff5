/- A slice of structs among the arguments: what its cells hold (RowsAt); range over a map in a plain walk. -/
import Derived.Test.YtmkgbinmilcojaaGreatRange
import Derived.Maps.RangeWalk
import Derived.Deep.Fields
import Derived.ChangeArms
import Derived.WideShapes
namespace Go.Proofs.YtmkgbinmilcojaaGreat
open Go.RowKit Go.Maps Go.Shelf Go.ChangeShapes Go.WideShapes Go.Deep

/-- v is a slice of n things of sz cells each: V. -/
def RowsAt (w : World) (v : Value) (n sz : Nat) (V : Nat → Nat → Value) : Prop :=
  ∃ a cap, v = .slice a n cap ∧ ∀ i, i < n → ∃ b off, a = some ⟨b, off, none⟩ ∧ b < w.heap.size ∧ ∀ j, j < sz → w.cell? ⟨b, off + i * sz + j, none⟩ = some (V i j)
theorem RowsAt.chg {w w' : World} {v : Value} {n sz : Nat} {V : Nat → Nat → Value} (h : RowsAt w v n sz V) (c : Chg [] w w') : RowsAt w' v n sz V := by
  obtain ⟨a, cap, e, h⟩ := h
  refine ⟨a, cap, e, fun i hi => ?_⟩
  obtain ⟨b, off, e, hb, hc⟩ := h i hi
  exact ⟨b, off, e, Nat.lt_of_lt_of_le hb c.size, fun j hj => (World.cell?_of_block (w := w) (c.block b hb (by simp))).trans (hc j hj)⟩

theorem cell_lt {w : World} {a : Addr} {v : Value} (h : w.cell? a = some v) : a.block < w.heap.size := by
  by_cases e : a.block < w.heap.size
  · exact e
  · simp [World.cell?, Array.getElem?_eq_none (show w.heap.size ≤ a.block by omega)] at h

section
variable {H : Type} {enc : TypeId × Value → H} {W : World} {base : Nat} {sp : Nat → Bool} {held : Bool}
set_option maxRecDepth 100000 in
/-- an argument that is a slice of structs of one-cell fields. -/
theorem open_rows {t e : TypeId} {fs : Array Field} {v : Value} {d : DataW H} {ps : List MemPlace} {r : Reach} {b0 : Nat} (ht : Tryz.prog.underlying t = some (.slice e)) (hs : Tryz.prog.underlying e = some (.struct fs))
    (hone : ∀ (i : Nat) (f : Field), fs[i]? = some f → f.offset = i ∧ Tryz.prog.cellsOf f.type = 1) (hC : Tryz.prog.cellsOf e = fs.size) (hpos : 0 < fs.size) (h : DataW.Trod enc Tryz.prog W base sp held t v d ps) (hval : Value.okWide Tryz.prog W r b0 t v) :
    ∃ (n N : Nat) (V : Nat → Nat → Value), N ≤ maxLen ∧ RowsAt W v N fs.size V ∧ ∀ i, i < N → ∀ (j : Nat) (f : Field), fs[j]? = some f → ∃ Y, DataW.trod enc Tryz.prog W base sp held n f.type [V i j] = some Y := by
  obtain ⟨a0, len0, cap0, rfl⟩ := okWide_slice ht hval
  obtain ⟨fuel, h⟩ := h
  rcases open_slice ht h with ⟨h0, _⟩ | ⟨a, len, cap, m, n, D, Pl, hcs, hb, hl, hm, hmm, hx, hel⟩
  · simp [Value.cells] at h0
    obtain ⟨rfl, rfl, rfl⟩ := h0
    exact ⟨0, 0, fun _ _ => undef, Nat.zero_le _, ⟨none, 0, rfl, fun i hi => by omega⟩, fun i hi => by omega⟩
  · simp [Value.cells] at hcs
    obtain ⟨rfl, rfl, rfl⟩ := hcs
    have hlm : len0 ≤ m := by rw [hmm]; split <;> omega
    have hspot : 0 < len0 → a.spot = none ∧ a.block < W.heap.size := fun h00 => by
      obtain ⟨cs', h1, h2⟩ := hel 0 (by omega)
      rw [hC] at h1
      obtain ⟨_, hlen, hcell⟩ := World.cells?_some h1
      have h0 := hcell 0 (by omega)
      rw [List.getElem?_eq_getElem (by omega)] at h0
      simp only [Nat.zero_mul] at h0
      exact ⟨by simpa [Addr.add] using World.cell?_spot h0, by simpa [Addr.add] using cell_lt h0⟩
    have each : ∀ i, i < len0 → ∃ (q : List Value) (b off : Nat), a = ⟨b, off, none⟩ ∧ b < W.heap.size ∧ ∀ (j : Nat) (f : Field), fs[j]? = some f → W.cell? ⟨b, off + i * fs.size + j, none⟩ = some (q.getD j undef) ∧ ∃ Y, DataW.trod enc Tryz.prog W base sp held (n - 1) f.type [q.getD j undef] = some Y := by
      intro i hi
      obtain ⟨cs', h1, h2⟩ := hel i (by omega)
      rw [hC] at h1
      obtain ⟨_, hlen, hcell⟩ := World.cells?_some h1
      obtain ⟨xs, k, hk, _, _, hxl, hf⟩ := DataW.trod_struct hs h2
      have hk' : k = n - 1 := by omega
      subst hk'
      obtain ⟨b, off, spot⟩ := a
      obtain ⟨hsp, hbl⟩ := hspot (by omega)
      simp only at hsp hbl
      subst hsp
      · refine ⟨cs', b, off, rfl, hbl, fun j f hj => ?_⟩
        have hlt : j < fs.size := (Array.getElem?_eq_some_iff.1 hj).1
        obtain ⟨ho, hc1⟩ := hone j f hj
        have g := hf j f hj
        rw [ho, hc1, take1_drop cs' j undef (by omega), List.getElem?_eq_getElem (by omega)] at g
        refine ⟨?_, _, g⟩
        have := hcell j hlt
        rw [add_plain, add_plain, List.getElem?_eq_getElem (by omega)] at this
        rw [this]
        simp [List.getD, List.getElem?_eq_getElem (show j < cs'.length by omega)]
    obtain ⟨q, hq⟩ := choose_lt each
    refine ⟨n - 1, len0, fun i j => (q i).getD j undef, Nat.le_trans hl hm, ⟨some a, cap0, rfl, fun i hi => ?_⟩, fun i hi j f hj => ?_⟩
    · obtain ⟨b, off, rfl, hlt, hc⟩ := hq i hi
      exact ⟨b, off, rfl, hlt, fun j hj => (hc j fs[j] (by simp [hj])).1⟩
    · obtain ⟨b, off, rfl, hlt, hc⟩ := hq i hi
      obtain ⟨Y, hY⟩ := (hc j f hj).2
      exact ⟨Y, hY⟩
end
section
variable (w : World) {ops : Array Oper} {rest : List Oper} {o : Oper} {a : Act} {Q : Exit → Act → World → Prop}
theorem wpList_range_v (hg : o.guard = none) (m : Operand) (t : TypeId) (hop : o.op = Op.range t m) (K E : TypeId) (kq : IntKind) (hK : Tryz.prog.underlying K = some (.int kq)) (ht : Tryz.prog.underlying t = some (.map K E)) (b cnt : Nat) (f : Int → Option Value)
    (hm : a.eval m = .map (some b)) (hf : MapV w K kq b cnt f)
    (hk : ∀ w', RngV w' K kq b w.heap.size f [] cnt → w.grownBy w' none → w'.heap.size = w.heap.size + 1 → wpList Tryz.prog ops Q rest (a.put o.dst (.pointer (some ⟨w.heap.size, 0, none⟩))) w') :
    wpList Tryz.prog ops Q (o :: rest) a w := by
  obtain ⟨D, h, s, k⟩ := hf
  refine wpList_range_own w hg m t hop K E (int_keyed hK) ht heldR b cnt D hm h (fun w' hr hg' hs => hk w' ⟨D, _, cnt, by rw [← s] at hr ⊢; exact hr, k, List.nodup_nil, by simp, fun x hx => ?_⟩ hg' hs)
  rw [(k x hx).1]
  cases (f x).isSome <;> simp

theorem wpList_next_v (hg : o.guard = none) (it : Operand) (hop : o.op = Op.next it false) (K : TypeId) (kq : IntKind) (hK : Tryz.prog.underlying K = some (.int kq)) (b r : Nat) (f : Int → Option Value) (ss : List Int) (cnt : Nat)
    (hit : a.eval it = .pointer (some ⟨r, 0, none⟩)) (h : RngV w K kq b r f ss cnt)
    (hDone : cnt = 0 → (∀ x, x ∈ ss ↔ ((Lit.int kq x).wf = true ∧ (f x).isSome = true)) → wpList Tryz.prog ops Q rest (a.put o.dst (.tuple #[.bool false])) w)
    (hMore : ∀ (x : Int) (v : Value) (w' : World) (cnt' : Nat), (Lit.int kq x).wf = true → f x = some v → x ∉ ss → RngV w' K kq b r f (ss ++ [x]) cnt' → cnt' < cnt →
      w.grownBy w' (some r) → w'.heap.size = w.heap.size → (Instr.entry (.pointer (some ⟨r, 0, none⟩))).run Tryz.prog w' = .ok (.tuple #[.int kq x, v]) w' → wpList Tryz.prog ops Q rest (a.put o.dst (.tuple #[.bool true, .int kq x, v])) w') :
    wpList Tryz.prog ops Q (o :: rest) a w := by
  obtain ⟨D, left, nn, h, k, hnd, hwf, hss⟩ := h
  refine wpList_next_ranges w hg it hop K (int_keyed hK) heldR (Value.int kq) id (fun key kl hkey => by obtain ⟨x, rfl, _⟩ := Maps.keyOf_int_inv hK hkey; exact ⟨x, rfl⟩) (fun v _ _ => ⟨v, rfl⟩) b r nn D left cnt hit h ?_ ?_
  · intro h0 hl
    exact hDone h0 (fun x => ⟨fun hx => ⟨hwf x hx, ((hss x (hwf x hx)).1 hx).1⟩, fun hx => (hss x hx.1).2 ⟨hx.2, hl _⟩⟩)
  · intro x v kl y w' cnt' hkey hlk hv hat hrg hlt hgr hsz hen
    obtain ⟨x', ex, rfl, hwx⟩ := Maps.keyOf_int_inv hK hkey
    cases ex
    have e1 : y.1 = .held v := by simp only [heldR, id, Option.some.injEq] at hv; rw [← hv]
    have e2 := (k x hwx).2
    have hsome : f x = some v := by
      have h1 := hat (.held v); have h2 := hat (.held undef)
      have h3 := (k x hwx).1
      have h4 : Maps.has D (.int kq x) = true := has_true_of_atKey (y := y.1) hat
      rw [h4] at h3
      obtain ⟨u, hu⟩ := Option.isSome_iff_exists.1 h3.symm
      rw [e2 v, e1, hu] at h1
      simp at h1
      rw [hu, h1]
    have hnew : x ∉ ss := fun hx => by have := ((hss x hwx).1 hx).2; rw [hlk] at this; cases this
    refine hMore x v w' cnt' hwx hsome hnew ⟨D, _, nn, hrg, k, ?_, ?_, ?_⟩ hlt hgr hsz hen
    · exact List.nodup_append.2 ⟨hnd, by simp, fun a ha b hb => by simp at hb; subst hb; exact fun e => hnew (e ▸ ha)⟩
    · intro z hz
      rcases List.mem_append.1 hz with hz | hz
      · exact hwf z hz
      · simp at hz; subst hz; exact hwx
    · intro z hz
      by_cases hzx : z = x
      · subst hzx; simp [hsome, Lit.sameKey]
      · simp [hss z hz, hzx, Lit.sameKey]
end
end Go.Proofs.YtmkgbinmilcojaaGreat

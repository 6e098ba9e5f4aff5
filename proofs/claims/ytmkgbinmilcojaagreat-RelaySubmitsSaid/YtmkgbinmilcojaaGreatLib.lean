/- Shared words of all our proofs: what a call may change (Chg), blocks of cells, maps from whole numbers to whole numbers. -/
import Derived.Test.YtmkgbinmilcojaaGreatProg
import Derived.WalkKit
import Derived.WalkSpells
import Derived.WalkLawsBesides
import Derived.Maps.Ext
import Derived.Deep.QuietTactic
import Derived.BigQuiet
import Derived.StillTailTactics
import Derived.Lib.Hide
namespace Go.Proofs.YtmkgbinmilcojaaGreat
open Go.RowKit Go.Maps

/-- w' is w but for the blocks of S and for new blocks. -/
structure Chg (S : List Nat) (w w' : World) : Prop where
  os : w'.os = w.os
  tape : w'.tape = w.tape
  output : w'.output = w.output
  size : w.heap.size ≤ w'.heap.size
  block : ∀ k, k < w.heap.size → k ∉ S → w'.heap[k]? = w.heap[k]?

theorem Chg.refl (S : List Nat) (w : World) : Chg S w w := ⟨rfl, rfl, rfl, Nat.le_refl _, fun _ _ _ => rfl⟩
theorem Chg.trans {S T : List Nat} {a b c : World} (h : Chg S a b) (k : Chg T b c) (hs : ∀ t ∈ T, t ∈ S ∨ a.heap.size ≤ t) : Chg S a c :=
  ⟨k.os.trans h.os, k.tape.trans h.tape, k.output.trans h.output, Nat.le_trans h.size k.size, fun i hi hn =>
    (k.block i (Nat.lt_of_lt_of_le hi h.size) (fun e => (hs i e).elim hn (by omega))).trans (h.block i hi hn)⟩
theorem Chg.mono {S T : List Nat} {a b : World} (h : Chg S a b) (hs : ∀ t ∈ S, t ∈ T ∨ a.heap.size ≤ t) : Chg T a b :=
  ⟨h.os, h.tape, h.output, h.size, fun i hi hn => h.block i hi (fun e => (hs i e).elim hn (by omega))⟩
theorem Chg.alloc {S : List Nat} {a w : World} (h : Chg S a w) (o : Obj) : Chg S a (w.alloc o) :=
  ⟨h.os, h.tape, h.output, by have := h.size; simp; omega, fun i hi hn => (Below.heap_alloc w o i (Nat.lt_of_lt_of_le hi h.size)).trans (h.block i hi hn)⟩
theorem Chg.setCell {S : List Nat} {a w : World} (h : Chg S a w) {p : Addr} (hp : p.block ∈ S ∨ a.heap.size ≤ p.block) (u : Value) : Chg S a (w.setCell p u) :=
  ⟨h.os, h.tape, h.output, by have := h.size; simpa [World.setCell] using this, fun i hi hn => (Below.heap_setCell w p u i (fun e => by subst e; exact hp.elim hn (by omega))).trans (h.block i hi hn)⟩
theorem Chg.drew {S : List Nat} {a w : World} (h : Chg S a w) : Chg S a w.drew := ⟨h.os, h.tape, h.output, h.size, h.block⟩
theorem Chg.drewN {S : List Nat} {a w : World} (h : Chg S a w) (n : Nat) : Chg S a (w.drewN n) := ⟨h.os, h.tape, h.output, h.size, h.block⟩
theorem Chg.grown {S : List Nat} {a w w' : World} {row : Option Nat} (h : Chg S a w) (hg : w.grownBy w' row) (hr : ∀ k, row = some k → k ∈ S ∨ a.heap.size ≤ k) : Chg S a w' :=
  ⟨hg.os.trans h.os, hg.tape.trans h.tape, hg.output.trans h.output, Nat.le_trans h.size hg.size, fun i hi hn =>
    (hg.block i (Nat.lt_of_lt_of_le hi h.size) (fun e => (hr i e.symm).elim hn (by omega))).trans (h.block i hi hn)⟩
theorem Chg.turned {S : List Nat} {a w w' : World} {b : Nat} (h : Chg S a w) (ht : w.mapTurned w' b) (hb : b ∈ S ∨ a.heap.size ≤ b) : Chg S a w' :=
  h.grown ht.grown (fun k e => by cases e; exact hb)
theorem Chg.below {a w : World} {S : List Nat} (h : Chg S a w) (hs : ∀ t ∈ S, a.heap.size ≤ t) : Below a.heap.size a w :=
  ⟨h.os, h.tape, h.output, h.size, fun k hk => h.block k hk (fun e => by have := hs k e; omega)⟩
theorem Chg.of_below {a w : World} (h : Below a.heap.size a w) : Chg [] a w :=
  ⟨h.os, h.tape, h.output, h.size, fun k hk _ => h.block k hk⟩

/-- a callee that leaves the world alone, inside a region that draws its order. -/
theorem quiet {P : Program} {f : FuncId} {args : Array Value} {w : World} {n : Nat} {v : Value}
    (h : Calls P f args (w.drewN n) fun e w' => e = .returned v ∧ w.drewN n = w') : Calls P f args (w.drewN n) fun e w'' => e = .returned v ∧ ∃ m, w'' = w.drewN m :=
  h.mono fun _ _ ⟨he, hm⟩ => ⟨he, n, hm.symm⟩

/-! ### bounds of the kinds -/
theorem wf_u8 {x : Int} : (Lit.int .u8 x).wf = true ↔ 0 ≤ x ∧ x ≤ 255 := by
  have e1 : IntKind.u8.min = 0 := by decide
  have e2 : IntKind.u8.max = 255 := by decide
  simp [Lit.wf, e1, e2]
theorem wf_u32 {x : Int} : (Lit.int .u32 x).wf = true ↔ 0 ≤ x ∧ x ≤ 4294967295 := by
  have e1 : IntKind.u32.min = 0 := by decide
  have e2 : IntKind.u32.max = 4294967295 := by decide
  simp [Lit.wf, e1, e2]
theorem wf_u64 {x : Int} : (Lit.int .u64 x).wf = true ↔ 0 ≤ x ∧ x ≤ 18446744073709551615 := by
  have e1 : IntKind.u64.min = 0 := by decide
  have e2 : IntKind.u64.max = 18446744073709551615 := by decide
  simp [Lit.wf, e1, e2]
theorem wf_i64 {x : Int} : (Lit.int .i64 x).wf = true ↔ -9223372036854775808 ≤ x ∧ x ≤ 9223372036854775807 := by
  have e1 : IntKind.i64.min = -9223372036854775808 := by decide
  have e2 : IntKind.i64.max = 9223372036854775807 := by decide
  simp [Lit.wf, e1, e2]

/-! ### blocks -/
/-- block b of w is a row of these cells, none of them frozen. -/
def Blk (w : World) (b : Nat) (c : Array Value) (t : TypeId) : Prop := w.heap[b]? = some (.cells c t (0, 0))
theorem Blk.lt {w : World} {b : Nat} {c : Array Value} {t : TypeId} (h : Blk w b c t) : b < w.heap.size := (Array.getElem?_eq_some_iff.1 h).1
theorem Blk.cell {w : World} {b : Nat} {c : Array Value} {t : TypeId} (h : Blk w b c t) (i : Nat) {v : Value} (hv : c[i]? = some v) : w.cell? ⟨b, i, none⟩ = some v := by
  simp only [World.cell?, show w.heap[b]? = some (.cells c t (0, 0)) from h]; simpa using hv
theorem Blk.free {w : World} {b : Nat} {c : Array Value} {t : TypeId} (h : Blk w b c t) (i : Nat) : w.frozen? ⟨b, i, none⟩ = false := by
  simp only [World.frozen?, show w.heap[b]? = some (.cells c t (0, 0)) from h]; simp
theorem Blk.new (w : World) (c : Array Value) (t : TypeId) : Blk (w.alloc (.cells c t)) w.heap.size c t := by
  show (w.heap.push _)[w.heap.size]? = _
  simp
theorem Blk.alloc {w : World} {b : Nat} {c : Array Value} {t : TypeId} (h : Blk w b c t) (o : Obj) : Blk (w.alloc o) b c t := (Below.heap_alloc w o b h.lt).trans h
theorem Blk.at (w : World) (c : Array Value) (t : TypeId) (b : Nat) (hb : b = w.heap.size) : Blk (w.alloc (.cells c t)) b c t := hb ▸ Blk.new w c t
theorem Blk.drew {w : World} {b : Nat} {c : Array Value} {t : TypeId} (h : Blk w b c t) : Blk w.drew b c t := h
theorem Blk.drewN {w : World} {b : Nat} {c : Array Value} {t : TypeId} (h : Blk w b c t) (n : Nat) : Blk (w.drewN n) b c t := h
theorem Blk.other {w : World} {b : Nat} {c : Array Value} {t : TypeId} (h : Blk w b c t) {p : Addr} (hp : b ≠ p.block) (u : Value) : Blk (w.setCell p u) b c t := (Below.heap_setCell w p u b hp).trans h
theorem Blk.set {w : World} {b : Nat} {c : Array Value} {t : TypeId} (h : Blk w b c t) (i : Nat) (u : Value) : Blk (w.setCell ⟨b, i, none⟩ u) b (c.setIfInBounds i u) t := by
  unfold Blk World.setCell
  simp only [Array.getElem?_modify, show w.heap[b]? = some (.cells c t (0, 0)) from h, if_true, Option.map_some]
  simp
theorem Blk.chg {w w' : World} {b : Nat} {c : Array Value} {t : TypeId} {S : List Nat} (h : Blk w b c t) (k : Chg S w w') (hb : b ∉ S) : Blk w' b c t := (k.block b h.lt hb).trans h
theorem Blk.grown {w w' : World} {b : Nat} {c : Array Value} {t : TypeId} {row : Option Nat} (h : Blk w b c t) (hg : w.grownBy w' row) (hb : some b ≠ row) : Blk w' b c t := (hg.block b h.lt hb).trans h

/-! ### maps whose keys are whole numbers -/
/-- an element's value stands for itself. -/
def heldR (v : Value) : Option (DataW Value × List MemPlace) := some (.held v, [])

/-- block b is a map of cnt entries from numbers of kind kq (type K): f. -/
def MapV (w : World) (K : TypeId) (kq : IntKind) (b cnt : Nat) (f : Int → Option Value) : Prop :=
  ∃ D : DataW Value, w.ownsMap Tryz.prog K heldR b cnt D ∧ Maps.size D = cnt ∧ ∀ k, (Lit.int kq k).wf = true → (Maps.has D (.int kq k) = (f k).isSome ∧ ∀ z, D.atKey (.int kq k) (.held z) = .held ((f k).getD z))

section
variable {w w' : World} {K : TypeId} {kq : IntKind} {b cnt : Nat} {f : Int → Option Value}
theorem MapV.made (w : World) (K : TypeId) (kq : IntKind) : MapV (w.alloc (.map #[] 0)) K kq w.heap.size 0 (fun _ => none) :=
  ⟨.map [], World.ownsMap_made _ _ _ _, rfl, fun _ _ => ⟨rfl, fun _ => rfl⟩⟩
theorem MapV.lt (h : MapV w K kq b cnt f) : b < w.heap.size := by obtain ⟨D, h, _⟩ := h; exact h.lt
theorem MapV.grown {row : Option Nat} (h : MapV w K kq b cnt f) (hg : w.grownBy w' row) (hb : some b ≠ row) : MapV w' K kq b cnt f := by obtain ⟨D, h, k⟩ := h; exact ⟨D, h.kept hg hb, k⟩
theorem MapV.alloc (h : MapV w K kq b cnt f) (o : Obj) : MapV (w.alloc o) K kq b cnt f := by obtain ⟨D, h, k⟩ := h; exact ⟨D, h.alloc o, k⟩
theorem MapV.drew (h : MapV w K kq b cnt f) : MapV w.drew K kq b cnt f := h
theorem MapV.drewN (h : MapV w K kq b cnt f) (m : Nat) : MapV (w.drewN m) K kq b cnt f := h
theorem MapV.setCell (h : MapV w K kq b cnt f) {p : Addr} (hp : b ≠ p.block) (u : Value) : MapV (w.setCell p u) K kq b cnt f := by obtain ⟨D, h, k⟩ := h; exact ⟨D, h.setCell hp u, k⟩
theorem MapV.chg {S : List Nat} (h : MapV w K kq b cnt f) (c : Chg S w w') (hb : b ∉ S) : MapV w' K kq b cnt f := by
  have hl := h.lt
  obtain ⟨D, ⟨es, clock, h1, r⟩, k⟩ := h
  exact ⟨D, ⟨es, clock, (c.block b hl hb).trans h1, r⟩, k⟩
theorem MapV.congr {g : Int → Option Value} (h : MapV w K kq b cnt f) (e : ∀ k, (Lit.int kq k).wf = true → f k = g k) : MapV w K kq b cnt g := by
  obtain ⟨D, h, s, k⟩ := h; exact ⟨D, h, s, fun x hx => by rw [← e x hx]; exact k x hx⟩

/-- the keys that are there, each once. -/
theorem MapV.keys (h : MapV w K kq b cnt f) (hK : Tryz.prog.underlying K = some (.int kq)) : ∃ l : List Int, l.Nodup ∧ l.length = cnt ∧ ∀ k, k ∈ l ↔ ((Lit.int kq k).wf = true ∧ (f k).isSome = true) := by
  obtain ⟨D, h, s, k⟩ := h
  have h0 := h
  obtain ⟨es, clock, hb, F, hs, hD⟩ := h
  obtain ⟨ens, rfl, hp, _⟩ := h0.entries (int_keyed hK)
  have hens : ∀ p ∈ ens, ∃ x, p.1 = .int kq x ∧ (Lit.int kq x).wf = true := by
    intro p hp
    rw [DataW.map.inj hD] at hp
    obtain ⟨x, hx, rfl⟩ := List.mem_map.1 (mem_sorted.1 hp)
    obtain ⟨y, hy⟩ := F.reads x hx
    rw [WideElems.rg_of hy]
    have hk := WideElems.rd_key hy
    simp only [keyOf, hK] at hk
    cases hv : x.key <;> simp [hv, mapKey, hK] at hk
    rename_i q n
    obtain ⟨⟨rfl, h1⟩, h2⟩ := hk
    exact ⟨n, h2.symm, h1⟩
  refine ⟨ens.map (fun p => match p.1 with | .int _ x => x | _ => 0), ?_, by simpa [Maps.size] using s, fun x => ?_⟩
  · rw [List.Nodup, List.pairwise_map]
    refine hp.imp_of_mem ?_
    intro a c ha hc hne e
    obtain ⟨x, hx, _⟩ := hens a ha
    obtain ⟨y, hy, _⟩ := hens c hc
    rw [hx, hy] at hne e
    exact hne (by simp at e; rw [e])
  · constructor
    · intro hx
      obtain ⟨p, hp', rfl⟩ := List.mem_map.1 hx
      obtain ⟨y, hy, hw⟩ := hens p hp'
      simp only [hy]
      refine ⟨hw, ?_⟩
      rw [← (k y hw).1]
      exact List.any_eq_true.2 ⟨p, hp', by rw [hy]; exact WideAt.sameKey_self (by trivial)⟩
    · rintro ⟨hw, hs'⟩
      rw [← (k x hw).1] at hs'
      obtain ⟨p, hp', he⟩ := List.any_eq_true.1 hs'
      have := WideAt.sameKey_eq he
      exact List.mem_map.2 ⟨p, hp', by rw [this]⟩

theorem MapV.le_u8 (h : MapV w K .u8 b cnt f) (hK : Tryz.prog.underlying K = some (.int .u8)) : cnt ≤ 256 := by
  obtain ⟨l, h1, h2, h3⟩ := h.keys hK
  have := List.Nodup.length_le_of_subset (l₂ := (List.range 256).map (fun (n : Nat) => (n : Int))) h1 (fun x hx => by
    have := wf_u8.1 ((h3 x).1 hx).1
    exact List.mem_map.2 ⟨x.toNat, List.mem_range.2 (by omega), by omega⟩)
  simp at this
  omega

/-- m[k] -/
theorem MapV.look (h : MapV w K kq b cnt f) (hK : Tryz.prog.underlying K = some (.int kq)) {t E : TypeId} (ht : Tryz.prog.underlying t = some (.map K E)) {z : Value} (hz : (zeroValue E).run Tryz.prog w = .ok z w)
    {x : Int} (hx : (Lit.int kq x).wf = true) : (Instr.lookup t (.map (some b)) (.int kq x) false).run Tryz.prog w = .ok ((f x).getD z) w := by
  obtain ⟨D, h, _, k⟩ := h
  obtain ⟨v, ps, hrun, hv⟩ := h.lookup (int_keyed hK) ht hz (zd := .held z) (zp := []) rfl (keyOf_int_mk hK hx)
  rw [(k x hx).2] at hv
  simp only [heldR, Option.some.injEq, Prod.mk.injEq, DataW.held.injEq] at hv
  rw [← hv.1]; exact hrun
theorem MapV.look_ok (h : MapV w K kq b cnt f) (hK : Tryz.prog.underlying K = some (.int kq)) {t E : TypeId} (ht : Tryz.prog.underlying t = some (.map K E)) {z : Value} (hz : (zeroValue E).run Tryz.prog w = .ok z w)
    {x : Int} (hx : (Lit.int kq x).wf = true) : (Instr.lookup t (.map (some b)) (.int kq x) true).run Tryz.prog w = .ok (.tuple #[(f x).getD z, .bool (f x).isSome]) w := by
  obtain ⟨D, h, _, k⟩ := h
  obtain ⟨v, ps, hrun, hv⟩ := h.look_ok (int_keyed hK) ht hz (zd := .held z) (zp := []) rfl (keyOf_int_mk hK hx)
  rw [(k x hx).2] at hv
  simp only [heldR, Option.some.injEq, Prod.mk.injEq, DataW.held.injEq] at hv
  rw [← hv.1, ← (k x hx).1]; exact hrun
theorem MapV.len (h : MapV w K kq b cnt f) {t E : TypeId} (ht : Tryz.prog.underlying t = some (.map K E)) (ty : TypeId) : (Builtin.len_ #[t] ty #[.map (some b)]).run Tryz.prog w = .ok (.int .i64 cnt) w := by
  obtain ⟨D, h, s, _⟩ := h
  rw [← s]; exact h.len ht ty
end
section
variable (w : World) {ops : Array Oper} {rest : List Oper} {o : Oper} {a : Act} {Q : Exit → Act → World → Prop}
theorem wpList_look_v (hg : o.guard = none) (m x : Operand) (t : TypeId) (hop : o.op = Op.lookup t m x false)
    (K E : TypeId) (kq : IntKind) (hK : Tryz.prog.underlying K = some (.int kq)) (ht : Tryz.prog.underlying t = some (.map K E)) (z : Value) (hz : (zeroValue E).run Tryz.prog w = .ok z w) (b cnt : Nat) (f : Int → Option Value) (hf : MapV w K kq b cnt f) (hm : a.eval m = .map (some b)) (v : Int) (hx : a.eval x = .int kq v) (hv : (Lit.int kq v).wf = true)
    (hk : wpList Tryz.prog ops Q rest (a.put o.dst ((f v).getD z)) w) : wpList Tryz.prog ops Q (o :: rest) a w := by
  refine wpList_plain hg fun K' hK' => ?_
  have hrun := hf.look hK ht hz hv
  unfold Oper.wp
  simp [execOp, hop, hm, hx, hrun, Result.andThen]
  exact hK' _ _ hk
theorem wpList_look_ok_v (hg : o.guard = none) (m x : Operand) (t : TypeId) (hop : o.op = Op.lookup t m x true)
    (K E : TypeId) (kq : IntKind) (hK : Tryz.prog.underlying K = some (.int kq)) (ht : Tryz.prog.underlying t = some (.map K E)) (z : Value) (hz : (zeroValue E).run Tryz.prog w = .ok z w) (b cnt : Nat) (f : Int → Option Value) (hf : MapV w K kq b cnt f) (hm : a.eval m = .map (some b)) (v : Int) (hx : a.eval x = .int kq v) (hv : (Lit.int kq v).wf = true)
    (hk : wpList Tryz.prog ops Q rest (a.put o.dst (.tuple #[(f v).getD z, .bool (f v).isSome])) w) : wpList Tryz.prog ops Q (o :: rest) a w := by
  refine wpList_plain hg fun K' hK' => ?_
  have hrun := hf.look_ok hK ht hz hv
  unfold Oper.wp
  simp [execOp, hop, hm, hx, hrun, Result.andThen]
  exact hK' _ _ hk
/-- m[k] = v -/
theorem wpList_upd_v (hg : o.guard = none) (m x v : Operand) (t : TypeId) (hop : o.op = Op.mapUpdate t m x v)
    (K E : TypeId) (kq : IntKind) (hK : Tryz.prog.underlying K = some (.int kq)) (ht : Tryz.prog.underlying t = some (.map K E)) (b cnt : Nat) (f : Int → Option Value) (hf : MapV w K kq b cnt f) (hn : cnt < maxLen) (hm : a.eval m = .map (some b)) (key : Int) (val : Value) (hx : a.eval x = .int kq key) (hv : a.eval v = val)
    (hkw : (Lit.int kq key).wf = true)
    (hk : ∀ w', MapV w' K kq b (if (f key).isSome then cnt else cnt + 1) (fun y => if y = key then some val else f y) → w.mapTurned w' b → wpList Tryz.prog ops Q rest (a.put o.dst undef) w') : wpList Tryz.prog ops Q (o :: rest) a w := by
  obtain ⟨D, h, s, k⟩ := hf
  refine wpList_mapUpdate_in w hg m x v t hop K E (int_keyed hK) ht heldR b cnt D hm h hn _ _ _ hx hv (keyOf_int_mk hK hkw) (.held val) [] rfl (fun w' h' ht' => hk w' ⟨D.put (.int kq key) (.held val), ?_, ?_, fun y hy => ?_⟩ ht')
  · have e := size_put (h.tidy (int_keyed hK)) (k := .int kq key) (.held val)
    rw [(k key hkw).1, s] at e
    obtain ⟨es, clock, h1, F, h2, h3⟩ := h'
    refine ⟨es, clock, h1, F, ?_, h3⟩
    rw [h3] at e
    simp only [Maps.size, length_sorted, List.length_map, Array.length_toList] at e
    omega
  · have e := size_put (h.tidy (int_keyed hK)) (k := .int kq key) (.held val)
    rw [(k key hkw).1, s] at e
    exact e
  · by_cases e : y = key
    · subst e
      have hkl : WideAt.IsKeyLit (.int kq y) := by trivial
      simp only [if_true, Option.isSome_some, Option.getD_some]
      exact ⟨has_put_same h.isMap hkl _, fun z => atKey_put_same h.isMap hkl _ _⟩
    · have hne : Lit.int kq y ≠ Lit.int kq key := fun h => e (by cases h; rfl)
      simp only [if_neg e]
      rw [has_put_other hne]
      exact ⟨(k y hy).1, fun z => by rw [atKey_put_other hne]; exact (k y hy).2 z⟩
/-- delete(m, k) -/
theorem wpList_del_v (hg : o.guard = none) (m x : Operand) (t : TypeId) (K : TypeId) (hop : o.op = Op.call { callee := Callee.builtin Builtin.delete, args := #[m, x], argTypes := #[t, K] })
    (E : TypeId) (kq : IntKind) (hK : Tryz.prog.underlying K = some (.int kq)) (ht : Tryz.prog.underlying t = some (.map K E)) (b cnt : Nat) (f : Int → Option Value) (hf : MapV w K kq b cnt f) (hm : a.eval m = .map (some b)) (key : Int) (hx : a.eval x = .int kq key)
    (hkw : (Lit.int kq key).wf = true)
    (hk : ∀ w', MapV w' K kq b (cnt - if (f key).isSome then 1 else 0) (fun y => if y = key then none else f y) → w.mapTurned w' b → wpList Tryz.prog ops Q rest (a.put o.dst (.tuple #[])) w') : wpList Tryz.prog ops Q (o :: rest) a w := by
  obtain ⟨D, h, s, k⟩ := hf
  refine wpList_delete_own w hg m x t K hop E (int_keyed hK) ht heldR b cnt D hm h _ _ hx (keyOf_int_mk hK hkw) (fun w' h' ht' => hk w' ⟨D.del (.int kq key), ?_, ?_, fun y hy => ?_⟩ ht')
  · have e := size_del (h.tidy (int_keyed hK)) (k := .int kq key)
    rw [(k key hkw).1, s] at e
    obtain ⟨es, clock, h1, F, h2, h3⟩ := h'
    refine ⟨es, clock, h1, F, ?_, h3⟩
    rw [h3] at e
    simp only [Maps.size, length_sorted, List.length_map, Array.length_toList] at e
    omega
  · have e := size_del (h.tidy (int_keyed hK)) (k := .int kq key)
    rw [(k key hkw).1, s] at e
    omega
  · by_cases e : y = key
    · subst e
      simp only [if_true, Option.isSome_none, Option.getD_none]
      exact ⟨has_del_same, fun z => atKey_del_same _⟩
    · have hne : Lit.int kq y ≠ Lit.int kq key := fun h => e (by cases h; rfl)
      simp only [if_neg e]
      rw [has_del_other hne]
      exact ⟨(k y hy).1, fun z => by rw [atKey_del_other hne]; exact (k y hy).2 z⟩
/-- len(m) -/
theorem wpList_len_v (hg : o.guard = none) (m : Operand) (t : TypeId) (hop : o.op = Op.call { callee := Callee.builtin Builtin.len, args := #[m], argTypes := #[t] })
    (K E : TypeId) (kq : IntKind) (ht : Tryz.prog.underlying t = some (.map K E)) (b cnt : Nat) (f : Int → Option Value) (hf : MapV w K kq b cnt f) (hm : a.eval m = .map (some b))
    (hk : wpList Tryz.prog ops Q rest (a.put o.dst (.int .i64 cnt)) w) : wpList Tryz.prog ops Q (o :: rest) a w := by
  obtain ⟨D, h, s, k⟩ := hf
  exact wpList_len_own w hg m t hop K E ht heldR b cnt D hm h (by rw [s]; exact hk)
end
end Go.Proofs.YtmkgbinmilcojaaGreat

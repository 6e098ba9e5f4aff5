/- Slices of things: what is read of them, append. -/
import Derived.Test.YtbagkfeodjkdmaaThings
namespace Go.Proofs.Ytbagkfeodjkdmaa
open Go.RowKit Go.Maps Go.Shelf Go.Deep

theorem infoThing : (Try.prog.info? 111).map (fun i => (i.zero, i.size, i.bytes)) = some (some (.agg #[.int .u64 0, .int .u64 0, .string ⟨#[]⟩]), 3, 32) := by kernel_rfl

theorem addr_add (b o i : Nat) : (⟨b, o, none⟩ : Addr).add i = ⟨b, o + i, none⟩ := by unfold Addr.add; split <;> simp_all
theorem flatT_append (a b : List Thing) : flatT (a ++ b) = flatT a ++ flatT b := by simp [flatT]
theorem flatT_one {m : List Thing} {u : Value} (h : u ∈ flatT m) : u.oneCell' = true := by
  obtain ⟨t, _, h⟩ := List.mem_flatMap.1 h
  simp [cellsT] at h
  rcases h with rfl | rfl | rfl <;> rfl
/-- the slice value x reads the things b. -/
def ThR (W : World) (x : Value) (b : List Thing) : Prop :=
  (x = .slice none 0 0 ∧ b = []) ∨ ∃ g off cap, x = .slice (some ⟨g, off, none⟩) b.length cap ∧ g < W.heap.size ∧ ∀ j u, (flatT b)[j]? = some u → W.cell? ⟨g, off + j, none⟩ = some u
theorem ThR.kept {W W' : World} {row : Option Nat} {x : Value} {b : List Thing} (h : ThR W x b) (hg : W.grownBy W' row) (hne : ∀ g, x.ownBlock = some g → some g ≠ row) : ThR W' x b := by
  rcases h with h | ⟨g, off, cap, rfl, hl, hc⟩
  · exact .inl h
  · exact .inr ⟨g, off, cap, rfl, Nat.lt_of_lt_of_le hl hg.size, fun j u hu => (World.cell?_of_block (w := W) (hg.block g hl (hne g rfl))).trans (hc j u hu)⟩
theorem Th.read {n₀ : Nat} {W : World} {v : Value} {a : List Thing} (h : Th n₀ W v a) : ThR W v a := by
  rcases h.2 with ⟨rfl, h0⟩ | ⟨g, cap, cur, rfl, _, hg, _⟩
  · exact .inl ⟨rfl, List.eq_nil_of_length_eq_zero h0⟩
  · refine .inr ⟨g, 0, cap, rfl, (Array.getElem?_eq_some_iff.1 hg).1, fun j u hu => ?_⟩
    have := World.ownsRow.cells h (g := g) rfl j u hu
    rw [addr_add] at this; exact this
theorem Th.readTake {n₀ : Nat} {W : World} {g n cap : Nat} {a : List Thing} (h : Th n₀ W (.slice (some ⟨g, 0, none⟩) n cap) a) {j : Nat} (hj : j ≤ a.length) : ThR W (.slice (some ⟨g, 0, none⟩) j cap) (a.take j) := by
  rcases h.read with ⟨e, _⟩ | ⟨g', off, cap', e, hl, hc⟩
  · cases e
  · cases e
    refine .inr ⟨g, 0, cap, by rw [List.length_take, Nat.min_eq_left hj], hl, fun i u hu => hc i u ?_⟩
    have e1 : flatT a = flatT (a.take j) ++ flatT (a.drop j) := by rw [← flatT_append, List.take_append_drop]
    rw [e1, List.getElem?_append_left (List.getElem?_eq_some_iff.1 hu).1, hu]
theorem Th.readDrop {n₀ : Nat} {W : World} {g n cap : Nat} {a : List Thing} (h : Th n₀ W (.slice (some ⟨g, 0, none⟩) n cap) a) {j : Nat} (hj : j ≤ a.length) (c2 : Nat) : ThR W (.slice (if cap = j then some ⟨g, 0, none⟩ else some ⟨g, j * 3, none⟩) (a.length - j) c2) (a.drop j) := by
  have hcap : a.length ≤ cap := by
    rcases h.2 with ⟨e, h0⟩ | ⟨g, cap', cur, e, _, _, h1, _⟩
    · omega
    · cases e; exact h1
  rcases h.read with ⟨e, _⟩ | ⟨g', off, cap', e, hl, hc⟩
  · cases e
  · cases e
    by_cases ej : cap = j
    · have e0 : a.drop j = [] := List.drop_eq_nil_of_le (by omega)
      rw [if_pos ej, e0]
      exact .inr ⟨g, 0, c2, by simp; omega, hl, fun i u hu => by cases hu⟩
    · rw [if_neg ej]
      refine .inr ⟨g, j * 3, c2, by rw [List.length_drop], hl, fun i u hu => ?_⟩
      have e1 : flatT a = flatT (a.take j) ++ flatT (a.drop j) := by rw [← flatT_append, List.take_append_drop]
      have e2 : (flatT (a.take j)).length = j * 3 := by rw [flatT_len, List.length_take, Nat.min_eq_left hj]
      have := hc (j * 3 + i) u (by rw [e1, List.getElem?_append_right (by omega), e2, Nat.add_sub_cancel_left, hu])
      simpa using this
theorem th_if_block (p : Prop) [Decidable p] (g o1 o2 n c : Nat) : (Value.slice (if p then some ⟨g, o1, none⟩ else some ⟨g, o2, none⟩) n c).ownBlock = some g := by split <;> rfl

theorem run_append_T (n₀ : Nat) (v x : Value) (a b : List Thing) (w : World) (ty : TypeId) (hv : Th n₀ w v a) (hx : ThR w x b) (hn : n₀ ≤ w.heap.size) (hl : a.length + b.length ≤ 1000000) :
    ∃ v' w', (Builtin.append_ #[107, 107] ty #[v, x]).run Try.prog w = .ok v' w' ∧ Th n₀ w' v' (a ++ b) ∧ w.grownBy w' v.ownBlock ∧ (v'.ownBlock = v.ownBlock ∨ v'.ownBlock = some w.heap.size) := by
  obtain ⟨i0, hi, hz0, hz1, hz2⟩ := info_parts infoThing
  rcases hx with ⟨rfl, rfl⟩ | ⟨g, off, cap, rfl, _, hc⟩
  · refine ⟨v, w, ?_, by simpa using hv, ⟨rfl, rfl, rfl, Nat.le_refl _, fun _ _ _ => rfl⟩, .inl rfl⟩
    rcases hv.2 with ⟨rfl, h0⟩ | ⟨g, cap, cur, rfl, _, _, h1, _⟩
    · simp [Builtin.append_, run_underlying Try.underlying107, sizeOf, typeInfo, hi, Builtin.lenOf, Builtin.firstCells, loadCells, loadCellsFrom]
    · simp [Builtin.append_, run_underlying Try.underlying107, sizeOf, typeInfo, hi, Builtin.lenOf, Builtin.firstCells, h1, storeCells]
  · obtain ⟨v', w', h1, h2, h3, _, h5⟩ := run_append_own_at (P := Try.prog) w n₀ 107 ty 111 i0 _ 3 32 Try.underlying107 hi hz0 hz1 hz2 rfl (by decide) v a.length (flatT a) hv ⟨g, off, none⟩ b.length cap (flatT b) (flatT_len b)
      (fun j u hu => by rw [addr_add]; exact hc j u hu) (fun u hu => flatT_one hu) (by unfold maxLen; omega) (by omega) hn
    exact ⟨v', w', h1, by unfold Th; rw [flatT_append, List.length_append]; exact h2, h3, h5⟩

section
variable {w : World} {ops : Array Oper} {rest : List Oper} {o : Oper} {act : Act} {K : Act → World → Prop} {Q : Exit → Act → World → Prop}
theorem wpList_append_T (hgd : o.guard = none) (s x : Operand) (ho : o.op = .call { callee := .builtin .append, args := #[s, x], argTypes := #[107, 107] })
    (n₀ : Nat) (v xv : Value) (a b : List Thing) (hs : act.eval s = v) (hxv : act.eval x = xv) (hv : Th n₀ w v a) (hx : ThR w xv b) (hn : n₀ ≤ w.heap.size) (hl : a.length + b.length ≤ 1000000)
    (h : ∀ v' w', Th n₀ w' v' (a ++ b) → w.grownBy w' v.ownBlock → (v'.ownBlock = v.ownBlock ∨ v'.ownBlock = some w.heap.size) → wpList Try.prog ops Q rest (act.put o.dst v') w') : wpList Try.prog ops Q (o :: rest) act w := by
  refine wpList_plain hgd fun K hK => ?_
  obtain ⟨v', w', hr, h2, h3, h5⟩ := run_append_T n₀ v xv a b w o.type hv hx hn hl
  unfold Oper.wp execOp
  simp only [ho, resolve, invoke, builtin, Sem.run_bind, Sem.run_pure, Result.andThen_ok, List.map_toArray, List.map_cons, List.map_nil, hs, hxv, hr]
  exact hK _ _ (h v' w' h2 h3 h5)
theorem op_append_T (s x : Operand) (ho : o.op = .call { callee := .builtin .append, args := #[s, x], argTypes := #[107, 107] })
    (n₀ : Nat) (v xv : Value) (a b : List Thing) (hs : act.eval s = v) (hxv : act.eval x = xv) (hv : Th n₀ w v a) (hx : ThR w xv b) (hn : n₀ ≤ w.heap.size) (hl : a.length + b.length ≤ 1000000)
    (h : ∀ v' w', Th n₀ w' v' (a ++ b) → w.grownBy w' v.ownBlock → (v'.ownBlock = v.ownBlock ∨ v'.ownBlock = some w.heap.size) → K (act.put o.dst v') w') : o.wp Try.prog act w K Q := by
  obtain ⟨v', w', hr, h2, h3, h5⟩ := run_append_T n₀ v xv a b w o.type hv hx hn hl
  unfold Oper.wp execOp
  simp only [ho, resolve, invoke, builtin, Sem.run_bind, Sem.run_pure, Result.andThen_ok, List.map_toArray, List.map_cons, List.map_nil, hs, hxv, hr]
  exact h v' w' h2 h3 h5
end
theorem Th.kept {n₀ : Nat} {W W' : World} {row : Option Nat} {v : Value} {m : List Thing} (h : Th n₀ W v m) (hg : W.grownBy W' row) (hne : v.ownBlock = none ∨ v.ownBlock ≠ row) : Th n₀ W' v m := World.ownsRow.kept h hg hne
theorem Th.alloc {n₀ : Nat} {W : World} {v : Value} {m : List Thing} (h : Th n₀ W v m) (o : Obj) : Th n₀ (W.alloc o) v m := World.ownsRow.alloc h o
theorem Th.low {n₀ : Nat} {W : World} {v : Value} {m : List Thing} (h : Th n₀ W v m) {g : Nat} (e : v.ownBlock = some g) : n₀ ≤ g ∧ g < W.heap.size := row_low h g e
theorem Th.empty (n₀ : Nat) (W : World) (hn : n₀ ≤ W.heap.size) : Th n₀ (W.alloc (.cells #[] 111)) (.slice (some ⟨W.heap.size, 0, none⟩) 0 0) [] :=
  ⟨rfl, .inr ⟨W.heap.size, 0, #[], rfl, hn, Blk.new W #[] 111, Nat.le_refl _, Nat.zero_le _, rfl, rfl⟩⟩
theorem Th.drew {n₀ : Nat} {W : World} {v : Value} {m : List Thing} (h : Th n₀ W v m) : Th n₀ W.drew v m := h
theorem ThR.alloc {W : World} {x : Value} {b : List Thing} (h : ThR W x b) (o : Obj) : ThR (W.alloc o) x b := h.kept (World.grownBy_alloc W o none) (fun _ _ => by simp)
theorem th_cap {n₀ : Nat} {W : World} {a : Option Addr} {n cap : Nat} {m : List Thing} (h : Th n₀ W (.slice a n cap) m) : m.length ≤ cap := by
  rcases h.2 with ⟨e, h0⟩ | ⟨g, cap', cur, e, _, _, h1, _⟩
  · omega
  · cases e; exact h1
theorem row_chg {w W : World} {S : List Nat} {n₀ : Nat} {e : TypeId} {s : Nat} {v : Value} {n : Nat} {xs : List Value} (h : w.ownsRow n₀ e s v n xs) (c : Chg S w W) (hS : ∀ b ∈ S, v.ownBlock ≠ some b) : W.ownsRow n₀ e s v n xs := by
  refine ⟨h.1, ?_⟩
  rcases h.2 with h0 | ⟨g, cap, cur, rfl, hb, hg, r⟩
  · exact .inl h0
  · exact .inr ⟨g, cap, cur, rfl, hb, (c.block g (Array.getElem?_eq_some_iff.1 hg).1 (fun e => hS g e rfl)).trans hg, r⟩
end Go.Proofs.Ytbagkfeodjkdmaa

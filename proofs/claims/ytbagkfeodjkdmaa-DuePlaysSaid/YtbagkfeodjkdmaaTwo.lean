/- Two boxed slices that a loop's body appends to, in one region that draws its order: what stands at each point of the region, and behind the stores. -/
import Derived.Test.YtbagkfeodjkdmaaIter
import Derived.BigRegionIn
namespace Go.Proofs.Ytbagkfeodjkdmaa
open Go.RowKit Go.Maps Go.Shelf

theorem rows_ne {W : World} {n n' : Nat} {e e' : TypeId} {s s' : Nat} {v v' : Value} {m m' : Nat} {xs xs' : List Value} (h : W.ownsRow n e s v m xs) (h' : W.ownsRow n' e' s' v' m' xs') (hne : e ≠ e') : v'.ownBlock = none ∨ v'.ownBlock ≠ v.ownBlock := by
  rcases h'.2 with ⟨rfl, _⟩ | ⟨g', cap', cur', rfl, _, hg', _⟩
  · exact .inl rfl
  · refine .inr fun e1 => ?_
    rcases h.2 with ⟨rfl, _⟩ | ⟨g, cap, cur, rfl, _, hg, _⟩
    · simp [Value.ownBlock] at e1
    · simp [Value.ownBlock] at e1
      subst e1
      rw [hg] at hg'
      simp at hg'
      exact hne hg'.2
theorem row_block_ne {W : World} {n : Nat} {e t : TypeId} {s : Nat} {v : Value} {m : Nat} {xs : List Value} (h : W.ownsRow n e s v m xs) {b : Nat} {c : Array Value} (hb : Blk W b c t) (hne : t ≠ e) : some b ≠ v.ownBlock := by
  rcases h.2 with ⟨rfl, _⟩ | ⟨g, cap, cur, rfl, _, hg, _⟩
  · simp [Value.ownBlock]
  · intro e1
    simp [Value.ownBlock] at e1
    subst e1
    rw [show W.heap[b]? = _ from hb] at hg
    simp at hg
    exact hne hg.2
theorem row_cells {W : World} {n : Nat} {e : TypeId} {s : Nat} {v : Value} {m : Nat} {xs : List Value} (h : W.ownsRow n e s v m xs) (j : Nat) (o : Obj) (ej : v.ownBlock = some j) (hj : W.heap[j]? = some o) : o.isCells = true := by
  rcases h.2 with ⟨rfl, _⟩ | ⟨g, cap, cur, rfl, _, hgb, _⟩
  · simp [Value.ownBlock] at ej
  · obtain rfl : g = j := by simpa [Value.ownBlock] using ej
    rw [hgb] at hj; cases hj; rfl
theorem row_low {W : World} {n : Nat} {e : TypeId} {s : Nat} {v : Value} {m : Nat} {xs : List Value} (h : W.ownsRow n e s v m xs) (j : Nat) (ej : v.ownBlock = some j) : n ≤ j ∧ j < W.heap.size := by
  rcases h.2 with ⟨rfl, _⟩ | ⟨g, cap, cur, rfl, hg, hgb, _⟩
  · simp [Value.ownBlock] at ej
  · obtain rfl : g = j := by simpa [Value.ownBlock] using ej
    exact ⟨hg, (Array.getElem?_eq_some_iff.1 hgb).1⟩

/-- W is W0, behind a few steps of the region: the boxes B1, B2 still hold v1, v2; u1, u2 are the slices. -/
structure TwoR (T1 E1 T2 E2 : TypeId) (n₀ B1 B2 : Nat) (W0 : World) (v1 v2 u1 : Value) (m1 : Nat) (xs1 : List Value) (u2 : Value) (m2 : Nat) (xs2 : List Value) (W : World) : Prop where
  b1 : Boxed W B1 T1 v1
  b2 : Boxed W B2 T2 v2
  r1 : W.ownsRow n₀ E1 1 u1 m1 xs1
  r2 : W.ownsRow n₀ E2 1 u2 m2 xs2
  l1 : u1.ownBlock = v1.ownBlock ∨ ∃ g, u1.ownBlock = some g ∧ W0.heap.size ≤ g
  l2 : u2.ownBlock = v2.ownBlock ∨ ∃ g, u2.ownBlock = some g ∧ W0.heap.size ≤ g
  same : ∀ k, k < W0.heap.size → some k ≠ v1.ownBlock → some k ≠ v2.ownBlock → W.heap[k]? = W0.heap[k]?
  below : Below n₀ W0 W
  others : KeepsOthers W0 W
  n0 : n₀ ≤ W0.heap.size

section
variable {T1 E1 T2 E2 : TypeId} {n₀ B1 B2 : Nat} {W0 : World} {v1 v2 u1 : Value} {m1 : Nat} {xs1 : List Value} {u2 : Value} {m2 : Nat} {xs2 : List Value} {W : World}
theorem TwoR.start (h1 : Boxed W0 B1 T1 v1) (h2 : Boxed W0 B2 T2 v2) (h3 : W0.ownsRow n₀ E1 1 v1 m1 xs1) (h4 : W0.ownsRow n₀ E2 1 v2 m2 xs2) (hn : n₀ ≤ W0.heap.size) : TwoR T1 E1 T2 E2 n₀ B1 B2 W0 v1 v2 v1 m1 xs1 v2 m2 xs2 W0 :=
  ⟨h1, h2, h3, h4, .inl rfl, .inl rfl, fun _ _ _ _ => rfl, Below.refl _ _, KeepsOthers.refl _, hn⟩
theorem TwoR.drew (h : TwoR T1 E1 T2 E2 n₀ B1 B2 W0 v1 v2 u1 m1 xs1 u2 m2 xs2 W) : TwoR T1 E1 T2 E2 n₀ B1 B2 W0 v1 v2 u1 m1 xs1 u2 m2 xs2 W.drew :=
  ⟨h.b1, h.b2, h.r1, h.r2, h.l1, h.l2, h.same, h.below.drew, ⟨h.others.size, h.others.same⟩, h.n0⟩
theorem TwoR.size (h : TwoR T1 E1 T2 E2 n₀ B1 B2 W0 v1 v2 u1 m1 xs1 u2 m2 xs2 W) : n₀ ≤ W.heap.size := Nat.le_trans h.n0 h.below.size
theorem TwoR.alloc (h : TwoR T1 E1 T2 E2 n₀ B1 B2 W0 v1 v2 u1 m1 xs1 u2 m2 xs2 W) (o : Obj) : TwoR T1 E1 T2 E2 n₀ B1 B2 W0 v1 v2 u1 m1 xs1 u2 m2 xs2 (W.alloc o) :=
  ⟨h.b1.alloc o, h.b2.alloc o, h.r1.alloc o, h.r2.alloc o, h.l1, h.l2, fun k hk a b => (Below.heap_alloc W o k (Nat.lt_of_lt_of_le hk h.below.size)).trans (h.same k hk a b), h.below.alloc h.size o, h.others.trans (KeepsOthers.alloc _ _), h.n0⟩
theorem TwoR.app1 (h : TwoR T1 E1 T2 E2 n₀ B1 B2 W0 v1 v2 v1 m1 xs1 u2 m2 xs2 W) (t1 : T1 ≠ E1) (t2 : T2 ≠ E1) (t3 : E1 ≠ E2) {w1 : World} {u1 : Value} {m : Nat} {xs : List Value}
    (hown : w1.ownsRow n₀ E1 1 u1 m xs) (hg : W.grownBy w1 v1.ownBlock) (hl : u1.ownBlock = v1.ownBlock ∨ u1.ownBlock = some W.heap.size) : TwoR T1 E1 T2 E2 n₀ B1 B2 W0 v1 v2 u1 m xs u2 m2 xs2 w1 :=
  ⟨h.b1.kept hg (h.b1.not_row t1 h.r1), h.b2.kept hg (h.b2.not_row t2 h.r1), hown, h.r2.kept hg (rows_ne h.r1 h.r2 t3), hl.imp id (fun e => ⟨_, e, h.below.size⟩), h.l2,
    fun k hk a b => (hg.block k (Nat.lt_of_lt_of_le hk h.below.size) a).trans (h.same k hk a b), h.below.grown hg h.size (fun k e => (row_low h.r1 k e).1), h.others.trans (.of_grownBy hg (row_cells h.r1)), h.n0⟩
theorem TwoR.app2 (h : TwoR T1 E1 T2 E2 n₀ B1 B2 W0 v1 v2 u1 m1 xs1 v2 m2 xs2 W) (t1 : T1 ≠ E2) (t2 : T2 ≠ E2) (t3 : E2 ≠ E1) {w1 : World} {u2 : Value} {m : Nat} {xs : List Value}
    (hown : w1.ownsRow n₀ E2 1 u2 m xs) (hg : W.grownBy w1 v2.ownBlock) (hl : u2.ownBlock = v2.ownBlock ∨ u2.ownBlock = some W.heap.size) : TwoR T1 E1 T2 E2 n₀ B1 B2 W0 v1 v2 u1 m1 xs1 u2 m xs w1 :=
  ⟨h.b1.kept hg (h.b1.not_row t1 h.r2), h.b2.kept hg (h.b2.not_row t2 h.r2), h.r1.kept hg (rows_ne h.r2 h.r1 t3), hown, h.l1, hl.imp id (fun e => ⟨_, e, h.below.size⟩),
    fun k hk a b => (hg.block k (Nat.lt_of_lt_of_le hk h.below.size) b).trans (h.same k hk a b), h.below.grown hg h.size (fun k e => (row_low h.r2 k e).1), h.others.trans (.of_grownBy hg (row_cells h.r2)), h.n0⟩

/-- behind the stores. -/
theorem TwoR.fin (h : TwoR T1 E1 T2 E2 n₀ B1 B2 W0 v1 v2 u1 m1 xs1 u2 m2 xs2 W) (hne : B1 ≠ B2) (t11 : T1 ≠ E1) (t12 : T1 ≠ E2) (t21 : T2 ≠ E1) (t22 : T2 ≠ E2) (n1 : n₀ ≤ B1) (n2 : n₀ ≤ B2)
    (g1 : Boxed W0 B1 T1 v1) (g2 : Boxed W0 B2 T2 v2) {k1 k2 : Nat} {ys1 ys2 : List Value} (q1 : W0.ownsRow n₀ E1 1 v1 k1 ys1) (q2 : W0.ownsRow n₀ E2 1 v2 k2 ys2) :
    KeepsOthers W0 ((W.setCell ⟨B1, 0, none⟩ u1).setCell ⟨B2, 0, none⟩ u2) ∧ Kp [] [B1, B2] W0 ((W.setCell ⟨B1, 0, none⟩ u1).setCell ⟨B2, 0, none⟩ u2) ∧
    (Boxed ((W.setCell ⟨B1, 0, none⟩ u1).setCell ⟨B2, 0, none⟩ u2) B1 T1 u1 ∧ ((W.setCell ⟨B1, 0, none⟩ u1).setCell ⟨B2, 0, none⟩ u2).ownsRow n₀ E1 1 u1 m1 xs1) ∧
    (Boxed ((W.setCell ⟨B1, 0, none⟩ u1).setCell ⟨B2, 0, none⟩ u2) B2 T2 u2 ∧ ((W.setCell ⟨B1, 0, none⟩ u1).setCell ⟨B2, 0, none⟩ u2).ownsRow n₀ E2 1 u2 m2 xs2) ∧
    Below n₀ W0 ((W.setCell ⟨B1, 0, none⟩ u1).setCell ⟨B2, 0, none⟩ u2) := by
  have a1 : Boxed (W.setCell ⟨B1, 0, none⟩ u1) B1 T1 u1 := h.b1.set u1
  have a2 : Boxed (W.setCell ⟨B1, 0, none⟩ u1) B2 T2 v2 := h.b2.kept (grownBy_setCell' W B1 u1) (by simp; omega)
  have a3 : (W.setCell ⟨B1, 0, none⟩ u1).ownsRow n₀ E1 1 u1 m1 xs1 := h.r1.kept (grownBy_setCell' W B1 u1) (.inr (h.b1.not_row t11 h.r1).symm)
  have a4 : (W.setCell ⟨B1, 0, none⟩ u1).ownsRow n₀ E2 1 u2 m2 xs2 := h.r2.kept (grownBy_setCell' W B1 u1) (.inr (h.b1.not_row t12 h.r2).symm)
  have a5 : Below n₀ W0 (W.setCell ⟨B1, 0, none⟩ u1) := h.below.setCell (p := ⟨B1, 0, none⟩) n1 u1
  have a6 : KeepsOthers W0 (W.setCell ⟨B1, 0, none⟩ u1) := h.others.trans (KeepsOthers.setCell _ _ _)
  have a7 : ∀ k, k < W0.heap.size → k ≠ B1 → some k ≠ v1.ownBlock → some k ≠ v2.ownBlock → (W.setCell ⟨B1, 0, none⟩ u1).heap[k]? = W0.heap[k]? := fun k hk e1 e2 e3 => (Below.heap_setCell W ⟨B1, 0, none⟩ u1 k e1).trans (h.same k hk e2 e3)
  have hl1 := h.l1; have hl2 := h.l2
  clear h
  generalize W.setCell ⟨B1, 0, none⟩ u1 = X at a1 a2 a3 a4 a5 a6 a7 ⊢
  have c1 : Boxed (X.setCell ⟨B2, 0, none⟩ u2) B1 T1 u1 := a1.kept (grownBy_setCell' X B2 u2) (by simp; omega)
  have c2 : Boxed (X.setCell ⟨B2, 0, none⟩ u2) B2 T2 u2 := a2.set u2
  have c3 : (X.setCell ⟨B2, 0, none⟩ u2).ownsRow n₀ E1 1 u1 m1 xs1 := a3.kept (grownBy_setCell' X B2 u2) (.inr (a2.not_row t21 a3).symm)
  have c4 : (X.setCell ⟨B2, 0, none⟩ u2).ownsRow n₀ E2 1 u2 m2 xs2 := a4.kept (grownBy_setCell' X B2 u2) (.inr (a2.not_row t22 a4).symm)
  have c5 : Below n₀ W0 (X.setCell ⟨B2, 0, none⟩ u2) := a5.setCell (p := ⟨B2, 0, none⟩) n2 u2
  have c6 : KeepsOthers W0 (X.setCell ⟨B2, 0, none⟩ u2) := a6.trans (KeepsOthers.setCell _ _ _)
  have c7 : ∀ k, k < W0.heap.size → k ≠ B1 → k ≠ B2 → some k ≠ v1.ownBlock → some k ≠ v2.ownBlock → (X.setCell ⟨B2, 0, none⟩ u2).heap[k]? = W0.heap[k]? := fun k hk e1 e0 e2 e3 => (Below.heap_setCell X ⟨B2, 0, none⟩ u2 k e0).trans (a7 k hk e1 e2 e3)
  clear a1 a2 a3 a4 a5 a6 a7
  generalize X.setCell ⟨B2, 0, none⟩ u2 = Y at c1 c2 c3 c4 c5 c6 c7 ⊢
  refine ⟨c6, ?_, ⟨c1, c3⟩, ⟨c2, c4⟩, c5⟩
  have hnew : ∀ k, Tch [] [B1, B2] Y k → k = B1 ∨ k = B2 ∨ u1.ownBlock = some k ∨ u2.ownBlock = some k := by
    rintro k (h | h | ⟨B', hB', o, n, c, h⟩)
    · cases h
    · simp at h; rcases h with h | h
      · exact .inl h
      · exact .inr (.inl h)
    · simp at hB'
      rcases hB' with rfl | rfl
      · rw [c1.cell] at h; cases h; exact .inr (.inr (.inl rfl))
      · rw [c2.cell] at h; cases h; exact .inr (.inr (.inr rfl))
  have ho1 : ∀ g, v1.ownBlock = some g → Tch [] [B1, B2] W0 g := by
    intro g hg
    rcases q1.2 with ⟨rfl, _⟩ | ⟨g', cap, cur, rfl, _, hgb, _⟩
    · cases hg
    · simp [Value.ownBlock] at hg; subst hg; exact .inr (.inr ⟨B1, by simp, 0, k1, cap, g1.cell⟩)
  have ho2 : ∀ g, v2.ownBlock = some g → Tch [] [B1, B2] W0 g := by
    intro g hg
    rcases q2.2 with ⟨rfl, _⟩ | ⟨g', cap, cur, rfl, _, hgb, _⟩
    · cases hg
    · simp [Value.ownBlock] at hg; subst hg; exact .inr (.inr ⟨B2, by simp, 0, k2, cap, g2.cell⟩)
  refine ⟨c5.size, fun b o hb _ hn => ?_, fun b hb h => ?_, fun _ b h => ?_⟩
  · rw [c7 b (Array.getElem?_eq_some_iff.1 hb).1 (fun e => hn (.inr (.inl (by simp [e])))) (fun e => hn (.inr (.inl (by simp [e])))) (fun e => hn (ho1 b e.symm)) (fun e => hn (ho2 b e.symm))]
    exact hb
  · rcases hnew b h with rfl | rfl | h | h
    · exact .inr (.inl (by simp))
    · exact .inr (.inl (by simp))
    · rcases hl1 with hl | ⟨g, hl, hg⟩
      · exact ho1 b (hl ▸ h)
      · rw [hl] at h; cases h; omega
    · rcases hl2 with hl | ⟨g, hl, hg⟩
      · exact ho2 b (hl ▸ h)
      · rw [hl] at h; cases h; omega
  · rcases hnew b h with rfl | rfl | h | h
    · exact c1.lt
    · exact c2.lt
    · exact (row_low c3 b h).2
    · exact (row_low c4 b h).2
end

/-- an append, as one operation of a fenced region that draws its order. -/
theorem opIn_append {F : Fence} {nF : Nat} {P : Program} {w : World} {o : Oper} {a : Act} {K : Act → World → Prop} {Q : Exit → Act → World → Prop} (s x : Operand) (t : TypeId)
    (ho : o.op = .call { callee := .builtin .append, args := #[s, x], argTypes := #[t, t] })
    (base : Nat) (e : TypeId) (i : TypeInfo) (z : Value) (size bytes : Nat) (ht : P.underlying t = some (.slice e)) (hi : P.info? e = some i) (hz : i.zero = some z)
    (hsize : i.size = size) (hby : i.bytes = bytes) (hzs : z.cells.size = size) (hsz : 0 < size)
    (v : Value) (n : Nat) (xs : List Value) (hs : a.eval s = v) (hown : w.ownsRow base e size v n xs)
    (ad : Addr) (m c : Nat) (news : List Value) (hx : a.eval x = .slice (some ad) m c) (hl : news.length = m * size) (hnews : ∀ j u, news[j]? = some u → w.cell? (ad.add j) = some u) (h1 : ∀ u ∈ news, u.oneCell' = true)
    (h63 : n + m ≤ maxLen) (hbytes : (n + m) * bytes ≤ 140737488355328) (hbase : base ≤ w.heap.size)
    (h : ∀ v' w', w'.ownsRow base e size v' (n + m) (xs ++ news) → w.grownBy w' v.ownBlock → (v' = .slice none 0 0 ↔ v = .slice none 0 0 ∧ m = 0) → (v'.ownBlock = v.ownBlock ∨ v'.ownBlock = some w.heap.size) → K (a.put o.dst v') w') :
    o.wpIn F nF P a w K Q := by
  obtain ⟨v', w', hr, h2, h3, h4, h5⟩ := run_append_own_at (P := P) w base t o.type e i z size bytes ht hi hz hsize hby hzs hsz v n xs hown ad m c news hl hnews h1 h63 hbytes hbase
  unfold Oper.wpIn
  refine ⟨by simp [Oper.about, ho, resolve, Target.leads, Sem.run_pure], ?_⟩
  rw [Oper.semAt_plain F _ _ (by rw [ho]; intro c hc'; cases hc')]
  simp [execOp, ho, resolve, invoke, builtin, hs, hx, hr, Result.andThen]
  exact h v' w' h2 h3 h4 h5
end Go.Proofs.Ytbagkfeodjkdmaa

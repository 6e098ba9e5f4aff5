/- Range over a map with whole-number keys: how far it is (RngV), and the walk's laws. -/
import Derived.Test.YtmkgbinmilcojaaGreatIter
import Derived.Sort.MapsRangeIn
import Derived.Sort.Grow
import Derived.RangeFuncBound
namespace Go.Proofs.YtmkgbinmilcojaaGreat
open Go.RowKit Go.Maps Go.Shelf

/-- block r walks over the map b (f); ss have come; cnt are left. -/
def RngV (w : World) (K : TypeId) (kq : IntKind) (b r : Nat) (f : Int → Option Value) (ss : List Int) (cnt : Nat) : Prop :=
  ∃ (D : DataW Value) (left : Lit → Bool) (nn : Nat), w.ranges Tryz.prog K heldR b r nn D left cnt ∧
    (∀ k, (Lit.int kq k).wf = true → (Maps.has D (.int kq k) = (f k).isSome ∧ ∀ z, D.atKey (.int kq k) (.held z) = .held ((f k).getD z))) ∧
    ss.Nodup ∧ (∀ x, x ∈ ss → (Lit.int kq x).wf = true) ∧ ∀ x, (Lit.int kq x).wf = true → (x ∈ ss ↔ ((f x).isSome = true ∧ left (.int kq x) = false))

theorem RngV.left_eq {w : World} {K : TypeId} {kq : IntKind} {b r : Nat} {f : Int → Option Value} {ss : List Int} {cnt : Nat} (h : RngV w K kq b r f ss cnt) : w.rangeLeft b r = cnt := by
  obtain ⟨D, left, nn, h, _⟩ := h; exact h.left_eq
theorem RngV.kp {Fx Bs : List Nat} {w W : World} {K : TypeId} {kq : IntKind} {b r : Nat} {f : Int → Option Value} {ss : List Int} {cnt : Nat} (h : RngV w K kq b r f ss cnt) (c : Kp Fx Bs w W) (hb : ¬ Tch Fx Bs w b) (hr : ¬ Tch Fx Bs w r) : RngV W K kq b r f ss cnt := by
  obtain ⟨D, left, nn, ⟨es, clock, since, seen, c0, h1, h2, h3, h4, h5, h6⟩, k⟩ := h
  exact ⟨D, left, nn, ⟨es, clock, since, seen, c0, c.same b _ h1 (.inr rfl) hb, h2, h3, h4, c.same r _ h5 (.inr rfl) hr, h6⟩, k⟩
theorem RngV.chg {S : List Nat} {w W : World} {K : TypeId} {kq : IntKind} {b r : Nat} {f : Int → Option Value} {ss : List Int} {cnt : Nat} (h : RngV w K kq b r f ss cnt) (c : Chg S w W) (hb : b ∉ S) (hr : r ∉ S) : RngV W K kq b r f ss cnt := by
  obtain ⟨D, left, nn, ⟨es, clock, since, seen, c0, h1, h2, h3, h4, h5, h6⟩, k⟩ := h
  exact ⟨D, left, nn, ⟨es, clock, since, seen, c0, (c.block b (Array.getElem?_eq_some_iff.1 h1).1 hb).trans h1, h2, h3, h4, (c.block r (Array.getElem?_eq_some_iff.1 h5).1 hr).trans h5, h6⟩, k⟩
theorem RngV.walk {w : World} {K : TypeId} {kq : IntKind} {b r : Nat} {f : Int → Option Value} {ss : List Int} {cnt : Nat} (h : RngV w K kq b r f ss cnt) : ∃ o : Obj, w.heap[r]? = some o ∧ o.isWalk = true := by
  obtain ⟨D, left, nn, h, _⟩ := h; exact h.iter_walk

section
variable (w : World) {F : Fence} {n : Nat} {ops : Array Oper} {rest : List Oper} {o : Oper} {a : Act} {Q : Exit → Act → World → Prop}
theorem wpListIn_range_v (hg : o.guard = none) (m : Operand) (t : TypeId) (hop : o.op = Op.range t m) (K E : TypeId) (kq : IntKind) (hK : Tryz.prog.underlying K = some (.int kq)) (ht : Tryz.prog.underlying t = some (.map K E)) (b cnt : Nat) (f : Int → Option Value)
    (hm : a.eval m = .map (some b)) (hf : MapV w K kq b cnt f)
    (hk : ∀ w', RngV w' K kq b w.heap.size f [] cnt → w.grownBy w' none → w'.heap.size = w.heap.size + 1 → wpListIn F n Tryz.prog ops Q rest (a.put o.dst (.pointer (some ⟨w.heap.size, 0, none⟩))) w') :
    wpListIn F n Tryz.prog ops Q (o :: rest) a w := by
  obtain ⟨D, h, s, k⟩ := hf
  refine wpListIn_range_own w hg m t hop K E (int_keyed hK) ht heldR b cnt D hm h (fun w' hr hg' hs => hk w' ⟨D, _, cnt, by rw [← s] at hr ⊢; exact hr, k, List.nodup_nil, by simp, fun x hx => ?_⟩ hg' hs)
  rw [(k x hx).1]
  cases (f x).isSome <;> simp

theorem wpListIn_next_v (hg : o.guard = none) (it : Operand) (hop : o.op = Op.next it false) (K : TypeId) (kq : IntKind) (hK : Tryz.prog.underlying K = some (.int kq)) (b r : Nat) (f : Int → Option Value) (ss : List Int) (cnt : Nat)
    (hit : a.eval it = .pointer (some ⟨r, 0, none⟩)) (h : RngV w K kq b r f ss cnt)
    (hDone : cnt = 0 → (∀ x, x ∈ ss ↔ ((Lit.int kq x).wf = true ∧ (f x).isSome = true)) → wpListIn F n Tryz.prog ops Q rest (a.put o.dst (.tuple #[.bool false])) w)
    (hMore : ∀ (x : Int) (v : Value) (w' : World) (cnt' : Nat), (Lit.int kq x).wf = true → f x = some v → x ∉ ss → RngV w' K kq b r f (ss ++ [x]) cnt' → cnt' < cnt →
      w.grownBy w' (some r) → w'.heap.size = w.heap.size → (Instr.entry (.pointer (some ⟨r, 0, none⟩))).run Tryz.prog w' = .ok (.tuple #[.int kq x, v]) w' → wpListIn F n Tryz.prog ops Q rest (a.put o.dst (.tuple #[.bool true, .int kq x, v])) w') :
    wpListIn F n Tryz.prog ops Q (o :: rest) a w := by
  obtain ⟨D, left, nn, h, k, hnd, hwf, hss⟩ := h
  refine wpListIn_next_ranges w hg it hop K (int_keyed hK) heldR (Value.int kq) id (fun key kl hkey => by obtain ⟨x, rfl, _⟩ := Maps.keyOf_int_inv hK hkey; exact ⟨x, rfl⟩) (fun v _ _ => ⟨v, rfl⟩) b r nn D left cnt hit h ?_ ?_
  · intro h0 hl
    exact hDone h0 (fun x => ⟨fun hx => ⟨hwf x hx, ((hss x (hwf x hx)).1 hx).1⟩, fun hx => (hss x hx.1).2 ⟨hx.2, hl _⟩⟩)
  · intro x v kl y w' cnt' hkey hlk hv hat hrg hlt hgr hsz hen
    obtain ⟨x', ex, rfl, hwx⟩ := Maps.keyOf_int_inv hK hkey
    cases ex
    have e1 : y.1 = .held v := by simp only [heldR, id, Option.some.injEq] at hv; rw [← hv]
    have e2 := (k x hwx).2
    have hsome : f x = some v := by
      have h1 := hat (.held v); have h2 := hat (.held undef)
      have h3 := (k x hwx).1
      have h4 : Maps.has D (.int kq x) = true := has_true_of_atKey (y := y.1) hat
      rw [h4] at h3
      obtain ⟨u, hu⟩ := Option.isSome_iff_exists.1 h3.symm
      rw [e2 v, e1, hu] at h1
      simp at h1
      rw [hu, h1]
    have hnew : x ∉ ss := fun hx => by have := ((hss x hwx).1 hx).2; rw [hlk] at this; cases this
    refine hMore x v w' cnt' hwx hsome hnew ⟨D, _, nn, hrg, k, ?_, ?_, ?_⟩ hlt hgr hsz hen
    · exact List.nodup_append.2 ⟨hnd, by simp, fun a ha b hb => by simp at hb; subst hb; exact fun e => hnew (e ▸ ha)⟩
    · intro z hz
      rcases List.mem_append.1 hz with hz | hz
      · exact hwf z hz
      · simp at hz; subst hz; exact hwx
    · intro z hz
      by_cases hzx : z = x
      · subst hzx; simp [hsome, Lit.sameKey]
      · simp [hss z hz, hzx, Lit.sameKey]
end

/-- an iterator tells at most N things. -/
theorem stopsK_bounded {α : Type} {F : Fence} {n : Nat} {P : Program} {g : Nat} {lb : Array Value} {encs : α → Array Value} {K : World → World → Prop} {S Sp : List α → Prop} {N : Nat} {w : World}
    (h : SeqStopsK F n P g lb encs K S Sp N w) : SeqStopsK F n P g lb encs K (fun xs => S xs ∧ xs.length ≤ N) Sp N w := fun l J Jx W hW hJ hJx hY h0 => by
  refine (h l (fun xs W' => J xs W' ∧ xs.length ≤ N) Jx W hW (fun s A B row hs hg hr => ⟨hJ s A B row hs.1 hg hr, hs.2⟩) hJx
    (fun pre x W1 hj hl => (hY pre x W1 hj.1 hl).mono (fun e w' hr => hr.imp (fun hr => ⟨hr.1, ⟨hr.2.1, by simp; omega⟩, hr.2.2⟩) id)) ⟨h0, Nat.zero_le _⟩).mono ?_
  rintro e W' ⟨hv, h⟩
  refine ⟨hv, h.imp (fun h => ?_) id⟩
  obtain ⟨xs, hS, hJ', hlen⟩ := h
  exact ⟨xs, ⟨hS, hlen⟩, hJ'⟩

/-! ### a slice of whole numbers, sorted in place -/
open Go.Sort in
theorem SlI.sorted {W : World} {kq : IntKind} {g off cap len : Nat} {l ts : List Int} (h : SlI W kq (.slice (some ⟨g, off, none⟩) len cap) l) (hl : ts.length = l.length) (n : Nat) (os : Array Obj) :
    SlI (grow (putRow (Value.int kq) (Sort.ahead W n) g off ts.toArray) os) kq (.slice (some ⟨g, off, none⟩) len cap) ts := by
  rcases h with ⟨e, _⟩ | ⟨b, off', cap', c, t, e, hb, hc⟩
  · cases e
  · cases e
    refine .inr ⟨g, off, cap, putCells (Value.int kq) off ts.toArray c, t, by rw [hl], ?_, fun i hi => ?_⟩
    · show (grow _ os).heap[g]? = _
      have hg : g < W.heap.size := hb.lt
      rw [heap_grow_old _ _ (by simpa using hg)]
      have hb' : W.heap[g]? = some (.cells c t (0, 0)) := hb
      simp [putRow, mapBlock, Sort.ahead, Array.getElem?_modify, hb', onCells]
    · have := hc i (by omega)
      have hlt : off + i < c.size := by
        by_cases h : off + i < c.size
        · exact h
        · rw [Array.getElem?_eq_none (by omega)] at this; cases this
      simp [putCells, hi, hlt]
open Go.Sort in
theorem chg_sorted (W : World) (enc : Int → Value) (g off n : Nat) (d : Array Int) (os : Array Obj) (S : List Nat) (hg : g ∈ S) : Chg S W (grow (putRow enc (Sort.ahead W n) g off d) os) := by
  refine ⟨rfl, rfl, rfl, by simp, fun k hk hne => ?_⟩
  rw [heap_grow_old _ _ (by simpa using hk)]
  have : g ≠ k := fun e => hne (by rw [← e]; exact hg)
  simp [putRow, mapBlock, Sort.ahead, Array.getElem?_modify, this]
open Go.Sort in
theorem SlI.holds {W : World} {kq : IntKind} {g off cap len : Nat} {l : List Int} (h : SlI W kq (.slice (some ⟨g, off, none⟩) len cap) l) : Holds (Value.int kq) W g off l.toArray ∧ g < W.heap.size ∧ len = l.length := by
  rcases h with ⟨e, _⟩ | ⟨b, off', cap', c, t, e, hb, hc⟩
  · cases e
  · cases e
    refine ⟨fun j hj => ?_, hb.lt, rfl⟩
    have hj' : j < l.length := by simpa using hj
    exact ⟨by rw [hb.cell _ (hc j hj')]; simp [hj'], hb.free _⟩
/-- what a slice of the call's own holds. -/
theorem SlI.of_own {W : World} {n₀ : Nat} {T : TypeId} {kq : IntKind} {v : Value} {l : List Int} (hrow : W.ownsRow n₀ T 1 v l.length (l.map (Value.int kq))) : SlI W kq v l ∧ ∀ k, inBlk v k → n₀ ≤ k := by
  refine ⟨?_, ?_⟩
  · rcases hrow.2 with ⟨rfl, h0⟩ | ⟨g, cap, cur, rfl, hg, hb, h1, h2, h3, h4⟩
    · exact .inl ⟨rfl, List.eq_nil_of_length_eq_zero h0⟩
    · refine .inr ⟨g, 0, cap, cur, _, rfl, hb, fun i hi => ?_⟩
      have : (cur.toList.take (l.length * 1))[i]? = (l.map (Value.int kq))[i]? := by rw [h4]
      rw [List.getElem?_take_of_lt (by omega)] at this
      simpa [hi] using this
  · rintro k ⟨o, n, c, rfl⟩
    rcases hrow.2 with ⟨e, _⟩ | ⟨g, cap, cur, e, hg, _⟩
    · cases e
    · cases e; exact hg
/-- whole numbers, sorted. -/
def srt (l : List Int) : List Int := l.mergeSort (fun x y => decide (x ≤ y))
theorem srt_length (l : List Int) : (srt l).length = l.length := List.length_mergeSort l
theorem srt_mem (l : List Int) (x : Int) : x ∈ srt l ↔ x ∈ l := (List.mergeSort_perm l _).mem_iff
theorem srt_sorted (l : List Int) : (srt l).Pairwise (· ≤ ·) := by
  have := List.pairwise_mergeSort (le := fun x y : Int => decide (x ≤ y)) (fun a b c h1 h2 => by simp only [decide_eq_true_eq] at *; exact Int.le_trans h1 h2) (fun a b => by simp only [Bool.or_eq_true, decide_eq_true_eq]; exact Int.le_total a b) l
  exact this.imp (fun h => by simpa using h)
/-- sorted lists of the same things are one list. -/
theorem srt_eq {l t : List Int} (h : l.Perm t) (ht : t.Pairwise (· ≤ ·)) : srt l = t :=
  List.Perm.eq_of_pairwise (le := (· ≤ ·)) (fun _ _ _ _ h1 h2 => Int.le_antisymm h1 h2) (srt_sorted l) ht ((List.mergeSort_perm l _).trans h)
end Go.Proofs.YtmkgbinmilcojaaGreat

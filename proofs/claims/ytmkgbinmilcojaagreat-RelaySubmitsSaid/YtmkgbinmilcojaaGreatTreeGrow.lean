/- Package tree: a block more (plain), and what Add leaves. -/
import Derived.Test.YtmkgbinmilcojaaGreatTreeCheck0
namespace Go.Proofs.YtmkgbinmilcojaaGreat
open Go.RowKit Go.Maps
attribute [-go_sem] loadCellsFrom Instr.build

def newP (h : Hd) (i : Nat) (p : Pn) : Pn := ⟨h, some i, p.ht + 1, (p.wk + hdW h) % TOP, 0⟩
def Tr.grow (T : Tr) (h : Hd) (i : Nat) (p : Pn) : Tr := ⟨T.r, T.ns.set i { p with kd := p.kd + 1 } ++ [newP h i p], T.ch, if 0 < p.kd then T.tips + 1 else T.tips⟩
def Lt.grow (x : Lt) (g : Nat) : Lt := ⟨x.b, x.m, x.c, x.bl ++ [g]⟩
def Tr.wkL (T : Tr) : Nat := ((T.ns[T.last]?).map (fun p => p.wk)).getD 0
theorem Tr.find_lt {T : Tr} {k : List Nat} {i : Nat} (h : T.find k = some i) : i < T.ns.length := (List.findIdx?_eq_some_iff_getElem.1 h).1
theorem findIdx_set {f : Pn → Bool} : ∀ (l : List Pn) (i : Nat) (q p : Pn), l[i]? = some p → f q = f p → (l.set i q).findIdx? f = l.findIdx? f
  | [], _, _, _, h, _ => by simp at h
  | a :: l, 0, q, p, h, e => by
    simp at h; subst h
    simp [List.findIdx?_cons, e]
  | a :: l, i + 1, q, p, h, e => by
    simp only [List.set_cons_succ, List.findIdx?_cons]
    rw [findIdx_set l i q p (by simpa using h) e]
theorem Tr.grow_find (T : Tr) (h : Hd) (i : Nat) (p : Pn) (hp : T.ns[i]? = some p) (hn : T.find (hdH h) = none) (k : List Nat) : (T.grow h i p).find k = if k = hdH h then some T.ns.length else T.find k := by
  unfold Tr.find Tr.grow
  simp only
  rw [List.findIdx?_append, findIdx_set (f := fun p => decide (hdH p.h = k)) T.ns i { p with kd := p.kd + 1 } p hp rfl]
  by_cases hk : k = hdH h
  · subst hk
    rw [if_pos rfl]
    unfold Tr.find at hn
    rw [hn]
    simp [List.findIdx?_cons, newP]
  · rw [if_neg hk]
    have hkk : ¬ hdH h = k := fun e => hk e.symm
    cases T.ns.findIdx? (fun p => decide (hdH p.h = k)) with
    | none => simp [List.findIdx?_cons, newP, hkk]
    | some j => simp
theorem adrB_grow (bl : List Nat) (g : Nat) {i : Nat} (h : i < bl.length) : adrB (bl ++ [g]) i = adrB bl i := by
  simp [adrB, List.getD_eq_getElem?_getD, List.getElem?_append_left h]
theorem adrB_new (bl : List Nat) (g : Nat) {n : Nat} (h : bl.length = n) : adrB (bl ++ [g]) n = some ⟨g, 0, none⟩ := by
  simp [adrB, List.getD_eq_getElem?_getD, ← h]
theorem getD_new (bl : List Nat) (g : Nat) {n : Nat} (h : bl.length = n) : (bl ++ [g]).getD n 0 = g := by
  simp [List.getD_eq_getElem?_getD, ← h]
theorem getD_old (bl : List Nat) (g : Nat) {i : Nat} (h : i < bl.length) : (bl ++ [g]).getD i 0 = bl.getD i 0 := by
  simp [List.getD_eq_getElem?_getD, List.getElem?_append_left h]
theorem TrOk.ahs {T : Tr} (ok : TrOk T) {i : Nat} {p : Pn} (hp : T.ns[i]? = some p) : ∀ a, p.ah = some a → a < T.ns.length := fun a e => by
  obtain ⟨_, q, hq, _⟩ := ok.ah i p a hp e
  exact (List.getElem?_eq_some_iff.1 hq).1
theorem Pn.l_grow {T : Tr} (ok : TrOk T) {bl : List Nat} (hl : bl.length = T.ns.length) (g : Nat) {i : Nat} {p : Pn} (hp : T.ns[i]? = some p) : p.l (bl ++ [g]) = p.l bl := by
  unfold Pn.l
  cases ha : p.ah with
  | none => rfl
  | some a => simp only [Option.bind_some]; rw [adrB_grow bl g (by rw [hl]; exact ok.ahs hp a ha)]
/-- the pieces that Add has laid. -/
theorem TreeAt.grown {w W : World} {x : Lt} {T : Tr} (h : TreeAt w x T) (ok : TrOk T) (hd : Hd) (i : Nat) (p : Pn) (hp : T.ns[i]? = some p) (hn : T.find (hdH hd) = none) (g c : Nat)
    (hg : ∀ b ∈ x.bl, b ≠ g)
    (hT : Blk W x.b (T.r.l ++ [Value.map (some x.m), Value.slice (some ⟨x.c, 0, none⟩) T.ch.length c, Value.int .i64 ((T.grow hd i p).tips : Int)]).toArray 91)
    (hC : W.ownsRow 0 84 1 (.slice (some ⟨x.c, 0, none⟩) T.ch.length c) T.ch.length (T.ch.map fun i => Value.pointer (adrB x.bl i)))
    (hM : MapH W x.m (T.ns.length + 1) (fun y => if y = hdH hd then some (Value.pointer (some ⟨g, 0, none⟩)) else (T.find y).map fun i => Value.pointer (adrB x.bl i)))
    (hN : ∀ j q, j ≠ i → T.ns[j]? = some q → Blk W (x.bl.getD j 0) (q.l x.bl).toArray 86)
    (hI : Blk W (x.bl.getD i 0) (({ p with kd := p.kd + 1 } : Pn).l x.bl).toArray 86)
    (hG : Blk W g ((newP hd i p).l x.bl).toArray 86) : TreeAt W (x.grow g) (T.grow hd i p) := by
  have hil : i < T.ns.length := (List.getElem?_eq_some_iff.1 hp).1
  have hpt : ∀ q : Pn, q.ah = none ∨ (∃ a, q.ah = some a ∧ a < x.bl.length) → q.l (x.bl ++ [g]) = q.l x.bl := by
    intro q hq
    unfold Pn.l
    rcases hq with e | ⟨a, e, hl⟩
    · rw [e]; rfl
    · rw [e]; simp only [Option.bind_some]; rw [adrB_grow x.bl g hl]
  have hpah : ∀ {j : Nat} {q : Pn}, T.ns[j]? = some q → q.ah = none ∨ (∃ a, q.ah = some a ∧ a < x.bl.length) := fun {j q} hq => by
    cases e : q.ah with
    | none => exact .inl rfl
    | some a => exact .inr ⟨a, rfl, by rw [h.len]; exact ok.ahs hq a e⟩
  refine ⟨⟨c, hT, ?_⟩, ?_, ?_, by simp [Lt.grow, Tr.grow, h.len], ?_⟩
  · have e : (T.grow hd i p).ch.map (fun i => Value.pointer (adrB (x.grow g).bl i)) = T.ch.map fun i => Value.pointer (adrB x.bl i) := by
      refine List.map_congr_left (fun j hj => ?_)
      obtain ⟨k, hk⟩ := List.getElem?_of_mem hj
      obtain ⟨q, hq, _⟩ := ok.ch k j hk
      show Value.pointer (adrB (x.bl ++ [g]) j) = _
      rw [adrB_grow x.bl g (by rw [h.len]; exact (List.getElem?_eq_some_iff.1 hq).1)]
    rw [e]; exact hC
  · have e : (T.grow hd i p).ns.length = T.ns.length + 1 := by simp [Tr.grow]
    rw [e]
    refine hM.congr (fun k _ => ?_)
    rw [Tr.grow_find T hd i p hp hn k]
    by_cases hk : k = hdH hd
    · rw [if_pos hk, if_pos hk]
      show some _ = some (Value.pointer (adrB (x.bl ++ [g]) T.ns.length))
      rw [adrB_new x.bl g h.len]
    · rw [if_neg hk, if_neg hk]
      cases hf : T.find k with
      | none => rfl
      | some j =>
        show some _ = some (Value.pointer (adrB (x.bl ++ [g]) j))
        rw [adrB_grow x.bl g (by rw [h.len]; exact Tr.find_lt hf)]
  · intro j q hq
    show Blk W ((x.bl ++ [g]).getD j 0) (q.l (x.bl ++ [g])).toArray 86
    by_cases hj : j < T.ns.length
    · rw [getD_old x.bl g (by rw [h.len]; exact hj)]
      have hq' : (T.ns.set i { p with kd := p.kd + 1 })[j]? = some q := by
        have : (T.grow hd i p).ns[j]? = (T.ns.set i { p with kd := p.kd + 1 })[j]? := by
          unfold Tr.grow; rw [List.getElem?_append_left (by simpa using hj)]
        rw [← this]; exact hq
      by_cases hji : j = i
      · subst hji
        rw [List.getElem?_set_self hil] at hq'
        cases hq'
        rw [hpt _ (by have := hpah hp; exact this)]
        exact hI
      · rw [List.getElem?_set_ne (fun e => hji e.symm)] at hq'
        rw [hpt q (hpah hq')]
        exact hN j q hji hq'
    · have hq2 : j = T.ns.length ∧ q = newP hd i p := by
        have hl := (List.getElem?_eq_some_iff.1 hq).1
        have hjl : j = T.ns.length := by simp [Tr.grow] at hl; omega
        refine ⟨hjl, ?_⟩
        subst hjl
        simpa [Tr.grow] using hq.symm
      obtain ⟨rfl, rfl⟩ := hq2
      rw [getD_new x.bl g h.len, hpt _ (.inr ⟨i, rfl, by rw [h.len]; exact hil⟩)]
      exact hG
  · show (x.bl ++ [g]).Nodup
    rw [List.nodup_append]
    exact ⟨h.nodup, by simp, fun a ha b hb => by simp at hb; subst hb; exact hg a ha⟩
end Go.Proofs.YtmkgbinmilcojaaGreat

import Derived.Test.YtmkgbinmilcojaaGreatTreeGrow
import Derived.Test.YtmkgbinmilcojaaGreatTreeAddT
import Derived.Test.YtmkgbinmilcojaaGreatTreeCheck0

/- Package tree, plain: the trees that grow; the way to the chain; the fork. -/
namespace Go.Proofs.YtmkgbinmilcojaaGreat
open Go.RowKit Go.Maps

structure TrInv (T : Tr) : Prop where
  ok : TrOk T
  root : ∀ (i : Nat) (p : Pn), T.ns[i]? = some p → p.ah = none → i = 0
  c0 : T.ch[0]? = some 0
  hts : ∀ p ∈ T.ns, p.ht < T.ns.length
  kds : ∀ p ∈ T.ns, p.kd < T.ns.length
  tps : T.tips ≤ T.ns.length

/-- from a block to the chain, by those ahead. -/
inductive Climb (T : Tr) : Nat → List Nat → Nat → Prop
  | on {j : Nat} {p : Pn} : T.ns[j]? = some p → T.ch[p.ht]? = some j → Climb T j [] j
  | up {i : Nat} {p : Pn} {a : Nat} {bs : List Nat} {j : Nat} : T.ns[i]? = some p → T.ch[p.ht]? ≠ some i → p.ah = some a → Climb T a bs j → Climb T i (i :: bs) j
def Tr.climb (T : Tr) : Nat → Nat → List Nat × Nat
  | 0, i => ([], i)
  | f + 1, i => match T.ns[i]? with
    | none => ([], i)
    | some p => if T.ch[p.ht]? = some i then ([], i) else match p.ah with
      | none => ([], i)
      | some a => (i :: (T.climb f a).1, (T.climb f a).2)
theorem TrInv.at0 {T : Tr} (h : TrInv T) : ∃ p, T.ns[0]? = some p ∧ p.ht = 0 := h.ok.ch 0 0 h.c0
theorem climb_spec {T : Tr} (h : TrInv T) : ∀ (f i : Nat) (p : Pn), i < f → T.ns[i]? = some p → Climb T i (T.climb f i).1 (T.climb f i).2
  | 0, i, p, hf, hp => by omega
  | f + 1, i, p, hf, hp => by
    unfold Tr.climb
    rw [hp]
    by_cases hc : T.ch[p.ht]? = some i
    · simp only [hc, if_true]; exact .on hp hc
    · simp only [hc, if_false]
      cases ha : p.ah with
      | none =>
        exfalso
        have := h.root i p hp ha
        subst this
        obtain ⟨q, hq, hq0⟩ := h.at0
        rw [hp] at hq; cases hq
        rw [hq0] at hc
        exact hc h.c0
      | some a =>
        obtain ⟨hai, q, hq, _⟩ := h.ok.ah i p a hp ha
        exact .up hp hc ha (climb_spec h f a q (by omega) hq)
def Tr.htOf (T : Tr) (i : Nat) : Nat := ((T.ns[i]?).map (fun p => p.ht)).getD 0
theorem Tr.htOf_eq {T : Tr} {i : Nat} {p : Pn} (h : T.ns[i]? = some p) : T.htOf i = p.ht := by simp [Tr.htOf, h]
def Tr.turnTo (T : Tr) (n : Nat) : Tr := { T with ch := T.ch.take (T.htOf (T.climb (n + 1) n).2 + 1) ++ (T.climb (n + 1) n).1.reverse }
theorem Climb.end {T : Tr} {i : Nat} {bs : List Nat} {j : Nat} (h : Climb T i bs j) : ∃ p, T.ns[j]? = some p ∧ T.ch[p.ht]? = some j := by
  induction h with
  | on h1 h2 => exact ⟨_, h1, h2⟩
  | up _ _ _ _ ih => exact ih
/-- the heights on the way. -/
theorem Climb.hts {T : Tr} (ok : TrOk T) {i : Nat} {bs : List Nat} {j : Nat} (h : Climb T i bs j) : T.htOf i = T.htOf j + bs.length ∧ ∀ (k b : Nat), bs[k]? = some b → ∃ p, T.ns[b]? = some p ∧ p.ht + k = T.htOf i := by
  induction h with
  | on h1 h2 => exact ⟨by simp, fun k b hk => by simp at hk⟩
  | @up i p a bs j h1 h2 h3 h4 ih =>
    obtain ⟨_, q, hq, hpq⟩ := ok.ah i p a h1 h3
    have e1 := Tr.htOf_eq h1
    have e2 := Tr.htOf_eq hq
    refine ⟨by simp; omega, fun k b hk => ?_⟩
    cases k with
    | zero => simp at hk; subst hk; exact ⟨p, h1, by omega⟩
    | succ k =>
      obtain ⟨r, hr, hrk⟩ := ih.2 k b (by simpa using hk)
      exact ⟨r, hr, by omega⟩
theorem Climb.lt {T : Tr} {i : Nat} {bs : List Nat} {j : Nat} (h : Climb T i bs j) : ∀ b ∈ bs, b < T.ns.length := by
  induction h with
  | on _ _ => simp
  | up h1 _ _ _ ih =>
    intro b hb
    rcases List.mem_cons.1 hb with rfl | hb
    · exact (List.getElem?_eq_some_iff.1 h1).1
    · exact ih b hb
/-- the chain behind a turn. -/
theorem Climb.chain {T : Tr} (ok : TrOk T) {i : Nat} {bs : List Nat} {j : Nat} (h : Climb T i bs j) : ∀ (k b : Nat), (T.ch.take (T.htOf j + 1) ++ bs.reverse)[k]? = some b → ∃ p, T.ns[b]? = some p ∧ p.ht = k := by
  obtain ⟨q, hq, hqc⟩ := h.end
  have e := Tr.htOf_eq hq
  have hl : T.htOf j + 1 ≤ T.ch.length := by have := (List.getElem?_eq_some_iff.1 hqc).1; omega
  obtain ⟨h1, h2⟩ := h.hts ok
  intro k b hk
  by_cases hkl : k < T.htOf j + 1
  · rw [List.getElem?_append_left (by simp; omega), List.getElem?_take, if_pos hkl] at hk
    exact ok.ch k b hk
  · rw [List.getElem?_append_right (by simp; omega)] at hk
    have hlt := (List.getElem?_eq_some_iff.1 hk).1
    simp only [List.length_reverse, List.length_take, Nat.min_eq_left hl] at hlt hk
    rw [List.getElem?_reverse hlt] at hk
    obtain ⟨p, hp, hpk⟩ := h2 _ b hk
    exact ⟨p, hp, by omega⟩
theorem Climb.len {T : Tr} (ok : TrOk T) {i : Nat} {bs : List Nat} {j : Nat} (h : Climb T i bs j) : (T.ch.take (T.htOf j + 1) ++ bs.reverse).length = T.htOf i + 1 := by
  obtain ⟨q, hq, hqc⟩ := h.end
  have e := Tr.htOf_eq hq
  have hl : T.htOf j + 1 ≤ T.ch.length := by have := (List.getElem?_eq_some_iff.1 hqc).1; omega
  obtain ⟨h1, _⟩ := h.hts ok
  simp; omega
theorem TrInv.turn {T : Tr} (h : TrInv T) {n : Nat} {p : Pn} (hp : T.ns[n]? = some p) : TrInv (T.turnTo n) := by
  have hc := climb_spec h (n + 1) n p (by omega) hp
  have hl := hc.len h.ok
  have hch := hc.chain h.ok
  have hn := Tr.htOf_eq hp
  have hh := h.hts p (List.mem_of_getElem? hp)
  have hlen := h.ok.len
  refine ⟨⟨h.ok.r, h.ok.rk, h.ok.hd, h.ok.ne, h.ok.len, h.ok.ht, h.ok.wk, h.ok.kd, h.ok.tips, h.ok.dist, h.ok.ah, h.ok.ah0, ?_, ?_, hch⟩, h.root, ?_, h.hts, h.kds, h.tps⟩
  · show 0 < (T.ch.take (T.htOf (T.climb (n + 1) n).2 + 1) ++ (T.climb (n + 1) n).1.reverse).length
    rw [hl]; omega
  · show (T.ch.take (T.htOf (T.climb (n + 1) n).2 + 1) ++ (T.climb (n + 1) n).1.reverse).length ≤ 4096
    rw [hl]; omega
  · show (T.ch.take (T.htOf (T.climb (n + 1) n).2 + 1) ++ (T.climb (n + 1) n).1.reverse)[0]? = some 0
    have hc0 := (List.getElem?_eq_some_iff.1 h.c0).1
    rw [List.getElem?_append_left (by simp; omega), List.getElem?_take, if_pos (by omega)]
    exact h.c0
theorem grow_get {T : Tr} {h : Hd} {i : Nat} {p : Pn} (hp : T.ns[i]? = some p) {j : Nat} {q : Pn} (hq : (T.grow h i p).ns[j]? = some q) :
    (j = T.ns.length ∧ q = newP h i p) ∨ (j < T.ns.length ∧ ∃ q0, T.ns[j]? = some q0 ∧ q.h = q0.h ∧ q.ah = q0.ah ∧ q.ht = q0.ht ∧ q.wk = q0.wk ∧ (q.kd = q0.kd ∨ q.kd = q0.kd + 1)) := by
  unfold Tr.grow at hq
  simp only at hq
  by_cases hj : j < T.ns.length
  · rw [List.getElem?_append_left (by simpa using hj)] at hq
    by_cases hji : j = i
    · subst hji
      rw [List.getElem?_set_self hj] at hq
      cases hq
      exact .inr ⟨hj, p, hp, rfl, rfl, rfl, rfl, .inr rfl⟩
    · rw [List.getElem?_set_ne (fun e => hji e.symm)] at hq
      exact .inr ⟨hj, q, hq, rfl, rfl, rfl, rfl, .inl rfl⟩
  · have hl := (List.getElem?_eq_some_iff.1 hq).1
    simp at hl
    have : j = T.ns.length := by omega
    subst this
    rw [List.getElem?_append_right (by simp)] at hq
    simp at hq
    exact .inl ⟨rfl, hq.symm⟩
theorem grow_old {T : Tr} {h : Hd} {i : Nat} {p : Pn} (hp : T.ns[i]? = some p) {j : Nat} {q : Pn} (hq : T.ns[j]? = some q) : ∃ q1, (T.grow h i p).ns[j]? = some q1 ∧ q1.h = q.h ∧ q1.ah = q.ah ∧ q1.ht = q.ht := by
  have hj := (List.getElem?_eq_some_iff.1 hq).1
  have hjl : j < (T.grow h i p).ns.length := by simp [Tr.grow]; omega
  have hg := List.getElem?_eq_getElem hjl
  rcases grow_get hp hg with ⟨e, _⟩ | ⟨_, q0, h0, h1, h2, h3, _⟩
  · omega
  · rw [hq] at h0; cases h0
    exact ⟨_, hg, h1, h2, h3⟩
theorem grow_len (T : Tr) (h : Hd) (i : Nat) (p : Pn) : (T.grow h i p).ns.length = T.ns.length + 1 := by simp [Tr.grow]
theorem TrInv.grow {T : Tr} (I : TrInv T) {h : Hd} (hok : HdOk h) {i : Nat} {p : Pn} (hp : T.ns[i]? = some p) (hn : T.find (hdH h) = none) (hl : T.ns.length < 4096) : TrInv (T.grow h i p) := by
  have gl := grow_len T h i p
  have ok := I.ok
  have hpt := I.hts p (List.mem_of_getElem? hp)
  have mem : ∀ q ∈ (T.grow h i p).ns, q = newP h i p ∨ ∃ q0 ∈ T.ns, q.h = q0.h ∧ q.ht = q0.ht ∧ q.wk = q0.wk ∧ (q.kd = q0.kd ∨ q.kd = q0.kd + 1) := fun q hq => by
    obtain ⟨j, hj⟩ := List.getElem?_of_mem hq
    rcases grow_get hp hj with ⟨_, e⟩ | ⟨_, q0, h0, h1, _, h3, h4, h5⟩
    · exact .inl e
    · exact .inr ⟨q0, List.mem_of_getElem? h0, h1, h3, h4, h5⟩
  have ne : ∀ (j : Nat) (q : Pn), T.ns[j]? = some q → hdH q.h ≠ hdH h := fun j q hq e => by
    have hj := (List.getElem?_eq_some_iff.1 hq).1
    have := (List.findIdx?_eq_none_iff.1 hn) q (List.mem_of_getElem? hq)
    simp [e] at this
  refine ⟨⟨ok.r, ok.rk, ?_, by omega, by omega, ?_, ?_, ?_, ?_, ?_, ?_, ?_, ok.ch0, ok.chl, ?_⟩, ?_, I.c0, ?_, ?_, ?_⟩
  · intro q hq
    rcases mem q hq with rfl | ⟨q0, h0, h1, _⟩
    · exact hok
    · rw [h1]; exact ok.hd q0 h0
  · intro q hq
    rcases mem q hq with rfl | ⟨q0, h0, _, h2, _⟩
    · show p.ht + 1 < 4096; omega
    · rw [h2]; exact ok.ht q0 h0
  · intro q hq
    rcases mem q hq with rfl | ⟨q0, h0, _, _, h3, _⟩
    · exact Nat.mod_lt _ (by unfold TOP; omega)
    · rw [h3]; exact ok.wk q0 h0
  · intro q hq
    rcases mem q hq with rfl | ⟨q0, h0, _, _, _, h4⟩
    · exact Nat.zero_le _
    · have := I.kds q0 h0; omega
  · show (if 0 < p.kd then T.tips + 1 else T.tips) ≤ 4096
    have := I.tps
    split <;> omega
  · intro j k q r hj hk e
    rcases grow_get hp hj with ⟨rfl, rfl⟩ | ⟨_, q0, h0, h1, _⟩ <;> rcases grow_get hp hk with ⟨rfl, rfl⟩ | ⟨_, r0, g0, g1, _⟩
    · rfl
    · exact absurd (by rw [← g1]; exact e.symm) (ne k r0 g0)
    · exact absurd (by rw [← h1]; exact e) (ne j q0 h0)
    · exact ok.dist j k q0 r0 h0 g0 (by rw [← h1, ← g1]; exact e)
  · intro j q a hj ha
    rcases grow_get hp hj with ⟨rfl, rfl⟩ | ⟨hjl, q0, h0, _, h2, h3, _⟩
    · cases ha
      obtain ⟨q1, g1, _, _, g4⟩ := grow_old (h := h) hp hp
      exact ⟨(List.getElem?_eq_some_iff.1 hp).1, q1, g1, by rw [g4]; rfl⟩
    · rw [h2] at ha
      obtain ⟨hlt, r, hr, hrt⟩ := ok.ah j q0 a h0 ha
      obtain ⟨q1, g1, _, _, g4⟩ := grow_old (h := h) hp hr
      exact ⟨hlt, q1, g1, by omega⟩
  · intro j q hj ha
    rcases grow_get hp hj with ⟨rfl, rfl⟩ | ⟨hjl, q0, h0, _, h2, h3, _⟩
    · cases ha
    · rw [h3]; exact ok.ah0 j q0 h0 (by rw [← h2]; exact ha)
  · intro k j hk
    obtain ⟨q, hq, hqk⟩ := ok.ch k j hk
    obtain ⟨q1, g1, _, _, g4⟩ := grow_old (h := h) hp hq
    exact ⟨q1, g1, by omega⟩
  · intro j q hj ha
    rcases grow_get hp hj with ⟨rfl, rfl⟩ | ⟨hjl, q0, h0, _, h2, h3, _⟩
    · cases ha
    · exact I.root j q0 h0 (by rw [← h2]; exact ha)
  · intro q hq
    rw [gl]
    rcases mem q hq with rfl | ⟨q0, h0, _, h2, _⟩
    · show p.ht + 1 < _; omega
    · rw [h2]; have := I.hts q0 h0; omega
  · intro q hq
    rw [gl]
    rcases mem q hq with rfl | ⟨q0, h0, _, _, _, h4⟩
    · show 0 < _; omega
    · have := I.kds q0 h0; omega
  · rw [gl]
    show (if 0 < p.kd then T.tips + 1 else T.tips) ≤ _
    have := I.tps
    split <;> omega
/-- where two blocks' ways meet. -/
def Tr.fork (T : Tr) : Nat → Nat → Nat → Nat
  | 0, a, _ => a
  | f + 1, a, b => if a = b then a else if T.htOf b ≤ T.htOf a then T.fork f (((T.ns[a]?).bind (fun p => p.ah)).getD 0) b else T.fork f a (((T.ns[b]?).bind (fun p => p.ah)).getD 0)
theorem TrInv.up {T : Tr} (I : TrInv T) {a : Nat} {p : Pn} (ha : T.ns[a]? = some p) (h0 : a ≠ 0) : ∃ c q, p.ah = some c ∧ T.ns[c]? = some q ∧ p.ht = q.ht + 1 := by
  cases e : p.ah with
  | none => exact absurd (I.root a p ha e) h0
  | some c =>
    obtain ⟨_, q, hq, hh⟩ := I.ok.ah a p c ha e
    exact ⟨c, q, rfl, hq, hh⟩
/-- of two blocks that differ the one that is as high isn't the first. -/
theorem TrInv.step {T : Tr} (I : TrInv T) {a b : Nat} {p q : Pn} (ha : T.ns[a]? = some p) (hb : T.ns[b]? = some q) (hne : a ≠ b) (hle : q.ht ≤ p.ht) : a ≠ 0 := by
  intro e
  subst e
  obtain ⟨r, hr, h0⟩ := I.at0
  rw [ha] at hr; cases hr
  obtain ⟨c, s, _, _, h3⟩ := I.up hb (fun e => hne e.symm)
  omega
theorem TrInv.new {r : Rl} (ok : RlOk r) (hk : checkR r = 0) : TrInv (newT r) := by
  have hw : hdW r.fi < TOP := workN_lt _
  have g1 : ∀ {i : Nat} {p : Pn}, (newT r).ns[i]? = some p → i = 0 ∧ p = ⟨r.fi, none, 0, hdW r.fi, 0⟩ := fun {i p} h => by
    match i, h with
    | 0, h => exact ⟨rfl, by simpa [newT] using h.symm⟩
    | i + 1, h => simp [newT] at h
  have m1 : ∀ p ∈ (newT r).ns, p = ⟨r.fi, none, 0, hdW r.fi, 0⟩ := fun p hp => by simpa [newT] using hp
  refine ⟨⟨ok, hk, ?_, by simp [newT], by simp [newT], ?_, ?_, ?_, by simp [newT], ?_, ?_, ?_, by simp [newT], by simp [newT], ?_⟩, ?_, rfl, ?_, ?_, by simp [newT]⟩
  · intro p hp; rw [m1 p hp]; exact ok.fi
  · intro p hp; rw [m1 p hp]; simp
  · intro p hp; rw [m1 p hp]; exact hw
  · intro p hp; rw [m1 p hp]; simp
  · intro i j p q h1 h2 _; rw [(g1 h1).1, (g1 h2).1]
  · intro i p a h1 h2; rw [(g1 h1).2] at h2; cases h2
  · intro i p h1 _; rw [(g1 h1).2]
  · intro k i h
    match k, h with
    | 0, h => exact ⟨⟨r.fi, none, 0, hdW r.fi, 0⟩, by simp [newT] at h; subst h; rfl, rfl⟩
    | k + 1, h => simp [newT] at h
  · intro i p h1 _; exact (g1 h1).1
  · intro p hp; rw [m1 p hp]; simp [newT]
  · intro p hp; rw [m1 p hp]; simp [newT]
end Go.Proofs.YtmkgbinmilcojaaGreat

/- Package tree: turn to any block. Printed by turng.py. -/
namespace Go.Proofs.YtmkgbinmilcojaaGreat
open Go.RowKit Go.Maps Go.Shelf
attribute [-go_sem] loadCellsFrom Instr.build

theorem row_take {W : World} {base c n cap n' : Nat} {e : TypeId} {xs : List Value} (h : W.ownsRow base e 1 (.slice (some ⟨c, 0, none⟩) n cap) n xs) (hn : n' ≤ n) : W.ownsRow base e 1 (.slice (some ⟨c, 0, none⟩) n' cap) n' (xs.take n') := by
  have hl := h.1
  refine ⟨by simp; omega, ?_⟩
  rcases h.2 with ⟨e, _⟩ | ⟨g, c', cur, e, hb, hg, h1, h2, h3, h4⟩
  · cases e
  · cases e
    refine .inr ⟨c, cap, cur, rfl, hb, hg, by omega, h2, h3, ?_⟩
    rw [← h4, List.take_take]
    congr 1; omega
def lenV (v : Value) : Nat := match v with | .slice _ n _ => n | _ => 0
theorem row_lenV {W : World} {base n : Nat} {e : TypeId} {xs : List Value} {v : Value} (h : W.ownsRow base e 1 v n xs) : ∃ a c, v = .slice a n c := by
  rcases h.2 with ⟨rfl, rfl⟩ | ⟨g, c', cur, rfl, _⟩
  · exact ⟨_, _, rfl⟩
  · exact ⟨_, _, rfl⟩
def ptrV (bl : List Nat) (i : Nat) : Value := .pointer (adrB bl i)
theorem nd_inj {bl : List Nat} (h : bl.Nodup) {i j : Nat} (hi : i < bl.length) (hj : j < bl.length) (e : i ≠ j) : bl.getD i 0 ≠ bl.getD j 0 := by
  simp only [List.getD_eq_getElem?_getD, List.getElem?_eq_getElem hi, List.getElem?_eq_getElem hj, Option.getD_some]
  exact fun e' => e ((List.getElem_inj h).1 e')
set_option maxRecDepth 100000 in
set_option maxHeartbeats 16000000 in
theorem tree_turn (x : Lt) (T : Tr) (I : TrInv T) (n : Nat) (p : Pn) (hp : T.ns[n]? = some p) (w : World) (hT : TreeAt w x T) :
    Calls Tryz.prog 44 #[.pointer (some ⟨x.b, 0, none⟩), .pointer (adrB x.bl n)] w fun e w' => e = .returned (.tuple #[]) ∧ Chg [x.b, x.c] w w' ∧ ∃ c, TreeAt w' ⟨x.b, x.m, c, x.bl⟩ (T.turnTo n) ∧ (c = x.c ∨ w.heap.size ≤ c) := by
  obtain ⟨i0, hi, hz0, hz1, hz2⟩ := info_partsN infoNP
  have ok := I.ok
  have hcl := climb_spec I (n + 1) n p (by omega) hp
  have hTt := Lib.hid (show T.turnTo n = { T with ch := T.ch.take (T.htOf (T.climb (n + 1) n).2 + 1) ++ (T.climb (n + 1) n).1.reverse } from rfl)
  generalize (T.climb (n + 1) n).1 = bs at *
  generalize (T.climb (n + 1) n).2 = j at *
  obtain ⟨q, hq, hqc⟩ := hcl.end
  have hqh := Tr.htOf_eq hq
  have hbl := hcl.lt
  have hnl := hcl.hts ok
  have hpn := Tr.htOf_eq hp
  have hp4 := ok.ht p (List.mem_of_getElem? hp)
  have hlb4 : bs.length < 4096 := by omega
  obtain ⟨cap, bT, hC⟩ := hT.tb
  have hblen := hT.len
  have hcell : ∀ (r i : Nat), T.ch[r]? = some i → w.cell? ⟨x.c, r, none⟩ = some (.pointer (adrB x.bl i)) := fun r i hr => by
    have hcs := World.ownsRow.cells hC (g := x.c) rfl r (.pointer (adrB x.bl i)) (by simp [hr])
    rwa [show (⟨x.c, 0, none⟩ : Addr).add r = ⟨x.c, r, none⟩ by unfold Addr.add; split <;> simp_all] at hcs
  have hkc : T.ch.length ≤ cap := by
    rcases hC.2 with ⟨e, _⟩ | ⟨g, c', cur, e, _, _, hle, _⟩
    · cases e
    · cases e; omega
  have hxl : x.c < w.heap.size := by
    rcases hC.2 with ⟨e, _⟩ | ⟨g, c', cur, e, _, hg, _⟩
    · cases e
    · cases e; exact (Array.getElem?_eq_some_iff.1 hg).1
  have hchl := ok.chl
  obtain ⟨k, hk⟩ : ∃ k, k = T.ch.length := ⟨_, rfl⟩
  rw [← hk] at bT hC hkc hchl
  have hqk : q.ht < k := by rw [hk]; exact (List.getElem?_eq_some_iff.1 hqc).1
  obtain ⟨m, hm⟩ : ∃ m, m = q.ht := ⟨_, rfl⟩
  rw [← hm] at hqk hqh hqc
  have hql := Lib.hid hm.symm
  have nL := hT.node ok hq
  have hlj := hcell m j hqc
  have t73 := (t_cell (Rl.len ok.r) (.map (some x.m)) (.slice (some ⟨x.c, 0, none⟩) k cap) (.int .i64 (T.tips : Int))).2.1
  have hk' := Lib.hid hk
  clear hk hm
  obtain ⟨gl, hgl⟩ : ∃ gl, gl = x.bl.getD j 0 := ⟨_, rfl⟩
  have al : adrB x.bl j = some ⟨gl, 0, none⟩ := by rw [hgl]; rfl
  rw [al] at hlj
  rw [← hgl] at nL
  have hal := Lib.hid al
  clear al hgl
  obtain ⟨xb, hxb⟩ : ∃ xb, xb = x.b := ⟨_, rfl⟩
  obtain ⟨xc, hxc⟩ : ∃ xc, xc = x.c := ⟨_, rfl⟩
  rw [← hxb] at bT ⊢
  rw [← hxc] at bT hC hlj t73 hxl hcell ⊢
  have hxb' := Lib.hid hxb
  have hxc' := Lib.hid hxc
  clear hxb hxc
  have hbsl := Lib.hid hnl
  clear hnl hp4 hpn hqh
  go_enter Tryz.func44, Tryz.ntmps44
  go_wp2_with fail
  go_loopw [1, 4] (fun s1 s4 wr => ∃ (cur : Nat) (L rest : List Nat) (v : Value), v = s4 ∧ bs = L ++ rest ∧ Climb T cur rest j ∧ s1 = .pointer (adrB x.bl cur) ∧ wr.ownsRow w.heap.size 84 1 v L.length (L.map (ptrV x.bl)) ∧ Chg [] w wr) (fun _ s4 _ => bs.length + 1 - lenV s4)
  case atStart => exact ⟨n, [], bs, _, rfl, rfl, hcl, rfl, by simpa using World.ownsRow_nil _ _ _ _, Chg.refl _ _⟩
  case round =>
    obtain ⟨cur, L, rest, s4, hv4, hbs, hcl', rfl, hrow, kr⟩ := hrel
    subst hv4
    have bTr := bT.chg kr (by simp)
    have c73 := bTr.cell 73 t73
    have hws := kr.size
    have hLl : L.length ≤ bs.length := by rw [hbs]; simp
    obtain ⟨a4, c4, h4⟩ := row_lenV hrow
    have hml : lenV s4 = L.length := by rw [h4]; rfl
    have h4' := Lib.hid h4
    clear h4
    cases hcl' with
    | @up _ p' a rest _ h1 h2 h3 hcl' =>
      have nC := hT.node ok h1
      have hcurl : cur < x.bl.length := by rw [hblen]; exact (List.getElem?_eq_some_iff.1 h1).1
      rw [h3] at nC
      simp only [Option.bind_some] at nC
      have hLl2 : L.length < bs.length := by rw [hbs]; simp
      obtain ⟨gc, hgc0⟩ : ∃ gc, gc = x.bl.getD cur 0 := ⟨_, rfl⟩
      rw [← hgc0] at nC
      have hgc := Lib.hid (show ptrV x.bl cur = .pointer (some ⟨gc, 0, none⟩) by rw [hgc0]; rfl)
      have ac : adrB x.bl cur = some ⟨gc, 0, none⟩ := by rw [hgc0]; rfl
      rw [ac]
      have hgc1 := Lib.hid hgc0
      clear ac hgc0
      have hlv : L.length = L.length := rfl
      have hlow : ∀ k, s4.ownBlock = some k → w.heap.size ≤ k := fun k hk => row_low hrow hk
      have hh := (nC.chg kr (by simp)).height
      have nC' := nC
      obtain ⟨ph, hph⟩ : ∃ ph, ph = p'.ht := ⟨_, rfl⟩
      rw [← hph] at hh h2
      have hp4 := ok.ht p' (List.mem_of_getElem? h1)
      rw [← hph] at hp4
      clear hph
      by_cases hlt : ph < k
      · have d1 : decide ((k : Int) ≤ ph) = false := by simp; omega
        have d2 : decide (k ≤ ph) = false := by simp; omega
        have hchk : T.ch[ph]? = some (T.ch[ph]'(by rw [← hk'.out]; exact hlt)) := List.getElem?_eq_getElem _
        generalize T.ch[ph]'(by rw [← hk'.out]; exact hlt) = o at hchk
        have hoc : o ≠ cur := fun e => h2 (by rw [hchk, e])
        have hlo := hcell ph o hchk
        obtain ⟨po, hpo, _⟩ := ok.ch ph o hchk
        have hol : o < x.bl.length := by rw [hblen]; exact (List.getElem?_eq_some_iff.1 hpo).1
        have nO := hT.node ok hpo
        have hlr : wr.cell? ⟨xc, ph, none⟩ = some (.pointer (some ⟨x.bl.getD o 0, 0, none⟩)) := by
          rw [World.cell?_of_block (w := w) (kr.block xc hxl (by simp))]; exact hlo
        have hgoc : x.bl.getD o 0 ≠ gc := by rw [hgc1.out]; exact nd_inj hT.nodup hol hcurl hoc
        generalize x.bl.getD o 0 = go at hlr nO hgoc
        have hne := fun n => np_other hgoc ((nO.chg kr (by simp)).blk.drewN n) ((nC.chg kr (by simp)).blk.drewN n)
        have y1 : (ph : Int) < (k : Int) := by omega
        have y2 : (0 : Int) ≤ (ph : Int) := by omega
        have y3 : IntKind.i64.wrap (ph : Int) = ph := by rw [IntKind.wrap_i64]; omega
        clear nC nO hlo
        go_wp2
        go_quiet (fail)
        have kq := kr.drewN nq
        have hrow : (wr.drewN nq).ownsRow w.heap.size 84 1 s4 L.length (L.map (ptrV x.bl)) := hrow
        clear bTr c73 kr hh hlr hne
        have hws : w.heap.size ≤ (wr.drewN nq).heap.size := hws
        generalize wr.drewN nq = wq at *
        have ha := (nC'.chg kq (by simp)).ahead
        have hone : ∀ (b : Value) (j : Nat) u, [b][j]? = some u → (wq.alloc (.cells #[b] 84)).cell? ((⟨wq.heap.size, 0, none⟩ : Addr).add j) = some u := fun b j u hj => by
          match j, hj with
          | 0, hj => exact (Blk.new wq #[b] 84).cell 0 (by simpa using hj)
          | k + 1, hj => simp at hj
        go_wp2_with (at_builtin; go_loud (refine wpList_append_own_at _ rfl _ _ 89 rfl w.heap.size 84 i0 (.pointer none) 1 8 Tryz.underlying89 hi hz0 hz1 hz2 rfl (by decide) s4 L.length _ rfl (hrow.alloc _) ⟨wq.heap.size, 0, none⟩ 1 1 [.pointer (some ⟨gc, 0, none⟩)] rfl rfl (hone _) (by simp [Value.oneCell']) (by unfold maxLen; omega) (by omega) (by simp; omega) ?_); intro v2 w2 hv2 hg2 hn2 hl2; obtain ⟨g2, cap2, rfl⟩ := ownsRow_succ hv2; have k2 := (kq.alloc (.cells #[.pointer (some ⟨gc, 0, none⟩)] 84)).grown hg2 (fun k e => .inr (hlow k e)); have ha2 := (nC'.chg k2 (by simp)).ahead)
        go_roundw
        case rel => exact ⟨a, L ++ [cur], rest, _, rfl, by simp [hbs], hcl', rfl, by simpa [hgc.out] using hv2, k2⟩
        case measure =>
          show bs.length + 1 - (L.length + 1) < bs.length + 1 - lenV s4
          rw [hml]; omega
      · have d1 : decide ((k : Int) ≤ ph) = true := by simp; omega
        obtain ⟨H, hH⟩ : ∃ H : Int, H = (ph : Int) := ⟨_, rfl⟩
        rw [← hH] at hh d1
        clear hH
        clear nC
        go_wp2
        go_quiet (fail)
        have kq := kr.drewN nq
        have hrow : (wr.drewN nq).ownsRow w.heap.size 84 1 s4 L.length (L.map (ptrV x.bl)) := hrow
        clear bTr c73 kr hh
        have hws : w.heap.size ≤ (wr.drewN nq).heap.size := hws
        generalize wr.drewN nq = wq at *
        have ha := (nC'.chg kq (by simp)).ahead
        have hone : ∀ (b : Value) (j : Nat) u, [b][j]? = some u → (wq.alloc (.cells #[b] 84)).cell? ((⟨wq.heap.size, 0, none⟩ : Addr).add j) = some u := fun b j u hj => by
          match j, hj with
          | 0, hj => exact (Blk.new wq #[b] 84).cell 0 (by simpa using hj)
          | k + 1, hj => simp at hj
        go_wp2_with (at_builtin; go_loud (refine wpList_append_own_at _ rfl _ _ 89 rfl w.heap.size 84 i0 (.pointer none) 1 8 Tryz.underlying89 hi hz0 hz1 hz2 rfl (by decide) s4 L.length _ rfl (hrow.alloc _) ⟨wq.heap.size, 0, none⟩ 1 1 [.pointer (some ⟨gc, 0, none⟩)] rfl rfl (hone _) (by simp [Value.oneCell']) (by unfold maxLen; omega) (by omega) (by simp; omega) ?_); intro v2 w2 hv2 hg2 hn2 hl2; obtain ⟨g2, cap2, rfl⟩ := ownsRow_succ hv2; have k2 := (kq.alloc (.cells #[.pointer (some ⟨gc, 0, none⟩)] 84)).grown hg2 (fun k e => .inr (hlow k e)); have ha2 := (nC'.chg k2 (by simp)).ahead)
        go_roundw
        case rel => exact ⟨a, L ++ [cur], rest, _, rfl, by simp [hbs], hcl', rfl, by simpa [hgc.out] using hv2, k2⟩
        case measure =>
          show bs.length + 1 - (L.length + 1) < bs.length + 1 - lenV s4
          rw [hml]; omega
    | on hq' hqc' =>
      have nLr := nL.chg kr (by simp)
      have hh := nLr.height
      rw [hql.out] at hh
      have d1 : decide ((k : Int) ≤ m) = false := by simp; omega
      have d2 : decide (k ≤ m) = false := by simp; omega
      have hself := np_same ⟨gl, 0, none⟩
      have hlr : wr.cell? ⟨xc, m, none⟩ = some (.pointer (some ⟨gl, 0, none⟩)) := by
        rw [World.cell?_of_block (w := w) (kr.block xc hxl (by simp))]; exact hlj
      have y1 : (m : Int) < (k : Int) := by omega
      have y2 : (0 : Int) ≤ (m : Int) := by omega
      have y3 : IntKind.i64.wrap (m : Int) = m := by rw [IntKind.wrap_i64]; omega
      have hCr := (row_chg hC kr (by simp)).1
      rw [hal.out]
      go_wp2
      go_quiet (fail)
      have k2 := kr.drewN nq
      have bT := bTr.drewN nq
      have nL := nLr.chg (S := []) ((Chg.refl _ _).drewN nq) (by simp)
      have hC : (wr.drewN nq).ownsRow 0 84 1 (.slice (some ⟨xc, 0, none⟩) k cap) k (T.ch.map fun i => Value.pointer (adrB x.bl i)) := hCr
      have hrow : (wr.drewN nq).ownsRow w.heap.size 84 1 s4 L.length (L.map (ptrV x.bl)) := hrow
      clear hself y1 y2 y3 hh hlr d1 d2 hCr bTr kr c73 nLr
      generalize wr.drewN nq = w2 at *
      have hL : L = bs := by rw [hbs]; simp
      subst hL
      clear hbs hml hLl
      have hws2 := k2.size
      have hxbl : xb < w.heap.size := by rw [hxb'.out]; obtain ⟨_, hb, _⟩ := hT.tb; exact hb.lt
      have hlb : gl ≠ xb := fun e => absurd (Blk.same (e ▸ nL.blk) bT) (by decide)
      have hbc0 : xb ≠ xc := fun e => row_ne hC bT (by decide) e.symm
      have hwk1 : IntKind.i64.wrap ((m : Int) + 1) = (m : Int) + 1 := by rw [IntKind.wrap_i64]; omega
      have y4 : ((m : Int) + 1).toNat = m + 1 := by omega
      have y5 : (0 : Int) ≤ (m : Int) + 1 := by omega
      have y6 : (m : Int) + 1 ≤ (cap : Int) := by omega
      have hst4 := h4'.out
      subst hst4
      have hlow4 : ∀ g, a4 = some ⟨g, 0, none⟩ → w.heap.size ≤ g ∧ g < w2.heap.size := fun g hg => by
        subst hg
        exact ⟨row_low hrow rfl, row_lt hrow rfl⟩
      have hcell4 : ∀ (r b : Nat), L[r]? = some b → ∃ g, a4 = some ⟨g, 0, none⟩ ∧ w2.cell? ⟨g, r, none⟩ = some (ptrV x.bl b) := fun r b hr => by
        have hcs := fun g hg => World.ownsRow.cells hrow (g := g) hg r (ptrV x.bl b) (by simp [hr])
        rcases hrow.2 with ⟨e, e0⟩ | ⟨g, c', cur, e, _⟩
        · have := (List.getElem?_eq_some_iff.1 hr).1; omega
        · cases e
          refine ⟨g, rfl, ?_⟩
          have := hcs g rfl
          rwa [show (⟨g, 0, none⟩ : Addr).add r = ⟨g, r, none⟩ by unfold Addr.add; split <;> simp_all] at this
      go_upto_region 4 with fail
      go_cut [50] (fun _ wx => Blk wx xb (T.r.l ++ [Value.map (some x.m), Value.slice (some ⟨xc, 0, none⟩) (m + 1) cap, Value.int .i64 (T.tips : Int)]).toArray 91 ∧ Chg [xb] w2 wx)
      case first =>
          refine wp_region_held_drew (S := fun w' => Chg [xb] w2 w') (by kernel_rfl) ((Chg.refl _ _).drew) (fun hH => ?_)
          have kdT0 := bT.chg ((Chg.refl [] _).drew) (by simp)
          refine TK 0 (.pointer (some ⟨xb, 0, none⟩)) rfl hH (fun w' hw' => ?_) ?_
          · go_simp
          try simp only [Act.put, Sa, Sb, Sc, Sd, Sf]
          refine TK 1 (.pointer (some ⟨xb, 0, none⟩)) rfl hH (fun w' hw' => ?_) ?_
          · go_simp
          try simp only [Act.put, Sa, Sb, Sc, Sd, Se, Sf]
          refine TK 2 (.pointer (some ⟨xb, 0, none⟩)) rfl hH (fun w' hw' => ?_) ?_
          · go_simp
          try simp only [Act.put, Sa, Sb, Sc, Sd, Se, Sf]
          refine TK 3 (.pointer (some ⟨xb, 73, none⟩)) rfl hH (fun w' hw' => ?_) ?_
          · go_simp
          try simp only [Act.put, Sa, Sb, Sc, Sd, Se, Sf]
          refine TK 5 (.pointer (some ⟨gl, 0, none⟩)) rfl hH (fun w' hw' => ?_) ?_
          · go_simp
          try simp only [Act.put, Sa, Sb, Sc, Sd, Se, Sf]
          refine TK 6 (.pointer (some ⟨gl, 0, none⟩)) rfl hH (fun w' hw' => ?_) ?_
          · go_simp
          try simp only [Act.put, Sa, Sb, Sc, Sd, Se, Sf]
          refine TK 7 (.pointer (some ⟨gl, 101, none⟩)) rfl hH (fun w' hw' => ?_) ?_
          · go_simp
          try simp only [Act.put, Sa, Sb, Sc, Sd, Se, Sf]
          refine TK 8 (.int .i64 (m : Int)) rfl hH (fun w' hw' => ?_) ?_
          · (have k9 := nL.chg hw' (by simpa using hlb); have c0 := k9.height; rw [hql.out] at c0; go_simp)
          try simp only [Act.put, Sa, Sb, Sc, Sd, Se, Sf]
          refine TK 9 (.int .i64 ((m : Int) + 1)) rfl hH (fun w' hw' => ?_) ?_
          · go_simp
          try simp only [Act.put, Sa, Sb, Sc, Sd, Se, Sf]
          refine RD 4 rfl (fun K hK => ?_)
          have c1 := kdT0.cell 73 t73
          go_simp
          refine hK.out _ _ hH (fun _ => ?_)
          try simp only [Act.put, Sa, Sb, Sc, Sd, Se, Sf]
          refine TK 10 (.slice (some ⟨xc, 0, none⟩) (m + 1) cap) rfl hH (fun w' hw' => ?_) ?_
          · go_simp
          try simp only [Act.put, Sa, Sb, Sc, Sd, Se, Sf]
          refine TK 11 (.pointer (some ⟨xb, 0, none⟩)) rfl hH (fun w' hw' => ?_) ?_
          · go_simp
          try simp only [Act.put, Sa, Sb, Sc, Sd, Se, Sf]
          refine TK 12 (.pointer (some ⟨xb, 73, none⟩)) rfl hH (fun w' hw' => ?_) ?_
          · go_simp
          try simp only [Act.put, Sa, Sb, Sc, Sd, Se, Sf]
          refine RD 13 rfl (fun K hK => ?_)
          have c2 := kdT0.cell 73 t73
          have f2 := kdT0.free 73
          have kbT2 := kdT0.set 73 (.slice (some ⟨xc, 0, none⟩) (m + 1) cap)
          rw [t_set73 (Rl.len ok.r)] at kbT2
          go_simp
          have hH2 := hH.setCell (p := ⟨xb, 73, none⟩) (.inl (by simp)) (.slice (some ⟨xc, 0, none⟩) (m + 1) cap)
          refine hK.out _ _ hH2 (fun _ => ?_)
          try simp only [Act.put, Sa, Sb, Sc, Sd, Se, Sf]
          refine wpAnyH_done (by kernel_rfl) ?_ _
          go_wp2_with fail
          go_meet
          exact ⟨kbT2, hH2⟩
      case rest =>
        obtain ⟨bT3, k3⟩ := hcut
        have hC3 := row_take (row_chg hC k3 (by simpa using fun e => hbc0 e.symm)).1 (show m + 1 ≤ k by omega)
        have hs23 := k3.size
        clear nL bT y4 y5 y6 hwk1 hC t73
        obtain ⟨w2', hw2'⟩ : ∃ w, w = w2 := ⟨_, rfl⟩
        generalize wc = w4 at *
        have hwl : IntKind.i64.wrap ((L.length : Int) - 1) = (L.length : Int) - 1 := by rw [IntKind.wrap_i64]; omega
        go_wp2_with fail
        go_loopw [5] (fun s5 wr => ∃ (i n2 c2 cap2 : Nat), i ≤ L.length ∧ n2 + i = m + 1 + L.length ∧ s5 = .int .i64 ((i : Int) - 1) ∧ Blk wr xb (T.r.l ++ [Value.map (some x.m), Value.slice (some ⟨c2, 0, none⟩) n2 cap2, Value.int .i64 (T.tips : Int)]).toArray 91 ∧ RowC wr c2 n2 cap2 ((T.ch.take (m + 1) ++ (L.drop i).reverse).map fun i => Value.pointer (adrB x.bl i)) ∧ Chg [xb, xc] w2 wr ∧ (c2 = xc ∨ w2.heap.size ≤ c2)) (fun s5 _ => (intOf s5 + 1).toNat)
        case atStart => exact ⟨L.length, m + 1, xc, cap, Nat.le_refl _, rfl, rfl, bT3, ⟨by simpa [List.map_take] using hC3⟩, k3.mono (by simp), .inl rfl⟩
        case round =>
          obtain ⟨i1, n2, c2, cap2, hi1, hn2, rfl, bT, hC, kr2, hcc2⟩ := hrel
          have t73 := (t_cell (Rl.len ok.r) (.map (some x.m)) (.slice (some ⟨c2, 0, none⟩) n2 cap2) (.int .i64 (T.tips : Int))).2.1
          have hsz2 := kr2.size
          rcases i1 with - | i
          · have hTf : TreeAt wr ⟨x.b, x.m, c2, x.bl⟩ (T.turnTo n) := by
              have hne1 : ∀ {b : Nat} {c : Array Value}, Blk w b c 86 → b ∉ [xb, xc] := fun {b c} hb => by
                simp only [List.mem_cons, List.not_mem_nil, or_false, not_or]
                obtain ⟨c3, hb3, hC3⟩ := hT.tb
                exact ⟨fun e => absurd (Blk.same ((e.trans hxb'.out) ▸ hb) hb3) (by decide), fun e => row_ne hC3 hb (by decide) ((e.trans hxc'.out).symm)⟩
              have kf : Chg [xb, xc] w wr := (k2.mono (T := [xb, xc]) (by simp)).trans kr2 (fun t ht => .inl ht)
              have hjm : T.htOf j = m := by rw [Tr.htOf_eq hq]; exact hql.out
              have hlen : (T.ch.take (m + 1) ++ L.reverse).length = n2 := by
                have := hk'.out
                simp; omega
              rw [hTt.out, hjm]
              refine ⟨⟨cap2, ?_, ?_⟩, ?_, fun i p hp => (hT.nd i p hp).chg kf (hne1 (hT.nd i p hp)), hT.len, hT.nodup⟩
              · have := bT
                rw [hxb'.out, ← hlen] at this
                exact this
              · have h3 := hC.r
                simp only [List.drop_zero] at h3
                show wr.ownsRow 0 84 1 (.slice (some ⟨c2, 0, none⟩) (T.ch.take (m + 1) ++ L.reverse).length cap2) (T.ch.take (m + 1) ++ L.reverse).length ((T.ch.take (m + 1) ++ L.reverse).map fun i => Value.pointer (adrB x.bl i))
                rw [hlen]
                exact h3
              · obtain ⟨c3, hb3, hC3⟩ := hT.tb
                exact hT.mp.chg kf (by
                  simp only [List.mem_cons, List.not_mem_nil, or_false, not_or]
                  exact ⟨fun e => hT.mp.ne hb3 (e.trans hxb'.out), fun e => row_nem hC3 hT.mp ((e.trans hxc'.out).symm)⟩)
            have kf : Chg [xb, xc] w wr := (k2.mono (T := [xb, xc]) (by simp)).trans kr2 (fun t ht => .inl ht)
            have hcf : c2 = x.c ∨ w.heap.size ≤ c2 := by
              rcases hcc2 with h | h
              · exact .inl (h.trans hxc'.out)
              · exact .inr (by omega)
            clear hC3 bT3 bT hC kr2 hcc2 t73
            go_wp2
            go_end0
            exact ⟨rfl, kf, c2, by rw [hxb'.out]; exact hTf, by rw [hxc'.out]; exact hcf⟩
          · have hli : i < L.length := by omega
            obtain ⟨gb, hgb, hbc⟩ := hcell4 i L[i] (List.getElem?_eq_getElem hli)
            obtain ⟨hgb1, hgb2⟩ := hlow4 gb hgb
            subst hgb
            have hgx : gb ∉ [xb, xc] := by simp; omega
            have hbw : wr.cell? ⟨gb, i, none⟩ = some (ptrV x.bl L[i]) := by
              rw [World.cell?_of_block (w := w2) (kr2.block gb hgb2 hgx)]; exact hbc
            obtain ⟨gn, hgn⟩ : ∃ gn, ptrV x.bl L[i] = .pointer (some ⟨gn, 0, none⟩) := ⟨_, rfl⟩
            rw [hgn] at hbw
            have hgbl : gb < wr.heap.size := by omega
            have hgx2 : gb ∉ [xb, c2] := by
              simp only [List.mem_cons, List.not_mem_nil, or_false, not_or]
              exact ⟨by omega, by rcases hcc2 with h | h <;> omega⟩
            have hbB : ∀ w', Chg [xb, c2] wr w' → w'.cell? ⟨gb, i, none⟩ = some (.pointer (some ⟨gn, 0, none⟩)) := fun w' kk => by
              rw [World.cell?_of_block (w := wr) (kk.block gb hgbl hgx2)]; exact hbw
            have hbc : xb ≠ c2 := by rcases hcc2 with h | h <;> omega
            have hcbx : ∀ {c N : Nat}, (c = c2 ∨ N ≤ c) → xb < N → c ∉ [xb] := fun h hN => by
              simp only [List.mem_singleton]
              intro e
              rcases h with h | h <;> omega
            have e5 : (((i + 1 : Nat) : Int) - 1) = (i : Int) := by omega
            have hwi : IntKind.i64.wrap ((i : Int) - 1) = (i : Int) - 1 := by rw [IntKind.wrap_i64]; omega
            have y1 : (i : Int) < (L.length : Int) := by omega
            have y2 : (0 : Int) ≤ (i : Int) := by omega
            have hrw0 : ∀ (W : World) (c cap : Nat), RowC W c (n2 + 1) cap (((T.ch.take (m + 1) ++ (L.drop (i + 1)).reverse).map fun i => Value.pointer (adrB x.bl i)) ++ [.pointer (some ⟨gn, 0, none⟩)]) → RowC W c (n2 + 1) cap ((T.ch.take (m + 1) ++ (L.drop i).reverse).map fun i => Value.pointer (adrB x.bl i)) := fun W c cap h => by
              have e : (L.drop i).reverse = (L.drop (i + 1)).reverse ++ [L[i]] := by
                rw [List.drop_eq_getElem_cons hli, List.reverse_cons]
              rw [e, ← List.append_assoc, List.map_append, List.map_singleton, show Value.pointer (adrB x.bl L[i]) = _ from hgn]
              exact h
            have hrw := hrw0
            have hS9 : ∀ t ∈ [xb, c2], t ∈ [xb, xc] ∨ w2.heap.size ≤ t := fun t ht => by
              simp only [List.mem_cons, List.not_mem_nil, or_false] at ht ⊢
              rcases ht with rfl | rfl
              · exact .inl (.inl rfl)
              · exact hcc2.elim (fun h => .inl (.inr h)) .inr
            have hsm : n2 ≤ 100000 := by omega
            rw [e5]
            clear hrw0 hbw hC3 bT3 hgn e5
            have hxw3 : xb < wr.heap.size := by omega
            go_upto_region 8 with fail
            generalize wr = w3 at *
            refine wp_region_held_drew (S := fun w' => Chg [xb, c2] w3 w') (by kernel_rfl) ((Chg.refl _ _).drew) (fun hH31 => ?_)
            have kdT31 := bT.chg ((Chg.refl [] _).drew) (by simp)
            have kdC31 := hC.chg ((Chg.refl [] _).drew) (by simp)
            obtain ⟨wd31, hwd31⟩ : ∃ wd, wd = (w3).drew := ⟨_, rfl⟩
            rw [← hwd31] at hH31 kdT31 kdC31 ⊢
            clear hwd31
            refine TK 0 (.pointer (some ⟨xb, 0, none⟩)) rfl hH31 (fun w' hw' => ?_) ?_
            · go_simp
            try simp only [Act.put, Sa, Sb, Sc, Sd, Sf]
            refine TK 1 (.pointer (some ⟨xb, 0, none⟩)) rfl hH31 (fun w' hw' => ?_) ?_
            · go_simp
            try simp only [Act.put, Sa, Sb, Sc, Sd, Se, Sf]
            refine TK 2 (.pointer (some ⟨xb, 0, none⟩)) rfl hH31 (fun w' hw' => ?_) ?_
            · go_simp
            try simp only [Act.put, Sa, Sb, Sc, Sd, Se, Sf]
            refine TK 3 (.pointer (some ⟨xb, 73, none⟩)) rfl hH31 (fun w' hw' => ?_) ?_
            · go_simp
            try simp only [Act.put, Sa, Sb, Sc, Sd, Se, Sf]
            refine TK 5 (.slice (some ⟨gb, 0, none⟩) L.length c4) rfl hH31 (fun w' hw' => ?_) ?_
            · go_simp
            try simp only [Act.put, Sa, Sb, Sc, Sd, Se, Sf]
            refine TK 6 (.int .i64 (i : Int)) rfl hH31 (fun w' hw' => ?_) ?_
            · go_simp
            try simp only [Act.put, Sa, Sb, Sc, Sd, Se, Sf]
            refine TK 7 (.pointer (some ⟨gb, i, none⟩)) rfl hH31 (fun w' hw' => ?_) ?_
            · go_simp
            try simp only [Act.put, Sa, Sb, Sc, Sd, Se, Sf]
            refine TK 8 (.pointer (some ⟨gn, 0, none⟩)) rfl hH31 (fun w' hw' => ?_) ?_
            · (have c0 := hbB _ hw'; go_simp)
            try simp only [Act.put, Sa, Sb, Sc, Sd, Se, Sf]
            refine RD2 4 9 rfl rfl (fun K hK => ?_) (fun K hK => ?_)
            · have c32 := kdT31.cell 73 t73
              go_simp
              refine hK.out _ _ hH31 (fun _ => ?_)
              try simp only [Act.put, Sa, Sb, Sc, Sd, Se, Sf]
              refine RD 9 rfl (fun K hK => ?_)
              try rw [if_pos (by rfl)]
              go_simp
              have kbB33 := Blk.new (wd31) #[.pointer (some ⟨gn, 0, none⟩)] 84
              have hH33 := hH31.alloc (.cells #[.pointer (some ⟨gn, 0, none⟩)] 84)
              have hgeB33 := hH31.size
              have kbT33 := kdT31.alloc (.cells #[.pointer (some ⟨gn, 0, none⟩)] 84)
              have hneTB33 := kdT31.lt
              have kbC33 := kdC31.alloc (.cells #[.pointer (some ⟨gn, 0, none⟩)] 84)
              have hneCB33 := kdC31.lt
              obtain ⟨gB33, hgg33⟩ : ∃ g, g = (wd31).heap.size := ⟨_, rfl⟩
              rw [← hgg33] at kbB33 hgeB33 hneTB33 hneCB33 ⊢
              generalize (wd31).alloc (.cells #[.pointer (some ⟨gn, 0, none⟩)] 84) = w33 at hH33 kbT33 kbC33 kbB33 ⊢
              clear hgg33
              refine hK.out _ _ hH33 (fun _ => ?_)
              try simp only [Act.put, Sa, Sb, Sc, Sd, Se, Sf]
              refine RD 10 rfl (fun K hK => ?_)
              try rw [if_pos (by rfl)]
              refine op_app (.tmp 62) (.tmp 67) (by kernel_rfl) kbC33 rfl kbB33 rfl rfl (by omega) ?_
              intro c34 cap34 w34 kbC34 hc34 hcc34
              have hH34 : Chg [xb, c2] w3 w34 := hH33.trans hc34 (by simp)
              have hcs34 := hH33.size
              have kbT34 := kbT33.chg hc34 (by simpa using hbc)
              refine hK.out _ _ hH34 (fun _ => ?_)
              try simp only [Act.put, Sa, Sb, Sc, Sd, Se, Sf]
              refine TK 11 (.pointer (some ⟨xb, 0, none⟩)) rfl hH34 (fun w' hw' => ?_) ?_
              · go_simp
              try simp only [Act.put, Sa, Sb, Sc, Sd, Se, Sf]
              refine TK 12 (.pointer (some ⟨xb, 73, none⟩)) rfl hH34 (fun w' hw' => ?_) ?_
              · go_simp
              try simp only [Act.put, Sa, Sb, Sc, Sd, Se, Sf]
              refine RD 13 rfl (fun K hK => ?_)
              have c35 := kbT34.cell 73 t73
              have f35 := kbT34.free 73
              have kbT35 := kbT34.set 73 (.slice (some ⟨c34, 0, none⟩) (n2 + 1) cap34)
              rw [t_set73 (Rl.len ok.r)] at kbT35
              go_simp
              have hH35 := hH34.setCell (p := ⟨xb, 73, none⟩) (.inl (by simp)) (.slice (some ⟨c34, 0, none⟩) (n2 + 1) cap34)
              refine hK.out _ _ hH35 (fun _ => ?_)
              try simp only [Act.put, Sa, Sb, Sc, Sd, Se, Sf]
              refine wpAnyH_done (by kernel_rfl) ?_ _
              have bT9 := kbT35
              have hC9 := kbC34.chg ((Chg.refl [xb] _).setCell (p := ⟨xb, 73, none⟩) (.inl (by simp)) (.slice (some ⟨c34, 0, none⟩) (n2 + 1) cap34)) (hcbx hcc34 (by omega))
              have k9 := hH35
              have hcc9 : c34 = c2 ∨ w3.heap.size ≤ c34 := hcc34.elim .inl (fun h => .inr (by omega))
              go_wp2
              go_roundw
              case rel => exact ⟨i, n2 + 1, _, _, by omega, by omega, rfl, bT9, hrw _ _ _ hC9, kr2.trans k9 hS9, hcc9.elim (fun h => h ▸ hcc2) (fun h => .inr (by omega))⟩
              case measure => simp [intOf]
            · try rw [if_pos (by rfl)]
              go_simp
              have kbB36 := Blk.new (wd31) #[.pointer (some ⟨gn, 0, none⟩)] 84
              have hH36 := hH31.alloc (.cells #[.pointer (some ⟨gn, 0, none⟩)] 84)
              have hgeB36 := hH31.size
              have kbT36 := kdT31.alloc (.cells #[.pointer (some ⟨gn, 0, none⟩)] 84)
              have hneTB36 := kdT31.lt
              have kbC36 := kdC31.alloc (.cells #[.pointer (some ⟨gn, 0, none⟩)] 84)
              have hneCB36 := kdC31.lt
              obtain ⟨gB36, hgg36⟩ : ∃ g, g = (wd31).heap.size := ⟨_, rfl⟩
              rw [← hgg36] at kbB36 hgeB36 hneTB36 hneCB36 ⊢
              generalize (wd31).alloc (.cells #[.pointer (some ⟨gn, 0, none⟩)] 84) = w36 at hH36 kbT36 kbC36 kbB36 ⊢
              clear hgg36
              refine hK.out _ _ hH36 (fun _ => ?_)
              try simp only [Act.put, Sa, Sb, Sc, Sd, Se, Sf]
              refine RD 4 rfl (fun K hK => ?_)
              have c37 := kbT36.cell 73 t73
              go_simp
              refine hK.out _ _ hH36 (fun _ => ?_)
              try simp only [Act.put, Sa, Sb, Sc, Sd, Se, Sf]
              refine RD 10 rfl (fun K hK => ?_)
              try rw [if_pos (by rfl)]
              refine op_app (.tmp 62) (.tmp 67) (by kernel_rfl) kbC36 rfl kbB36 rfl rfl (by omega) ?_
              intro c38 cap38 w38 kbC38 hc38 hcc38
              have hH38 : Chg [xb, c2] w3 w38 := hH36.trans hc38 (by simp)
              have hcs38 := hH36.size
              have kbT38 := kbT36.chg hc38 (by simpa using hbc)
              refine hK.out _ _ hH38 (fun _ => ?_)
              try simp only [Act.put, Sa, Sb, Sc, Sd, Se, Sf]
              refine TK 11 (.pointer (some ⟨xb, 0, none⟩)) rfl hH38 (fun w' hw' => ?_) ?_
              · go_simp
              try simp only [Act.put, Sa, Sb, Sc, Sd, Se, Sf]
              refine TK 12 (.pointer (some ⟨xb, 73, none⟩)) rfl hH38 (fun w' hw' => ?_) ?_
              · go_simp
              try simp only [Act.put, Sa, Sb, Sc, Sd, Se, Sf]
              refine RD 13 rfl (fun K hK => ?_)
              have c39 := kbT38.cell 73 t73
              have f39 := kbT38.free 73
              have kbT39 := kbT38.set 73 (.slice (some ⟨c38, 0, none⟩) (n2 + 1) cap38)
              rw [t_set73 (Rl.len ok.r)] at kbT39
              go_simp
              have hH39 := hH38.setCell (p := ⟨xb, 73, none⟩) (.inl (by simp)) (.slice (some ⟨c38, 0, none⟩) (n2 + 1) cap38)
              refine hK.out _ _ hH39 (fun _ => ?_)
              try simp only [Act.put, Sa, Sb, Sc, Sd, Se, Sf]
              refine wpAnyH_done (by kernel_rfl) ?_ _
              have bT9 := kbT39
              have hC9 := kbC38.chg ((Chg.refl [xb] _).setCell (p := ⟨xb, 73, none⟩) (.inl (by simp)) (.slice (some ⟨c38, 0, none⟩) (n2 + 1) cap38)) (hcbx hcc38 (by omega))
              have k9 := hH39
              have hcc9 : c38 = c2 ∨ w3.heap.size ≤ c38 := hcc38.elim .inl (fun h => .inr (by omega))
              go_wp2
              go_roundw
              case rel => exact ⟨i, n2 + 1, _, _, by omega, by omega, rfl, bT9, hrw _ _ _ hC9, kr2.trans k9 hS9, hcc9.elim (fun h => h ▸ hcc2) (fun h => .inr (by omega))⟩
              case measure => simp [intOf]
end Go.Proofs.YtmkgbinmilcojaaGreat

/- Package tree: Fork of any two blocks. -/
namespace Go.Proofs.YtmkgbinmilcojaaGreat
open Go.RowKit Go.Maps
attribute [-go_sem] loadCellsFrom Instr.build

theorem idx_of {bl : List Nat} (h : bl.Nodup) {i : Nat} (hi : i < bl.length) : bl.idxOf (bl.getD i 0) = i := by
  rw [show bl.getD i 0 = bl[i] by simp [List.getD_eq_getElem?_getD, hi]]
  exact h.idxOf_getElem i hi
def htP (T : Tr) (bl : List Nat) (v : Value) : Nat := match v with | .pointer (some a) => T.htOf (bl.idxOf a.block) | _ => 0
theorem htP_at {T : Tr} {bl : List Nat} (h : bl.Nodup) {i : Nat} (hi : i < bl.length) : htP T bl (.pointer (some ⟨bl.getD i 0, 0, none⟩)) = T.htOf i := by
  simp only [htP]
  rw [idx_of h hi]
set_option maxRecDepth 100000 in
set_option maxHeartbeats 4000000 in
theorem tree_Fork (x : Lt) (T : Tr) (I : TrInv T) (k1 k2 : List Nat) (hk1 : HK k1) (hk2 : HK k2) (i n : Nat) (p q : Pn) (hf1 : T.find k1 = some i) (hf2 : T.find k2 = some n) (hp : T.ns[i]? = some p) (hq : T.ns[n]? = some q) (w : World) (hT : TreeAt w x T) :
    Calls Tryz.prog 59 #[.pointer (some ⟨x.b, 0, none⟩), hv k1, hv k2] w fun e w' => e = .returned (.tuple #[.int .i64 (T.htOf (T.fork (T.htOf i + T.htOf n + 1) i n) : Int), .bool true]) ∧ Chg [] w w' := by
  have ok := I.ok
  have k0 : Chg [] w ((w.alloc (.cells (bytesV k1).toArray 26)).alloc (.cells (bytesV k2).toArray 26)) := ((Chg.refl _ _).alloc _).alloc _
  have b1 := (Blk.new w (bytesV k1).toArray 26).alloc (.cells (bytesV k2).toArray 26)
  have b2 := Blk.at (w.alloc (.cells (bytesV k1).toArray 26)) (bytesV k2).toArray 26 (w.heap.size + 1) (by simp)
  have hT0 := hT.chg ok k0
  have hlk1 := fun m => (hT0.mp.drewN m).look Tryz.underlying88 (zeroNP _) hk1
  have hlk2 := fun m => (hT0.mp.drewN m).look Tryz.underlying88 (zeroNP _) hk2
  simp only [hf1, hf2, Option.map_some, Option.getD_some] at hlk1 hlk2
  have hld1 := fun m => hash_load hk1.1 (b1.drewN m)
  have hld2 := fun m => hash_load hk2.1 (b2.drewN m)
  obtain ⟨gc, cc, c72, _, _, _, _⟩ := hT0.slice ok
  unfold hv at hlk1 hlk2 ⊢
  simp only [adrB] at hlk1 hlk2
  have hil : i < x.bl.length := by rw [hT.len]; exact (List.getElem?_eq_some_iff.1 hp).1
  have hnl : n < x.bl.length := by rw [hT.len]; exact (List.getElem?_eq_some_iff.1 hq).1
  have hpi := Lib.hid hp
  have hqi := Lib.hid hq
  have hgi0 := Lib.hid (show (some ⟨x.bl.getD i 0, 0, none⟩ : Option Addr) = adrB x.bl i from rfl)
  have hgn0 := Lib.hid (show (some ⟨x.bl.getD n 0, 0, none⟩ : Option Addr) = adrB x.bl n from rfl)
  obtain ⟨gi, hgi⟩ : ∃ gi, gi = x.bl.getD i 0 := ⟨_, rfl⟩
  obtain ⟨gn, hgn⟩ : ∃ gn, gn = x.bl.getD n 0 := ⟨_, rfl⟩
  rw [← hgi] at hlk1 hgi0
  rw [← hgn] at hlk2 hgn0
  have hgi' := Lib.hid hgi
  have hgn' := Lib.hid hgn
  have ei := Tr.htOf_eq hp
  have en := Tr.htOf_eq hq
  have hr : ∃ r, T.fork (T.htOf i + T.htOf n + 1) i n = r := ⟨_, rfl⟩
  obtain ⟨r, hr⟩ := hr
  rw [hr]
  have hr' := Lib.hid hr
  have hl4 : ∀ p ∈ T.ns, p.ht < 4096 := ok.ht
  clear hgi hgn hf1 hf2 hp hq hk1 hk2 b1 b2 hT0 hr ei en
  generalize (bytesV k1).toArray = c1 at *
  generalize (bytesV k2).toArray = c2 at *
  go_enter Tryz.func59, Tryz.ntmps59
  go_wp2
  go_quiet (fail)
  have kq := k0.drewN nq
  clear k0 c72 hlk1 hlk2 hld1 hld2
  generalize ((w.alloc (.cells c1 26)).alloc (.cells c2 26)).drewN nq = wq at *
  go_wp2_with fail
  go_loopw [8, 9] (fun s8 s9 wr => ∃ (a b f : Nat) (pa pb : Pn), T.ns[a]? = some pa ∧ T.ns[b]? = some pb ∧ pa.ht + pb.ht < f ∧ T.fork f a b = r ∧ s8 = .pointer (some ⟨x.bl.getD a 0, 0, none⟩) ∧ s9 = .pointer (some ⟨x.bl.getD b 0, 0, none⟩) ∧ Chg [] w wr) (fun s8 s9 _ => htP T x.bl s8 + htP T x.bl s9)
  case atStart => exact ⟨i, n, _, p, q, hpi.out, hqi.out, by rw [Tr.htOf_eq hpi.out, Tr.htOf_eq hqi.out]; omega, hr'.out, by rw [hgi'.out], by rw [hgn'.out], kq⟩
  case round =>
    obtain ⟨a, b, f, pa, pb, ha, hb, hf, hfr, rfl, rfl, kr⟩ := hrel
    have hal : a < x.bl.length := by rw [hT.len]; exact (List.getElem?_eq_some_iff.1 ha).1
    have hbl : b < x.bl.length := by rw [hT.len]; exact (List.getElem?_eq_some_iff.1 hb).1
    have nA := (hT.node ok ha).chg kr (by simp)
    have nB := (hT.node ok hb).chg kr (by simp)
    have mA := Lib.hid (htP_at (T := T) hT.nodup hal)
    have mB := Lib.hid (htP_at (T := T) hT.nodup hbl)
    rcases f with - | f
    · omega
    unfold Tr.fork at hfr
    by_cases hab : a = b
    · subst hab
      rw [if_pos rfl] at hfr
      subst hfr
      have hfin := Lib.hid (Tr.htOf_eq ha)
      rw [hb] at ha
      cases ha
      generalize x.bl.getD a 0 = ga at *
      have hself := np_same ⟨ga, 0, none⟩
      have h1 := nA.height
      clear hb nB
      go_wp2
      exact bodyPost_ret (v := .tuple #[.int .i64 (pa.ht : Int), .bool true]) (by simp [results, Tryz.results59, go_sem]) rfl ⟨by rw [hfin.out], kr⟩
    · rw [if_neg hab] at hfr
      rw [Tr.htOf_eq ha, Tr.htOf_eq hb, ha, hb] at hfr
      have hne := np_other (nd_inj hT.nodup hal hbl hab) nA.blk nB.blk
      have h1 := nA.height
      have h2 := nB.height
      have fA := Lib.hid (Tr.htOf_eq ha)
      have fB := Lib.hid (Tr.htOf_eq hb)
      by_cases hle : pb.ht ≤ pa.ht
      · rw [if_pos hle] at hfr
        obtain ⟨c, pc, hc, hpc, hhc⟩ := I.up ha (I.step ha hb hab hle)
        rw [hc] at nA
        simp only [Option.bind_some] at nA hfr
        rw [hc] at hfr
        simp only [Option.getD_some] at hfr
        have hcl : c < x.bl.length := by rw [hT.len]; exact (List.getElem?_eq_some_iff.1 hpc).1
        have mC := Lib.hid (htP_at (T := T) hT.nodup hcl)
        have fC := Lib.hid (Tr.htOf_eq hpc)
        have ac : adrB x.bl c = some ⟨x.bl.getD c 0, 0, none⟩ := rfl
        rw [ac] at nA
        have d : decide ((pb.ht : Int) ≤ (pa.ht : Int)) = true := by simpa using hle
        have hA' := Lib.hid ha
        have hB' := Lib.hid hb
        have hC' := Lib.hid hpc
        have hf' := Lib.hid hfr
        have hcl := Lib.hid hc
        clear ac ha hb hpc hfr hc hle
        obtain ⟨ga, hga⟩ : ∃ g, g = x.bl.getD a 0 := ⟨_, rfl⟩
        obtain ⟨gb, hgb⟩ : ∃ g, g = x.bl.getD b 0 := ⟨_, rfl⟩
        obtain ⟨gk, hgk⟩ : ∃ g, g = x.bl.getD c 0 := ⟨_, rfl⟩
        rw [← hga] at h1 hne nA ⊢
        rw [← hgb] at h2 hne nB ⊢
        rw [← hgk] at nA
        have hga' := Lib.hid hga
        have hgb' := Lib.hid hgb
        have hgk' := Lib.hid hgk
        clear hga hgb hgk
        obtain ⟨H1, hH1⟩ : ∃ H : Int, H = pa.ht := ⟨_, rfl⟩
        obtain ⟨H2, hH2⟩ : ∃ H : Int, H = pb.ht := ⟨_, rfl⟩
        rw [← hH1] at h1 d
        rw [← hH2] at h2 d
        clear hH1 hH2
        go_wp2
        go_quiet (fail)
        have kq2 := kr.drewN nq
        have nA2 := nA.chg (S := []) ((Chg.refl _ _).drewN nq) (by simp)
        clear h1 h2 hne kr d nA nB
        generalize wr.drewN nq = w2 at *
        have hca := nA2.ahead
        go_wp2
        go_roundw
        case rel => exact ⟨c, b, f, pc, pb, hC'.out, hB'.out, by omega, hf'.out, by rw [hgk'.out], by rw [hgb'.out], kq2⟩
        case measure =>
          rw [hga'.out, hgb'.out, hgk'.out, mA.out, mB.out, mC.out, fA.out, fC.out]; omega
      · rw [if_neg hle] at hfr
        obtain ⟨c, pc, hc, hpc, hhc⟩ := I.up hb (I.step hb ha (fun e => hab e.symm) (by omega))
        rw [hc] at nB
        simp only [Option.bind_some] at nB hfr
        rw [hc] at hfr
        simp only [Option.getD_some] at hfr
        have hcl : c < x.bl.length := by rw [hT.len]; exact (List.getElem?_eq_some_iff.1 hpc).1
        have mC := Lib.hid (htP_at (T := T) hT.nodup hcl)
        have fC := Lib.hid (Tr.htOf_eq hpc)
        have ac : adrB x.bl c = some ⟨x.bl.getD c 0, 0, none⟩ := rfl
        rw [ac] at nB
        have d : decide ((pb.ht : Int) ≤ (pa.ht : Int)) = false := by simp; omega
        have hA' := Lib.hid ha
        have hB' := Lib.hid hb
        have hC' := Lib.hid hpc
        have hf' := Lib.hid hfr
        have hcl := Lib.hid hc
        clear ac ha hb hpc hfr hc hle
        obtain ⟨ga, hga⟩ : ∃ g, g = x.bl.getD a 0 := ⟨_, rfl⟩
        obtain ⟨gb, hgb⟩ : ∃ g, g = x.bl.getD b 0 := ⟨_, rfl⟩
        obtain ⟨gk, hgk⟩ : ∃ g, g = x.bl.getD c 0 := ⟨_, rfl⟩
        rw [← hga] at h1 hne nA ⊢
        rw [← hgb] at h2 hne nB ⊢
        rw [← hgk] at nB
        have hga' := Lib.hid hga
        have hgb' := Lib.hid hgb
        have hgk' := Lib.hid hgk
        clear hga hgb hgk
        obtain ⟨H1, hH1⟩ : ∃ H : Int, H = pa.ht := ⟨_, rfl⟩
        obtain ⟨H2, hH2⟩ : ∃ H : Int, H = pb.ht := ⟨_, rfl⟩
        rw [← hH1] at h1 d
        rw [← hH2] at h2 d
        clear hH1 hH2
        go_wp2
        go_quiet (fail)
        have kq2 := kr.drewN nq
        have nB2 := nB.chg (S := []) ((Chg.refl _ _).drewN nq) (by simp)
        clear h1 h2 hne kr d nA nB
        generalize wr.drewN nq = w2 at *
        have hca := nB2.ahead
        go_wp2
        go_roundw
        case rel => exact ⟨a, c, f, pa, pc, hA'.out, hC'.out, by omega, hf'.out, by rw [hga'.out], by rw [hgk'.out], kq2⟩
        case measure =>
          rw [hga'.out, hgb'.out, hgk'.out, mA.out, mB.out, mC.out, fB.out, fC.out]; omega
end Go.Proofs.YtmkgbinmilcojaaGreat

/- Package tree: back; bits; check. Printed by bitsgen3.py. -/
namespace Go.Proofs.YtmkgbinmilcojaaGreat
open Go.RowKit Go.Maps
attribute [-go_sem] loadCellsFrom Instr.build

def Tr.up (T : Tr) (i : Nat) : Nat := ((T.ns[i]?).bind (fun p => p.ah)).getD 0
def Tr.anc (T : Tr) : Nat → Nat → Nat
  | 0, i => i
  | k + 1, i => T.anc k (T.up i)
theorem anc_get {T : Tr} (I : TrInv T) : ∀ (k i : Nat) (p : Pn), T.ns[i]? = some p → k ≤ p.ht → ∃ q, T.ns[T.anc k i]? = some q
  | 0, i, p, hp, _ => ⟨p, hp⟩
  | k + 1, i, p, hp, hk => by
    have h0 : i ≠ 0 := fun e => by
      subst e
      obtain ⟨r, hr, h0⟩ := I.at0
      rw [hp] at hr; cases hr; omega
    obtain ⟨c, q, hc, hq, hh⟩ := I.up hp h0
    have e : T.up i = c := by simp [Tr.up, hp, hc]
    rw [Tr.anc, e]
    exact anc_get I k c q hq (by omega)
set_option maxRecDepth 100000 in
set_option maxHeartbeats 2000000 in
theorem node_back (x : Lt) (T : Tr) (I : TrInv T) (k i : Nat) (p : Pn) (hp : T.ns[i]? = some p) (hk : k ≤ p.ht) (w : World) (hT : TreeAt w x T) :
    Calls Tryz.prog 101 #[.pointer (adrB x.bl i), .int .i64 k] w fun e w' => e = .returned (.pointer (adrB x.bl (T.anc k i))) ∧ Chg [] w w' := by
  obtain ⟨r, hr⟩ : ∃ r, r = T.anc k i := ⟨_, rfl⟩
  rw [← hr]
  have hr' := Lib.hid hr.symm
  have hp' := Lib.hid hp
  have h4 := I.ok.ht p (List.mem_of_getElem? hp)
  clear hr hp
  go_enter Tryz.func101, Tryz.ntmps101
  go_wp2
  go_loopw [0, 1] (fun s0 s1 wr => ∃ (a n : Nat) (pa : Pn), T.ns[a]? = some pa ∧ n ≤ pa.ht ∧ n ≤ 4096 ∧ T.anc n a = r ∧ s0 = .pointer (adrB x.bl a) ∧ s1 = .int .i64 (n : Int) ∧ Chg [] w wr) (fun _ s1 _ => (intOf s1).toNat)
  case atStart => exact ⟨i, k, p, hp'.out, hk, by omega, hr'.out, rfl, rfl, Chg.refl _ _⟩
  case round =>
    obtain ⟨a, n, pa, ha, hn, hn4, han, rfl, rfl, kr⟩ := hrel
    rcases n with - | n
    · rw [Tr.anc] at han
      subst han
      go_wp2
      go_ret
      exact ⟨rfl, kr⟩
    · have h0 : a ≠ 0 := fun e => by
        subst e
        obtain ⟨r, hr, h0⟩ := I.at0
        rw [ha] at hr; cases hr; omega
      obtain ⟨c, q, hc, hq, hh⟩ := I.up ha h0
      have e : T.up a = c := by simp [Tr.up, ha, hc]
      rw [Tr.anc, e] at han
      have hN := (hT.node I.ok ha).chg kr (by simp)
      rw [hc] at hN
      simp only [Option.bind_some] at hN
      have hah := hN.ahead
      have d1 : decide ((0 : Int) < ((n + 1 : Nat) : Int)) = true := by simp
      have hw1 : IntKind.i64.wrap (((n + 1 : Nat) : Int) - 1) = (n : Int) := by rw [IntKind.wrap_i64]; omega
      have hw2 : IntKind.i64.wrap ((n : Int) + 1 - 1) = (n : Int) := by rw [IntKind.wrap_i64]; omega
      have aa : adrB x.bl a = some ⟨x.bl.getD a 0, 0, none⟩ := rfl
      rw [aa]
      generalize x.bl.getD a 0 = ga at *
      have han' := Lib.hid han
      have hq' := Lib.hid hq
      clear hN aa ha hc e han hq
      go_wp2
      go_roundw
      case rel => exact ⟨c, n, q, hq'.out, by omega, by omega, han'.out, rfl, by first | rfl | simp [hw1] | simp [hw2], kr⟩
      case measure => simp [intOf]
theorem Rl.ev0 (r : Rl) : r.cs[0]? = some (.int .i64 r.ev) := rfl
set_option maxRecDepth 100000 in
set_option maxHeartbeats 4000000 in
theorem tree_bitsG (xb gn gf : Nat) (rs tc : Array Value) (p q : Pn) (pa qa : Option Addr) (ht nn : Nat) (ev ne : Int) (hht' : p.ht = ht) (hb' : ht ≤ 4096) (d : Bool) (hd : d = true) (hrs : rs.size = 72) (hev : rs[0]? = some (.int .i64 ev)) (hev2 : 2 ≤ ev ∧ ev ≤ 2016) (hpt : ∀ (j : Nat) (v : Value), rs[j]? = some v → tc[0 + j]? = some v)
    (hwp' : IntKind.i64.wrap (p.h.tm : Int) = p.h.tm) (hwq' : IntKind.i64.wrap (q.h.tm : Int) = q.h.tm) (hwd' : IntKind.i64.wrap ((p.h.tm : Int) - q.h.tm) = (p.h.tm : Int) - q.h.tm)
    (hdue : ∀ w, Calls Tryz.prog 100 #[.agg rs, .int .i64 ((ht : Int) + 1)] w fun e w' => e = .returned (.bool d) ∧ Chg [] w w')
    (w : World) (bT : Blk w xb tc 91) (bN : NodeV w gn p pa) (bF : NodeV w gf q qa)
    (hback : ∀ w', Chg [] w w' → Calls Tryz.prog 101 #[.pointer (some ⟨gn, 0, none⟩), .int .i64 (ev - 1)] w' fun e w'' => e = .returned (.pointer (some ⟨gf, 0, none⟩)) ∧ Chg [] w' w'')
    (hnext : ∀ w, Calls Tryz.prog 102 #[.agg rs, .int .u32 (p.h.bt : Int), .int .i64 ((p.h.tm : Int) - q.h.tm)] w fun e w' => e = .returned (.tuple #[.int .u32 (nn : Int), .int .i64 ne]) ∧ Chg [] w w') :
    Calls Tryz.prog 71 #[.pointer (some ⟨xb, 0, none⟩), .pointer (some ⟨gn, 0, none⟩)] w fun e w' => e = .returned (.tuple #[.int .u32 (nn : Int), .int .i64 ne]) ∧ Chg [] w w' := by
  have hht := Lib.hid hht'
  have hwr : IntKind.i64.wrap ((ht : Int) + 1) = (ht : Int) + 1 := by rw [IntKind.wrap_i64]; omega
  have hwe : IntKind.i64.wrap (ev - 1) = ev - 1 := by rw [IntKind.wrap_i64]; omega
  have hwp0 := Lib.hid hwp'
  have hwq0 := Lib.hid hwq'
  have hwd0 := Lib.hid hwd'
  clear hht' hwp' hwq' hwd'
  obtain ⟨w0, hw0⟩ : ∃ w0, w0 = w := ⟨_, rfl⟩
  rw [← hw0] at bT bN bF hback ⊢
  clear hw0
  go_enter Tryz.func71, Tryz.ntmps71
  go_upto_region 1 with fail
  go_cut [17] (fun s17 wx => s17 = .bool (!d) ∧ Chg [] w0 wx)
  case first =>
    refine wp_region_held_drew (S := fun w' => Chg [] w0 w') (by kernel_rfl) ((Chg.refl _ _).drew) (fun hH => ?_)
    refine TK 0 (.pointer (some ⟨xb, 0, none⟩)) rfl hH (fun w' hw' => ?_) ?_
    · go_simp
    try simp only [Act.put, Sa, Sb, Sc, Sd, Sf]
    refine TK 1 (.pointer (some ⟨xb, 0, none⟩)) rfl hH (fun w' hw' => ?_) ?_
    · go_simp
    try simp only [Act.put, Sa, Sb, Sc, Sd, Se, Sf]
    refine TK 2 (.pointer (some ⟨xb, 0, none⟩)) rfl hH (fun w' hw' => ?_) ?_
    · go_simp
    try simp only [Act.put, Sa, Sb, Sc, Sd, Se, Sf]
    refine TK 3 (.agg rs) rfl hH (fun w' hw' => ?_) ?_
    · (have k := bT.chg hw' (by simp); have hl := load_part k 0 72 hrs hpt; go_simp)
    try simp only [Act.put, Sa, Sb, Sc, Sd, Se, Sf]
    refine TK 4 (.pointer (some ⟨gn, 0, none⟩)) rfl hH (fun w' hw' => ?_) ?_
    · go_simp
    try simp only [Act.put, Sa, Sb, Sc, Sd, Se, Sf]
    refine TK 5 (.pointer (some ⟨gn, 0, none⟩)) rfl hH (fun w' hw' => ?_) ?_
    · go_simp
    try simp only [Act.put, Sa, Sb, Sc, Sd, Se, Sf]
    refine TK 6 (.pointer (some ⟨gn, 101, none⟩)) rfl hH (fun w' hw' => ?_) ?_
    · go_simp
    try simp only [Act.put, Sa, Sb, Sc, Sd, Se, Sf]
    refine TK 7 (.int .i64 (ht : Int)) rfl hH (fun w' hw' => ?_) ?_
    · (have k := bN.chg hw' (by simp); have c0 := k.height; rw [hht.out] at c0; go_simp)
    try simp only [Act.put, Sa, Sb, Sc, Sd, Se, Sf]
    refine TK 8 (.int .i64 ((ht : Int) + 1)) rfl hH (fun w' hw' => ?_) ?_
    · go_simp
    try simp only [Act.put, Sa, Sb, Sc, Sd, Se, Sf]
    refine RD 9 rfl (fun K hK => ?_)
    try rw [if_pos (by rfl)]
    go_simp
    go_at_call 100
    refine (hdue _).mono ?_
    rintro e1 w1 ⟨rfl, hc1⟩
    dsimp only
    have hH1 := hH.trans hc1 (by simp)
    refine hK.out _ _ hH1 (fun _ => ?_)
    try simp only [Act.put, Sa, Sb, Sc, Sd, Se, Sf]
    refine TK 10 (.bool (!d)) rfl hH1 (fun w' hw' => ?_) ?_
    · go_simp
    try simp only [Act.put, Sa, Sb, Sc, Sd, Se, Sf]
    refine wpAnyH_done (by kernel_rfl) ?_ _
    go_wp2_with fail
    go_meet
    exact ⟨rfl, hH1⟩
  case rest =>
    obtain ⟨rfl, k1⟩ := hcut
    have bT1 := bT.chg k1 (by simp)
    have cE := bT1.cell 0 (by have := hpt 0 _ hev; simpa using this)
    subst hd
    generalize wc = w1 at *
    go_wp2_with fail
    refine (hback _ k1).mono ?_
    rintro e w2 ⟨rfl, k2⟩
    dsimp only
    have k02 := k1.trans k2 (by simp)
    have bT := bT.chg k02 (by simp)
    have bN := bN.chg k02 (by simp)
    have bF := bF.chg k02 (by simp)
    have hwp := hwp0.out
    have hwq := hwq0.out
    have hwd := hwd0.out
    clear cE bT1 hback
    go_upto_region 4 with fail
    go_cut [4, 5] (fun s4 s5 wx => s4 = .int .u32 (nn : Int) ∧ s5 = .int .i64 ne ∧ Chg [] w2 wx)
    case first =>
      refine wp_region_held_drew (S := fun w' => Chg [] w2 w') (by kernel_rfl) ((Chg.refl _ _).drew) (fun hH => ?_)
      refine TK 0 (.pointer (some ⟨xb, 0, none⟩)) rfl hH (fun w' hw' => ?_) ?_
      · go_simp
      try simp only [Act.put, Sa, Sb, Sc, Sd, Sf]
      refine TK 1 (.pointer (some ⟨xb, 0, none⟩)) rfl hH (fun w' hw' => ?_) ?_
      · go_simp
      try simp only [Act.put, Sa, Sb, Sc, Sd, Se, Sf]
      refine TK 2 (.pointer (some ⟨xb, 0, none⟩)) rfl hH (fun w' hw' => ?_) ?_
      · go_simp
      try simp only [Act.put, Sa, Sb, Sc, Sd, Se, Sf]
      refine TK 3 (.agg rs) rfl hH (fun w' hw' => ?_) ?_
      · (have k := bT.chg hw' (by simp); have hl := load_part k 0 72 hrs hpt; go_simp)
      try simp only [Act.put, Sa, Sb, Sc, Sd, Se, Sf]
      refine TK 4 (.pointer (some ⟨gn, 0, none⟩)) rfl hH (fun w' hw' => ?_) ?_
      · go_simp
      try simp only [Act.put, Sa, Sb, Sc, Sd, Se, Sf]
      refine TK 5 (.pointer (some ⟨gn, 0, none⟩)) rfl hH (fun w' hw' => ?_) ?_
      · go_simp
      try simp only [Act.put, Sa, Sb, Sc, Sd, Se, Sf]
      refine TK 6 (.pointer (some ⟨gn, 0, none⟩)) rfl hH (fun w' hw' => ?_) ?_
      · go_simp
      try simp only [Act.put, Sa, Sb, Sc, Sd, Se, Sf]
      refine TK 7 (.pointer (some ⟨gn, 66, none⟩)) rfl hH (fun w' hw' => ?_) ?_
      · go_simp
      try simp only [Act.put, Sa, Sb, Sc, Sd, Se, Sf]
      refine TK 8 (.int .u32 (p.h.bt : Int)) rfl hH (fun w' hw' => ?_) ?_
      · (have k := bN.chg hw' (by simp); have c0 := k.bits; go_simp)
      try simp only [Act.put, Sa, Sb, Sc, Sd, Se, Sf]
      refine TK 9 (.pointer (some ⟨gn, 0, none⟩)) rfl hH (fun w' hw' => ?_) ?_
      · go_simp
      try simp only [Act.put, Sa, Sb, Sc, Sd, Se, Sf]
      refine TK 10 (.pointer (some ⟨gn, 0, none⟩)) rfl hH (fun w' hw' => ?_) ?_
      · go_simp
      try simp only [Act.put, Sa, Sb, Sc, Sd, Se, Sf]
      refine TK 11 (.pointer (some ⟨gn, 0, none⟩)) rfl hH (fun w' hw' => ?_) ?_
      · go_simp
      try simp only [Act.put, Sa, Sb, Sc, Sd, Se, Sf]
      refine TK 12 (.pointer (some ⟨gn, 65, none⟩)) rfl hH (fun w' hw' => ?_) ?_
      · go_simp
      try simp only [Act.put, Sa, Sb, Sc, Sd, Se, Sf]
      refine TK 13 (.int .u32 (p.h.tm : Int)) rfl hH (fun w' hw' => ?_) ?_
      · (have k := bN.chg hw' (by simp); have c0 := k.time; go_simp)
      try simp only [Act.put, Sa, Sb, Sc, Sd, Se, Sf]
      refine TK 14 (.int .i64 (p.h.tm : Int)) rfl hH (fun w' hw' => ?_) ?_
      · (have e9 := hwp; go_simp)
      try simp only [Act.put, Sa, Sb, Sc, Sd, Se, Sf]
      refine TK 15 (.pointer (some ⟨gf, 0, none⟩)) rfl hH (fun w' hw' => ?_) ?_
      · go_simp
      try simp only [Act.put, Sa, Sb, Sc, Sd, Se, Sf]
      refine TK 16 (.pointer (some ⟨gf, 0, none⟩)) rfl hH (fun w' hw' => ?_) ?_
      · go_simp
      try simp only [Act.put, Sa, Sb, Sc, Sd, Se, Sf]
      refine TK 17 (.pointer (some ⟨gf, 0, none⟩)) rfl hH (fun w' hw' => ?_) ?_
      · go_simp
      try simp only [Act.put, Sa, Sb, Sc, Sd, Se, Sf]
      refine TK 18 (.pointer (some ⟨gf, 65, none⟩)) rfl hH (fun w' hw' => ?_) ?_
      · go_simp
      try simp only [Act.put, Sa, Sb, Sc, Sd, Se, Sf]
      refine TK 19 (.int .u32 (q.h.tm : Int)) rfl hH (fun w' hw' => ?_) ?_
      · (have k := bF.chg hw' (by simp); have c0 := k.time; go_simp)
      try simp only [Act.put, Sa, Sb, Sc, Sd, Se, Sf]
      refine TK 20 (.int .i64 (q.h.tm : Int)) rfl hH (fun w' hw' => ?_) ?_
      · (have e9 := hwq; go_simp)
      try simp only [Act.put, Sa, Sb, Sc, Sd, Se, Sf]
      refine TK 21 (.int .i64 ((p.h.tm : Int) - q.h.tm)) rfl hH (fun w' hw' => ?_) ?_
      · (have e9 := hwd; go_simp)
      try simp only [Act.put, Sa, Sb, Sc, Sd, Se, Sf]
      refine RD 22 rfl (fun K hK => ?_)
      try rw [if_pos (by rfl)]
      go_simp
      go_at_call 102
      refine (hnext _).mono ?_
      rintro e1 w1 ⟨rfl, hc1⟩
      dsimp only
      have hH1 := hH.trans hc1 (by simp)
      refine hK.out _ _ hH1 (fun _ => ?_)
      try simp only [Act.put, Sa, Sb, Sc, Sd, Se, Sf]
      refine TK 23 (.int .u32 (nn : Int)) rfl hH1 (fun w' hw' => ?_) ?_
      · go_simp
      try simp only [Act.put, Sa, Sb, Sc, Sd, Se, Sf]
      refine TK 24 (.int .i64 ne) rfl hH1 (fun w' hw' => ?_) ?_
      · go_simp
      try simp only [Act.put, Sa, Sb, Sc, Sd, Se, Sf]
      refine RD 25 rfl (fun K hK => ?_)
      go_simp
      refine hK.out _ _ hH1 (fun _ => ?_)
      try simp only [Act.put, Sa, Sb, Sc, Sd, Se, Sf]
      refine RD 26 rfl (fun K hK => ?_)
      go_simp
      refine hK.out _ _ hH1 (fun _ => ?_)
      try simp only [Act.put, Sa, Sb, Sc, Sd, Se, Sf]
      refine wpAnyH_done (by kernel_rfl) ?_ _
      go_wp2_with fail
      go_meet
      exact ⟨rfl, rfl, hH1⟩
    case rest =>
      obtain ⟨rfl, rfl, k3⟩ := hcut
      have kf := k02.trans k3 (by simp)
      clear bT bN bF
      go_wp2
      exact bodyPost_ret (v := .tuple #[.int .u32 (nn : Int), .int .i64 ne]) (by simp [results, Tryz.results71, go_sem]) rfl ⟨rfl, kf⟩
def Tr.tmOf (T : Tr) (i : Nat) : Nat := ((T.ns[i]?).map (fun p => p.h.tm)).getD 0
/-- the bits that must come behind a block. -/
def Tr.nb (T : Tr) (i : Nat) (p : Pn) : Nat := if T.due p then nextN T.r.sp T.r.lm p.h.bt ((p.h.tm : Int) - T.tmOf (T.anc (T.r.ev - 1).toNat i)) else p.h.bt
def Tr.nbE (T : Tr) (p : Pn) : Int := if T.due p then nextE T.r.sp T.r.lm p.h.bt else 0
theorem tree_bits (x : Lt) (T : Tr) (I : TrInv T) (i : Nat) (p : Pn) (hp : T.ns[i]? = some p) (w : World) (h : TreeAt w x T) :
    Calls Tryz.prog 71 #[.pointer (some ⟨x.b, 0, none⟩), .pointer (adrB x.bl i)] w fun e w' => e = .returned (.tuple #[.int .u32 (T.nb i p : Int), .int .i64 (T.nbE p)]) ∧ Chg [] w w' := by
  have ok := I.ok
  cases hd : T.due p with
  | false =>
    unfold Tr.nb Tr.nbE
    rw [hd]
    exact tree_bits0 x T ok i p hp hd w h
  | true =>
    unfold Tr.nb Tr.nbE
    rw [hd, if_pos rfl, if_pos rfl]
    obtain ⟨c, hb, _⟩ := h.tb
    have hht := ok.ht p (List.mem_of_getElem? hp)
    have hr := checkR_ok ok.rk
    have hdv : (((p.ht + 1 : Nat) : Int) % T.r.ev = 0) := by simpa [Tr.due] using hd
    have hle : (T.r.ev - 1).toNat ≤ p.ht := by
      have h1 := Int.emod_add_mul_ediv ((p.ht + 1 : Nat) : Int) T.r.ev
      rw [hdv] at h1
      have h2 : 0 < ((p.ht + 1 : Nat) : Int) / T.r.ev := by
        rcases Int.lt_or_le 0 (((p.ht + 1 : Nat) : Int) / T.r.ev) with h | h
        · exact h
        · have := Int.mul_nonneg (show 0 ≤ T.r.ev by omega) (show 0 ≤ -(((p.ht + 1 : Nat) : Int) / T.r.ev) by omega)
          rw [Int.mul_neg] at this
          omega
      have h3 := Int.mul_le_mul_of_nonneg_left (show (1 : Int) ≤ ((p.ht + 1 : Nat) : Int) / T.r.ev by omega) (show 0 ≤ T.r.ev by omega)
      omega
    obtain ⟨q, hq⟩ := anc_get I (T.r.ev - 1).toNat i p hp hle
    have htp := (ok.hd p (List.mem_of_getElem? hp)).tm
    have htq := (ok.hd q (List.mem_of_getElem? hq)).tm
    have hbp := (ok.hd p (List.mem_of_getElem? hp)).bt
    have et : T.tmOf (T.anc (T.r.ev - 1).toNat i) = q.h.tm := by unfold Tr.tmOf; rw [hq]; rfl
    rw [et]
    refine tree_bitsG x.b _ _ T.r.cs _ p q _ _ p.ht _ T.r.ev _ rfl (by omega) (T.due p) hd (Rl.size ok.r) (Rl.ev0 T.r) ⟨hr.1, hr.2.1⟩ (t_head _ _ _) (by rw [IntKind.wrap_i64]; omega) (by rw [IntKind.wrap_i64]; omega) (by rw [IntKind.wrap_i64]; omega) (fun w => rules_Due T.r ok.r hr.1 (p.ht + 1) (by omega) (by omega) w) w hb (h.node ok hp) (h.node ok hq)
      (fun w' k => ?_) (fun w => adjust_Next (.agg T.r.cs) T.r.sp T.r.lm p.h.bt _ (Rl.v T.r ok.r) hbp (by omega) (by omega) w)
    have := node_back x T I (T.r.ev - 1).toNat i p hp hle w' (h.chg ok k)
    rw [Int.toNat_of_nonneg (by omega)] at this
    exact this
def Tr.chkE (T : Tr) (h : Hd) (i : Nat) (p : Pn) : Int := if T.nbE p ≠ 0 ∨ T.nb i p ≠ h.bt then 6 else if checkE h (decT T.r.lm) ≠ 0 then checkE h (decT T.r.lm) else if (h.tm : Int) ≤ medT T i then 11 else if 4096 ≤ T.ns.length ∨ (0 < p.kd ∧ 16 ≤ T.tips) then 10 else 0
theorem tree_check (x : Lt) (T : Tr) (I : TrInv T) (i : Nat) (p : Pn) (hp : T.ns[i]? = some p) (h : Hd) (hok : HdOk h) (w : World) (hT : TreeAt w x T) :
    Calls Tryz.prog 42 #[.pointer (some ⟨x.b, 0, none⟩), .agg h.cs, .pointer (adrB x.bl i)] w fun e w' => e = .returned (.int .i64 (T.chkE h i p)) ∧ Chg [] w w' := by
  have ok := I.ok
  obtain ⟨c, hb, _⟩ := hT.tb
  obtain ⟨t72, _, t74⟩ := t_cell (Rl.len ok.r) (.map (some x.m)) (.slice (some ⟨x.c, 0, none⟩) T.ch.length c) (.int .i64 (T.tips : Int))
  obtain ⟨ls, e1, hls, _⟩ := wvC (decT T.r.lm)
  have htop := fun w => adjust_Top (.agg T.r.cs) _ _ (Rl.v T.r ok.r) w
  have hchk := fun w => header_Check h hok (decT T.r.lm) (decT_lt _) w
  rw [e1] at hchk
  simp only [e1] at htop
  refine tree_checkW x.b x.m (x.bl.getD i 0) T.ns.length p.kd T.tips T.r.cs _ h.cs ls (T.nb i p) h.bt h.tm (T.nbE p) (checkE h (decT T.r.lm)) (medT T i) _ ?_ (Hd.size hok) (Rl.size ok.r) (t_head _ _ _) (Hd.c65 hok) (Hd.c66 hok) w hb t72 t74
    (fun w' k ty => (hT.chg ok k).mp.len Tryz.underlying88 ty) (fun w' k => ((hT.chg ok k).node ok hp).kids)
    (fun w' k => tree_bits x T I i p hp w' (hT.chg ok k)) htop hchk (fun w' k => node_median x T ok i p hp w' (hT.chg ok k))
  rfl
/-- the bits that Bits tells behind a hash, and its error. -/
def Tr.bitsOf (T : Tr) (k : List Nat) : Nat × Int := match (T.find k).bind (fun i => (T.ns[i]?).map (fun p => (T.nb i p, T.nbE p))) with | none => (0, 8) | some r => r
theorem tree_BitsG (x : Lt) (T : Tr) (I : TrInv T) (k : List Nat) (hk : HK k) (w : World) (h : TreeAt w x T) :
    Calls Tryz.prog 38 #[.pointer (some ⟨x.b, 0, none⟩), hv k] w fun e w' => e = .returned (.tuple #[.int .u32 ((T.bitsOf k).1 : Int), .int .i64 (T.bitsOf k).2]) ∧ Chg [] w w' := by
  have h1 := tree_Bits x T I.ok k hk (fun i => (T.bitsOf k).1) (fun i => (T.bitsOf k).2) (fun i p hf hp w hT => by
    have e : T.bitsOf k = (T.nb i p, T.nbE p) := by simp [Tr.bitsOf, hf, hp]
    rw [e]
    exact tree_bits x T I i p hp w hT) w h
  refine h1.mono ?_
  rintro e w' ⟨rfl, hc⟩
  refine ⟨?_, hc⟩
  cases hf : T.find k with
  | none => simp [Tr.bitsOf, hf]
  | some i => rfl
end Go.Proofs.YtmkgbinmilcojaaGreat

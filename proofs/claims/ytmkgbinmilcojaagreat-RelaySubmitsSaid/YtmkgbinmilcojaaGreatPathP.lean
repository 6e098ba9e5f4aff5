/- Package tree, plain: the way from the first block to a block; the chain is the best one's way; where two ways part. -/
import Derived.Test.YtmkgbinmilcojaaGreatDepthAll
namespace Go.Proofs.YtmkgbinmilcojaaGreat
open Go.RowKit Go.Maps

def Tr.par (T : Tr) (a : Nat) : Option Nat := (T.ns[a]?).bind (fun p => p.ah)
def Tr.pth (T : Tr) : Nat → Nat → List Nat
  | 0, _ => []
  | f + 1, a => match T.par a with
    | none => [a]
    | some i => T.pth f i ++ [a]
/-- the way to a block. -/
def Tr.path (T : Tr) (a : Nat) : List Nat := T.pth (a + 1) a
theorem par_lt {T : Tr} (ok : TrOk T) {a i : Nat} (h : T.par a = some i) : i < a ∧ ∃ p q, T.ns[a]? = some p ∧ p.ah = some i ∧ T.ns[i]? = some q ∧ p.ht = q.ht + 1 := by
  unfold Tr.par at h
  cases hp : T.ns[a]? with
  | none => rw [hp] at h; cases h
  | some p =>
    rw [hp] at h
    obtain ⟨h1, q, h2, h3⟩ := ok.ah a p i hp h
    exact ⟨h1, p, q, rfl, h, h2, h3⟩
theorem pth_two {T : Tr} (ok : TrOk T) (a : Nat) : ∀ (f g : Nat), a < f → a < g → T.pth f a = T.pth g a := by
  induction a using Nat.strongRecOn with
  | _ a ih =>
    intro f g hf hg
    obtain ⟨f, rfl⟩ : ∃ f', f = f' + 1 := ⟨f - 1, by omega⟩
    obtain ⟨g, rfl⟩ : ∃ g', g = g' + 1 := ⟨g - 1, by omega⟩
    unfold Tr.pth
    cases hp : T.par a with
    | none => rfl
    | some i =>
      have hi := (par_lt ok hp).1
      simp only
      rw [ih i hi f g (by omega) (by omega)]
theorem path_none {T : Tr} {a : Nat} (h : T.par a = none) : T.path a = [a] := by unfold Tr.path Tr.pth; rw [h]
theorem path_some {T : Tr} (ok : TrOk T) {a i : Nat} (h : T.par a = some i) : T.path a = T.path i ++ [a] := by
  have hi := (par_lt ok h).1
  unfold Tr.path
  conv => lhs; unfold Tr.pth
  rw [h]
  simp only
  rw [pth_two ok i a (i + 1) hi (by omega)]
theorem path_len {T : Tr} (ok : TrOk T) (a : Nat) : ∀ (p : Pn), T.ns[a]? = some p → (T.path a).length = p.ht + 1 := by
  induction a using Nat.strongRecOn with
  | _ a ih =>
    intro p hp
    cases h : T.par a with
    | none =>
      rw [path_none h]
      have : p.ah = none := by unfold Tr.par at h; rw [hp] at h; exact h
      rw [ok.ah0 a p hp this]; rfl
    | some i =>
      obtain ⟨hi, p2, q, hp2, _, hq, hh⟩ := par_lt ok h
      rw [hp] at hp2; cases hp2
      rw [path_some ok h, List.length_append, ih i hi q hq, hh]; rfl
theorem path_last {T : Tr} (ok : TrOk T) (a : Nat) : (T.path a)[(T.path a).length - 1]? = some a := by
  cases h : T.par a with
  | none => rw [path_none h]; rfl
  | some i => rw [path_some ok h]; simp
/-- each block on a way stands at its height. -/
theorem path_ht {T : Tr} (ok : TrOk T) (a : Nat) : ∀ (p : Pn), T.ns[a]? = some p → ∀ (k b : Nat), (T.path a)[k]? = some b → ∃ q, T.ns[b]? = some q ∧ q.ht = k := by
  induction a using Nat.strongRecOn with
  | _ a ih =>
    intro p hp k b hk
    cases h : T.par a with
    | none =>
      rw [path_none h] at hk
      have h0 : p.ah = none := by unfold Tr.par at h; rw [hp] at h; exact h
      match k, hk with
      | 0, hk => simp at hk; subst hk; exact ⟨p, hp, ok.ah0 a p hp h0⟩
      | k + 1, hk => simp at hk
    | some i =>
      obtain ⟨hi, p2, q, hp2, _, hq, hh⟩ := par_lt ok h
      rw [hp] at hp2; cases hp2
      have hl := path_len ok i q hq
      rw [path_some ok h] at hk
      by_cases hlt : k < (T.path i).length
      · rw [List.getElem?_append_left hlt] at hk
        exact ih i hi q hq k b hk
      · rw [List.getElem?_append_right (by omega)] at hk
        have : k - (T.path i).length = 0 := by have := (List.getElem?_eq_some_iff.1 hk).1; simp at this; omega
        rw [this] at hk
        simp at hk; subst hk
        exact ⟨p, hp, by omega⟩
/-- what is ahead of a block on a way is its own way. -/
theorem path_pre {T : Tr} (ok : TrOk T) (a : Nat) : ∀ (p : Pn), T.ns[a]? = some p → ∀ (k b : Nat), (T.path a)[k]? = some b → (T.path a).take (k + 1) = T.path b := by
  induction a using Nat.strongRecOn with
  | _ a ih =>
    intro p hp k b hk
    cases h : T.par a with
    | none =>
      rw [path_none h] at hk ⊢
      match k, hk with
      | 0, hk => simp at hk; subst hk; rw [path_none h]; rfl
      | k + 1, hk => simp at hk
    | some i =>
      obtain ⟨hi, p2, q, hp2, _, hq, hh⟩ := par_lt ok h
      have hps := path_some ok h
      rw [hps] at hk ⊢
      by_cases hlt : k < (T.path i).length
      · rw [List.getElem?_append_left hlt] at hk
        rw [List.take_append_of_le_length (by omega)]
        exact ih i hi q hq k b hk
      · rw [List.getElem?_append_right (by omega)] at hk
        have h0 : k - (T.path i).length = 0 := by have := (List.getElem?_eq_some_iff.1 hk).1; simp at this; omega
        rw [h0] at hk
        simp at hk; subst hk
        rw [List.take_of_length_le (by simp; omega), hps]
theorem climb_path {T : Tr} (ok : TrOk T) {i : Nat} {bs : List Nat} {j : Nat} (h : Climb T i bs j) : T.path i = T.path j ++ bs.reverse := by
  induction h with
  | on _ _ => simp
  | @up i p a bs j h1 h2 h3 h4 ih =>
    have : T.par i = some a := by unfold Tr.par; rw [h1]; exact h3
    rw [path_some ok this, ih]; simp
/-- the best chain is the best block's way. -/
def Tr.Way (T : Tr) : Prop := T.ch = T.path T.last
theorem turn_way {T : Tr} (I : TrInv T) (W : T.Way) {n : Nat} {p : Pn} (hp : T.ns[n]? = some p) : (T.turnTo n).ch = T.path n ∧ (T.turnTo n).last = n := by
  have ok := I.ok
  have hc := climb_spec I (n + 1) n p (by omega) hp
  obtain ⟨q, hq, hqc⟩ := hc.end
  obtain ⟨pl, hpl, _⟩ := ok.best
  have e := Tr.htOf_eq hq
  have hch : (T.turnTo n).ch = T.path n := by
    show T.ch.take (T.htOf (T.climb (n + 1) n).2 + 1) ++ (T.climb (n + 1) n).1.reverse = _
    rw [climb_path ok hc, e]
    congr 1
    rw [W] at hqc ⊢
    exact path_pre ok T.last pl hpl q.ht _ hqc
  refine ⟨hch, ?_⟩
  show (T.turnTo n).ch.getD ((T.turnTo n).ch.length - 1) 0 = n
  rw [hch, List.getD_eq_getElem?_getD, path_last ok n]; rfl
theorem path_ns {T U : Tr} (h : T.ns = U.ns) (a : Nat) : T.path a = U.path a := by
  have : ∀ (f a : Nat), T.pth f a = U.pth f a := fun f => by
    induction f with
    | zero => intro a; rfl
    | succ f ih =>
      intro a
      unfold Tr.pth
      have : T.par a = U.par a := by unfold Tr.par; rw [h]
      rw [this]
      cases U.par a with
      | none => rfl
      | some j => simp only; rw [ih j]
  exact this _ _
theorem grow_par {T : Tr} {h : Hd} {i : Nat} {p : Pn} (hp : T.ns[i]? = some p) {a : Nat} (ha : a < T.ns.length) : (T.grow h i p).par a = T.par a := by
  obtain ⟨q, hq⟩ : ∃ q, T.ns[a]? = some q := ⟨_, List.getElem?_eq_getElem ha⟩
  obtain ⟨q1, h1, _, h3, _⟩ := grow_old (h := h) hp hq
  unfold Tr.par
  rw [h1, hq]; exact h3
theorem grow_path {T : Tr} (ok : TrOk T) {h : Hd} {i : Nat} {p : Pn} (hp : T.ns[i]? = some p) (ok2 : TrOk (T.grow h i p)) (a : Nat) : a < T.ns.length → (T.grow h i p).path a = T.path a := by
  induction a using Nat.strongRecOn with
  | _ a ih =>
    intro ha
    have e := grow_par (h := h) hp ha
    cases hpar : T.par a with
    | none => rw [path_none hpar, path_none (by rw [e]; exact hpar)]
    | some j =>
      have hj := (par_lt ok hpar).1
      rw [path_some ok hpar, path_some ok2 (by rw [e]; exact hpar), ih j hj (by omega)]
theorem new_way {r : Rl} : (newT r).Way := rfl
theorem add_same {T : Tr} {h : Hd} (he : (T.add h).1 ≠ 0) : (T.add h).2 = T := by
  unfold Tr.add at he ⊢
  split
  · rfl
  · rename_i hs
    rw [if_neg hs] at he
    cases hc : (T.find h.ah).bind (fun i => (T.ns[i]?).map (fun p => (i, p))) with
    | none => rfl
    | some a =>
      rw [hc] at he
      simp only at he ⊢
      unfold Tr.add1 at he ⊢
      split
      · rfl
      · rename_i h2; rw [if_neg h2] at he; exact absurd rfl he
theorem add_way {T : Tr} (I : TrInv T) (W : T.Way) {h : Hd} (hok : HdOk h) : (T.add h).2.Way := by
  by_cases e : (T.add h).1 = 0
  · obtain ⟨i, p, hn, hi, hp, hc, _, h2⟩ := add_ok e
    have hg := I.grow hok hp hn (chkE_len hc)
    obtain ⟨pl, hpl, _⟩ := I.ok.best
    have hll : T.last < T.ns.length := (List.getElem?_eq_some_iff.1 hpl).1
    have hgw : (T.grow h i p).Way := by
      show T.ch = _
      have : (T.grow h i p).last = T.last := rfl
      rw [this, grow_path I.ok hp hg.ok T.last hll]; exact W
    rw [h2]
    split
    · have hl : (T.grow h i p).ns[T.ns.length]? = some (newP h i p) := by simp [Tr.grow]
      obtain ⟨t1, t2⟩ := turn_way hg hgw hl
      unfold Tr.Way
      rw [t2, t1]
      exact path_ns (turnTo_ns (T.grow h i p) T.ns.length).symm _
    · exact hgw
  · rw [add_same e]; exact W
/-- where two ways part. -/
theorem fork_spec {T : Tr} (I : TrInv T) : ∀ (f a b : Nat) (p q : Pn), T.ns[a]? = some p → T.ns[b]? = some q → p.ht + q.ht < f →
    ∃ c r, T.fork f a b = c ∧ T.ns[c]? = some r ∧ r.ht ≤ p.ht ∧ r.ht ≤ q.ht ∧ (∀ k, k ≤ r.ht → (T.path a)[k]? = (T.path b)[k]?) ∧ ∀ (k x : Nat), r.ht < k → (T.path a)[k]? = some x → x ∉ T.path b
  | 0, a, b, p, q, _, _, h => by omega
  | f + 1, a, b, p, q, ha, hb, hf => by
    have ok := I.ok
    have la := path_len ok a p ha
    have lb := path_len ok b q hb
    unfold Tr.fork
    by_cases hab : a = b
    · rw [if_pos hab]
      subst hab
      rw [ha] at hb; cases hb
      exact ⟨a, p, rfl, ha, Nat.le_refl _, Nat.le_refl _, fun k _ => rfl, fun k x hk hx => by
        have := (List.getElem?_eq_some_iff.1 hx).1; omega⟩
    · rw [if_neg hab, Tr.htOf_eq ha, Tr.htOf_eq hb, ha, hb]
      by_cases hle : q.ht ≤ p.ht
      · obtain ⟨c, s, hc, hs, hh⟩ := I.up ha (I.step ha hb hab hle)
        rw [if_pos hle]
        simp only [Option.bind_some, hc, Option.getD_some]
        have hpar : T.par a = some c := by unfold Tr.par; rw [ha]; exact hc
        have hpa := path_some ok hpar
        have lc := path_len ok c s hs
        obtain ⟨d, r, hd, hr, h1, h2, h3, h4⟩ := fork_spec I f c b s q hs hb (by omega)
        refine ⟨d, r, hd, hr, by omega, h2, fun k hk => ?_, fun k x hk hx => ?_⟩
        · rw [hpa, List.getElem?_append_left (by omega)]; exact h3 k hk
        · by_cases hlt : k < (T.path c).length
          · rw [hpa, List.getElem?_append_left hlt] at hx; exact h4 k x hk hx
          · have hk2 : k = p.ht := by have := (List.getElem?_eq_some_iff.1 hx).1; omega
            have hxa : x = a := by
              rw [hpa, List.getElem?_append_right (by omega), show k - (T.path c).length = 0 by omega] at hx
              simpa using hx.symm
            subst hxa
            intro hm
            obtain ⟨m, hm⟩ := List.getElem?_of_mem hm
            obtain ⟨q2, hq2, hm2⟩ := path_ht ok b q hb m x hm
            rw [ha] at hq2; cases hq2
            have := (List.getElem?_eq_some_iff.1 hm).1
            have hl := path_last ok b
            rw [show (T.path b).length - 1 = m by omega, hm] at hl
            cases hl
            exact hab rfl
      · obtain ⟨c, s, hc, hs, hh⟩ := I.up hb (I.step hb ha (fun e => hab e.symm) (by omega))
        rw [if_neg hle]
        simp only [Option.bind_some, hc, Option.getD_some]
        have hpar : T.par b = some c := by unfold Tr.par; rw [hb]; exact hc
        have hpb := path_some ok hpar
        have lc := path_len ok c s hs
        obtain ⟨d, r, hd, hr, h1, h2, h3, h4⟩ := fork_spec I f a c p s ha hs (by omega)
        refine ⟨d, r, hd, hr, h1, by omega, fun k hk => ?_, fun k x hk hx => ?_⟩
        · rw [hpb, List.getElem?_append_left (by omega)]; exact h3 k hk
        · rw [hpb]
          intro hm
          rcases List.mem_append.1 hm with hm | hm
          · exact h4 k x hk hx hm
          · have : x = b := by simpa using hm
            subst this
            obtain ⟨q2, hq2, hm2⟩ := path_ht ok a p ha k x hx
            rw [hb] at hq2; cases hq2
            have := (List.getElem?_eq_some_iff.1 hx).1
            omega
end Go.Proofs.YtmkgbinmilcojaaGreat

/- DuePlays, the plain law of 'late': who is late, in order, is told by membership. -/
import Derived.Test.YtbagkfeodjkdmaaDueGrows
import Derived.Test.YtbagkfeodjkdmaaDueModel
namespace Go.Proofs.Ytbagkfeodjkdmaa
open Go.RowKit Go.Maps

theorem late_unique {T : Tab} {now : Int} {xs ys : List Int} (h1 : xs.Pairwise T.lt) (h2 : ys.Pairwise T.lt) (m1 : ∀ x, x ∈ xs ↔ ((Lit.int .u64 x).wf = true ∧ T.late x now = true)) (m2 : ∀ x, x ∈ ys ↔ ((Lit.int .u64 x).wf = true ∧ T.late x now = true)) : xs = ys := by
  have a := over_grows (Int.le_refl now) h1 h2 m1 m2
  have b := over_grows (Int.le_refl now) h2 h1 m2 m1
  have hl : xs.length = ys.length := Nat.le_antisymm a.1 b.1
  rw [← a.2, hl, List.take_length]

theorem TabM.late {T : Tab} {m : List Thing} (h : TabM T m) (k now : Int) : T.late k now = true ↔ ∃ t ∈ m, t.id = k ∧ t.due < now := by
  unfold Tab.late
  rw [h.f]
  constructor
  · intro e
    cases hf : lookT m k with
    | none => rw [hf] at e; cases e
    | some y =>
      rw [hf] at e
      obtain ⟨t, ht, hk, rfl⟩ := (lookT_eq h.asc).1 hf
      exact ⟨t, ht, hk, by simpa using e⟩
  · rintro ⟨t, ht, rfl, hd⟩
    rw [lookT_mem h.asc ht]
    simpa using hd
theorem TabM.dueOf {T : Tab} {m : List Thing} (h : TabM T m) {t : Thing} (ht : t ∈ m) : T.dueOf t.id = t.due := by
  unfold Tab.dueOf
  rw [h.f, lookT_mem h.asc ht]; rfl
/-- the walk of 'late': os are told, left are left. -/
structure LateInv (T : Tab) (m : List Thing) (now : Int) (os : List Int) (left : List Thing) : Prop where
  sub : left.Sublist m
  asc : os.Pairwise T.lt
  isl : ∀ x ∈ os, T.late x now = true
  all : ∀ t ∈ m, t.due < now → t.id ∈ os ∨ t ∈ left
  lt : ∀ x ∈ os, ∀ t ∈ left, t.due < now → T.lt x t.id
theorem LateInv.start (T : Tab) (m : List Thing) (now : Int) : LateInv T m now [] m :=
  ⟨List.Sublist.refl _, List.Pairwise.nil, (fun x h => by cases h), (fun t ht _ => Or.inr ht), (fun x h => by cases h)⟩
theorem LateInv.step {T : Tab} {m : List Thing} {now : Int} {os : List Int} {a b : List Thing} {t : Thing} (hm : TabM T m) (h : LateInv T m now os (a ++ t :: b)) (hd : t.due < now)
    (ha : ∀ u ∈ a, u.due < now → t.due < u.due) (hb : ∀ u ∈ b, u.due < now → t.due ≤ u.due) : LateInv T m now (os ++ [t.id]) (a ++ b) := by
  have hmem : ∀ u ∈ a ++ t :: b, u ∈ m := fun u hu => h.sub.subset hu
  have hasc := asc_mid (hm.asc.sublist h.sub)
  have hlt : ∀ u ∈ a ++ b, u.due < now → T.lt t.id u.id := fun u hu hu2 => by
    have e1 := hm.dueOf (hmem t (by simp))
    unfold Tab.lt
    rcases List.mem_append.1 hu with hu' | hu'
    · have e2 := hm.dueOf (hmem u (by simp [hu']))
      have := ha u hu' hu2
      exact .inl (by omega)
    · have e2 := hm.dueOf (hmem u (by simp [hu']))
      have := hb u hu' hu2
      have := hasc.2.1 u hu'
      by_cases e : t.due < u.due
      · exact .inl (by omega)
      · exact .inr ⟨by omega, by omega⟩
  refine ⟨(List.Sublist.append (List.Sublist.refl a) (List.sublist_cons_self t b)).trans h.sub, List.pairwise_append.2 ⟨h.asc, List.pairwise_singleton _ _, fun x hx y hy => ?_⟩, fun x hx => ?_, fun u hu hu2 => ?_, fun x hx u hu hu2 => ?_⟩
  · obtain rfl := List.mem_singleton.1 hy
    exact h.lt x hx t (by simp) hd
  · rcases List.mem_append.1 hx with hx | hx
    · exact h.isl x hx
    · obtain rfl := List.mem_singleton.1 hx
      exact (hm.late _ _).2 ⟨t, hmem t (by simp), rfl, hd⟩
  · rcases h.all u hu hu2 with h1 | h1
    · exact .inl (by simp [h1])
    · simp at h1
      rcases h1 with h1 | h1 | h1
      · exact .inr (by simp [h1])
      · subst h1; exact .inl (by simp)
      · exact .inr (by simp [h1])
  · rcases List.mem_append.1 hx with hx | hx
    · exact h.lt x hx u (by simp at hu ⊢; rcases hu with hu | hu <;> simp [hu]) hu2
    · obtain rfl := List.mem_singleton.1 hx
      exact hlt u hu hu2
/-- none left is late: all are told. -/
theorem LateInv.done {T : Tab} {m : List Thing} {now : Int} {os : List Int} {left : List Thing} (hm : TabM T m) (h : LateInv T m now os left) (hl : ∀ u ∈ left, ¬ u.due < now) (x : Int) :
    x ∈ os ↔ T.late x now = true := by
  refine ⟨h.isl x, fun hx => ?_⟩
  obtain ⟨t, ht, rfl, hd⟩ := (hm.late _ _).1 hx
  rcases h.all t ht hd with h1 | h1
  · exact h1
  · exact absurd hd (hl t h1)
end Go.Proofs.Ytbagkfeodjkdmaa

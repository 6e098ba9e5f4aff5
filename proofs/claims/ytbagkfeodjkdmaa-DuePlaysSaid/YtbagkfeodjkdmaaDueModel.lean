/- DuePlays, the plain law: a table, and the model that the law keeps: things by rising number. -/
import Derived.Test.YtbagkfeodjkdmaaDueAll
namespace Go.Proofs.Ytbagkfeodjkdmaa
open Go.RowKit Go.Maps

structure Thing where
  id : Int
  due : Int
  x : ByteArray
def lookT (m : List Thing) (k : Int) : Option (ByteArray × Int) := (m.find? (fun t => t.id == k)).map fun t => (t.x, t.due)
/-- the table has what the model has. -/
structure TabM (T : Tab) (m : List Thing) : Prop where
  f : ∀ k, T.f k = lookT m k
  cnt : T.cnt = m.length
  asc : m.Pairwise (fun a b => a.id < b.id)
  rng : ∀ t ∈ m, 1 ≤ t.id ∧ t.id ≤ T.last

theorem lookT_none {m : List Thing} {k : Int} : lookT m k = none ↔ ∀ t ∈ m, t.id ≠ k := by
  unfold lookT
  simp [List.find?_eq_none]
theorem lookT_mem {m : List Thing} (h : m.Pairwise (fun a b => a.id < b.id)) {t : Thing} (ht : t ∈ m) : lookT m t.id = some (t.x, t.due) := by
  induction m with
  | nil => cases ht
  | cons a m ih =>
    obtain ⟨h1, h2⟩ := List.pairwise_cons.1 h
    rcases List.mem_cons.1 ht with rfl | ht'
    · simp [lookT]
    · have hne : ¬ a.id = t.id := by have := h1 t ht'; omega
      have := ih h2 ht'
      simpa [lookT, List.find?_cons, hne] using this
theorem lookT_append {m : List Thing} {t : Thing} {k : Int} (h : ∀ u ∈ m, u.id < t.id) : lookT (m ++ [t]) k = if k = t.id then some (t.x, t.due) else lookT m k := by
  unfold lookT
  rw [List.find?_append]
  by_cases e : k = t.id
  · subst e
    have : m.find? (fun u => u.id == t.id) = none := by simp [List.find?_eq_none]; intro u hu; have := h u hu; omega
    simp [this]
  · rw [if_neg e]
    have hne : ¬ t.id = k := fun h => e h.symm
    simp [hne]
theorem TabM.new (most : Int) : TabM (Tab.new most) [] := ⟨fun k => rfl, rfl, List.Pairwise.nil, fun t h => by cases h⟩
theorem TabM.add {T : Tab} {m : List Thing} (h : TabM T m) {x : ByteArray} {due : Int} (h0 : 0 ≤ T.last) (h1 : ¬ 1099511627776 < due) (h2 : ¬ T.most ≤ T.cnt) : TabM (T.add x due).2.2 (m ++ [⟨T.last + 1, due, x⟩]) := by
  have hlt : ∀ u ∈ m, u.id < T.last + 1 := fun u hu => by have := h.rng u hu; omega
  unfold Tab.add
  rw [if_neg h1, if_neg h2]
  refine ⟨fun k => ?_, by simp [h.cnt], ?_, fun t ht => ?_⟩
  · rw [lookT_append (t := ⟨T.last + 1, due, x⟩) hlt]
    simp only [h.f]
  · refine List.pairwise_append.2 ⟨h.asc, List.pairwise_singleton _ _, fun a ha b hb => ?_⟩
    obtain rfl := List.mem_singleton.1 hb
    exact hlt a ha
  · rcases List.mem_append.1 ht with ht | ht
    · have := h.rng t ht; simp only; omega
    · obtain rfl := List.mem_singleton.1 ht; simp only; omega

theorem lookT_eq {m : List Thing} (h : m.Pairwise (fun a b => a.id < b.id)) {k : Int} {y : ByteArray × Int} : lookT m k = some y ↔ ∃ t ∈ m, t.id = k ∧ (t.x, t.due) = y := by
  constructor
  · intro e
    unfold lookT at e
    obtain ⟨t, ht, rfl⟩ := Option.map_eq_some_iff.1 e
    exact ⟨t, List.mem_of_find?_eq_some ht, by simpa using List.find?_some ht, rfl⟩
  · rintro ⟨t, ht, rfl, rfl⟩
    exact lookT_mem h ht
theorem opt_ext {α : Type} {a b : Option α} (h : ∀ y, a = some y ↔ b = some y) : a = b := by
  cases a with
  | none => cases b with
    | none => rfl
    | some y => exact absurd ((h y).2 rfl) (by simp)
  | some x => exact ((h x).1 rfl).symm
theorem asc_mid {a b : List Thing} {t : Thing} (h : (a ++ t :: b).Pairwise (fun a b => a.id < b.id)) : (∀ u ∈ a, u.id < t.id) ∧ (∀ u ∈ b, t.id < u.id) ∧ (a ++ b).Pairwise (fun a b => a.id < b.id) := by
  obtain ⟨h1, h2, h3⟩ := List.pairwise_append.1 h
  obtain ⟨h4, h5⟩ := List.pairwise_cons.1 h2
  exact ⟨fun u hu => h3 u hu t (by simp), h4, List.pairwise_append.2 ⟨h1, h5, fun u hu v hv => h3 u hu v (by simp [hv])⟩⟩
theorem TabM.some {T : Tab} {a b : List Thing} {t : Thing} (h : TabM T (a ++ t :: b)) : T.f t.id = some (t.x, t.due) := by rw [h.f, lookT_mem h.asc (by simp)]
theorem TabM.drop {T : Tab} {a b : List Thing} {t : Thing} (h : TabM T (a ++ t :: b)) : TabM (T.drop t.id).2 (a ++ b) := by
  obtain ⟨h1, h2, h3⟩ := asc_mid h.asc
  unfold Tab.drop
  rw [if_pos (by rw [h.some]; rfl)]
  refine ⟨fun k => ?_, by simp [h.cnt], h3, fun u hu => h.rng u (by simp at hu ⊢; rcases hu with hu | hu <;> simp [hu])⟩
  simp only
  by_cases e : k = t.id
  · rw [if_pos e, eq_comm, lookT_none]
    intro u hu hk
    rcases List.mem_append.1 hu with hu | hu
    · have := h1 u hu; omega
    · have := h2 u hu; omega
  · rw [if_neg e, h.f]
    refine opt_ext fun y => ?_
    rw [lookT_eq h.asc, lookT_eq h3]
    constructor
    · rintro ⟨u, hu, rfl, rfl⟩
      refine ⟨u, ?_, rfl, rfl⟩
      simp at hu ⊢
      rcases hu with hu | hu | hu
      · exact .inl hu
      · subst hu; exact absurd rfl e
      · exact .inr hu
    · rintro ⟨u, hu, rfl, rfl⟩
      exact ⟨u, by simp at hu ⊢; rcases hu with hu | hu <;> simp [hu], rfl, rfl⟩
theorem TabM.set {T : Tab} {a b : List Thing} {t : Thing} {z : ByteArray} (h : TabM T (a ++ t :: b)) : TabM (T.set t.id z).2 (a ++ ⟨t.id, t.due, z⟩ :: b) := by
  obtain ⟨h1, h2, h3⟩ := asc_mid h.asc
  have hd : T.dueOf t.id = t.due := by simp [Tab.dueOf, h.some]
  have hasc : (a ++ (⟨t.id, t.due, z⟩ : Thing) :: b).Pairwise (fun a b => a.id < b.id) := by
    obtain ⟨g1, g2, g3⟩ := List.pairwise_append.1 h3
    exact List.pairwise_append.2 ⟨g1, List.pairwise_cons.2 ⟨h2, g2⟩, fun u hu v hv => by
      rcases List.mem_cons.1 hv with rfl | hv
      · exact h1 u hu
      · exact g3 u hu v hv⟩
  unfold Tab.set
  rw [if_pos (by rw [h.some]; rfl)]
  refine ⟨fun k => ?_, by simp [h.cnt], hasc, fun u hu => ?_⟩
  · simp only
    by_cases e : k = t.id
    · subst e
      rw [if_pos rfl, hd, eq_comm]
      exact lookT_mem hasc (t := ⟨t.id, t.due, z⟩) (by simp)
    · rw [if_neg e, h.f]
      refine opt_ext fun y => ?_
      rw [lookT_eq h.asc, lookT_eq hasc]
      constructor
      · rintro ⟨u, hu, rfl, rfl⟩
        refine ⟨u, ?_, rfl, rfl⟩
        simp at hu ⊢
        rcases hu with hu | hu | hu
        · exact .inl hu
        · subst hu; exact absurd rfl e
        · exact .inr (.inr hu)
      · rintro ⟨u, hu, rfl, rfl⟩
        refine ⟨u, ?_, rfl, rfl⟩
        simp at hu ⊢
        rcases hu with hu | hu | hu
        · exact .inl hu
        · subst hu; exact absurd rfl e
        · exact .inr (.inr hu)
  · simp at hu
    rcases hu with hu | rfl | hu
    · exact h.rng u (by simp [hu])
    · exact h.rng t (by simp)
    · exact h.rng u (by simp [hu])
end Go.Proofs.Ytbagkfeodjkdmaa

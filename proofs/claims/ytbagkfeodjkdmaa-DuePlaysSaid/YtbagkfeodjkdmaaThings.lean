/- DuePlays: the slice of things (Th); pontagelaw18.is. -/
import Derived.Test.YtbagkfeodjkdmaaDueModel
import Derived.Test.YtbagkfeodjkdmaaAll18
import Derived.Test.YtbagkfeodjkdmaaDueNone
namespace Go.Proofs.Ytbagkfeodjkdmaa
open Go.RowKit Go.Maps Go.Shelf Go.Deep

theorem TabM.keysOf {T : Tab} {m : List Thing} (h : TabM T m) (ok : TabOk T) : KeysOf (fun k => (T.f k).map encD) (m.map (fun t => t.id)) := by
  refine ⟨List.pairwise_map.2 h.asc, fun x => ?_⟩
  simp only [Option.isSome_map, h.f]
  constructor
  · intro hx
    obtain ⟨t, ht, rfl⟩ := List.mem_map.1 hx
    have h1 := h.rng t ht
    have h2 := ok.l1
    exact ⟨wf_u64.2 (by omega), by rw [lookT_mem h.asc ht]; rfl⟩
  · rintro ⟨_, hs⟩
    obtain ⟨y, hy⟩ := Option.isSome_iff_exists.1 hs
    obtain ⟨t, ht, e, _⟩ := (lookT_eq h.asc).1 hy
    exact List.mem_map.2 ⟨t, ht, e⟩
theorem TabM.xs {T : Tab} {m : List Thing} (h : TabM T m) : xsOf T (m.map (fun t => t.id)) = m.map (fun t => (t.id, t.x)) := by
  unfold xsOf
  rw [List.map_map]
  refine List.map_congr_left fun t ht => ?_
  simp [Tab.xOf, h.f, lookT_mem h.asc ht]
theorem TabM.xOf {T : Tab} {m : List Thing} (h : TabM T m) {t : Thing} (ht : t ∈ m) : T.xOf t.id = t.x := by simp [Tab.xOf, h.f, lookT_mem h.asc ht]
theorem TabM.due_ {T : Tab} {m : List Thing} (h : TabM T m) {t : Thing} (ht : t ∈ m) : T.dueOf t.id = t.due := by simp [Tab.dueOf, h.f, lookT_mem h.asc ht]
theorem TabM.there {T : Tab} {m : List Thing} (h : TabM T m) {t : Thing} (ht : t ∈ m) : (T.f t.id).isSome = true := by simp [h.f, lookT_mem h.asc ht]
theorem TabM.wf {T : Tab} {m : List Thing} (h : TabM T m) (ok : TabOk T) {t : Thing} (ht : t ∈ m) : (Lit.int .u64 t.id).wf = true := by
  have h1 := h.rng t ht
  have h2 := ok.l1
  exact wf_u64.2 (by omega)

def cellsT (t : Thing) : List Value := [.int .u64 t.id, .int .u64 t.due, .string t.x]
def flatT (m : List Thing) : List Value := m.flatMap cellsT
theorem flatT_len (m : List Thing) : (flatT m).length = m.length * 3 := by
  unfold flatT
  induction m with
  | nil => rfl
  | cons t m ih => simp [List.flatMap_cons, cellsT] at ih ⊢; omega
theorem flatT_get : ∀ (m : List Thing) (i : Nat) (h : i < m.length), (flatT m)[i * 3]? = some (.int .u64 m[i].id) ∧ (flatT m)[i * 3 + 1]? = some (.int .u64 m[i].due) ∧ (flatT m)[i * 3 + 2]? = some (.string m[i].x)
  | [], i, h => by cases h
  | x :: l, 0, h => by simp [flatT, cellsT]
  | x :: l, i + 1, h => by
    have := flatT_get l i (by simpa using h)
    have e1 : (i + 1) * 3 = i * 3 + 1 + 1 + 1 := by omega
    have e2 : (i + 1) * 3 + 1 = i * 3 + 1 + 1 + 1 + 1 := by omega
    have e3 : (i + 1) * 3 + 2 = i * 3 + 2 + 1 + 1 + 1 := by omega
    rw [e3, e1]
    simpa [flatT, cellsT] using this
/-- the slice value v owns the things m. -/
def Th (n₀ : Nat) (W : World) (v : Value) (m : List Thing) : Prop := W.ownsRow n₀ 111 3 v m.length (flatT m)
theorem Th.len {n₀ : Nat} {W : World} {v : Value} {m : List Thing} (h : Th n₀ W v m) : ∃ a cap, v = .slice a m.length cap := by
  rcases h.2 with ⟨rfl, h0⟩ | ⟨g, cap, cur, rfl, _⟩
  · exact ⟨none, 0, by rw [h0]⟩
  · exact ⟨_, cap, rfl⟩
theorem Th.cell {n₀ : Nat} {W : World} {a : Option Addr} {n cap : Nat} {m : List Thing} (h : Th n₀ W (.slice a n cap) m) {i : Nat} (hi : i < m.length) :
    ∃ b, a = some ⟨b, 0, none⟩ ∧ W.cell? ⟨b, i * 3, none⟩ = some (.int .u64 m[i].id) ∧ W.cell? ⟨b, i * 3 + 1, none⟩ = some (.int .u64 m[i].due) ∧ W.cell? ⟨b, i * 3 + 2, none⟩ = some (.string m[i].x) := by
  have hc := fun g hg => World.ownsRow.cells h (g := g) hg
  rcases h.2 with ⟨e, h0⟩ | ⟨g, cap, cur, e, _⟩
  · omega
  · cases e
    obtain ⟨h1, h2, h3⟩ := flatT_get m i hi
    refine ⟨g, rfl, ?_, ?_, ?_⟩
    · have := hc g rfl _ _ h1; simp only [Addr.add] at this; by_cases e : i * 3 = 0 <;> simp_all
    · have := hc g rfl _ _ h2; simp only [Addr.add] at this; by_cases e : i * 3 = 0 <;> simp_all
    · have := hc g rfl _ _ h3; simp only [Addr.add] at this; by_cases e : i * 3 = 0 <;> simp_all
theorem Th.chg {n₀ : Nat} {w W : World} {S : List Nat} {v : Value} {m : List Thing} (h : Th n₀ w v m) (c : Chg S w W) (hS : ∀ b ∈ S, v.ownBlock ≠ some b) : Th n₀ W v m := by
  refine ⟨h.1, ?_⟩
  rcases h.2 with h0 | ⟨g, cap, cur, rfl, hb, hg, r⟩
  · exact .inl h0
  · exact .inr ⟨g, cap, cur, rfl, hb, (c.block g (Array.getElem?_eq_some_iff.1 hg).1 (fun e => hS g e rfl)).trans hg, r⟩

/-- all(t.All()) -/
theorem law18_all_tab (b p mb : Nat) (T : Tab) (m : List Thing) (hm : TabM T m) (ok : TabOk T) (w : World) (hb : Blk w b #[.pointer (some ⟨p, 0, none⟩)] 25) (h : TabAt w p mb T) :
    Calls Try.prog 68 #[.func (.func 117) #[] #[.pointer (some ⟨b, 0, none⟩)]] w fun e w' => ∃ u v, e = .returned (.tuple #[u, v]) ∧ SlV w' u (m.map (fun t => .int .u64 t.id)) ∧ SlV w' v (m.map (fun t => .string t.x)) ∧ Chg [] w w' := by
  have hcm := ok.cm; have hm1 := ok.m1; have hcnt := hm.cnt
  have hc : Chg [] w ((w.alloc (.cells #[.slice none 0 0] 22)).alloc (.cells #[.slice none 0 0] 122)) := ((Chg.refl _ _).alloc _).alloc _
  have x1 := (Boxed.new w 22 (.slice none 0 0)).alloc (.cells #[.slice none 0 0] 122)
  have x2 := Boxed.new (w.alloc (.cells #[.slice none 0 0] 22)) 122 (.slice none 0 0)
  have hsz : (w.alloc (.cells #[.slice none 0 0] 22)).heap.size = w.heap.size + 1 := by simp
  rw [hsz] at x2
  have ht : ∀ k, Tch [] [w.heap.size, w.heap.size + 1] ((w.alloc (.cells #[.slice none 0 0] 22)).alloc (.cells #[.slice none 0 0] 122)) k → k = w.heap.size ∨ k = w.heap.size + 1 := by
    rintro k (h | h | ⟨B, hB, o, n, c, h⟩)
    · cases h
    · simpa using h
    · simp at hB
      rcases hB with rfl | rfl
      · rw [x1.cell] at h; cases h
      · rw [x2.cell] at h; cases h
  have it : ItPre [] [w.heap.size, w.heap.size + 1] ((w.alloc (.cells #[.slice none 0 0] 22)).alloc (.cells #[.slice none 0 0] 122)) :=
    ⟨by simp; omega, fun k hk => by have := ht k hk; simp; omega⟩
  have l1 := hb.lt
  have l2 := h.blk.lt
  have l3 := h.map.lt
  refine (law18_all 117 _ (enters_of Try.func117 (by kernel_rfl) rfl) _ _ (m.map (fun t => t.id)).length (by simp; omega) w
    (due_All1 2 (by omega) [] [w.heap.size, w.heap.size + 1] b p mb T _ (hm.keysOf ok) (by omega) (by simp; omega) _ (hb.chg hc (by simp)) (h.same hc) it (fun h => by have := ht _ h; omega) (fun h => by have := ht _ h; omega) (fun h => by have := ht _ h; omega))).mono ?_
  rintro e w' ⟨u, v, xs, he, hxs, h1, h2, _, _, hc⟩
  rw [hxs, hm.xs, List.map_map] at h1 h2
  exact ⟨u, v, he, h1, h2, hc⟩

set_option maxRecDepth 100000 in
set_option maxHeartbeats 4000000 in
theorem law18_is (n₀ p mb : Nat) (T : Tab) (m : List Thing) (v : Value) (w : World) (h : TabAt w p mb T) (ok : TabOk T) (hm : TabM T m) (hs : Th n₀ w v m) :
    Calls Try.prog 66 #[.pointer (some ⟨p, 0, none⟩), v] w fun e w' => e = .returned (.bool true) ∧ Chg [] w w' := by
  obtain ⟨a, cap, rfl⟩ := hs.len
  go_enter Try.func66, Try.ntmps66
  go_wp2_with fail
  refine (due_All (some ⟨p, 0, none⟩) w).mono ?_
  rintro e w1 ⟨rfl, hw1⟩
  have k1 : Chg [] w w1 := by rw [hw1]; exact (Chg.refl _ _).alloc _
  have hb := Blk.new w #[.pointer (some ⟨p, 0, none⟩)] 25
  rw [← hw1] at hb
  clear hw1
  go_wp2_with fail
  refine (law18_all_tab w.heap.size p mb T m hm ok w1 hb (h.same k1)).mono ?_
  rintro e w2 ⟨u, y, rfl, hu, hy, k2⟩
  obtain ⟨ua, ucap, rfl⟩ := hu.len
  obtain ⟨ya, ycap, rfl⟩ := hy.len
  have K := k1.trans k2 (by simp)
  have hcnt := hm.cnt
  have hlen : m.length ≤ 256 := by have := ok.cm; have := ok.m1; omega
  clear k1 k2 hb
  simp only [List.length_map]
  go_wp2_with fail
  refine (due_Len p mb T w2 (h.same K)).mono ?_
  rintro e w3 ⟨rfl, k3⟩
  rw [hcnt]
  go_wp2
  go_loopw [32] (fun i wr => ∃ k : Nat, k ≤ m.length ∧ i = .int .i64 k ∧ Chg [] w2 wr) (fun i _ => m.length - (intOf i).toNat)
  case atStart => exact ⟨0, Nat.zero_le _, rfl, k3⟩
  case round =>
    obtain ⟨k, hk, rfl, hc⟩ := hrel
    by_cases hlt : k < m.length
    · obtain ⟨g, rfl, q0, q1, q2⟩ := (hs.chg (K.trans hc (by simp)) (by simp)).cell hlt
      have ht := List.getElem_mem hlt
      obtain ⟨gi, ei, r1⟩ := (hu.chg hc (by simp)).cell (i := k) (by simpa using hlt)
      obtain ⟨gx, ex, r2⟩ := (hy.chg hc (by simp)).cell (i := k) (by simpa using hlt)
      simp only [List.getElem_map] at r1 r2
      generalize m[k] = t at q0 q1 q2 r1 r2 ht
      subst ei ex
      have hq : Chg [] wr (wr.alloc (.cells #[.int .u64 t.id, .int .u64 t.due, .string t.x] 111)) := (Chg.refl [] wr).alloc _
      have hbt := Blk.new wr #[.int .u64 t.id, .int .u64 t.due, .string t.x] 111
      have hget := due_Get p mb T t.id _ (h.same ((K.trans hc (by simp)).trans hq (by simp))) (hm.wf ok ht)
      rw [hm.xOf ht, hm.due_ ht, hm.there ht] at hget
      go_wp2_with (go_at_call 65; refine hget.mono ?_; rintro e w5 ⟨rfl, hc5⟩)
      have hb5 := hbt.chg hc5 (by simp)
      have z0 := hb5.cell 0 (v := .int .u64 t.id) rfl
      have z1 := hb5.cell 1 (v := .int .u64 t.due) rfl
      have z2 := hb5.cell 2 (v := .string t.x) rfl
      have hcw := hc.trans (hq.trans hc5 (by simp)) (by simp)
      have y1 : w5.cell? ⟨gi, k, none⟩ = some (.int .u64 t.id) := by rw [← r1]; exact World.cell?_of_block (w := wr) ((hq.trans hc5 (by simp)).block gi (cell_lt r1) (by simp))
      have y2 : w5.cell? ⟨gx, k, none⟩ = some (.string t.x) := by rw [← r2]; exact World.cell?_of_block (w := wr) ((hq.trans hc5 (by simp)).block gx (cell_lt r2) (by simp))
      clear hget hbt hb5 hq hc5 r1 r2 q0 q1 q2 hc
      go_quiet (fail)
      go_wp2
      go_roundw
      case rel => exact ⟨k + 1, by omega, by simp, hcw.drewN _⟩
      case measure => simp [intOf]; omega
    · obtain rfl : k = m.length := by omega
      go_wp2
      go_ret
      exact ⟨rfl, K.trans hc (by simp)⟩
end Go.Proofs.Ytbagkfeodjkdmaa

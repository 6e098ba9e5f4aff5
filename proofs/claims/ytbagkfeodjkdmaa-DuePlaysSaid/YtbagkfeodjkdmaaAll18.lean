/- pontagelaw18.all: what a table's iterator tells, collected into two slices. -/
import Derived.Test.YtbagkfeodjkdmaaTwo
import Derived.Test.YtbagkfeodjkdmaaInv
import Derived.Test.YtbagkfeodjkdmaaDue
namespace Go.Proofs.Ytbagkfeodjkdmaa
open Go.RowKit Go.Maps Go.Shelf
attribute [local go_sem] Oper.semAt_some

theorem infoAU : (Try.prog.info? 23).map (fun i => (i.zero, i.size, i.bytes)) = some (some (.int .u64 0), 1, 8) := by kernel_rfl
theorem infoAS : (Try.prog.info? 9).map (fun i => (i.zero, i.size, i.bytes)) = some (some (.string ⟨#[]⟩), 1, 16) := by kernel_rfl

/-- the region's state: what of it has come up, the frame, the world. -/
def Inv18 (g : Value) (n₀ B1 B2 : Nat) (W0 : World) (v1 v2 : Value) (n : Nat) (ys1 ys2 : List Value) (x : Int) (s : ByteArray) (l : Array Bool) (a : Act) (W : World) : Prop :=
  ∃ (l0 l1 l2 l3 l4 l5 l6 l7 l8 l9 : Bool) (s11 s12 s13 s14 s15 s16 s17 s18 u1 u2 : Value) (m1 m2 : Nat) (xs1 xs2 : List Value) (X : World),
    l = #[l0, l1, l2, l3, l4, l5, l6, l7, l8, l9] ∧
    a = { tmps := #[g, undef, .slice none 0 0, .slice none 0 0, .pointer (some ⟨B1, 0, none⟩), .pointer (some ⟨B2, 0, none⟩), .int .u64 x, .string s, g, .int .u64 x, .string s, s11, s12, s13, s14, s15, s16, s17, s18, undef, undef], defers := [] } ∧
    TwoR 22 23 122 9 n₀ B1 B2 W0 v1 v2 u1 m1 xs1 u2 m2 xs2 X ∧
    (l8 = false → W = X) ∧ (l8 = true → l9 = false → W = X.setCell ⟨B1, 0, none⟩ u1) ∧ (l9 = true → W = (X.setCell ⟨B1, 0, none⟩ u1).setCell ⟨B2, 0, none⟩ u2) ∧
    (l0 = true → s11 = v1) ∧ (l1 = true → s12 = .int .u64 x) ∧ (l2 = true → ∃ b, s13 = .slice (some ⟨b, 0, none⟩) 1 1 ∧ (l3 = false → Blk X b #[.int .u64 x] 23)) ∧
    (l3 = false → u1 = v1 ∧ m1 = n ∧ xs1 = ys1) ∧ (l3 = true → s14 = u1 ∧ m1 = n + 1 ∧ xs1 = ys1 ++ [.int .u64 x]) ∧
    (l4 = true → s15 = v2) ∧ (l5 = true → s16 = .string s) ∧ (l6 = true → ∃ b, s17 = .slice (some ⟨b, 0, none⟩) 1 1 ∧ (l7 = false → Blk X b #[.string s] 9)) ∧
    (l7 = false → u2 = v2 ∧ m2 = n ∧ xs2 = ys2) ∧ (l7 = true → s18 = u2 ∧ m2 = n + 1 ∧ xs2 = ys2 ++ [.string s]) ∧
    (l2 = true → l1 = true) ∧ (l3 = true → l0 = true ∧ l2 = true) ∧ (l6 = true → l5 = true) ∧ (l7 = true → l4 = true ∧ l6 = true ∧ l3 = true) ∧ (l8 = true → l7 = true) ∧ (l9 = true → l8 = true)

theorem b_not {p : Bool} (h : p = true → False) : p = false := by
  cases p with
  | false => rfl
  | true => exact (h rfl).elim

/-- the slice value v holds the values vs, a cell each. -/
def SlV (W : World) (v : Value) (vs : List Value) : Prop :=
  (v = .slice none 0 0 ∧ vs = []) ∨ ∃ b cap c t, v = .slice (some ⟨b, 0, none⟩) vs.length cap ∧ Blk W b c t ∧ ∀ i (h : i < vs.length), c[i]? = some vs[i]
theorem SlV.of_own {W : World} {n₀ : Nat} {T : TypeId} {v : Value} {n : Nat} {vs : List Value} (hrow : W.ownsRow n₀ T 1 v n vs) : SlV W v vs ∧ ∀ k, inBlk v k → n₀ ≤ k := by
  have hl : vs.length = n := by have := hrow.1; omega
  refine ⟨?_, ?_⟩
  · rcases hrow.2 with ⟨rfl, h0⟩ | ⟨g, cap, cur, rfl, hg, hb, h1, h2, h3, h4⟩
    · exact .inl ⟨rfl, List.eq_nil_of_length_eq_zero (by omega)⟩
    · refine .inr ⟨g, cap, cur, _, by rw [hl], hb, fun i hi => ?_⟩
      rw [← List.getElem?_eq_getElem hi]
      conv => rhs; rw [← h4]
      rw [List.getElem?_take_of_lt (by omega), Array.getElem?_toList]
  · rintro k ⟨o, n, c, rfl⟩
    rcases hrow.2 with ⟨e, _⟩ | ⟨g, cap, cur, e, hg, _⟩
    · cases e
    · cases e; exact hg
theorem SlV.chg {w W : World} {S : List Nat} {v : Value} {l : List Value} (h : SlV w v l) (c : Chg S w W) (hS : ∀ b ∈ S, ¬ inBlk v b) : SlV W v l := by
  rcases h with h | ⟨b, cap, cs, t, rfl, hb, hc⟩
  · exact .inl h
  · exact .inr ⟨b, cap, cs, t, rfl, hb.chg c (fun e => hS b e ⟨0, _, cap, rfl⟩), hc⟩
theorem SlV.len {W : World} {v : Value} {l : List Value} (h : SlV W v l) : ∃ a cap, v = .slice a l.length cap := by
  rcases h with ⟨rfl, rfl⟩ | ⟨b, cap, cs, t, rfl, hb, hc⟩
  · exact ⟨none, 0, rfl⟩
  · exact ⟨_, cap, rfl⟩
theorem SlV.cell {W : World} {a : Option Addr} {n cap : Nat} {l : List Value} (h : SlV W (.slice a n cap) l) {i : Nat} (hi : i < l.length) : ∃ b, a = some ⟨b, 0, none⟩ ∧ W.cell? ⟨b, i, none⟩ = some l[i] := by
  rcases h with ⟨_, rfl⟩ | ⟨b, cap, cs, t, e, hb, hc⟩
  · cases hi
  · cases e
    exact ⟨b, rfl, hb.cell _ (hc i hi)⟩

set_option maxRecDepth 100000 in
set_option maxHeartbeats 4000000 in
theorem law18_all (gf : Nat) (lb : Array Value) (eg : ∀ args w, (callFunc gf args).run Try.prog w = .ok (.enter gf args) w) (S Sp : List (Int × ByteArray) → Prop) (N : Nat) (hN : N ≤ 1000000) (w : World)
    (hseq : SeqStopsK Fence.wide 2 Try.prog gf lb (fun x : Int × ByteArray => #[.int .u64 x.1, .string x.2]) (Kp [] [w.heap.size, w.heap.size + 1]) S Sp N ((w.alloc (.cells #[.slice none 0 0] 22)).alloc (.cells #[.slice none 0 0] 122))) :
    Calls Try.prog 68 #[.func (.func gf) #[] lb] w fun e w' => ∃ u v xs, e = .returned (.tuple #[u, v]) ∧ S xs ∧ SlV w' u (xs.map (fun x => .int .u64 x.1)) ∧ SlV w' v (xs.map (fun x => .string x.2)) ∧ (∀ k, inBlk u k → w.heap.size ≤ k) ∧ (∀ k, inBlk v k → w.heap.size ≤ k) ∧ Chg [] w w' := by
  obtain ⟨i1, hi1, hz10, hz11, hz12⟩ := info_parts infoAU
  obtain ⟨i2, hi2, hz20, hz21, hz22⟩ := info_parts infoAS
  refine (callsIn_wide (n := 3)).1 ?_
  refine callsIn_of_wp_marks Try.func68 rfl trivial ?_ rfl
  simp only [Try.ntmps68, List.size_toArray, List.length_cons, List.length_nil, Nat.reduceAdd, Nat.reduceSub, Array.replicate_succ, Array.replicate_zero, List.push_toArray, List.append_toArray, List.nil_append, List.cons_append]
  gi_wp2
  have hx1 := (Boxed.new w 22 (.slice none 0 0)).alloc (.cells #[.slice none 0 0] 122)
  have hx2 := Boxed.new (w.alloc (.cells #[.slice none 0 0] 22)) 122 (.slice none 0 0)
  have hsz : (w.alloc (.cells #[.slice none 0 0] 22)).heap.size = w.heap.size + 1 := by simp
  rw [hsz] at hx2
  refine wpIn_rangeFunc_ownF rfl (by omega) (gf := gf) (lb := lb) rfl trivial eg hseq Kp.trans' (kp_b (by simp; omega)) (Below.refl _ _) (fun _ => rfl)
    (fun pre W => ((∃ v, Boxed W w.heap.size 22 v ∧ W.ownsRow w.heap.size 23 1 v pre.length (pre.map (fun x => .int .u64 x.1)) ∧ True) ∧ (∃ v, Boxed W (w.heap.size + 1) 122 v ∧ W.ownsRow w.heap.size 9 1 v pre.length (pre.map (fun x => .string x.2)) ∧ True)) ∧ Below w.heap.size w W)
    (fun _ _ _ => False) ?hI ?hIx ?h0 (fun x => { tmps := #[.func (.func gf) #[] lb, undef, .slice none 0 0, .slice none 0 0, .pointer (some ⟨w.heap.size, 0, none⟩), .pointer (some ⟨w.heap.size + 1, 0, none⟩), .int .u64 x.1, .string x.2, .func (.func gf) #[] lb, .int .u64 x.1, .string x.2, undef, undef, undef, undef, undef, undef, undef, undef, undef, undef], defers := [] }) ?assign ?body ?done ?stop
  case hI =>
    exact OwnFrom.and (OwnFrom.and (Own.from (holdsRow_own w.heap.size w.heap.size 22 23 1 (fun pre : List (Int × ByteArray) => pre.length) (fun pre => pre.map (fun x => .int .u64 x.1)) (fun _ _ => True)) _) (Own.from (holdsRow_own w.heap.size (w.heap.size + 1) 122 9 1 (fun pre : List (Int × ByteArray) => pre.length) (fun pre => pre.map (fun x => .string x.2)) (fun _ _ => True)) _)) (ownFrom_below (Nat.le_refl _) (by simp; omega))
  case hIx => exact fun _ _ _ _ _ hs _ _ => hs
  case h0 => exact ⟨⟨⟨_, hx1, by simpa using World.ownsRow_nil _ _ _ _, trivial⟩, ⟨_, hx2, by simpa using World.ownsRow_nil _ _ _ _, trivial⟩⟩, ((Below.refl _ _).alloc (Nat.le_refl _) _).alloc (by simp) _⟩
  case assign =>
    intro l x W K hK
    gi_wp2
    exact hK
  case body =>
    rintro l pre ⟨x, s⟩ W ⟨⟨⟨v1, hv1, hr1, -⟩, ⟨v2, hv2, hr2, -⟩⟩, hB⟩ hlen
    have hS := (TwoR.start hv1 hv2 hr1 hr2 hB.size).drew
    --REGION
    gi_wp2
    refine wpIn_region_any (by kernel_rfl) ?_
    refine wpAnyIn_inv (Inv18 (.func (.func gf) #[] lb) w.heap.size w.heap.size (w.heap.size + 1) W v1 v2 pre.length (pre.map (fun x => .int .u64 x.1)) (pre.map (fun x => .string x.2)) x s) (by kernel_rfl) ?hst ?hdn _ _ _ _ (by decide) ?hin
    case hin =>
      exact ⟨false, false, false, false, false, false, false, false, false, false, undef, undef, undef, undef, undef, undef, undef, undef, v1, v2, _, _, _, _, _, rfl, rfl, hS, (fun _ => rfl), (fun h => by cases h), (fun h => by cases h), (fun h => by cases h), (fun h => by cases h), (fun h => by cases h), (fun _ => ⟨rfl, rfl, rfl⟩), (fun h => by cases h), (fun h => by cases h), (fun h => by cases h), (fun h => by cases h), (fun _ => ⟨rfl, rfl, rfl⟩), (fun h => by cases h), (fun h => by cases h), (fun h => by cases h), (fun h => by cases h), (fun h => by cases h), (fun h => by cases h), (fun h => by cases h)⟩
    case hst =>
      rintro listed a w9 i o ⟨l0, l1, l2, l3, l4, l5, l6, l7, l8, l9, s11, s12, s13, s14, s15, s16, s17, s18, u1, u2, m1, m2, xs1, xs2, X, rfl, rfl, hT, w0, w1, w2, k0, k1, k2, k3, k3t, k4, k5, k6, k7, k7t, c2, c3, c6, c7, c8, c9⟩ ho hun hpre K hK
      have hi : i < 10 := (Array.getElem?_eq_some_iff.1 ho).1
      match i, hi with
      | 0, _ =>
        obtain rfl := Option.some.inj ho
        obtain rfl : l0 = false := hun
        have e3 : l3 = false := b_not (fun h => by simpa using (c3 h).1)
        subst e3
        have e7 : l7 = false := b_not (fun h => by simpa using (c7 h).2.2)
        subst e7
        have e8 : l8 = false := b_not (fun h => by simpa using c8 h)
        subst e8
        have e9 : l9 = false := b_not (fun h => by simpa using c9 h)
        subst e9
        obtain rfl := w0 rfl
        have hc := hT.b1.cell
        rw [if_pos (by rfl)]
        go_simp
        refine hK _ _ ⟨true, l1, l2, false, l4, l5, l6, false, false, false, _, _, _, _, _, _, _, _, u1, u2, m1, m2, xs1, xs2, w9, rfl, rfl, hT, (fun _ => rfl), (fun h => by cases h), (fun h => by cases h), (fun _ => rfl), k1, k2, k3, k3t, k4, k5, k6, k7, k7t, c2, (fun h => by cases h), c6, (fun h => by cases h), (fun h => by cases h), (fun h => by cases h)⟩
      | 1, _ =>
        obtain rfl := Option.some.inj ho
        obtain rfl : l1 = false := hun
        have e2 : l2 = false := b_not (fun h => by simpa using c2 h)
        subst e2
        have e3 : l3 = false := b_not (fun h => by simpa using (c3 h).2)
        subst e3
        have e7 : l7 = false := b_not (fun h => by simpa using (c7 h).2.2)
        subst e7
        have e8 : l8 = false := b_not (fun h => by simpa using c8 h)
        subst e8
        have e9 : l9 = false := b_not (fun h => by simpa using c9 h)
        subst e9
        obtain rfl := w0 rfl
        rw [if_pos (by rfl)]
        go_simp
        refine hK _ _ ⟨l0, true, false, false, l4, l5, l6, false, false, false, _, _, _, _, _, _, _, _, u1, u2, m1, m2, xs1, xs2, w9, rfl, rfl, hT, (fun _ => rfl), (fun h => by cases h), (fun h => by cases h), k0, (fun _ => rfl), (fun h => by cases h), k3, k3t, k4, k5, k6, k7, k7t, (fun h => by cases h), (fun h => by cases h), c6, (fun h => by cases h), (fun h => by cases h), (fun h => by cases h)⟩
      | 2, _ =>
        obtain rfl := Option.some.inj ho
        obtain rfl : l2 = false := hun
        have p1 : l1 = true := hpre { on := 1, ground := .data } (by simp) rfl
        subst p1
        have e3 : l3 = false := b_not (fun h => by simpa using (c3 h).2)
        subst e3
        have e7 : l7 = false := b_not (fun h => by simpa using (c7 h).2.2)
        subst e7
        have e8 : l8 = false := b_not (fun h => by simpa using c8 h)
        subst e8
        have e9 : l9 = false := b_not (fun h => by simpa using c9 h)
        subst e9
        obtain rfl := w0 rfl
        obtain rfl := k1 rfl
        rw [if_pos (by rfl)]
        go_simp
        refine hK _ _ ⟨l0, true, true, false, l4, l5, l6, false, false, false, _, _, _, _, _, _, _, _, u1, u2, m1, m2, xs1, xs2, _, rfl, rfl, (hT.alloc (.cells #[.int .u64 x] 23)), (fun _ => rfl), (fun h => by cases h), (fun h => by cases h), k0, k1, (fun _ => ⟨_, rfl, fun _ => Blk.new _ _ _⟩), k3, k3t, k4, k5, (fun h => by obtain ⟨b, e, hb⟩ := k6 h; exact ⟨b, e, fun h => (hb h).alloc _⟩), k7, k7t, (fun _ => rfl), (fun h => by cases h), c6, (fun h => by cases h), (fun h => by cases h), (fun h => by cases h)⟩
      | 3, _ =>
        obtain rfl := Option.some.inj ho
        obtain rfl : l3 = false := hun
        have p0 : l0 = true := hpre { on := 0, ground := .data } (by simp) rfl
        subst p0
        have p2 : l2 = true := hpre { on := 2, ground := .data } (by simp) rfl
        subst p2
        have e7 : l7 = false := b_not (fun h => by simpa using (c7 h).2.2)
        subst e7
        have e8 : l8 = false := b_not (fun h => by simpa using c8 h)
        subst e8
        have e9 : l9 = false := b_not (fun h => by simpa using c9 h)
        subst e9
        obtain rfl := w0 rfl
        obtain rfl := k0 rfl
        obtain ⟨b, rfl, hb⟩ := k2 rfl
        have hb := hb rfl
        obtain ⟨rfl, rfl, rfl⟩ := k3 rfl
        rw [if_pos (by rfl)]
        refine opIn_append _ _ 22 rfl w.heap.size 23 i1 (.int .u64 0) 1 8 Try.underlying22 hi1 hz10 hz11 hz12 rfl (by decide) _ _ _ rfl hT.r1 ⟨b, 0, none⟩ 1 1 [.int .u64 x] rfl rfl (fun j u hj => ?_) (by simp [Value.oneCell']) (by unfold maxLen; omega) (by omega) hT.size ?_
        · match j, hj with
          | 0, hj => exact hb.cell 0 hj
          | j + 1, hj => simp at hj
        intro v' W2 hown hg hnil hl
        have hT2 := hT.app1 (by decide) (by decide) (by decide) hown hg hl
        refine hK _ _ ⟨true, l1, true, true, l4, l5, l6, false, false, false, _, _, _, _, _, _, _, _, v', u2, _, m2, _, xs2, W2, rfl, rfl, hT2, (fun _ => rfl), (fun h => by cases h), (fun h => by cases h), (fun _ => rfl), k1, (fun _ => ⟨b, rfl, fun h => by cases h⟩), (fun h => by cases h), (fun _ => ⟨rfl, rfl, rfl⟩), k4, k5, (fun h => by obtain ⟨b2, e2, hb2⟩ := k6 h; exact ⟨b2, e2, fun h => (hb2 h).grown hg (row_block_ne hT.r1 (hb2 h) (by decide))⟩), k7, k7t, c2, (fun _ => ⟨rfl, rfl⟩), c6, (fun h => by cases h), (fun h => by cases h), (fun h => by cases h)⟩
      | 4, _ =>
        obtain rfl := Option.some.inj ho
        obtain rfl : l4 = false := hun
        have e7 : l7 = false := b_not (fun h => by simpa using (c7 h).1)
        subst e7
        have e8 : l8 = false := b_not (fun h => by simpa using c8 h)
        subst e8
        have e9 : l9 = false := b_not (fun h => by simpa using c9 h)
        subst e9
        obtain rfl := w0 rfl
        have hc := hT.b2.cell
        rw [if_pos (by rfl)]
        go_simp
        refine hK _ _ ⟨l0, l1, l2, l3, true, l5, l6, false, false, false, _, _, _, _, _, _, _, _, u1, u2, m1, m2, xs1, xs2, w9, rfl, rfl, hT, (fun _ => rfl), (fun h => by cases h), (fun h => by cases h), k0, k1, k2, k3, k3t, (fun _ => rfl), k5, k6, k7, k7t, c2, c3, c6, (fun h => by cases h), (fun h => by cases h), (fun h => by cases h)⟩
      | 5, _ =>
        obtain rfl := Option.some.inj ho
        obtain rfl : l5 = false := hun
        have e6 : l6 = false := b_not (fun h => by simpa using c6 h)
        subst e6
        have e7 : l7 = false := b_not (fun h => by simpa using (c7 h).2.1)
        subst e7
        have e8 : l8 = false := b_not (fun h => by simpa using c8 h)
        subst e8
        have e9 : l9 = false := b_not (fun h => by simpa using c9 h)
        subst e9
        obtain rfl := w0 rfl
        rw [if_pos (by rfl)]
        go_simp
        refine hK _ _ ⟨l0, l1, l2, l3, l4, true, false, false, false, false, _, _, _, _, _, _, _, _, u1, u2, m1, m2, xs1, xs2, w9, rfl, rfl, hT, (fun _ => rfl), (fun h => by cases h), (fun h => by cases h), k0, k1, k2, k3, k3t, k4, (fun _ => rfl), (fun h => by cases h), k7, k7t, c2, c3, (fun h => by cases h), (fun h => by cases h), (fun h => by cases h), (fun h => by cases h)⟩
      | 6, _ =>
        obtain rfl := Option.some.inj ho
        obtain rfl : l6 = false := hun
        have p5 : l5 = true := hpre { on := 5, ground := .data } (by simp) rfl
        subst p5
        have e7 : l7 = false := b_not (fun h => by simpa using (c7 h).2.1)
        subst e7
        have e8 : l8 = false := b_not (fun h => by simpa using c8 h)
        subst e8
        have e9 : l9 = false := b_not (fun h => by simpa using c9 h)
        subst e9
        obtain rfl := w0 rfl
        obtain rfl := k5 rfl
        rw [if_pos (by rfl)]
        go_simp
        refine hK _ _ ⟨l0, l1, l2, l3, l4, true, true, false, false, false, _, _, _, _, _, _, _, _, u1, u2, m1, m2, xs1, xs2, _, rfl, rfl, (hT.alloc (.cells #[.string s] 9)), (fun _ => rfl), (fun h => by cases h), (fun h => by cases h), k0, k1, (fun h => by obtain ⟨b, e, hb⟩ := k2 h; exact ⟨b, e, fun h => (hb h).alloc _⟩), k3, k3t, k4, k5, (fun _ => ⟨_, rfl, fun _ => Blk.new _ _ _⟩), k7, k7t, c2, c3, (fun _ => rfl), (fun h => by cases h), (fun h => by cases h), (fun h => by cases h)⟩
      | 7, _ =>
        obtain rfl := Option.some.inj ho
        obtain rfl : l7 = false := hun
        have p4 : l4 = true := hpre { on := 4, ground := .data } (by simp) rfl
        subst p4
        have p6 : l6 = true := hpre { on := 6, ground := .data } (by simp) rfl
        subst p6
        have p3 : l3 = true := hpre { on := 3, ground := .chain } (by simp) rfl
        subst p3
        have e8 : l8 = false := b_not (fun h => by simpa using c8 h)
        subst e8
        have e9 : l9 = false := b_not (fun h => by simpa using c9 h)
        subst e9
        obtain rfl := w0 rfl
        obtain rfl := k4 rfl
        obtain ⟨b, rfl, hb⟩ := k6 rfl
        have hb := hb rfl
        obtain ⟨rfl, rfl, rfl⟩ := k7 rfl
        obtain ⟨rfl, rfl, rfl⟩ := k3t rfl
        rw [if_pos (by rfl)]
        refine opIn_append _ _ 122 rfl w.heap.size 9 i2 (.string ⟨#[]⟩) 1 16 Try.underlying122 hi2 hz20 hz21 hz22 rfl (by decide) _ _ _ rfl hT.r2 ⟨b, 0, none⟩ 1 1 [.string s] rfl rfl (fun j u hj => ?_) (by simp [Value.oneCell']) (by unfold maxLen; omega) (by omega) hT.size ?_
        · match j, hj with
          | 0, hj => exact hb.cell 0 hj
          | j + 1, hj => simp at hj
        intro v' W2 hown hg hnil hl
        have hT2 := hT.app2 (by decide) (by decide) (by decide) hown hg hl
        refine hK _ _ ⟨l0, l1, l2, true, true, l5, true, true, false, false, _, _, _, _, _, _, _, _, _, v', _, _, _, _, W2, rfl, rfl, hT2, (fun _ => rfl), (fun h => by cases h), (fun h => by cases h), k0, k1, (fun h => by obtain ⟨b2, e2, hb2⟩ := k2 h; exact ⟨b2, e2, fun h => by cases h⟩), (fun h => by cases h), (fun _ => ⟨rfl, rfl, rfl⟩), (fun _ => rfl), k5, (fun _ => ⟨b, rfl, fun h => by cases h⟩), (fun h => by cases h), (fun _ => ⟨rfl, rfl, rfl⟩), c2, c3, c6, (fun _ => ⟨rfl, rfl, rfl⟩), (fun h => by cases h), (fun h => by cases h)⟩
      | 8, _ =>
        obtain rfl := Option.some.inj ho
        obtain rfl : l8 = false := hun
        have p7 : l7 = true := hpre { on := 7, ground := .chain } (by simp) rfl
        subst p7
        have e9 : l9 = false := b_not (fun h => by simpa using c9 h)
        subst e9
        obtain rfl : l4 = true := (c7 rfl).1
        obtain rfl : l6 = true := (c7 rfl).2.1
        obtain rfl : l3 = true := (c7 rfl).2.2
        obtain rfl : l0 = true := (c3 rfl).1
        obtain rfl : l2 = true := (c3 rfl).2
        obtain rfl : l1 = true := c2 rfl
        obtain rfl : l5 = true := c6 rfl
        obtain rfl := k0 rfl
        obtain rfl := k1 rfl
        obtain rfl := k4 rfl
        obtain rfl := k5 rfl
        obtain ⟨ba, rfl, -⟩ := k2 rfl
        obtain ⟨bb, rfl, -⟩ := k6 rfl
        obtain ⟨rfl, rfl, rfl⟩ := k3t rfl
        obtain ⟨rfl, rfl, rfl⟩ := k7t rfl
        clear k0 k1 k2 k3 k3t k4 k5 k6 k7 k7t c2 c3 c6 c7
        obtain rfl := w0 rfl
        obtain ⟨g1, cap1, rfl⟩ := ownsRow_succ hT.r1
        have hc := hT.b1.cell
        have hf := hT.b1.frozen
        rw [if_pos (by rfl)]
        go_simp
        refine hK _ _ ⟨true, true, true, true, true, true, true, true, true, false, _, _, _, _, _, _, _, _, _, _, _, _, _, _, w9, rfl, rfl, hT, (fun h => by cases h), (fun _ _ => rfl), (fun h => by cases h), (fun _ => rfl), (fun _ => rfl), (fun _ => ⟨ba, rfl, fun h => by cases h⟩), (fun h => by cases h), (fun _ => ⟨rfl, rfl, rfl⟩), (fun _ => rfl), (fun _ => rfl), (fun _ => ⟨bb, rfl, fun h => by cases h⟩), (fun h => by cases h), (fun _ => ⟨rfl, rfl, rfl⟩), (fun _ => rfl), (fun _ => ⟨rfl, rfl⟩), (fun _ => rfl), (fun _ => ⟨rfl, rfl, rfl⟩), (fun _ => rfl), (fun h => by cases h)⟩
      | 9, _ =>
        obtain rfl := Option.some.inj ho
        obtain rfl : l9 = false := hun
        have p7 : l7 = true := hpre { on := 7, ground := .data } (by simp) rfl
        subst p7
        have p8 : l8 = true := hpre { on := 8, ground := .chain } (by simp) rfl
        subst p8
        obtain rfl : l4 = true := (c7 rfl).1
        obtain rfl : l6 = true := (c7 rfl).2.1
        obtain rfl : l3 = true := (c7 rfl).2.2
        obtain rfl : l0 = true := (c3 rfl).1
        obtain rfl : l2 = true := (c3 rfl).2
        obtain rfl : l1 = true := c2 rfl
        obtain rfl : l5 = true := c6 rfl
        obtain rfl := k0 rfl
        obtain rfl := k1 rfl
        obtain rfl := k4 rfl
        obtain rfl := k5 rfl
        obtain ⟨ba, rfl, -⟩ := k2 rfl
        obtain ⟨bb, rfl, -⟩ := k6 rfl
        obtain ⟨rfl, rfl, rfl⟩ := k3t rfl
        obtain ⟨rfl, rfl, rfl⟩ := k7t rfl
        clear k0 k1 k2 k3 k3t k4 k5 k6 k7 k7t c2 c3 c6 c7
        obtain rfl := w1 rfl rfl
        obtain ⟨g2, cap2, rfl⟩ := ownsRow_succ hT.r2
        have hb2 := hT.b2.kept (grownBy_setCell' X w.heap.size s14) (by simp)
        have hc := hb2.cell
        have hf := hb2.frozen
        rw [if_pos (by rfl)]
        go_simp
        refine hK _ _ ⟨true, true, true, true, true, true, true, true, true, true, _, _, _, _, _, _, _, _, _, _, _, _, _, _, X, rfl, rfl, hT, (fun h => by cases h), (fun _ h => by cases h), (fun _ => rfl), (fun _ => rfl), (fun _ => rfl), (fun _ => ⟨ba, rfl, fun h => by cases h⟩), (fun h => by cases h), (fun _ => ⟨rfl, rfl, rfl⟩), (fun _ => rfl), (fun _ => rfl), (fun _ => ⟨bb, rfl, fun h => by cases h⟩), (fun h => by cases h), (fun _ => ⟨rfl, rfl, rfl⟩), (fun _ => rfl), (fun _ => ⟨rfl, rfl⟩), (fun _ => rfl), (fun _ => ⟨rfl, rfl, rfl⟩), (fun _ => rfl), (fun _ => rfl)⟩
      | i + 10, hi => omega
    case hdn =>
      rintro listed a w9 ⟨l0, l1, l2, l3, l4, l5, l6, l7, l8, l9, s11, s12, s13, s14, s15, s16, s17, s18, u1, u2, m1, m2, xs1, xs2, X, rfl, rfl, hT, w0, w1, w2, k0, k1, k2, k3, k3t, k4, k5, k6, k7, k7t, c2, c3, c6, c7, c8, c9⟩ hall
      have e9 : l9 = true := hall 9 (by decide)
      have e8 := c9 e9
      have e7 := c8 e8
      have e3 := (c7 e7).2.2
      obtain rfl := w2 e9
      obtain ⟨rfl, rfl, rfl⟩ := k7t e7
      obtain ⟨rfl, rfl, rfl⟩ := k3t e3
      obtain ⟨f1, f2, ⟨f3, f4⟩, ⟨f5, f6⟩, f7⟩ := hT.fin (by omega) (by decide) (by decide) (by decide) (by decide) (Nat.le_refl _) (by omega) hv1 hv2 hr1 hr2
      refine ⟨f1, f2, ⟨⟨_, f3, by simpa using f4, trivial⟩, ⟨_, f5, by simpa using f6, trivial⟩⟩, hB.trans f7⟩
  case stop => exact fun _ _ _ _ _ _ h => h.elim
  case done =>
    rintro D xs W hD hS ⟨⟨⟨v1, hv1, hr1, -⟩, ⟨v2, hv2, hr2, -⟩⟩, hB⟩ hK
    simp at hD
    have c1 := hv1.cell
    have c2 := hv2.cell
    have d1 : W.drew.cell? ⟨w.heap.size, 0, none⟩ = some v1 := c1
    have d2 : W.drew.cell? ⟨w.heap.size + 1, 0, none⟩ = some v2 := c2
    gi_wp2
    gi_region
    all_goals
      gi_wp2
      refine ⟨by simp, .inl ⟨_, _, rfl, run_takeDeferred hK, ?_⟩⟩
      have hr3 := ownsRow_putObj (W := W.drew) hr1 (.deferred none) hK rfl
      have hr4 := ownsRow_putObj (W := W.drew) hr2 (.deferred none) hK rfl
      obtain ⟨g1, g2⟩ := SlV.of_own hr3
      obtain ⟨g3, g4⟩ := SlV.of_own hr4
      exact ⟨_, results_tmp2 rfl _ _ _, v1, v2, xs, rfl, hS, g1, g3, g2, g4, ((Chg.of_below hB).drew).grown (grownBy_putObj' _ D _) (fun k e => .inr (by cases e; omega))⟩
end Go.Proofs.Ytbagkfeodjkdmaa

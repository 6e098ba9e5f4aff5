/- DueGrows: the walk. -/
import Derived.Test.YtbagkfeodjkdmaaDueOver2
namespace Go.Proofs.Ytbagkfeodjkdmaa
open Go.RowKit Go.Maps Go.Shelf

/-- over(slices.Values(ys)) -/
theorem law18_over_vals (B : Nat) (v : Value) (ys : List Int) (w : World) (hB : Blk w B #[v] 22) (hs : SlI w .u64 v ys) (hl : ys.length ≤ 1000000) :
    Calls Try.prog 18 #[.func (.func 136) #[] #[.pointer (some ⟨B, 0, none⟩)]] w fun e w' => ∃ u, e = .returned u ∧ SlI w' .u64 u ys ∧ (∀ k, inBlk u k → w.heap.size ≤ k) ∧ Chg [] w w' ∧ capOk u := by
  have hlt := hB.lt
  have hc : Chg [] w (w.alloc (.cells #[.slice none 0 0] 22)) := (Chg.refl _ _).alloc _
  have hcell : (w.alloc (.cells #[.slice none 0 0] 22)).cell? ⟨w.heap.size, 0, none⟩ = some (.slice none 0 0) := (Blk.new w #[.slice none 0 0] 22).cell 0 rfl
  have ht : ∀ k, Tch [] [w.heap.size] (w.alloc (.cells #[.slice none 0 0] 22)) k → k = w.heap.size := by
    rintro k (h | h | ⟨B, hB, o, n, q, h⟩)
    · cases h
    · simpa using h
    · simp at hB; subst hB; rw [hcell] at h; simp at h
  have hin : ∀ k, inBlk v k → k < w.heap.size := by
    rintro k ⟨o, n, c, rfl⟩
    rcases hs with ⟨e, _⟩ | ⟨b, off, cap, cs, t, e, hb, _⟩
    · cases e
    · cases e; exact hb.lt
  refine (law18_overC 136 _ (enters_of Try.func136 (by kernel_rfl) rfl) _ _ ys.length hl w
    (values1_u64 Fence.wide 2 trivial rfl (by omega) [] [w.heap.size] B v ys hl _ (hB.alloc _) (hs.chg hc (by simp)) ⟨by simp, fun k hk => by rw [ht k hk]; simp⟩ (fun h => by have := ht _ h; omega) (fun k hk h => by have := hin k hk; have := ht k h; omega))).mono ?_
  rintro e w' ⟨u, xs, he, hxs, hs', hf, hc', hk⟩
  subst hxs
  exact ⟨u, he, hs', hf, hc', hk⟩

theorem SlI.take {W : World} {kq : IntKind} {a : Option Addr} {n cap : Nat} {l : List Int} (h : SlI W kq (.slice a n cap) l) {k : Nat} (hk : k ≤ l.length) : SlI W kq (.slice a k cap) (l.take k) := by
  rcases h with ⟨e, rfl⟩ | ⟨b, off, cap', cs, t, e, hb, hc⟩
  · cases e
    obtain rfl : k = 0 := by simpa using hk
    exact .inl ⟨rfl, by simp⟩
  · cases e
    refine .inr ⟨b, off, cap, cs, t, by simp [Nat.min_eq_left hk], hb, fun i hi => ?_⟩
    have hi' : i < l.length := by simp at hi; omega
    rw [hc i hi']; simp

set_option maxRecDepth 100000 in
set_option maxHeartbeats 2000000 in
/-- the same numbers -/
theorem law18_same (va : Option Addr) (vc : Nat) (ua : Option Addr) (uc : Nat) (l : List Int) (w : World) (hv : SlI w .u64 (.slice va l.length vc) l) (hu : SlI w .u64 (.slice ua l.length uc) l) (hl : l.length ≤ 1000000) :
    Calls Try.prog 20 #[.slice va l.length vc, .slice ua l.length uc] w fun e w' => e = .returned (.bool true) ∧ Chg [] w w' := by
  go_enter Try.func20, Try.ntmps20
  go_wp2
  go_loopw [13] (fun i wr => ∃ k : Nat, k ≤ l.length ∧ i = .int .i64 k ∧ Chg [] w wr) (fun i _ => l.length - (intOf i).toNat)
  case atStart => exact ⟨0, Nat.zero_le _, rfl, Chg.refl _ _⟩
  case round =>
    obtain ⟨k, hk, rfl, hc⟩ := hrel
    by_cases hlt : k < l.length
    · obtain ⟨b, off, rfl, h1⟩ := (hv.chg hc (by simp)).cell hlt
      obtain ⟨b2, off2, rfl, h2⟩ := (hu.chg hc (by simp)).cell hlt
      generalize l[k] = x at h1 h2
      go_wp2
      go_quiet (fail)
      go_wp2
      go_roundw
      case rel => exact ⟨k + 1, by omega, by simp, hc.drewN _⟩
      case measure => simp [intOf]; omega
    · obtain rfl : k = l.length := by omega
      go_wp2
      go_ret
      exact ⟨rfl, hc⟩

/-! ### the plain law -/
theorem Tab.lt_asymm {T : Tab} {x y : Int} (h1 : T.lt x y) (h2 : T.lt y x) : False := by unfold Tab.lt at h1 h2; omega
theorem Tab.late_iff {T : Tab} {x now : Int} : T.late x now = true ↔ ((T.f x).isSome = true ∧ T.dueOf x < now) := by
  unfold Tab.late Tab.dueOf
  cases T.f x <;> simp
theorem late_prefix {T : Tab} {lo : Int} : ∀ {ys : List Int}, ys.Pairwise T.lt → ys.filter (fun x => T.late x lo) <+: ys ∨ ∃ y ∈ ys, T.f y = none
  | [], _ => .inl (by simp)
  | y :: t, h => by
    obtain ⟨h1, h2⟩ := List.pairwise_cons.1 h
    cases hf : T.f y with
    | none => exact .inr ⟨y, by simp, hf⟩
    | some z =>
      by_cases hd : T.dueOf y < lo
      · have hl : T.late y lo = true := Tab.late_iff.2 ⟨by rw [hf]; rfl, hd⟩
        rcases late_prefix (lo := lo) h2 with h3 | ⟨q, hq, hn⟩
        · refine .inl ?_
          have e : (y :: t).filter (fun x => T.late x lo) = y :: t.filter (fun x => T.late x lo) := by simp [hl]
          rw [e]
          exact (List.prefix_cons_inj y).2 h3
        · exact .inr ⟨q, by simp [hq], hn⟩
      · have hn : (y :: t).filter (fun x => T.late x lo) = [] := by
          rw [List.filter_eq_nil_iff]
          intro x hx hlate
          have h4 := (Tab.late_iff.1 hlate).2
          rcases List.mem_cons.1 hx with rfl | hx
          · exact hd h4
          · have := h1 x hx; unfold Tab.lt at this; omega
        exact .inl (by rw [hn]; exact List.nil_prefix)
theorem pairwise_nodup {T : Tab} {ys : List Int} (h : ys.Pairwise T.lt) : ys.Nodup := h.imp (fun hlt e => by subst e; exact Tab.lt_asymm hlt hlt)
theorem over_grows {T : Tab} {lo hi : Int} (hle : lo ≤ hi) {xs ys : List Int} (h1 : xs.Pairwise T.lt) (h2 : ys.Pairwise T.lt) (m1 : ∀ x, x ∈ xs ↔ ((Lit.int .u64 x).wf = true ∧ T.late x lo = true)) (m2 : ∀ x, x ∈ ys ↔ ((Lit.int .u64 x).wf = true ∧ T.late x hi = true)) :
    xs.length ≤ ys.length ∧ ys.take xs.length = xs := by
  have e : xs = ys.filter (fun x => T.late x lo) := by
    refine List.Perm.eq_of_pairwise (le := T.lt) (fun a b _ _ h3 h4 => (Tab.lt_asymm h3 h4).elim) h1 (h2.filter _) ((List.perm_ext_iff_of_nodup (pairwise_nodup h1) ((pairwise_nodup h2).filter _)).2 fun x => ?_)
    rw [m1, List.mem_filter, m2]
    constructor
    · rintro ⟨h3, h4⟩
      refine ⟨⟨h3, Tab.late_iff.2 ?_⟩, h4⟩
      have := Tab.late_iff.1 h4
      exact ⟨this.1, by omega⟩
    · rintro ⟨⟨h3, _⟩, h4⟩; exact ⟨h3, h4⟩
  rcases late_prefix (lo := lo) h2 with h3 | ⟨q, hq, hn⟩
  · rw [← e] at h3
    exact ⟨h3.length_le, (List.prefix_iff_eq_take.1 h3).symm⟩
  · have := (Tab.late_iff.1 ((m2 q).1 hq).2).1
    rw [hn] at this; cases this

theorem xs_count {xs : List Int} {n : Nat} (hn : xs.Nodup) (hm : ∀ x, x ∈ xs ↔ (1 ≤ x ∧ x ≤ n)) : xs.length = n := by
  have hp : xs.Perm ((List.range n).map (fun (i : Nat) => (i : Int) + 1)) := by
    refine (List.perm_ext_iff_of_nodup hn ?_).2 fun x => ?_
    · exact List.nodup_range.map (fun (i : Nat) => (i : Int) + 1) (fun a b hne h => hne (Int.ofNat.inj (by simpa using h)))
    · rw [hm x, List.mem_map]
      constructor
      · rintro ⟨h1, h2⟩; exact ⟨(x - 1).toNat, List.mem_range.2 (by omega), by omega⟩
      · rintro ⟨i, hi, rfl⟩; have := List.mem_range.1 hi; omega
  rw [hp.length_eq]; simp

/-- the table, n dues on. -/
structure Grown (T : Tab) (n : Nat) : Prop where
  ok : TabOk T
  last : T.last = n
  cnt : T.cnt = n
  most : T.most = 40
  there : ∀ j, (T.f j).isSome = true ↔ (1 ≤ j ∧ j ≤ n)
  small : ∀ j y, T.f j = some y → 0 ≤ y.2 ∧ y.2 < 1048576
theorem Grown.new : Grown (Tab.new 40) 0 := ⟨TabOk.new 40 (by omega) (by omega), rfl, rfl, rfl, fun j => by simp [Tab.new]; omega, fun j y h => by cases h⟩
theorem Grown.add {T : Tab} {n : Nat} (h : Grown T n) (hn : n < 40) {x : ByteArray} {d : Int} (h0 : 0 ≤ d) (h1 : d < 1048576) : T.add x d = (T.last + 1, 0, (T.add x d).2.2) ∧ Grown (T.add x d).2.2 (n + 1) := by
  have hl := h.last; have hc := h.cnt; have hm := h.most
  have hk := h.ok.add (x := x) h0 (by omega)
  have e : T.add x d = (T.last + 1, 0, ⟨T.most, T.last + 1, fun k => if k = T.last + 1 then some (x, d) else T.f k, T.cnt + 1⟩) := by
    unfold Tab.add; rw [if_neg (by omega), if_neg (by omega)]
  rw [e] at hk ⊢
  refine ⟨rfl, hk, by simp only; omega, by simp only; omega, hm, fun j => ?_, fun j y hj => ?_⟩
  · simp only
    by_cases ej : j = T.last + 1
    · rw [if_pos ej]; simp; omega
    · rw [if_neg ej, h.there j]; omega
  · simp only at hj
    by_cases ej : j = T.last + 1
    · rw [if_pos ej] at hj; cases hj; exact ⟨h0, h1⟩
    · rw [if_neg ej] at hj; exact h.small j y hj

/-- a slice of n numbers. -/
def Nums (w : World) (v : Value) (n : Nat) : Prop := ∃ V : Nat → Int, RowsAt w v n 1 (fun i _ => .int .u64 (V i)) ∧ ∀ i, i < n → (Lit.int .u64 (V i)).wf = true
theorem Nums.at {w : World} {a : Option Addr} {n cap : Nat} (h : Nums w (.slice a n cap) n) {i : Nat} (hi : i < n) : ∃ b off x, a = some ⟨b, off, none⟩ ∧ (Lit.int .u64 x).wf = true ∧ w.cell? ⟨b, off + i, none⟩ = some (.int .u64 x) := by
  obtain ⟨V, ⟨a', cap', e, hc⟩, hk⟩ := h
  cases e
  obtain ⟨b, off, rfl, hb, hc⟩ := hc i hi
  exact ⟨b, off, V i, rfl, hk i hi, by simpa using hc 0 (by omega)⟩
theorem Nums.chg {w w' : World} {v : Value} {n : Nat} (h : Nums w v n) (c : Chg [] w w') : Nums w' v n := by obtain ⟨V, h, k⟩ := h; exact ⟨V, h.chg c, k⟩
theorem Nums.len {w : World} {v : Value} {n : Nat} (h : Nums w v n) : ∃ a cap, v = .slice a n cap := by obtain ⟨V, ⟨a, cap, e, _⟩, _⟩ := h; exact ⟨a, cap, e⟩

/-- over(t.Over(now)), both calls' contracts at a table. -/
def OverOk (w' : World) (v : Value) (ys : List Int) (T : Tab) (now : Int) : Prop := SlI w' .u64 v ys ∧ ys.Pairwise T.lt ∧ ys.length ≤ T.cnt ∧ ∀ x, x ∈ ys ↔ ((Lit.int .u64 x).wf = true ∧ T.late x now = true)

set_option maxRecDepth 100000 in
set_option maxHeartbeats 8000000 in
theorem law18_DueGrows (vd : Value) (a b : Int) (w : World) (hd : ∃ n, n ≤ maxLen ∧ Nums w vd n) (ha : (Lit.int .u64 a).wf = true) (hb : (Lit.int .u64 b).wf = true) :
    Calls Try.prog 3 #[vd, .int .u64 a, .int .u64 b] w fun e w' => e = .returned (.bool true) ∧ Chg [] w w' := by
  obtain ⟨n, hn, hd⟩ := hd
  obtain ⟨da, dcap, rfl⟩ := hd.len
  by_cases h1 : n ≤ 40
  · go_enter Try.func3, Try.ntmps3
    go_wp2_with fail
    refine (law18_lives _).mono ?_
    rintro e w1 ⟨rfl, hc1⟩
    go_wp2_with fail
    refine (due_New 40 _ (by omega) (by omega)).mono ?_
    rintro e w2 ⟨p, mb, rfl, htab, hc2, hfr⟩
    have hf1 := hfr p (by simp)
    have hf2 := hfr mb (by simp)
    have z1 := hc1.size
    have g1 : w.heap.size ≤ p := by omega
    have g2 : w.heap.size ≤ mb := by omega
    have hcx := hc1.trans hc2 (by simp)
    clear hc1 hc2 hfr hf1 hf2 z1
    go_wp2
    have hall : ∀ {W}, Chg [p, mb] w2 W → Chg [] w W := fun k => hcx.trans k (by simp [g1, g2])
    go_loopw [31] (fun i wr => ∃ (k : Nat) (T : Tab), k ≤ n ∧ i = .int .i64 k ∧ TabAt wr p mb T ∧ Grown T k ∧ Chg [p, mb] w2 wr) (fun i _ => n - (intOf i).toNat)
    case atStart => exact ⟨0, _, Nat.zero_le _, rfl, htab, Grown.new, Chg.refl _ _⟩
    case round =>
      obtain ⟨k, T, hk, rfl, ht, hg, hc⟩ := hrel
      by_cases hlt : k < n
      · obtain ⟨bb, off, x, rfl, hx, hcell⟩ := (hd.chg (hall hc)).at hlt
        have hx0 := (wf_u64.1 hx).1
        have hm0 : 0 ≤ x % 1048576 := by omega
        have hm1 : x % 1048576 < 1048576 := by omega
        obtain ⟨e1, hg2⟩ := hg.add (by omega) (x := ⟨#[120]⟩) hm0 hm1
        have hadd := due_Add p mb T ⟨#[120]⟩ (x % 1048576) wr ht hg.ok hm0
        rw [e1] at hadd
        simp only at hadd
        generalize (T.add ⟨#[120]⟩ (x % 1048576)).2.2 = T2 at hadd hg2
        go_wp2_with (go_at_call 17; refine hadd.mono ?_; rintro e w3 ⟨rfl, ht3, hc3⟩)
        go_roundw
        case rel => exact ⟨k + 1, T2, by omega, by simp, ht3, hg2, hc.trans hc3 (fun t ht => .inl ht)⟩
        case measure => simp [intOf]; omega
      · obtain rfl : k = n := by omega
        have hcw := hall hc
        have hcnt : T.cnt ≤ 40 := by have := hg.cnt; omega
        clear htab hall hc hcx
        rcases Int.lt_trichotomy a b with hab | hab | hab
        all_goals
          try subst hab
          go_wp2_with fail
          refine (due_Over p mb T _ _ ht (by omega)).mono ?_
          rintro e w4 ⟨B1, v1, xs, rfl, hB1, hs1, hB1n, hv1, hc4, hp1, hl1, hm1⟩
          go_wp2_with fail
          refine (law18_over_vals B1 v1 xs _ hB1 hs1 (by omega)).mono ?_
          rintro e w5 ⟨u1, rfl, hu1, hf1, hc5, hk1⟩
          go_wp2_with fail
          refine (due_Over p mb T _ _ (ht.same (hc4.trans hc5 (by simp))) (by omega)).mono ?_
          rintro e w6 ⟨B2, v2, ys, rfl, hB2, hs2, hB2n, hv2, hc6, hp2, hl2, hm2⟩
          go_wp2_with fail
          refine (law18_over_vals B2 v2 ys _ hB2 hs2 (by omega)).mono ?_
          rintro e w7 ⟨u2, rfl, hu2, hf2, hc7, hk2⟩
          obtain ⟨a1, cap1, rfl⟩ := hu1.len
          obtain ⟨a2, cap2, rfl⟩ := hu2.len
          have hcap := hk2 _ _ _ rfl
          have hc67 := hc6.trans hc7 (by simp)
          have hu1' := hu1.chg hc67 (by simp)
          obtain ⟨hlen, htake⟩ := over_grows (by omega) hp1 hp2 hm1 hm2
          have hst := hu2.take hlen
          rw [htake] at hst
          have hsame := law18_same a1 cap1 a2 cap2 xs w7 hu1' hst (by omega)
          have hcap2 : xs.length ≤ cap2 := by omega
          have hc47 := ((hcw.trans hc4 (by simp)).trans hc5 (by simp)).trans hc67 (by simp)
          have ht7 := ht.same ((hc4.trans hc5 (by simp)).trans hc67 (by simp))
          clear hs1 hB1 hs2 hB2 hu1 hu2 hst hc4 hc5 hc6 hc7 hc67 hv1 hv2 hp1 hp2 hm1 hm2 htake hf1 hf2 hk1 hk2 hB1n hB2n
          go_wp2_with fail
          refine hsame.mono ?_
          rintro e w8 ⟨rfl, hc8⟩
          go_wp2_with fail
          refine (due_Over p mb T _ _ (ht7.same hc8) (by omega)).mono ?_
          rintro e w9 ⟨B3, v3, zs, rfl, hB3, hs3, hq1, hq2, hc9, hp3, hl3, hm3⟩
          have hz : zs.length = k := xs_count (pairwise_nodup hp3) (fun x => by
            rw [hm3, Tab.late_iff, hg.there x]
            constructor
            · rintro ⟨_, h, _⟩; exact h
            · intro h
              refine ⟨wf_u64.2 (by omega), h, ?_⟩
              obtain ⟨y, hy⟩ := Option.isSome_iff_exists.1 ((hg.there x).2 h)
              have := (hg.small x y hy).2
              unfold Tab.dueOf; rw [hy]; exact this)
          go_wp2_with fail
          refine (law18_over_vals B3 v3 zs _ hB3 hs3 (by omega)).mono ?_
          rintro e w10 ⟨u3, rfl, hu3, hf3, hc10, hk3⟩
          obtain ⟨a3, cap3, rfl⟩ := hu3.len
          rw [hz]
          have hc810 := (hc8.trans hc9 (by simp)).trans hc10 (by simp)
          clear hu3 hs3 hp3 hm3 hB3 hz hl3 hk3 hf3 hc8 hc9 hc10 hq1 hq2
          go_wp2_with fail
          refine (due_Over p mb T _ _ (ht7.same hc810) (by omega)).mono ?_
          rintro e w11 ⟨B4, v4, us, rfl, hB4, hs4, hq1, hq2, hc11, hp4, hl4, hm4⟩
          obtain rfl : us = [] := by
            rw [List.eq_nil_iff_forall_not_mem]
            intro x hx
            have h := Tab.late_iff.1 ((hm4 x).1 hx).2
            obtain ⟨y, hy⟩ := Option.isSome_iff_exists.1 h.1
            have h0 := (hg.small x y hy).1
            have h1 := h.2
            unfold Tab.dueOf at h1; rw [hy] at h1
            simp at h1; omega
          go_wp2_with fail
          refine (law18_over_vals B4 v4 [] _ hB4 hs4 (by simp)).mono ?_
          rintro e w12 ⟨u4, rfl, hu4, hf4, hc12, hk4⟩
          obtain ⟨a4, cap4, rfl⟩ := hu4.len
          go_wp2
          go_ret
          exact ⟨rfl, ((hc47.trans hc810 (by simp)).trans hc11 (by simp)).trans hc12 (by simp)⟩
  · have h2 : 40 < n := by omega
    go_enter Try.func3, Try.ntmps3
    go_wp2_with fail
    refine (law18_lives _).mono ?_
    rintro e w1 ⟨rfl, hc1⟩
    go_wp2_with fail
    refine (law18_lives _).mono ?_
    rintro e w2 ⟨rfl, hc2⟩
    go_wp2
    go_ret
    exact ⟨rfl, hc1.trans hc2 (by simp)⟩

section
open Go.ChangeShapes Go.WideShapes Go.Deep
variable {H : Type} {base : Nat} {sp : Nat → Bool} {held : Bool}
set_option maxRecDepth 100000 in
theorem open_nums (enc : TypeId × Value → H) (W : World) (v : Value) (d : DataW H) (ps : List MemPlace) {r : Reach} {b0 : Nat} (h : DataW.Trod enc Try.prog W base sp held 22 v d ps) (hval : Value.okWide Try.prog W r b0 22 v) :
    ∃ n, n ≤ maxLen ∧ Nums W v n := by
  obtain ⟨a0, len0, cap0, rfl⟩ := okWide_slice Try.underlying22 hval
  obtain ⟨fuel, h⟩ := h
  rcases open_slice1 Try.underlying22 (by kernel_rfl) h with ⟨h0, _⟩ | ⟨a, len, cap, m, n, V, D, Pl, hcs, hb, hl, hm, hmm, hx, hel⟩
  · simp [Value.cells] at h0
    obtain ⟨rfl, rfl, rfl⟩ := h0
    exact ⟨0, Nat.zero_le _, fun _ => 0, ⟨none, 0, rfl, fun i hi => by omega⟩, fun i hi => by omega⟩
  · simp [Value.cells] at hcs
    obtain ⟨rfl, rfl, rfl⟩ := hcs
    have hlm : len0 ≤ m := by rw [hmm]; split <;> omega
    have each : ∀ i, i < len0 → ∃ x : Int, V i = .int .u64 x ∧ (Lit.int .u64 x).wf = true := fun i hi => by
      obtain ⟨x, e, _, hw⟩ := DataW.trod_int Try.underlying23 (hel i (by omega)).2
      simp only [List.cons.injEq, and_true] at e
      exact ⟨x, e, hw⟩
    obtain ⟨q, hq⟩ := choose_lt each
    refine ⟨len0, Nat.le_trans hl hm, q, ⟨some a, cap0, rfl, fun i hi => ?_⟩, fun i hi => (hq i hi).2⟩
    obtain ⟨b, off, spot⟩ := a
    have h0 := (hel 0 (by omega)).1
    have hs : spot = none := by simpa [Addr.add] using World.cell?_spot h0
    subst hs
    refine ⟨b, off, rfl, by simpa [Addr.add] using cell_lt h0, fun j hj => ?_⟩
    obtain rfl : j = 0 := by omega
    have := (hel i (by omega)).1
    rw [add_plain] at this
    rw [(hq i hi).1] at this
    simpa using this
end
end Go.Proofs.Ytbagkfeodjkdmaa

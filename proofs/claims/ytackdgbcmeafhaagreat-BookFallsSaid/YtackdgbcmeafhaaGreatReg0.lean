/- Package book: Register of a first vault. -/
import Derived.Test.YtackdgbcmeafhaaGreatVaults
import Derived.RangeFuncNested
import Derived.Test.YtackdgbcmeafhaaGreatInv
namespace Go.Proofs.YtackdgbcmeafhaaGreat
open Go.RowKit Go.Maps Go.Shelf
attribute [local go_sem] Oper.semAt_some
attribute [-go_sem] loadCellsFrom

theorem kp_alloc (W : World) (o : Obj) : Kp [] [] W (W.alloc o) := by
  have hno : ∀ W' k, ¬ Tch [] [] W' k := by rintro W' k (h | h | ⟨B, hB, _⟩) <;> simp_all
  exact ⟨by simp, fun k o' h _ _ => (Below.heap_alloc W o k (Array.getElem?_eq_some_iff.1 h).1).trans h, fun k _ h => absurd h (hno _ k), fun _ k h => absurd h (hno _ k)⟩
set_option maxHeartbeats 400000 in
theorem book_Vaults (x : Lc) (w : World) : Calls Tryz.prog 33 #[.pointer (some ⟨x.b, 0, none⟩)] w fun e w' => e = .returned (.func (.func 90) #[] #[.pointer (some ⟨w.heap.size, 0, none⟩)]) ∧ w' = w.alloc (.cells #[.pointer (some ⟨x.b, 0, none⟩)] 32) := by
  go_enter Tryz.func33, Tryz.ntmps33
  go_wp2
  go_ret
  exact ⟨rfl, rfl⟩
/-- Register's region 9: what of it has come up, the frame, the world. -/
def InvR (x : Lc) (bv g D : Nat) (k : Int) (col : Nat) (ad : Array Value) (U : Pur) (W : World) (l : Array Bool) (a : Act) (W' : World) : Prop :=
  ∃ (l0 l1 l2 l3 l4 l5 l6 l7 : Bool) (s10 s37 s38 s39 s40 s41 s42 s43 : Value) (X : World), l = #[l0, l1, l2, l3, l4, l5, l6, l7] ∧
    a = { tmps := #[.pointer (some ⟨x.b, 0, none⟩), .int .u8 k, .agg ad, .int .u64 col, undef, .pointer (some ⟨g, 0, none⟩), .pointer (some ⟨g + 1, 0, none⟩), undef, .pointer (some ⟨g + 1 + 1, 0, none⟩), undef, s10,
        .pointer (some ⟨x.b, 0, none⟩), .bool false, .bool false, .int .u64 col, .bool true, .bool false, .bool false, .pointer (some ⟨x.b, 0, none⟩), .func (.func 90) #[] #[.pointer (some ⟨bv, 0, none⟩)], undef, undef, undef, undef, undef, undef, undef, undef, undef, undef, undef,
        .pointer (some ⟨x.b, 0, none⟩), .pointer (some ⟨x.b, 0, none⟩), .pointer (some ⟨x.b, 17, none⟩), .map (some x.vm), .int .i64 0, .bool false, s37, s38, s39, s40, s41, s42, s43, undef, undef, undef, undef, undef, undef, undef, undef, undef], defers := [{ target := .collected D, args := #[] }] } ∧ W' = X ∧
    (l0 = true → s37 = .pointer (some ⟨x.b, 0, none⟩)) ∧ (l1 = true → s38 = .pointer (some ⟨x.b, 0, none⟩)) ∧ (l2 = true → s39 = .pointer (some ⟨x.b, 13, none⟩)) ∧ (l3 = true → s40 = .pointer (some ⟨x.p, 0, none⟩)) ∧ (l4 = true → s41 = .int .u8 k) ∧ (l5 = true → s42 = .int .u64 col) ∧
    (l6 = false → X = W.drew) ∧ (l6 = true → s43 = .int .i64 0 ∧ PurAt X x.p x.pf x.pm (U.dHold k col).2 ∧ Chg [x.p, x.pf, x.pm] W.drew X) ∧ (l7 = true → s10 = .int .i64 0) ∧
    (l1 = true → l0 = true) ∧ (l2 = true → l1 = true) ∧ (l3 = true → l2 = true) ∧ (l6 = true → l3 = true ∧ l4 = true ∧ l5 = true) ∧ (l7 = true → l6 = true)
theorem arr20 {ad : Array Value} (h : ad.size = 20) : ∃ a0 a1 a2 a3 a4 a5 a6 a7 a8 a9 a10 a11 a12 a13 a14 a15 a16 a17 a18 a19, ad = #[a0, a1, a2, a3, a4, a5, a6, a7, a8, a9, a10, a11, a12, a13, a14, a15, a16, a17, a18, a19] := by
  obtain ⟨l⟩ := ad
  match l, h with
  | [a0, a1, a2, a3, a4, a5, a6, a7, a8, a9, a10, a11, a12, a13, a14, a15, a16, a17, a18, a19], _ => exact ⟨_, _, _, _, _, _, _, _, _, _, _, _, _, _, _, _, _, _, _, _, rfl⟩
theorem cs_lit (k : Int) (col : Nat) (a0 a1 a2 a3 a4 a5 a6 a7 a8 a9 a10 a11 a12 a13 a14 a15 a16 a17 a18 a19 : Value) : Vt.cs ⟨k, #[a0, a1, a2, a3, a4, a5, a6, a7, a8, a9, a10, a11, a12, a13, a14, a15, a16, a17, a18, a19], col, 0, 0, 0, 0, false⟩ = #[.int .u8 k, a0, a1, a2, a3, a4, a5, a6, a7, a8, a9, a10, a11, a12, a13, a14, a15, a16, a17, a18, a19, .int .u64 col, .int .u64 0, .int .u64 0, .int .u64 0, .int .u64 0, .bool false] := by
  simp [Vt.cs]
theorem b_not {p : Bool} (h : p = true → False) : p = false := by
  cases p with
  | false => rfl
  | true => exact (h rfl).elim
set_option maxRecDepth 100000 in
set_option maxHeartbeats 4000000 in
theorem book_Register0 (x : Lc) (B : Bk) (k : Int) (ad : Array Value) (col : Nat) (had : ad.size = 20) (hone : ad.all (·.oneCell') = true) (hk : (Lit.int .u8 k).wf = true) (hcol : col ≤ 4611686018427387904) (h0 : ∀ k, B.f k = none) (hc0 : B.cnt = 0) (ok : PurOk B.U) (w : World) (h : BkAt w x B)
    (hE : (B.U.dHold k col).1 = 0) :
    Calls Tryz.prog 15 #[.pointer (some ⟨x.b, 0, none⟩), .int .u8 k, .agg ad, .int .u64 col] w fun e w' => e = .returned (.int .i64 0) ∧ BkAt w' x (({ B with U := (B.U.dHold k col).2 } : Bk).put ⟨k, ad, col, 0, 0, 0, 0, false⟩) ∧ Chg x.all w w' := by
  have hrt := Amount_Right col
  rw [show decide ((col : Int) ≤ 4611686018427387904) = true by simp; omega] at hrt
  refine (callsIn_wide (n := 3)).1 ?_
  refine callsIn_of_wp_marks Tryz.func15 rfl trivial ?_ rfl
  simp only [Tryz.ntmps15, List.size_toArray, List.length_cons, List.length_nil, Nat.reduceAdd, Nat.reduceSub, Array.replicate_succ, Array.replicate_zero, List.push_toArray, List.append_toArray, List.nil_append, List.cons_append]
  gi_wp2_with (refine And.intro trivial ?_; gi_at_call 51; refine (callsIn_of (hrt _)).mono ?_; rintro e w' ⟨rfl, rfl⟩)
  refine And.intro trivial ?_
  refine (callsIn_of (book_Vaults x _)).mono ?_
  rintro e w2 ⟨rfl, hw2⟩
  have hA := h.same ((((Chg.refl [] w).alloc (.cells #[.int .u8 k] 45)).alloc (.cells ad 48)).alloc (.cells #[.int .i64 0] 33))
  have kA : Chg [] w (((w.alloc (.cells #[.int .u8 k] 45)).alloc (.cells ad 48)).alloc (.cells #[.int .i64 0] 33)) := (((Chg.refl [] w).alloc _).alloc _).alloc _
  have b5 := ((Blk.new w #[.int .u8 k] 45).alloc (.cells ad 48)).alloc (.cells #[.int .i64 0] 33)
  have b6 := (Blk.new (w.alloc (.cells #[.int .u8 k] 45)) ad 48).alloc (.cells #[.int .i64 0] 33)
  have b8 := Blk.new ((w.alloc (.cells #[.int .u8 k] 45)).alloc (.cells ad 48)) #[.int .i64 0] 33
  have s6 : (w.alloc (.cells #[.int .u8 k] 45)).heap.size = w.heap.size + 1 := by simp
  have s8 : ((w.alloc (.cells #[.int .u8 k] 45)).alloc (.cells ad 48)).heap.size = w.heap.size + 1 + 1 := by simp
  rw [s6] at b6
  rw [s8] at b8
  generalize ((w.alloc (.cells #[.int .u8 k] 45)).alloc (.cells ad 48)).alloc (.cells #[.int .i64 0] 33) = wA at hA kA b5 b6 b8 hw2 ⊢
  have hbv := Blk.new wA #[.pointer (some ⟨x.b, 0, none⟩)] 32
  have k2 : Chg [] wA w2 := by rw [hw2]; exact (Chg.refl _ _).alloc _
  rw [← hw2] at hbv
  clear hw2
  have h2 := hA.same k2
  have hks : KeysW (fun k => (B.f k).map (fun v => Value.agg v.cs)) [] := ⟨List.Pairwise.nil, fun y => by simp [h0]⟩
  have hok : B.ok := fun k v e => by rw [h0] at e; cases e
  have hseq := book_Vaults1 2 (by omega) [] [] wA.heap.size x B hok [] hks (by omega) (by simp) w2 hbv h2 ⟨by simp, fun k h => by rcases h with h | h | ⟨B, hB, _⟩ <;> simp_all⟩ (fun h => by rcases h with h | h | ⟨B, hB, _⟩ <;> simp_all) (fun h => by rcases h with h | h | ⟨B, hB, _⟩ <;> simp_all) (fun h => by rcases h with h | h | ⟨B, hB, _⟩ <;> simp_all)
  dsimp only
  gi_wp2
  refine wpIn_rangeFunc_ownH rfl (by omega) (gf := 90) (lb := #[.pointer (some ⟨wA.heap.size, 0, none⟩)]) rfl trivial (enters_of Tryz.func90 (by kernel_rfl) rfl) hseq Kp.trans' (kp_b (by simp)) (Below.refl _ _) (fun _ => rfl)
    (fun _ W => Below w2.heap.size w2 W) (fun _ _ _ => False) ?hI ?hIx ?h0 (fun _ _ _ => True) ?hAx ?assign ?body ?done ?stop
  case hI => exact ownFrom_below (Nat.le_refl _) (by simp)
  case hIx => exact fun _ _ _ _ _ hs _ _ => hs
  case h0 => exact Below.refl _ _
  case hAx => exact fun _ _ _ _ _ _ _ _ _ => trivial
  case body => exact fun _ _ _ _ _ _ _ _ _ h => absurd h (by simp)
  case stop => exact fun _ _ _ _ _ _ h => h.elim
  case assign =>
    rintro l pre v W K hB hK
    have hz := zVault
    have hsz := v.1.size v.2.1
    have hst := run_storeCells_new (P := Tryz.prog) W 52 zVt v.1.cs (by rw [hsz]; kernel_rfl) (by rw [hsz]; rfl) v.2.one
    gi_wp2
    exact hK _ _ ((KeepsOthers.alloc W _).from _) (kp_alloc W _) (hB.alloc hB.size _) trivial
  case done =>
    rintro D xs W hD hS hB hD0
    have k3 : Chg [] wA W := k2.trans (Chg.of_below hB) (by simp)
    have h3 := hA.same k3
    have hp := h3.c17
    have hpu := h3.c13
    have hlen := fun ty => h3.vm.len Tryz.underlying95 ty
    rw [hc0] at hlen
    have e5 := b5.chg k3 (by simp)
    have e6 := b6.chg k3 (by simp)
    have e8 := b8.chg k3 (by simp)
    have c5 := e5.cell 0 (v := .int .u8 k) rfl
    have c8 := e8.cell 0 (v := .int .i64 0) rfl
    gi_wp2
    have hpd : W.drew.cell? ⟨x.b, 13, none⟩ = some (.pointer (some ⟨x.p, 0, none⟩)) := hpu
    have c5d : W.drew.cell? ⟨w.heap.size, 0, none⟩ = some (.int .u8 k) := c5
    have kd : Chg [] W W.drew := (Chg.refl _ _).drew
    have hhold := purse_Hold x.p x.pf x.pm B.U k col W.drew (h3.pur.same kd) ok hk (by omega)
    rw [hE] at hhold
    --HOLD
    refine wpIn_region_any (by kernel_rfl) ?_
    refine wpAnyIn_inv (InvR x wA.heap.size w.heap.size D k col ad B.U W) (by kernel_rfl) ?hst ?hdn _ _ _ _ (by decide) ?hin
    case hin =>
      exact ⟨false, false, false, false, false, false, false, false, undef, undef, undef, undef, undef, undef, undef, undef, W.drew, rfl, rfl, rfl, (fun h => by cases h), (fun h => by cases h), (fun h => by cases h), (fun h => by cases h), (fun h => by cases h), (fun h => by cases h), (fun _ => rfl), (fun h => by cases h), (fun h => by cases h), (fun h => by cases h), (fun h => by cases h), (fun h => by cases h), (fun h => by cases h), (fun h => by cases h)⟩
    case hst =>
      rintro listed a w9 i o ⟨l0, l1, l2, l3, l4, l5, l6, l7, s10, s37, s38, s39, s40, s41, s42, s43, X, rfl, rfl, rfl, q0, q1, q2, q3, q4, q5, w0, w1, q7, c1, c2, c3, c6, c7⟩ ho hun hpre K hK
      have hi : i < 8 := (Array.getElem?_eq_some_iff.1 ho).1
      match i, hi with
      | 0, _ =>
        obtain rfl := Option.some.inj ho
        obtain rfl : l0 = false := hun
        have e1 : l1 = false := b_not (fun h => by simpa using c1 h)
        subst e1
        have e2 : l2 = false := b_not (fun h => by simpa using c2 h)
        subst e2
        have e3 : l3 = false := b_not (fun h => by simpa using c3 h)
        subst e3
        have e6 : l6 = false := b_not (fun h => by simpa using (c6 h).1)
        subst e6
        have e7 : l7 = false := b_not (fun h => by simpa using c7 h)
        subst e7
        obtain rfl := w0 rfl
        rw [if_pos (by rfl)]
        go_simp
        refine hK _ _ ⟨true, false, false, false, l4, l5, false, false, _, _, _, _, _, _, _, _, W.drew, rfl, rfl, rfl, (fun _ => rfl), (by first | exact q1 | exact fun _ => rfl), (by first | exact q2 | exact fun _ => rfl), (by first | exact q3 | exact fun _ => rfl), (by first | exact q4 | exact fun _ => rfl), (by first | exact q5 | exact fun _ => rfl), (fun _ => rfl), (fun h => by cases h), (fun h => by cases h), (fun h => by cases h), (fun h => by cases h), (fun h => by cases h), (fun h => by cases h), (fun h => by cases h)⟩
      | 1, _ =>
        obtain rfl := Option.some.inj ho
        obtain rfl : l1 = false := hun
        have p0 : l0 = true := hpre { on := 0, ground := .data } (by simp) rfl
        subst p0
        have e2 : l2 = false := b_not (fun h => by simpa using c2 h)
        subst e2
        have e3 : l3 = false := b_not (fun h => by simpa using c3 h)
        subst e3
        have e6 : l6 = false := b_not (fun h => by simpa using (c6 h).1)
        subst e6
        have e7 : l7 = false := b_not (fun h => by simpa using c7 h)
        subst e7
        obtain rfl := q0 rfl
        obtain rfl := w0 rfl
        rw [if_pos (by rfl)]
        go_simp
        refine hK _ _ ⟨true, true, false, false, l4, l5, false, false, _, _, _, _, _, _, _, _, W.drew, rfl, rfl, rfl, (fun _ => rfl), (fun _ => rfl), (by first | exact q2 | exact fun _ => rfl), (by first | exact q3 | exact fun _ => rfl), (by first | exact q4 | exact fun _ => rfl), (by first | exact q5 | exact fun _ => rfl), (fun _ => rfl), (fun h => by cases h), (fun h => by cases h), (fun _ => rfl), (fun h => by cases h), (fun h => by cases h), (fun h => by cases h), (fun h => by cases h)⟩
      | 2, _ =>
        obtain rfl := Option.some.inj ho
        obtain rfl : l2 = false := hun
        have p1 : l1 = true := hpre { on := 1, ground := .data } (by simp) rfl
        subst p1
        have e3 : l3 = false := b_not (fun h => by simpa using c3 h)
        subst e3
        have e6 : l6 = false := b_not (fun h => by simpa using (c6 h).1)
        subst e6
        have e7 : l7 = false := b_not (fun h => by simpa using c7 h)
        subst e7
        obtain rfl := q1 rfl
        obtain rfl := w0 rfl
        rw [if_pos (by rfl)]
        go_simp
        refine hK _ _ ⟨l0, true, true, false, l4, l5, false, false, _, _, _, _, _, _, _, _, W.drew, rfl, rfl, rfl, (by first | exact q0 | exact fun _ => rfl), (fun _ => rfl), (fun _ => rfl), (by first | exact q3 | exact fun _ => rfl), (by first | exact q4 | exact fun _ => rfl), (by first | exact q5 | exact fun _ => rfl), (fun _ => rfl), (fun h => by cases h), (fun h => by cases h), c1, (fun _ => rfl), (fun h => by cases h), (fun h => by cases h), (fun h => by cases h)⟩
      | 3, _ =>
        obtain rfl := Option.some.inj ho
        obtain rfl : l3 = false := hun
        have p2 : l2 = true := hpre { on := 2, ground := .data } (by simp) rfl
        subst p2
        have e6 : l6 = false := b_not (fun h => by simpa using (c6 h).1)
        subst e6
        have e7 : l7 = false := b_not (fun h => by simpa using c7 h)
        subst e7
        obtain rfl := q2 rfl
        obtain rfl := w0 rfl
        rw [if_pos (by rfl)]
        go_simp
        refine hK _ _ ⟨l0, l1, true, true, l4, l5, false, false, _, _, _, _, _, _, _, _, W.drew, rfl, rfl, rfl, (by first | exact q0 | exact fun _ => rfl), (by first | exact q1 | exact fun _ => rfl), (fun _ => rfl), (fun _ => rfl), (by first | exact q4 | exact fun _ => rfl), (by first | exact q5 | exact fun _ => rfl), (fun _ => rfl), (fun h => by cases h), (fun h => by cases h), c1, c2, (fun _ => rfl), (fun h => by cases h), (fun h => by cases h)⟩
      | 4, _ =>
        obtain rfl := Option.some.inj ho
        obtain rfl : l4 = false := hun
        have e6 : l6 = false := b_not (fun h => by simpa using (c6 h).2.1)
        subst e6
        have e7 : l7 = false := b_not (fun h => by simpa using c7 h)
        subst e7
        obtain rfl := w0 rfl
        rw [if_pos (by rfl)]
        go_simp
        refine hK _ _ ⟨l0, l1, l2, l3, true, l5, false, false, _, _, _, _, _, _, _, _, W.drew, rfl, rfl, rfl, (by first | exact q0 | exact fun _ => rfl), (by first | exact q1 | exact fun _ => rfl), (by first | exact q2 | exact fun _ => rfl), (by first | exact q3 | exact fun _ => rfl), (fun _ => rfl), (by first | exact q5 | exact fun _ => rfl), (fun _ => rfl), (fun h => by cases h), (fun h => by cases h), c1, c2, c3, (fun h => by cases h), (fun h => by cases h)⟩
      | 5, _ =>
        obtain rfl := Option.some.inj ho
        obtain rfl : l5 = false := hun
        have e6 : l6 = false := b_not (fun h => by simpa using (c6 h).2.2)
        subst e6
        have e7 : l7 = false := b_not (fun h => by simpa using c7 h)
        subst e7
        obtain rfl := w0 rfl
        rw [if_pos (by rfl)]
        go_simp
        refine hK _ _ ⟨l0, l1, l2, l3, l4, true, false, false, _, _, _, _, _, _, _, _, W.drew, rfl, rfl, rfl, (by first | exact q0 | exact fun _ => rfl), (by first | exact q1 | exact fun _ => rfl), (by first | exact q2 | exact fun _ => rfl), (by first | exact q3 | exact fun _ => rfl), (by first | exact q4 | exact fun _ => rfl), (fun _ => rfl), (fun _ => rfl), (fun h => by cases h), (fun h => by cases h), c1, c2, c3, (fun h => by cases h), (fun h => by cases h)⟩
      | 6, _ =>
        obtain rfl := Option.some.inj ho
        obtain rfl : l6 = false := hun
        have p3 : l3 = true := hpre { on := 3, ground := .data } (by simp) rfl
        subst p3
        have p4 : l4 = true := hpre { on := 4, ground := .data } (by simp) rfl
        subst p4
        have p5 : l5 = true := hpre { on := 5, ground := .data } (by simp) rfl
        subst p5
        have e7 : l7 = false := b_not (fun h => by simpa using c7 h)
        subst e7
        obtain rfl := q3 rfl
        obtain rfl := q4 rfl
        obtain rfl := q5 rfl
        obtain rfl := w0 rfl
        rw [if_pos (by rfl)]
        go_simp
        refine And.intro trivial ?_
        gi_at_call 52
        refine (callsIn_of hhold).mono ?_
        rintro e w4 ⟨rfl, hU4, k4⟩
        refine hK _ _ ⟨l0, l1, l2, true, true, true, true, false, _, _, _, _, _, _, _, _, w4, rfl, rfl, rfl, (by first | exact q0 | exact fun _ => rfl), (by first | exact q1 | exact fun _ => rfl), (by first | exact q2 | exact fun _ => rfl), (fun _ => rfl), (fun _ => rfl), (fun _ => rfl), (fun h => by cases h), (fun _ => ⟨rfl, hU4, k4⟩), (fun h => by cases h), c1, c2, c3, (fun _ => ⟨rfl, rfl, rfl⟩), (fun h => by cases h)⟩
      | 7, _ =>
        obtain rfl := Option.some.inj ho
        obtain rfl : l7 = false := hun
        have p6 : l6 = true := hpre { on := 6, ground := .data } (by simp) rfl
        subst p6
        obtain ⟨rfl, hU4, k4⟩ := w1 rfl
        rw [if_pos (by rfl)]
        go_simp
        refine hK _ _ ⟨l0, l1, l2, l3, l4, l5, true, true, _, _, _, _, _, _, _, _, _, rfl, rfl, rfl, (by first | exact q0 | exact fun _ => rfl), (by first | exact q1 | exact fun _ => rfl), (by first | exact q2 | exact fun _ => rfl), (by first | exact q3 | exact fun _ => rfl), (by first | exact q4 | exact fun _ => rfl), (by first | exact q5 | exact fun _ => rfl), (fun h => by cases h), (fun _ => ⟨rfl, hU4, k4⟩), (fun _ => rfl), c1, c2, c3, c6, (fun _ => rfl)⟩
      | i + 8, hi => omega
    case hdn =>
      rintro listed a w9 ⟨l0, l1, l2, l3, l4, l5, l6, l7, s10, s37, s38, s39, s40, s41, s42, s43, X, rfl, rfl, rfl, q0, q1, q2, q3, q4, q5, w0, w1, q7, c1, c2, c3, c6, c7⟩ hall
      obtain rfl : l7 = true := hall 7 (by decide)
      obtain rfl := c7 rfl
      obtain ⟨rfl, hU4, k4⟩ := w1 rfl
      obtain rfl := q7 rfl
      clear q0 q1 q2 q3 q4 q5 w0 w1 q7 c1 c2 c3 c6 c7 hall
      --TAIL
      have lp := h.pur.blk.lt
      have lpl := h.pur.led.lt
      have n5 : w.heap.size ∉ [x.p, x.pf, x.pm] := by simp; omega
      have n6 : w.heap.size + 1 ∉ [x.p, x.pf, x.pm] := by simp; omega
      have n8 : w.heap.size + 1 + 1 ∉ [x.p, x.pf, x.pm] := by simp; omega
      have f5 := (e5.chg kd (by simp)).chg k4 n5
      have f6 := (e6.chg kd (by simp)).chg k4 n6
      have f8 := (e8.chg kd (by simp)).chg k4 n8
      have g5 := f5.cell 0 (v := .int .u8 k) rfl
      have g8 := f8.cell 0 (v := .int .i64 0) rfl
      have g8f := f8.free 0
      have hld := load_blk f6 20 had
      obtain ⟨a0, a1, a2, a3, a4, a5, a6, a7, a8, a9, a10, a11, a12, a13, a14, a15, a16, a17, a18, a19, rfl⟩ := arr20 had
      gi_wp2
      refine And.intro trivial ?_
      have kD : Chg [x.p, x.pf, x.pm] W w9 := (Chg.mono kd (by simp)).trans k4 (by simp)
      have hnd := h.nd
      simp only [Lc.all, List.nodup_cons, List.mem_cons, List.not_mem_nil, or_false, not_or] at hnd
      obtain ⟨⟨q1, q2, q3, q4, q5, q6, q7⟩, ⟨q8, q9, q10, q11, q12, q13⟩, ⟨q14, q15, q16, q17, q18⟩, ⟨q19, q20, q21, q22⟩, ⟨q23, q24, q25⟩, ⟨q26, q27⟩, q28, -⟩ := hnd
      have h9 : BkAt w9 x { B with U := (B.U.dHold k col).2 } :=
        ⟨h3.blk.chg kD (by simp [q3, q4, q5]), h3.led.chg kD (by simp [q9, q10, q11]) (by simp [q14, q15, q16]), hU4, h3.fd.chg kD (by simp [Ne.symm q21, Ne.symm q24, Ne.symm q26]), h3.vm.chg kD (by simp [Ne.symm q22, Ne.symm q25, Ne.symm q27]), h3.nd⟩
      have hput := book_put x { B with U := (B.U.dHold k col).2 } ⟨k, #[a0, a1, a2, a3, a4, a5, a6, a7, a8, a9, a10, a11, a12, a13, a14, a15, a16, a17, a18, a19], col, 0, 0, 0, 0, false⟩ rfl hk (by simp [hc0]) w9 h9
      rw [cs_lit] at hput
      refine (callsIn_of hput).mono ?_
      rintro e w10 ⟨rfl, h10, k10⟩
      have hv8 : w.heap.size + 1 + 1 ∉ [x.vm] := by have := h.vm.lt; simp; omega
      have r8 := f8.chg k10 hv8
      have r8c := r8.cell 0 (v := .int .i64 0) rfl
      have r8f := r8.free 0
      dsimp only
      gi_wp2
      have lw2 := k2.size
      have sA := b8.lt
      have sW := k3.size
      have ltl := h.led.lt
      have ltb := h.blk.lt
      have ltf := Blk.lt h.fd
      have ltv := h.vm.lt
      have hDlt : D < W.heap.size := (Array.getElem?_eq_some_iff.1 hD0).1
      have kz : Chg [x.p, x.pf, x.pm, x.vm] W w10 := (Chg.mono kD (by simp)).trans k10 (by simp)
      have nD : D ∉ [x.p, x.pf, x.pm, x.vm] := by simp only [List.mem_cons, List.not_mem_nil, or_false, not_or]; omega
      have hDz : (w10.setCell ⟨w.heap.size + 1 + 1, 0, none⟩ (.int .i64 0)).heap[D]? = some (.deferred (some [])) := (Below.heap_setCell _ _ _ D (by show D ≠ w.heap.size + 1 + 1; omega)).trans ((kz.block D hDlt nD).trans hD0)
      have kq : Chg [D, w.heap.size + 1 + 1] w10 ((w10.setCell ⟨w.heap.size + 1 + 1, 0, none⟩ (.int .i64 0)).putObj D (.deferred none)) := ((Chg.refl _ _).setCell (.inl (by simp)) _).grown (grownBy_putObj' _ D _) (fun k e => .inl (by cases e; simp))
      refine ⟨by simp, .inl ⟨_, _, rfl, run_takeDeferred hDz, ?_⟩⟩
      have rq : Blk ((w10.setCell ⟨w.heap.size + 1 + 1, 0, none⟩ (.int .i64 0)).putObj D (.deferred none)) (w.heap.size + 1 + 1) #[.int .i64 0] 33 := ((r8.set 0 (.int .i64 0)).grown (grownBy_putObj' _ D _) (fun e => by cases e; omega))
      have rqc := rq.cell 0 (v := .int .i64 0) rfl
      refine ⟨_, by simp [results, Tryz.results15, go_sem, rqc], rfl, h10.chg kq (by simp only [Lc.all, List.mem_cons, List.not_mem_nil, or_false, not_or]; omega), ?_⟩
      have kx : Chg x.all w W := (Chg.mono kA (by simp)).trans k3 (by simp)
      exact ((kx.trans kz (by simp [Lc.all])).trans kq (by simp only [List.mem_cons, List.not_mem_nil, or_false]; omega))
    --HOLDEND
end Go.Proofs.YtackdgbcmeafhaaGreat

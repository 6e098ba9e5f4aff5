/- pontageref03: digit, trim, Add, Sub, Cmp, Of. -/
import Derived.Test.YtbagkfeodjkdmaaDigsOver
namespace Go.Proofs.Ytbagkfeodjkdmaa
open Go.RowKit Go.Maps Go.Shelf

theorem infoU : (Try.prog.info? 23).map (fun i => (i.zero, i.size, i.bytes)) = some (some (.int .u64 0), 1, 8) := by kernel_rfl

theorem SlI.cut {W : World} {kq : IntKind} {a : Option Addr} {n cap : Nat} {l : List Int} (h : SlI W kq (.slice a n cap) l) {k : Nat} (hk : k ≤ l.length) : SlI W kq (.slice a k cap) (l.take k) := by
  rcases h with ⟨e, rfl⟩ | ⟨b, off, cap', cs, t, e, hb, hc⟩
  · cases e
    obtain rfl : k = 0 := by simpa using hk
    exact .inl ⟨rfl, by simp⟩
  · cases e
    refine .inr ⟨b, off, cap, cs, t, by simp [Nat.min_eq_left hk], hb, fun i hi => ?_⟩
    have hi' : i < l.length := by simp at hi; omega
    rw [hc i hi']; simp

/-- a slice of digits. -/
structure DgAt (w : World) (v : Value) (l : List Int) : Prop where
  sl : SlI w .u64 v l
  cap : capOk v
  dg : Dg l
  len : l.length ≤ 100000
theorem DgAt.chg {w w' : World} {v : Value} {l : List Int} {S : List Nat} (h : DgAt w v l) (c : Chg S w w') (hS : ∀ b ∈ S, ¬ inBlk v b) : DgAt w' v l := ⟨h.sl.chg c hS, h.cap, h.dg, h.len⟩
theorem DgAt.same {w w' : World} {v : Value} {l : List Int} (h : DgAt w v l) (c : Chg [] w w') : DgAt w' v l := h.chg c (by simp)
/-- a number. -/
def NAt (w : World) (v : Value) (n : Nat) : Prop := DgAt w v (digs n)
theorem NAt.same {w w' : World} {v : Value} {n : Nat} (h : NAt w v n) (c : Chg [] w w') : NAt w' v n := DgAt.same h c

set_option maxHeartbeats 400000 in
theorem ref_digit (a : Option Addr) (cap : Nat) (l : List Int) (i : Nat) (w : World) (h : SlI w .u64 (.slice a l.length cap) l) :
    Calls Try.prog 142 #[.slice a l.length cap, .int .i64 i] w fun e w' => e = .returned (.int .u64 (dig l i)) ∧ w' = w := by
  by_cases hi : i < l.length
  · obtain ⟨b, off, rfl, hc⟩ := h.cell hi
    rw [dig_lt hi]
    generalize l[i] = x at hc ⊢
    go_enter Try.func142, Try.ntmps142
    go_wp2
    go_ret
    exact ⟨rfl, rfl⟩
  · rw [dig_ge (by omega)]
    go_enter Try.func142, Try.ntmps142
    go_wp2
    go_ret
    exact ⟨rfl, rfl⟩

theorem take_lt {l : List Int} {k : Nat} (hk : k ≤ l.length) (hz : ∀ i, k ≤ i → dig l i = 0) : val (l.take k) = val l := by
  have := val_drop l k
  have h2 : val (l.drop k) = val (([] : List Int).drop k) := val_drop_eq (fun j hj => by rw [hz j hj]; simp [dig])
  rw [h2] at this
  simp [val] at this
  omega

set_option maxRecDepth 100000 in
set_option maxHeartbeats 1000000 in
/-- without noughts at the end. -/
theorem ref_trim (v : Value) (l : List Int) (w : World) (h : DgAt w v l) :
    Calls Try.prog 143 #[v] w fun e w' => ∃ u, e = .returned u ∧ DgAt w' u (digs (val l).toNat) ∧ (∀ b, inBlk u b → inBlk v b) ∧ w' = w := by
  obtain ⟨a, cap, rfl⟩ := h.sl.len
  have hcap := h.cap _ _ _ rfl
  have hlen := h.len
  go_enter Try.func143, Try.ntmps143
  go_wp2
  go_loopw [0] (fun s0 wr => ∃ k : Nat, s0 = .slice a k cap ∧ k ≤ l.length ∧ (∀ i, k ≤ i → dig l i = 0) ∧ wr = w) (fun s0 _ => match s0 with | .slice _ k _ => k | _ => 0)
  case atStart => exact ⟨l.length, rfl, Nat.le_refl _, fun i hi => dig_ge hi, rfl⟩
  case round =>
    obtain ⟨k, rfl, hk, hz, rfl⟩ := hrel
    have fin : (k = 0 ∨ dig l (k - 1) ≠ 0) → DgAt wr (.slice a k cap) (digs (val l).toNat) := fun hc => by
      have h1 := h.sl.cut hk
      have hv := take_lt hk hz
      have hcan := canon (h.dg.take k) (by
        rcases hc with hc | hc
        · left; subst hc; simp
        · by_cases hk0 : k = 0
          · left; subst hk0; simp
          · right
            rw [List.length_take, Nat.min_eq_left hk]
            have : dig (l.take k) (k - 1) = dig l (k - 1) := by simp [dig, List.getElem?_take_of_lt (show k - 1 < k by omega)]
            rwa [this])
      rw [hv] at hcan
      refine ⟨by rw [← hcan]; exact h1, ?_, by rw [← hcan]; exact h.dg.take k, by rw [← hcan, List.length_take]; omega⟩
      intro a' n c e; cases e; omega
    have FIN := Lib.hid fin
    clear fin
    by_cases h0 : k = 0
    · subst h0
      go_wp2
      go_ret
      exact ⟨_, rfl, FIN.out (by simp), fun b hb => by obtain ⟨o, n, c, e⟩ := hb; cases e; exact ⟨o, _, _, rfl⟩, rfl⟩
    · obtain ⟨b, off, rfl, hc⟩ := h.sl.cell (i := k - 1) (by omega)
      have hkk : ((k - 1 : Nat) : Int) = (k : Int) - 1 := by omega
      have hdl : dig l (k - 1) = l[k - 1] := dig_lt (by omega)
      by_cases hd : dig l (k - 1) = 0
      · rw [hdl] at hd
        rw [hd] at hc
        have hk1 : 0 < k := by omega
        go_wp2
        go_roundw
        case rel =>
          refine ⟨k - 1, by congr 1, by omega, fun i hi => ?_, trivial⟩
          by_cases e : i = k - 1
          · rw [e, hdl]; exact hd
          · exact hz i (by omega)
        case measure => simp; omega
      · have hx : (l[k - 1] == 0) = false := by rw [← hdl]; simpa using hd
        have hk1 : 0 < k := by omega
        have FIN2 := Lib.hid (FIN.out (.inr hd))
        clear FIN hd hdl
        generalize l[k - 1] = x at hc hx
        go_wp2
        go_ret
        exact ⟨_, rfl, FIN2.out, fun b hb => by obtain ⟨o, n, c, e⟩ := hb; cases e; exact ⟨_, _, _, rfl⟩, rfl⟩

theorem ownsRow_chg' {w w' : World} {n₀ : Nat} {e : TypeId} {sz : Nat} {v : Value} {k : Nat} {xs : List Value} {S : List Nat} (h : w.ownsRow n₀ e sz v k xs) (c : Chg S w w') (hS : ∀ g, v.ownBlock = some g → g ∉ S) : w'.ownsRow n₀ e sz v k xs := by
  obtain ⟨h1, h2⟩ := h
  refine ⟨h1, h2.imp id ?_⟩
  rintro ⟨g, cap, cur, rfl, hb, hg, r⟩
  exact ⟨g, cap, cur, rfl, hb, (c.block g (Array.getElem?_eq_some_iff.1 hg).1 (hS g rfl)).trans hg, r⟩
theorem ownsRow_empty (w : World) (n₀ : Nat) (e : TypeId) (h : n₀ ≤ w.heap.size) : (w.alloc (.cells #[] e)).ownsRow n₀ e 1 (.slice (some ⟨w.heap.size, 0, none⟩) 0 0) 0 [] :=
  ⟨rfl, .inr ⟨w.heap.size, 0, #[], rfl, h, Blk.new w #[] e, Nat.le_refl _, Nat.zero_le _, rfl, rfl⟩⟩
theorem ownsRow_ge {w : World} {n₀ : Nat} {e : TypeId} {sz : Nat} {v : Value} {k : Nat} {xs : List Value} (h : w.ownsRow n₀ e sz v k xs) {g : Nat} (hg : v.ownBlock = some g) : n₀ ≤ g := by
  rcases h.2 with ⟨rfl, _⟩ | ⟨g', cap, cur, rfl, hb, hgb, _⟩
  · cases hg
  · simp [Value.ownBlock] at hg; subst hg; exact hb
theorem DgAt.of_own {w : World} {n₀ : Nat} {v : Value} {o : List Int} (h : w.ownsRow n₀ 23 1 v o.length (o.map (Value.int .u64))) (hd : Dg o) (hl : o.length ≤ 100000) : DgAt w v o ∧ ∀ k, inBlk v k → n₀ ≤ k := by
  obtain ⟨h1, h2⟩ := SlI.of_own h
  refine ⟨⟨h1, ?_, hd, hl⟩, h2⟩
  intro a n c e
  rcases h.2 with ⟨e', _⟩ | ⟨g, cap, cur, e', _, _, h1, _⟩
  · rw [e'] at e; cases e; omega
  · rw [e'] at e; cases e; exact h1
/-- what an append to a row of the call's own changes. -/
theorem chg_app {w w1 w2 : World} {v : Value} {n₀ : Nat} {e : TypeId} {sz k : Nat} {xs : List Value} {o : Obj} (hc : Chg [] w w1) (hn : w.heap.size ≤ n₀) (hrow : w1.ownsRow n₀ e sz v k xs) (hg : (w1.alloc o).grownBy w2 v.ownBlock) : Chg [] w w2 :=
  (hc.alloc o).grown hg (fun k e => .inr (Nat.le_trans hn (ownsRow_ge hrow e)))

theorem add_step {vo c A B P da db : Int} (h : vo + P * c = A + B) : vo + P * ((c + da + db) % 65536) + 65536 * P * ((c + da + db) / 65536) = (A + P * da) + (B + P * db) := by
  have h1 : c + da + db = (c + da + db) % 65536 + 65536 * ((c + da + db) / 65536) := by omega
  have h2 : P * (c + da + db) = P * ((c + da + db) % 65536) + P * (65536 * ((c + da + db) / 65536)) := by rw [← Int.mul_add, ← h1]
  rw [Int.mul_add, Int.mul_add] at h2
  have h3 : 65536 * P * ((c + da + db) / 65536) = P * (65536 * ((c + da + db) / 65536)) := by rw [Int.mul_comm 65536 P, Int.mul_assoc]
  rw [h3]; omega

set_option maxRecDepth 100000 in
set_option maxHeartbeats 2000000 in
theorem ref_Add (va vb : Value) (a b : List Int) (w : World) (ha : DgAt w va a) (hb : DgAt w vb b) (hl : a.length ≤ 1000 ∧ b.length ≤ 1000) :
    Calls Try.prog 96 #[va, vb] w fun e w' => ∃ v, e = .returned v ∧ NAt w' v (val a + val b).toNat ∧ (∀ k, inBlk v k → w.heap.size ≤ k) ∧ Chg [] w w' := by
  obtain ⟨i0, hi, hz0, hz1, hz2⟩ := info_parts infoU
  obtain ⟨aa, ac, rfl⟩ := ha.sl.len
  obtain ⟨ba, bc, rfl⟩ := hb.sl.len
  obtain ⟨l1, l2⟩ := hl
  obtain ⟨M, hM1, hM2, hM3⟩ : ∃ M : Nat, a.length ≤ M ∧ b.length ≤ M ∧ (M = a.length ∨ M = b.length) := ⟨max a.length b.length, by omega, by omega, by omega⟩
  have hrow0 := ownsRow_empty w w.heap.size 23 (Nat.le_refl _)
  have hc0 : Chg [] w (w.alloc (.cells #[] 23)) := (Chg.refl [] w).alloc _
  have hlt : ∀ {i : Nat} {x y : List Int}, i < x.length ∨ i < y.length ∨ True := fun {i x y} => .inr (.inr trivial)
  clear hlt
  go_enter Try.func96, Try.ntmps96
  go_wp2
  generalize w.alloc (.cells #[] 23) = w0 at hrow0 hc0 ⊢
  obtain ⟨s, hs⟩ : ∃ s, s = w.heap.size := ⟨_, rfl⟩
  have hs' := Lib.hid hs
  simp only [← hs] at hrow0 ⊢
  clear hs
  go_loopw [5, 6, 7] (fun s5 s6 s7 wr => ∃ (v : Value) (o : List Int) (c : Int) (i : Nat), v = s5 ∧ s6 = .int .u64 c ∧ s7 = .int .i64 i ∧ wr.ownsRow s 23 1 v o.length (o.map (Value.int .u64)) ∧ o.length = i ∧ Dg o ∧ 0 ≤ c ∧ c ≤ 1 ∧
    val o + pw i * c = val (a.take i) + val (b.take i) ∧ (i ≤ M ∨ c = 0) ∧ i ≤ M + 1 ∧ Chg [] w wr) (fun _ _ s7 _ => M + 2 - (intOf s7).toNat)
  case atStart => exact ⟨_, [], 0, 0, rfl, rfl, rfl, hrow0, rfl, (fun d hd => by cases hd), Int.le_refl _, by omega, by simp [val], .inl (Nat.zero_le _), by omega, hc0⟩
  case round =>
    obtain ⟨v, o, c, i, rfl, rfl, rfl, hrow, hoi, hdo, hc1, hc2, hval, hiM, hiM2, hch⟩ := hrel
    have HV := Lib.hid hval
    clear hval
    have ha2 := ha.same hch
    have hb2 := hb.same hch
    by_cases hgo : i < a.length ∨ i < b.length ∨ 0 < c
    · have d1 := ref_digit aa ac a i wr ha2.sl
      have d2 := ref_digit ba bc b i wr hb2.sl
      have q1 := dig_bound ha.dg i
      have q2 := dig_bound hb.dg i
      have t1 := Lib.hid (val_take_succ a i)
      have t2 := Lib.hid (val_take_succ b i)
      have e0 := Lib.hid (fun h : M ≤ i => (⟨dig_ge (by omega), dig_ge (by omega)⟩ : dig a i = 0 ∧ dig b i = 0))
      generalize dig a i = da at *
      generalize dig b i = db at *
      obtain ⟨q, hq⟩ : ∃ q, q = c + da + db := ⟨_, rfl⟩
      have HQ := Lib.hid hq
      have hq0 : 0 ≤ c + da + db := by omega
      have hq1 : c + da + db < 200000 := by omega
      have hxx : 0 ≤ (c + da + db) % 65536 ∧ (c + da + db) % 65536 < 65536 := by omega
      clear hq
      have hrow' := hrow
      go_wp2_with fail
      all_goals
        refine d1.mono ?_
        rintro e w5 ⟨rfl, rfl⟩
        go_wp2_with fail
        refine d2.mono ?_
        rintro e w6 ⟨rfl, rfl⟩
        go_wp2_with (first
          | (at_builtin; refine wpList_append_own_at _ rfl _ _ 86 rfl s 23 i0 (.int .u64 0) 1 8 Try.underlying86 hi hz0 hz1 hz2 rfl (by decide) v _ _ rfl (hrow.alloc _) ⟨w6.heap.size, 0, none⟩ 1 1 [.int .u64 ((c + da + db) % 65536)] rfl rfl (cell_one_new _ _ _) (by simp [Value.oneCell']) (by unfold maxLen; omega) (by omega) (by have := hch.size; have := hs'.out; simp; omega) ?_; intro v' w10 hown' hgrow hnil' hloc)
          | go_in)
      all_goals
        go_roundw
        case rel =>
          refine ⟨v', o ++ [(c + da + db) % 65536], (c + da + db) / 65536, i + 1, rfl, rfl, by simp, by simpa using hown', by simp [hoi], hdo.append (fun d hd => by simp at hd; subst hd; exact hxx), by omega, by omega, ?_, ?_, by omega, chg_app hch (by rw [hs'.out]; exact Nat.le_refl _) hrow hgrow⟩
          · rw [val_snoc, hoi, t1.out, t2.out, pw]
            exact add_step HV.out
          · by_cases h : M ≤ i
            · right
              have h2 := e0.out h
              omega
            · left; omega
        case measure => simp [intOf]; omega
    · obtain ⟨g1, g2, g3⟩ : a.length ≤ i ∧ b.length ≤ i ∧ c = 0 := by omega
      subst g3
      have hv := HV.out
      rw [List.take_of_length_le g1, List.take_of_length_le g2, Int.mul_zero, Int.add_zero] at hv
      obtain ⟨hD, hin⟩ := DgAt.of_own hrow hdo (by omega)
      have htr := ref_trim v o wr hD
      rw [hv] at htr
      clear hv HV
      go_wp2_with (go_at_call 143; refine htr.mono ?_; rintro e w9 ⟨u, rfl, hu, huv, rfl⟩)
      go_ret
      exact ⟨u, rfl, hu, fun k hk => by have := hin k (huv k hk); have := hs'.out; omega, hch⟩
end Go.Proofs.Ytbagkfeodjkdmaa

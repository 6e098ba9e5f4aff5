import Derived.Test.YtbagkfeodjkdmaaRange
import Derived.Test.YtbagkfeodjkdmaaIter

/- Numbers as digits of 16 bits, the lowest first (plain). -/
namespace Go.Proofs.Ytbagkfeodjkdmaa

def val : List Int → Int
  | [] => 0
  | d :: t => d + 65536 * val t
def Dg (l : List Int) : Prop := ∀ d ∈ l, 0 ≤ d ∧ d < 65536
def digs (n : Nat) : List Int := if n = 0 then [] else ((n % 65536 : Nat) : Int) :: digs (n / 65536)
termination_by n
decreasing_by omega
theorem digs_zero : digs 0 = [] := by rw [digs, if_pos rfl]
theorem digs_pos {n : Nat} (h : n ≠ 0) : digs n = ((n % 65536 : Nat) : Int) :: digs (n / 65536) := by rw [digs, if_neg h]
theorem val_digs (n : Nat) : val (digs n) = n := by
  induction n using Nat.strongRecOn with
  | _ n ih =>
    by_cases h : n = 0
    · subst h; rw [digs_zero]; rfl
    · rw [digs_pos h, val, ih (n / 65536) (by omega)]; omega
theorem dg_digs (n : Nat) : Dg (digs n) := by
  induction n using Nat.strongRecOn with
  | _ n ih =>
    by_cases h : n = 0
    · subst h; rw [digs_zero]; intro d hd; cases hd
    · rw [digs_pos h]
      intro d hd
      rcases List.mem_cons.1 hd with rfl | hd
      · omega
      · exact ih (n / 65536) (by omega) d hd
theorem val_nonneg : ∀ {l : List Int}, Dg l → 0 ≤ val l
  | [], _ => Int.le_refl _
  | d :: t, h => by
    have := val_nonneg (l := t) (fun x hx => h x (by simp [hx]))
    have := (h d (by simp)).1
    rw [val]; omega
theorem Dg.tail {d : Int} {t : List Int} (h : Dg (d :: t)) : Dg t := fun x hx => h x (by simp [hx])
theorem Dg.append {a b : List Int} (h : Dg a) (k : Dg b) : Dg (a ++ b) := fun x hx => (List.mem_append.1 hx).elim (h x) (k x)
theorem Dg.take {a : List Int} (h : Dg a) (k : Nat) : Dg (a.take k) := fun x hx => h x (List.mem_of_mem_take hx)
/-- the power of the base -/
def pw : Nat → Int
  | 0 => 1
  | n + 1 => 65536 * pw n
theorem pw_pos : ∀ n, 0 < pw n
  | 0 => by decide
  | n + 1 => by have := pw_pos n; rw [pw]; omega
theorem val_append (a b : List Int) : val (a ++ b) = val a + pw a.length * val b := by
  induction a with
  | nil => simp [val, pw]
  | cons d t ih =>
    simp only [List.cons_append, val, ih, List.length_cons, pw]
    rw [Int.mul_add, Int.mul_assoc]; omega
theorem val_snoc (a : List Int) (x : Int) : val (a ++ [x]) = val a + pw a.length * x := by
  rw [val_append]; simp [val]
/-- the i-th digit -/
def dig (l : List Int) (i : Nat) : Int := l.getD i 0
theorem dig_lt {l : List Int} {i : Nat} (h : i < l.length) : dig l i = l[i] := by simp [dig, h]
theorem dig_ge {l : List Int} {i : Nat} (h : l.length ≤ i) : dig l i = 0 := by simp [dig, List.getElem?_eq_none h]
theorem dig_bound {l : List Int} (h : Dg l) (i : Nat) : 0 ≤ dig l i ∧ dig l i < 65536 := by
  by_cases hi : i < l.length
  · rw [dig_lt hi]; exact h _ (List.getElem_mem hi)
  · rw [dig_ge (by omega)]; omega
theorem val_take_succ (l : List Int) (i : Nat) : val (l.take (i + 1)) = val (l.take i) + pw i * dig l i := by
  by_cases hi : i < l.length
  · rw [List.take_succ_eq_append_getElem hi, val_snoc, List.length_take, Nat.min_eq_left (by omega), dig_lt hi]
  · rw [List.take_of_length_le (by omega), List.take_of_length_le (by omega), dig_ge (by omega)]; simp
theorem val_lt : ∀ {l : List Int}, Dg l → val l < pw l.length
  | [], _ => by decide
  | d :: t, h => by
    have h1 := val_lt (l := t) h.tail
    have h2 := (h d (by simp)).2
    rw [val, List.length_cons, pw]; omega
/-- digits without noughts at the end are the number's. -/
theorem canon : ∀ {l : List Int}, Dg l → (l = [] ∨ dig l (l.length - 1) ≠ 0) → l = digs (val l).toNat
  | [], _, _ => by rw [show (val []).toNat = 0 from rfl, digs_zero]
  | d :: t, h, hc => by
    have hd := h d (by simp)
    have hv := val_nonneg h.tail
    have hct : t = [] ∨ dig t (t.length - 1) ≠ 0 := by
      rcases hc with hc | hc
      · cases hc
      · cases t with
        | nil => exact .inl rfl
        | cons e u => right; simpa [dig] using hc
    have ih := canon h.tail hct
    have hne : (val (d :: t)).toNat ≠ 0 := by
      rw [val]
      intro e
      have h0 : d = 0 ∧ val t = 0 := by omega
      rw [h0.2] at ih
      rw [show (0 : Int).toNat = 0 from rfl, digs_zero] at ih
      subst ih
      rcases hc with hc | hc
      · cases hc
      · apply hc; simp [dig, h0.1]
    rw [digs_pos hne]
    congr 1
    · rw [val]; omega
    · rw [show (val (d :: t)).toNat / 65536 = (val t).toNat by rw [val]; omega]
      exact ih
theorem digs_canon (n : Nat) : digs n = [] ∨ dig (digs n) ((digs n).length - 1) ≠ 0 := by
  induction n using Nat.strongRecOn with
  | _ n ih =>
    by_cases h : n = 0
    · subst h; exact .inl digs_zero
    · right
      rw [digs_pos h]
      rcases ih (n / 65536) (by omega) with e | e
      · have h2 : n / 65536 = 0 := by
          by_cases h3 : n / 65536 = 0
          · exact h3
          · rw [digs_pos h3] at e; cases e
        rw [e]; simp [dig]; omega
      · have hl : 0 < (digs (n / 65536)).length := by
          cases hq : digs (n / 65536) with
          | nil => rw [hq] at e; simp [dig] at e
          | cons x y => simp
        simp only [List.length_cons, Nat.add_sub_cancel]
        obtain ⟨m, hm⟩ : ∃ m, (digs (n / 65536)).length = m + 1 := ⟨_, (Nat.sub_add_cancel hl).symm⟩
        rw [hm] at e ⊢
        simpa [dig] using e
theorem digs_len {n k : Nat} (h : (n : Int) < pw k) : (digs n).length ≤ k := by
  induction k generalizing n with
  | zero =>
    have h0 : n = 0 := by simp [pw] at h; omega
    rw [h0, digs_zero]; simp
  | succ k ih =>
    by_cases hn : n = 0
    · subst hn; rw [digs_zero]; simp
    · rw [digs_pos hn, List.length_cons]
      have := ih (n := n / 65536) (by rw [pw] at h; omega)
      omega
/-- the higher digits decide. -/
theorem val_drop (l : List Int) (i : Nat) : val l = val (l.take i) + pw i * val (l.drop i) := by
  by_cases h : i ≤ l.length
  · conv => lhs; rw [← List.take_append_drop i l]
    rw [val_append, List.length_take, Nat.min_eq_left h]
  · rw [List.take_of_length_le (by omega), List.drop_eq_nil_of_le (by omega)]; simp [val]
theorem val_drop_eq {a b : List Int} {i : Nat} (h : ∀ k, i ≤ k → dig a k = dig b k) : val (a.drop i) = val (b.drop i) := by
  have key : ∀ (n : Nat) (x y : List Int), x.length + y.length ≤ n → (∀ k, dig x k = dig y k) → val x = val y := by
    intro n
    induction n with
    | zero => intro x y hl _; have : x = [] ∧ y = [] := ⟨List.eq_nil_of_length_eq_zero (by omega), List.eq_nil_of_length_eq_zero (by omega)⟩; rw [this.1, this.2]
    | succ n ih =>
      intro x y hl hk
      cases x with
      | nil =>
        cases y with
        | nil => rfl
        | cons e u =>
          have h0 : e = 0 := by have := hk 0; simpa [dig] using this.symm
          have h1 := ih [] u (by simp at hl ⊢; omega) (fun k => by have := hk (k + 1); simpa [dig] using this)
          simp only [val] at h1 ⊢
          rw [h0, ← h1]; simp
      | cons d t =>
        cases y with
        | nil =>
          have h0 : d = 0 := by have := hk 0; simpa [dig] using this
          have h1 := ih t [] (by simp at hl ⊢; omega) (fun k => by have := hk (k + 1); simpa [dig] using this)
          simp only [val] at h1 ⊢
          rw [h0, h1]; simp
        | cons e u =>
          have h0 : d = e := by have := hk 0; simpa [dig] using this
          have h1 := ih t u (by simp at hl ⊢; omega) (fun k => by have := hk (k + 1); simpa [dig] using this)
          rw [val, val, h0, h1]
  refine key _ _ _ (Nat.le_refl _) (fun k => ?_)
  have := h (i + k) (by omega)
  simpa [dig] using this
theorem val_lt_of {a b : List Int} (ha : Dg a) (hb : Dg b) {i : Nat} (h : ∀ k, i + 1 ≤ k → dig a k = dig b k) (hlt : dig a i < dig b i) : val a < val b := by
  have h1 := val_drop a (i + 1)
  have h2 := val_drop b (i + 1)
  have h3 := val_drop_eq h
  have h4 := val_take_succ a i
  have h5 := val_take_succ b i
  have h6 := val_lt (ha.take i)
  have h7 := val_nonneg (hb.take i)
  have h8 : pw (a.take i).length ≤ pw i := by
    have : ∀ m n, m ≤ n → pw m ≤ pw n := by
      intro m n hmn
      induction n with
      | zero => rw [show m = 0 by omega]; exact Int.le_refl _
      | succ n ih =>
        by_cases e : m = n + 1
        · rw [e]; exact Int.le_refl _
        · have := ih (by omega); have := pw_pos n; rw [pw]; omega
    exact this _ _ (by rw [List.length_take]; omega)
  have h9 : pw i * (dig a i + 1) ≤ pw i * dig b i := Int.mul_le_mul_of_nonneg_left (by omega) (Int.le_of_lt (pw_pos i))
  rw [Int.mul_add, Int.mul_one] at h9
  rw [h3] at h1
  generalize pw (i + 1) * val (b.drop (i + 1)) = q at *
  omega
end Go.Proofs.Ytbagkfeodjkdmaa

/- What an iterator over whole numbers tells, collected (pontagelaw18.over). -/
namespace Go.Proofs.Ytbagkfeodjkdmaa
open Go.RowKit Go.Maps Go.Shelf
attribute [local go_sem] Oper.semAt_some

theorem infoU64 : (Try.prog.info? 23).map (fun i => (i.zero, i.size, i.bytes)) = some (some (.int .u64 0), 1, 8) := by kernel_rfl

/-- a slice's length is at most its capacity. -/
def capOk (v : Value) : Prop := ∀ a n c, v = .slice a n c → n ≤ c

set_option maxRecDepth 100000 in
set_option maxHeartbeats 2000000 in
theorem law18_overC (gf : Nat) (lb : Array Value) (eg : ∀ args w, (callFunc gf args).run Try.prog w = .ok (.enter gf args) w) (S Sp : List Int → Prop) (N : Nat) (hN : N ≤ 1000000) (w : World)
    (hseq : SeqStopsK Fence.wide 2 Try.prog gf lb (fun x : Int => #[.int .u64 x]) (Kp [] [w.heap.size]) S Sp N (w.alloc (.cells #[.slice none 0 0] 22))) :
    Calls Try.prog 18 #[.func (.func gf) #[] lb] w fun e w' => ∃ v xs, e = .returned v ∧ S xs ∧ SlI w' .u64 v xs ∧ (∀ k, inBlk v k → w.heap.size ≤ k) ∧ Chg [] w w' ∧ capOk v := by
  obtain ⟨i0, hi, hz0, hz1, hz2⟩ := info_parts infoU64
  refine (callsIn_wide (n := 3)).1 ?_
  refine callsIn_of_wp_marks Try.func18 rfl trivial ?_ rfl
  simp only [Try.ntmps18, List.size_toArray, List.length_cons, List.length_nil, Nat.reduceAdd, Nat.reduceSub, Array.replicate_succ, Array.replicate_zero, List.push_toArray, List.append_toArray, List.nil_append, List.cons_append]
  gi_wp2
  have hx := Boxed.new w 22 (.slice none 0 0)
  refine wpIn_rangeFunc_ownF rfl (by omega) (gf := gf) (lb := lb) rfl trivial eg hseq Kp.trans' (kp_b (by simp)) (Below.refl _ _) (fun _ => rfl)
    (fun pre W => (∃ v, Boxed W w.heap.size 22 v ∧ W.ownsRow w.heap.size 23 1 v pre.length (pre.map (Value.int .u64)) ∧ (v = .slice none 0 0 ↔ pre = [])) ∧ Below w.heap.size w W)
    (fun _ _ _ => False) ?hI ?hIx ?h0 (fun x => { tmps := #[.func (.func gf) #[] lb, undef, .slice none 0 0, .pointer (some ⟨w.heap.size, 0, none⟩), .int .u64 x, .func (.func gf) #[] lb, .int .u64 x, undef, undef, undef, undef, undef], defers := [] }) ?assign ?body ?done ?stop
  case hI =>
    exact OwnFrom.and (Own.from (holdsRow_own w.heap.size w.heap.size 22 23 1 (fun pre : List Int => pre.length) (fun pre => pre.map (Value.int .u64)) (fun pre v => (v = .slice none 0 0 ↔ pre = []))) _) (ownFrom_below (Nat.le_refl _) (by simp))
  case hIx => exact fun _ _ _ _ _ hs _ _ => hs
  case h0 => exact ⟨⟨_, hx, by simpa using World.ownsRow_nil _ _ _ _, by simp⟩, (Below.refl _ _).alloc (Nat.le_refl _) _⟩
  case assign =>
    intro l x W K hK
    gi_wp2
    exact hK
  case body =>
    rintro l pre x W ⟨⟨v, hv, hrow, hnil⟩, hB⟩ hlen
    have hc := hv.cell
    gi_wp2_with (gi_at_builtin; refine wpListIn_append_own_at _ rfl _ _ 22 rfl w.heap.size 23 i0 (.int .u64 0) 1 8 Try.underlying22 hi hz0 hz1 hz2 rfl (by decide) _ _ _ rfl (hrow.alloc _) ⟨W.heap.size, 0, none⟩ 1 1 [.int .u64 x] rfl rfl (cell_one_new _ _ _) (by simp [Value.oneCell']) (by unfold maxLen; omega) (by omega) (by have := hB.size; simp; omega) ?_; intro v' w1 hown' hgrow hnil' hloc; obtain ⟨g', cap', rfl⟩ := ownsRow_succ hown'; have hkp := kp_app hv (by decide) hrow hown' hgrow hloc; obtain ⟨hv1, hv2, hr2, hk2, hb2⟩ := hv.appended (by decide) hrow hB.size (Nat.le_refl _) hown' hgrow; have hc1 := hv1.cell; have hf1 := hv1.frozen)
    exact ⟨hk2, hkp, ⟨_, hv2, by simpa using hr2, by simp⟩, hB.trans hb2⟩
  case stop => exact fun _ _ _ _ _ _ h => h.elim
  case done =>
    rintro D xs W hD hS ⟨⟨v, hv, hrow, hnil⟩, hB⟩ hK
    simp at hD
    have hc := hv.cell
    gi_wp2
    refine ⟨by simp, .inl ⟨_, _, rfl, run_takeDeferred hK, ?_⟩⟩
    refine ⟨_, results_tmp rfl _ _ _, v, xs, rfl, hS, ?_, ?_, ?_, ?_⟩
    · have hr2 := ownsRow_putObj hrow (.deferred none) hK rfl
      rcases hr2.2 with ⟨rfl, h0⟩ | ⟨g, cap, cur, rfl, hg, hb, h1, h2, h3, h4⟩
      · exact .inl ⟨rfl, List.eq_nil_of_length_eq_zero h0⟩
      · refine .inr ⟨g, 0, cap, cur, _, rfl, hb, fun i hi => ?_⟩
        have : (cur.toList.take (xs.length * 1))[i]? = (xs.map (Value.int .u64))[i]? := by rw [h4]
        rw [List.getElem?_take_of_lt (by omega)] at this
        simpa [hi] using this
    · rintro k ⟨o, n, c, rfl⟩
      rcases hrow.2 with ⟨e, _⟩ | ⟨g, cap, cur, e, hg, _⟩
      · cases e
      · cases e; exact hg
    · exact (Chg.of_below hB).grown (grownBy_putObj' _ D _) (fun k e => .inr (by cases e; omega))
    · intro a n c e
      rcases hrow.2 with ⟨e', _⟩ | ⟨g, cap, cur, e', _, _, h1, _⟩
      · rw [e'] at e; cases e; omega
      · rw [e'] at e; cases e; exact h1

theorem law18_over (gf : Nat) (lb : Array Value) (eg : ∀ args w, (callFunc gf args).run Try.prog w = .ok (.enter gf args) w) (S Sp : List Int → Prop) (N : Nat) (hN : N ≤ 1000000) (w : World)
    (hseq : SeqStopsK Fence.wide 2 Try.prog gf lb (fun x : Int => #[.int .u64 x]) (Kp [] [w.heap.size]) S Sp N (w.alloc (.cells #[.slice none 0 0] 22))) :
    Calls Try.prog 18 #[.func (.func gf) #[] lb] w fun e w' => ∃ v xs, e = .returned v ∧ S xs ∧ SlI w' .u64 v xs ∧ (∀ k, inBlk v k → w.heap.size ≤ k) ∧ Chg [] w w' :=
  (law18_overC gf lb eg S Sp N hN w hseq).mono fun _ _ ⟨v, xs, h1, h2, h3, h4, h5, _⟩ => ⟨v, xs, h1, h2, h3, h4, h5⟩
end Go.Proofs.Ytbagkfeodjkdmaa

/- A ledger's iterator: who has some, in order. -/
import Derived.Test.YtbagkfeodjkdmaaMapIn
import Derived.Test.YtbagkfeodjkdmaaCollw8
import Derived.Test.YtbagkfeodjkdmaaKeysLed
namespace Go.Proofs.Ytbagkfeodjkdmaa
open Go.RowKit Go.Maps Go.Shelf
attribute [local go_sem] Oper.semAt_some

/-- the parties up to n that have some. -/
def keysTo (m : Int → Int) : Nat → List Int
  | 0 => []
  | n + 1 => keysTo m n ++ (if m n = 0 then [] else [(n : Int)])
theorem keysTo_mem (m : Int → Int) (x : Int) : ∀ n : Nat, x ∈ keysTo m n ↔ (0 ≤ x ∧ x < n ∧ m x ≠ 0)
  | 0 => by simp [keysTo]; omega
  | n + 1 => by
    rw [keysTo, List.mem_append, keysTo_mem m x n]
    by_cases h : m n = 0
    · simp only [h, if_true, List.not_mem_nil, or_false]
      constructor
      · rintro ⟨h1, h2, h3⟩; exact ⟨h1, by omega, h3⟩
      · rintro ⟨h1, h2, h3⟩
        have : x ≠ n := fun e => h3 (e ▸ h)
        exact ⟨h1, by omega, h3⟩
    · simp only [h, if_false, List.mem_singleton]
      constructor
      · rintro (⟨h1, h2, h3⟩ | rfl)
        · exact ⟨h1, by omega, h3⟩
        · exact ⟨by omega, by omega, h⟩
      · rintro ⟨h1, h2, h3⟩
        by_cases e : x = n
        · exact .inr e
        · exact .inl ⟨h1, by omega, h3⟩
theorem keysTo_sorted (m : Int → Int) : ∀ n : Nat, (keysTo m n).Pairwise (· < ·)
  | 0 => by simp [keysTo]
  | n + 1 => by
    rw [keysTo, List.pairwise_append]
    refine ⟨keysTo_sorted m n, ?_, fun a ha b hb => ?_⟩
    · split <;> simp
    · have := (keysTo_mem m a n).1 ha
      by_cases h : m n = 0
      · simp [h] at hb
      · simp [h] at hb; subst hb; exact this.2.1
theorem keysTo_length (m : Int → Int) : ∀ n : Nat, (keysTo m n).length ≤ n
  | 0 => by simp [keysTo]
  | n + 1 => by
    have := keysTo_length m n
    rw [keysTo, List.length_append]
    split <;> simp <;> omega
theorem keys_led {m : Int → Int} {xs : List Int} (hn : xs.Nodup) (hm : ∀ x, x ∈ xs ↔ ((Lit.int .u8 x).wf = true ∧ (if m x = 0 then none else some (Value.int .u64 (m x))).isSome = true)) : srt xs = keysTo m 256 := by
  refine srt_eq ((List.perm_ext_iff_of_nodup hn ((keysTo_sorted m 256).imp (fun h => by omega))).2 fun x => ?_) ((keysTo_sorted m 256).imp (fun h => by omega))
  rw [hm x, keysTo_mem, wf_u8]
  by_cases h : m x = 0 <;> simp [h] <;> omega

/-- who has how many. -/
def have_ (m : Int → Int) (l : List Int) : List (Int × Int) := l.map (fun k => (k, m k))

theorem take_succ_get {α : Type} (l : List α) {k : Nat} (h : k < l.length) : l.take (k + 1) = l.take k ++ [l[k]] := by
  rw [List.take_succ_eq_append_getElem h]

/-- nothing that lay before has turned, as a growth. -/
theorem Chg.grew {w w' : World} (h : Chg [] w w') : w.grownBy w' none := ⟨h.os, h.tape, h.output, h.size, fun k hk _ => h.block k hk (by simp)⟩

theorem itPre_new (w : World) (o : Obj) (c : Value) (t : TypeId) (ho : o = .cells #[c] t) (hc : ∀ k o n q, c ≠ .slice (some ⟨k, o, none⟩) n q) : ItPre [] [w.heap.size] (w.alloc o) ∧ ∀ k, Tch [] [w.heap.size] (w.alloc o) k ↔ k = w.heap.size := by
  subst ho
  have hcell : (w.alloc (.cells #[c] t)).cell? ⟨w.heap.size, 0, none⟩ = some c := (Blk.new w #[c] t).cell 0 rfl
  have ht : ∀ k, Tch [] [w.heap.size] (w.alloc (.cells #[c] t)) k ↔ k = w.heap.size := by
    intro k
    constructor
    · rintro (h | h | ⟨B, hB, o, n, q, h⟩)
      · cases h
      · simpa using h
      · simp at hB; subst hB; rw [hcell] at h; simp at h; exact absurd h (hc k o n q)
    · rintro rfl; exact .inr (.inl (by simp))
  exact ⟨⟨by simp, fun k hk => by rw [ht k] at hk; subst hk; simp⟩, ht⟩

/-- slices.Sorted(maps.Keys(l.l)) -/
theorem sorted_keys_led (Bm mb cnt : Nat) (m : Int → Int) (w : World) (hb : Blk w Bm #[.map (some mb)] 40) (hm : MapV w 42 .u8 mb cnt (fun k => if m k = 0 then none else some (.int .u64 (m k)))) :
    Calls Try.prog 89 #[.func (.func 141) #[] #[.pointer (some ⟨Bm, 0, none⟩)]] w fun e w' => ∃ v, e = .returned v ∧ SlI w' .u8 v (keysTo m 256) ∧ (∀ k, inBlk v k → w.heap.size ≤ k) ∧ Chg [] w w' := by
  have hcnt := hm.le_u8 Try.underlying42
  obtain ⟨it, ht⟩ := itPre_new w (.cells #[.slice none 0 0] 158) (.slice none 0 0) 158 rfl (by simp)
  have hlt := hb.lt
  have hlt2 := hm.lt
  refine (sorted_w8 141 _ (enters_of Try.func141 (by kernel_rfl) rfl) _ _ cnt (by omega) w
       (keys1_Led Fence.wide 2 trivial rfl (by omega) [] [w.heap.size] Bm mb cnt _ _ (hb.alloc _) (hm.alloc _) it (fun h => by have := (ht _).1 h; omega) (fun h => by have := (ht _).1 h; omega))).mono ?_
  rintro e w2 ⟨v, xs, rfl, ⟨hnd, hmem⟩, hs, hfr, hch, hlen⟩
  rw [keys_led hnd hmem] at hs
  exact ⟨v, rfl, hs, hfr, hch⟩

set_option maxRecDepth 100000 in
set_option maxHeartbeats 4000000 in
theorem token_All1 (n : Nat) (hn : 1 ≤ n) (Fx Bs : List Nat) (b p mb : Nat) (L : Led) (w : World) (hb : Blk w b #[.pointer (some ⟨p, 0, none⟩)] 38) (h : LedAt w p mb L)
    (it : ItPre Fx Bs w) (t1 : ¬ Tch Fx Bs w b) (t2 : ¬ Tch Fx Bs w p) (t3 : ¬ Tch Fx Bs w mb) :
    SeqStopsK Fence.wide n Try.prog 88 #[.pointer (some ⟨b, 0, none⟩)] (fun x : Int × Int => #[.int .u8 x.1, .int .u64 x.2]) (Kp Fx Bs) (fun xs => xs = have_ L.m (keysTo L.m 256)) (fun pre => pre <+: have_ L.m (keysTo L.m 256)) 256 w := fun lp J Jx W hW hJ hJx hY h0 => by
  have hc : Chg [] w W := .of_below' hW (Nat.le_refl _)
  have it' := it.chg hc (by simp)
  have ht : ∀ k, Tch Fx Bs W k ↔ Tch Fx Bs w k := fun k => it.tch hc (by simp) k
  have hb' := hb.chg hc (by simp)
  have h' := h.chg hc (by simp) (by simp)
  have t1' : ¬ Tch Fx Bs W b := fun h => t1 ((ht b).1 h)
  have t2' : ¬ Tch Fx Bs W p := fun h => t2 ((ht p).1 h)
  have t3' : ¬ Tch Fx Bs W mb := fun h => t3 ((ht mb).1 h)
  clear hb h it t1 t2 t3 hc ht
  have c0 := hb'.cell 0 (v := .pointer (some ⟨p, 0, none⟩)) rfl
  have p0 := h'.blk.cell 0 (v := .map (some mb)) rfl
  obtain ⟨cnt, hm⟩ := h'.map
  have hcnt := hm.le_u8 Try.underlying42
  have hkeys := keys_Led (some mb) W
  have hb1 := Blk.new W #[.map (some mb)] 40
  have hm1 := hm.alloc (.cells #[.map (some mb)] 40)
  have hsorted := sorted_keys_led W.heap.size mb cnt L.m _ hb1 hm1
  have hc01 : Chg [] W (W.alloc (.cells #[.map (some mb)] 40)) := (Chg.refl [] W).alloc _
  generalize W.alloc (.cells #[.map (some mb)] 40) = W1 at hkeys hsorted hc01 hm1 hb1
  have hlen := keysTo_length L.m 256
  have hmemK : ∀ x ∈ keysTo L.m 256, (Lit.int .u8 x).wf = true := fun x hx => wf_u8.2 (by have := (keysTo_mem L.m x 256).1 hx; omega)
  generalize keysTo L.m 256 = ks at hsorted hlen hmemK ⊢
  refine callsIn_of_wp Try.func88 rfl trivial ?_ rfl
  simp only [Try.ntmps88, List.size_toArray, List.length_cons, List.length_nil, Nat.reduceAdd, Nat.reduceSub, Array.replicate_succ, Array.replicate_zero, List.push_toArray, List.append_toArray, List.nil_append, List.cons_append]
  gi_wp2_with (first
    | (refine And.intro trivial ?_; gi_at_call 90; refine (callsIn_of hkeys).mono ?_; rintro e w1 ⟨rfl, hw1⟩; subst hw1)
    | (refine And.intro trivial ?_; gi_at_call 89; refine (callsIn_of hsorted).mono ?_; rintro e w2 ⟨v, rfl, hs, hfr, hch⟩; obtain ⟨va, vcap, rfl⟩ := hs.len))
  have hcx := hc01.trans hch (by simp)
  have itx := it'.chg hcx (by simp)
  have htx : ∀ k, Tch Fx Bs w2 k ↔ Tch Fx Bs W k := fun k => it'.tch hcx (by simp) k
  have hJ0 : J [] w2 := hJ [] W w2 none h0 hcx.grew (fun r e => by cases e)
  have hbx := hb'.chg hcx (by simp)
  have hx := h'.chg hcx (by simp) (by simp)
  have x1 : ¬ Tch Fx Bs w2 b := fun h => t1' ((htx b).1 h)
  have x2 : ¬ Tch Fx Bs w2 p := fun h => t2' ((htx p).1 h)
  have x3 : ¬ Tch Fx Bs w2 mb := fun h => t3' ((htx mb).1 h)
  have x4 : ∀ k, inBlk (.slice va ks.length vcap) k → ¬ Tch Fx Bs w2 k := fun k hk h => by
    have h1 := hfr k hk
    have h2 := it'.low k ((htx k).1 h)
    have := hc01.size
    omega
  clear hJx hc01 hch hcx htx h0 hb' h' it' t1' t2' t3' c0 p0 hm hcnt hm1 hb1 hfr hkeys hsorted
  gi_loopw [14] (fun i wr => ∃ k : Nat, k ≤ ks.length ∧ i = .int .i64 k ∧ J ((have_ L.m ks).take k) wr ∧ Kp Fx Bs w2 wr) (fun i _ => ks.length - (intOf i).toNat)
  case atStart => exact ⟨0, Nat.zero_le _, rfl, by simpa using hJ0, Kp.refl _ _ _⟩
  case round =>
    obtain ⟨k, hk, rfl, hJs, hkp⟩ := hrel
    by_cases hlt : k < ks.length
    · obtain ⟨bb, off, rfl, hcell⟩ := (hs.kp hkp x4).cell hlt
      have hxk : (have_ L.m ks)[k]'(by simpa [have_] using hlt) = (ks[k], L.m ks[k]) := by simp [have_]
      have hlen2 : k < (have_ L.m ks).length := by simpa [have_] using hlt
      obtain ⟨fn, tmps, assign, body, hy, hR⟩ := hY _ ((have_ L.m ks)[k]) wr hJs (by rw [List.length_take]; omega)
      rw [hxk] at hy hR
      have hbk := hbx.kp hkp x1
      have hpk := hx.blk.kp hkp x2
      obtain ⟨cnt, hm⟩ := hx.map
      have hmk : MapV wr 42 .u8 mb cnt (fun k => if L.m k = 0 then none else some (Value.int .u64 (L.m k))) := by
        obtain ⟨D, ⟨es, clock, h1, r⟩, kk⟩ := hm
        exact ⟨D, ⟨es, clock, hkp.same mb _ h1 (.inr rfl) x3, r⟩, kk⟩
      have c0 := hbk.cell 0 (v := .pointer (some ⟨p, 0, none⟩)) rfl
      have p0 := hpk.cell 0 (v := .map (some mb)) rfl
      have hwf := hmemK ks[k] (List.getElem_mem hlt)
      simp only [] at hy
      generalize ks[k] = key at hcell hy hR hwf hxk
      have hrun := hmk.look Try.underlying42 (t := 40) (E := 41) Try.underlying40 (zAmount _) hwf
      rw [getD_led] at hrun
      gi_wp2
      refine hR.mono ?_
      rintro e W3 (⟨rfl, hJ3, hk3⟩ | ⟨rfl, hJx3⟩)
      · gi_wp2
        go_roundw
        case rel => exact ⟨k + 1, by omega, by simp, by rw [take_succ_get _ hlen2, hxk]; exact hJ3, hkp.trans hk3⟩
        case measure => simp [intOf]; omega
      · gi_wp2
        refine bodyPost_ret (results_none rfl _ _ _) rfl ?_
        exact ⟨⟨_, rfl⟩, .inr ⟨(have_ L.m ks).take (k + 1), List.take_prefix _ _, by rw [take_succ_get _ hlen2, hxk]; exact hJx3⟩⟩
    · obtain rfl : k = ks.length := by omega
      gi_wp2
      go_end0
      exact ⟨⟨_, rfl⟩, .inl ⟨_, rfl, by rw [List.take_of_length_le (by simp [have_])] at hJs; exact hJs⟩⟩
end Go.Proofs.Ytbagkfeodjkdmaa

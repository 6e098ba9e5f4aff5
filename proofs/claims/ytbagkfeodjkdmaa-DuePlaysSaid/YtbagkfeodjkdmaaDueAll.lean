/- A table's iterator: all, by rising numbers. -/
import Derived.Test.YtbagkfeodjkdmaaMapIn
import Derived.Test.YtbagkfeodjkdmaaCollu64
import Derived.Test.YtbagkfeodjkdmaaKeysTab
import Derived.Test.YtbagkfeodjkdmaaDueCopy
import Derived.Test.YtbagkfeodjkdmaaTokenAll
namespace Go.Proofs.Ytbagkfeodjkdmaa
open Go.RowKit Go.Maps Go.Shelf
attribute [local go_sem] Oper.semAt_some

theorem entry_x (s : ByteArray) (d : Int) (w : World) : (Instr.field 144 (.agg #[.string s, .int .u64 d]) 0).run Try.prog w = .ok (.string s) w := by kernel_rfl
/-- the keys, rising. -/
structure KeysOf (f : Int → Option Value) (ks : List Int) : Prop where
  asc : ks.Pairwise (· < ·)
  mem : ∀ x, x ∈ ks ↔ ((Lit.int .u64 x).wf = true ∧ (f x).isSome = true)
theorem KeysOf.sorted {f : Int → Option Value} {ks xs : List Int} (h : KeysOf f ks) (hn : xs.Nodup) (hm : ∀ x, x ∈ xs ↔ ((Lit.int .u64 x).wf = true ∧ (f x).isSome = true)) : srt xs = ks :=
  srt_eq ((List.perm_ext_iff_of_nodup hn (h.asc.imp (fun h => by omega))).2 fun x => by rw [hm x, h.mem]) (h.asc.imp (fun h => by omega))
def xsOf (T : Tab) (l : List Int) : List (Int × ByteArray) := l.map (fun k => (k, T.xOf k))

/-- slices.Sorted(maps.Keys(l.l)) -/
theorem sorted_keys_tab (Bm mb cnt : Nat) (f : Int → Option Value) (ks : List Int) (hks : KeysOf f ks) (hcnt : cnt ≤ 100000) (w : World) (hb : Blk w Bm #[.map (some mb)] 140) (hm : MapV w 23 .u64 mb cnt f) :
    Calls Try.prog 118 #[.func (.func 152) #[] #[.pointer (some ⟨Bm, 0, none⟩)]] w fun e w' => ∃ v, e = .returned v ∧ SlI w' .u64 v ks ∧ (∀ k, inBlk v k → w.heap.size ≤ k) ∧ Chg [] w w' := by
  obtain ⟨it, ht⟩ := itPre_new w (.cells #[.slice none 0 0] 22) (.slice none 0 0) 22 rfl (by simp)
  have hlt := hb.lt
  have hlt2 := hm.lt
  refine (sorted_u64 152 _ (enters_of Try.func152 (by kernel_rfl) rfl) _ _ cnt (by omega) w
       (keys1_Tab Fence.wide 2 trivial rfl (by omega) [] [w.heap.size] Bm mb cnt _ _ (hb.alloc _) (hm.alloc _) it (fun h => by have := (ht _).1 h; omega) (fun h => by have := (ht _).1 h; omega))).mono ?_
  rintro e w2 ⟨v, xs, rfl, ⟨hnd, hmem⟩, hs, hfr, hch, hlen⟩
  rw [hks.sorted hnd hmem] at hs
  exact ⟨v, rfl, hs, hfr, hch⟩

set_option maxRecDepth 100000 in
set_option maxHeartbeats 4000000 in
theorem due_All1 (n : Nat) (hn : 1 ≤ n) (Fx Bs : List Nat) (b p mb : Nat) (T : Tab) (ks : List Int) (hks : KeysOf (fun k => (T.f k).map encD) ks) (hcnt : T.cnt ≤ 100000) (hkl : ks.length ≤ 100000) (w : World) (hb : Blk w b #[.pointer (some ⟨p, 0, none⟩)] 25) (h : TabAt w p mb T)
    (it : ItPre Fx Bs w) (t1 : ¬ Tch Fx Bs w b) (t2 : ¬ Tch Fx Bs w p) (t3 : ¬ Tch Fx Bs w mb) :
    SeqStopsK Fence.wide n Try.prog 117 #[.pointer (some ⟨b, 0, none⟩)] (fun x : Int × ByteArray => #[.int .u64 x.1, .string x.2]) (Kp Fx Bs) (fun xs => xs = xsOf T ks) (fun pre => pre <+: xsOf T ks) ks.length w := fun lp J Jx W hW hJ hJx hY h0 => by
  have hc : Chg [] w W := .of_below' hW (Nat.le_refl _)
  have it' := it.chg hc (by simp)
  have ht : ∀ k, Tch Fx Bs W k ↔ Tch Fx Bs w k := fun k => it.tch hc (by simp) k
  have hb' := hb.chg hc (by simp)
  have h' := h.chg hc (by simp) (by simp)
  have t1' : ¬ Tch Fx Bs W b := fun h => t1 ((ht b).1 h)
  have t2' : ¬ Tch Fx Bs W p := fun h => t2 ((ht p).1 h)
  have t3' : ¬ Tch Fx Bs W mb := fun h => t3 ((ht mb).1 h)
  clear hb h it t1 t2 t3 hc ht
  have c0 := hb'.cell 0 (v := .pointer (some ⟨p, 0, none⟩)) rfl
  have p2 := h'.blk.cell 2 (v := .map (some mb)) rfl
  have hm := h'.map
  have hkeys := keys_Tab (some mb) W
  have hb1 := Blk.new W #[.map (some mb)] 140
  have hm1 := hm.alloc (.cells #[.map (some mb)] 140)
  have hsorted := sorted_keys_tab W.heap.size mb T.cnt _ ks hks hcnt _ hb1 hm1
  have hc01 : Chg [] W (W.alloc (.cells #[.map (some mb)] 140)) := (Chg.refl [] W).alloc _
  generalize W.alloc (.cells #[.map (some mb)] 140) = W1 at hkeys hsorted hc01 hm1 hb1
  have hlen := hkl
  have hmemK : ∀ x ∈ ks, (Lit.int .u64 x).wf = true := fun x hx => ((hks.mem x).1 hx).1
  clear hks
  refine callsIn_of_wp Try.func117 rfl trivial ?_ rfl
  simp only [Try.ntmps117, List.size_toArray, List.length_cons, List.length_nil, Nat.reduceAdd, Nat.reduceSub, Array.replicate_succ, Array.replicate_zero, List.push_toArray, List.append_toArray, List.nil_append, List.cons_append]
  gi_wp2_with (first
    | (refine And.intro trivial ?_; gi_at_call 119; refine (callsIn_of hkeys).mono ?_; rintro e w1 ⟨rfl, hw1⟩; subst hw1)
    | (refine And.intro trivial ?_; gi_at_call 118; refine (callsIn_of hsorted).mono ?_; rintro e w2 ⟨v, rfl, hs, hfr, hch⟩; obtain ⟨va, vcap, rfl⟩ := hs.len))
  have hcx := hc01.trans hch (by simp)
  have itx := it'.chg hcx (by simp)
  have htx : ∀ k, Tch Fx Bs w2 k ↔ Tch Fx Bs W k := fun k => it'.tch hcx (by simp) k
  have hJ0 : J [] w2 := hJ [] W w2 none h0 hcx.grew (fun r e => by cases e)
  have hbx := hb'.chg hcx (by simp)
  have hx := h'.chg hcx (by simp) (by simp)
  have x1 : ¬ Tch Fx Bs w2 b := fun h => t1' ((htx b).1 h)
  have x2 : ¬ Tch Fx Bs w2 p := fun h => t2' ((htx p).1 h)
  have x3 : ¬ Tch Fx Bs w2 mb := fun h => t3' ((htx mb).1 h)
  have x4 : ∀ k, inBlk (.slice va ks.length vcap) k → ¬ Tch Fx Bs w2 k := fun k hk h => by
    have h1 := hfr k hk
    have h2 := it'.low k ((htx k).1 h)
    have := hc01.size
    omega
  clear hJx hc01 hch hcx htx h0 hb' h' it' t1' t2' t3' c0 p2 hm hcnt hm1 hb1 hfr hkeys hsorted
  gi_loopw [14] (fun i wr => ∃ k : Nat, k ≤ ks.length ∧ i = .int .i64 k ∧ J ((xsOf T ks).take k) wr ∧ Kp Fx Bs w2 wr) (fun i _ => ks.length - (intOf i).toNat)
  case atStart => exact ⟨0, Nat.zero_le _, rfl, by simpa using hJ0, Kp.refl _ _ _⟩
  case round =>
    obtain ⟨k, hk, rfl, hJs, hkp⟩ := hrel
    by_cases hlt : k < ks.length
    · obtain ⟨bb, off, rfl, hcell⟩ := (hs.kp hkp x4).cell hlt
      have hxk : (xsOf T ks)[k]'(by simpa [xsOf] using hlt) = (ks[k], T.xOf ks[k]) := by simp [xsOf]
      have hlen2 : k < (xsOf T ks).length := by simpa [xsOf] using hlt
      obtain ⟨fn, tmps, assign, body, hy, hR⟩ := hY _ ((xsOf T ks)[k]) wr hJs (by rw [List.length_take]; omega)
      rw [hxk] at hy hR
      have hbk := hbx.kp hkp x1
      have hpk := hx.blk.kp hkp x2
      have hmk : MapV wr 23 .u64 mb T.cnt (fun k => (T.f k).map encD) := by
        obtain ⟨D, ⟨es, clock, h1, r⟩, kk⟩ := hx.map
        exact ⟨D, ⟨es, clock, hkp.same mb _ h1 (.inr rfl) x3, r⟩, kk⟩
      have c0 := hbk.cell 0 (v := .pointer (some ⟨p, 0, none⟩)) rfl
      have p2 := hpk.cell 2 (v := .map (some mb)) rfl
      have hTk : TabAt wr p mb T := ⟨hpk, hx.ne, hmk⟩
      have hwf := hmemK ks[k] (List.getElem_mem hlt)
      simp only [] at hy
      generalize ks[k] = key at hcell hy hR hwf hxk
      have hrun := hTk.look hwf
      have hfx := fun w => entry_x (T.xOf key) (T.dueOf key) w
      gi_wp2
      refine hR.mono ?_
      rintro e W3 (⟨rfl, hJ3, hk3⟩ | ⟨rfl, hJx3⟩)
      · gi_wp2
        go_roundw
        case rel => exact ⟨k + 1, by omega, by simp, by rw [take_succ_get _ hlen2, hxk]; exact hJ3, hkp.trans hk3⟩
        case measure => simp [intOf]; omega
      · gi_wp2
        refine bodyPost_ret (results_none rfl _ _ _) rfl ?_
        exact ⟨⟨_, rfl⟩, .inr ⟨(xsOf T ks).take (k + 1), List.take_prefix _ _, by rw [take_succ_get _ hlen2, hxk]; exact hJx3⟩⟩
    · obtain rfl : k = ks.length := by omega
      gi_wp2
      go_end0
      exact ⟨⟨_, rfl⟩, .inl ⟨_, rfl, by rw [List.take_of_length_le (by simp [xsOf])] at hJs; exact hJs⟩⟩
end Go.Proofs.Ytbagkfeodjkdmaa

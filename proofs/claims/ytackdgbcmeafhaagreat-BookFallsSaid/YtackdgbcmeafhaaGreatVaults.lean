/- Package book: the iterator over all vaults, rising. -/
import Derived.Test.YtackdgbcmeafhaaGreatBookOps
import Derived.Test.YtackdgbcmeafhaaGreatKeysVlt
import Derived.Test.YtackdgbcmeafhaaGreatCollw8
namespace Go.Proofs.YtackdgbcmeafhaaGreat
open Go.RowKit Go.Maps Go.Shelf
attribute [local go_sem] Oper.semAt_some

/-- the keys, rising. -/
structure KeysW (f : Int → Option Value) (ks : List Int) : Prop where
  asc : ks.Pairwise (· < ·)
  mem : ∀ x, x ∈ ks ↔ ((Lit.int .u8 x).wf = true ∧ (f x).isSome = true)
theorem KeysW.sorted {f : Int → Option Value} {ks xs : List Int} (h : KeysW f ks) (hn : xs.Nodup) (hm : ∀ x, x ∈ xs ↔ ((Lit.int .u8 x).wf = true ∧ (f x).isSome = true)) : srt xs = ks :=
  srt_eq ((List.perm_ext_iff_of_nodup hn (h.asc.imp (fun h => by omega))).2 fun x => by rw [hm x, h.mem]) (h.asc.imp (fun h => by omega))
def Vt.zero : Vt := ⟨0, Array.replicate 20 (.int .u8 0), 0, 0, 0, 0, 0, false⟩
theorem Vt.zero_cs : Vt.zero.cs = zVt := by rfl
def Bk.vt (B : Bk) (k : Int) : Vt := (B.f k).getD Vt.zero
theorem Vt.zero_ok : VtOk Vt.zero := ⟨by decide, by kernel_rfl⟩
/-- a vault with an address of 20 cells. -/
def Vk : Type := { v : Vt // VtOk v }
def Bk.ok (B : Bk) : Prop := ∀ k v, B.f k = some v → VtOk v
theorem Bk.vt_ok {B : Bk} (h : B.ok) (k : Int) : VtOk (B.vt k) := by
  unfold Bk.vt
  cases hf : B.f k with
  | none => exact Vt.zero_ok
  | some v => exact h k v hf
def Bk.vk (B : Bk) (h : B.ok) (k : Int) : Vk := ⟨B.vt k, B.vt_ok h k⟩
def Bk.vs (B : Bk) (h : B.ok) (l : List Int) : List Vk := l.map (B.vk h)

theorem sorted_keys_vlt (Bm mb cnt : Nat) (f : Int → Option Value) (ks : List Int) (hks : KeysW f ks) (hcnt : cnt ≤ 100000) (w : World) (hb : Blk w Bm #[.map (some mb)] 95) (hm : MapV w 45 .u8 mb cnt f) :
    Calls Tryz.prog 91 #[.func (.func 123) #[] #[.pointer (some ⟨Bm, 0, none⟩)]] w fun e w' => ∃ v, e = .returned v ∧ SlI w' .u8 v ks ∧ (∀ k, inBlk v k → w.heap.size ≤ k) ∧ Chg [] w w' := by
  obtain ⟨it, ht⟩ := itPre_new w (.cells #[.slice none 0 0] 142) (.slice none 0 0) 142 rfl (by simp)
  have hlt := hb.lt
  have hlt2 := hm.lt
  refine (sorted_w8 123 _ (enters_of Tryz.func123 (by kernel_rfl) rfl) _ _ cnt (by omega) w
       (keys1_Vlt Fence.wide 2 trivial rfl (by omega) [] [w.heap.size] Bm mb cnt _ _ (hb.alloc _) (hm.alloc _) it (fun h => by have := (ht _).1 h; omega) (fun h => by have := (ht _).1 h; omega))).mono ?_
  rintro e w2 ⟨v, xs, rfl, ⟨hnd, hmem⟩, hs, hfr, hch, hlen⟩
  rw [hks.sorted hnd hmem] at hs
  exact ⟨v, rfl, hs, hfr, hch⟩

set_option maxRecDepth 100000 in
set_option maxHeartbeats 4000000 in
theorem book_Vaults1 (n : Nat) (hn : 1 ≤ n) (Fx Bs : List Nat) (b : Nat) (x : Lc) (B : Bk) (hok : B.ok) (ks : List Int) (hks : KeysW (fun k => (B.f k).map (fun v => .agg v.cs)) ks) (hcnt : B.cnt ≤ 100000) (hkl : ks.length ≤ 100000) (w : World) (hb : Blk w b #[.pointer (some ⟨x.b, 0, none⟩)] 32) (h : BkAt w x B)
    (it : ItPre Fx Bs w) (t1 : ¬ Tch Fx Bs w b) (t2 : ¬ Tch Fx Bs w x.b) (t3 : ¬ Tch Fx Bs w x.vm) :
    SeqStopsK Fence.wide n Tryz.prog 90 #[.pointer (some ⟨b, 0, none⟩)] (fun v : Vk => #[.agg v.1.cs]) (Kp Fx Bs) (fun xs => xs = B.vs hok ks) (fun pre => pre <+: B.vs hok ks) ks.length w := fun lp J Jx W hW hJ hJx hY h0 => by
  have hc : Chg [] w W := .of_below' hW (Nat.le_refl _)
  have it' := it.chg hc (by simp)
  have ht : ∀ k, Tch Fx Bs W k ↔ Tch Fx Bs w k := fun k => it.tch hc (by simp) k
  have hb' := hb.chg hc (by simp)
  have h' := h.same hc
  have t1' : ¬ Tch Fx Bs W b := fun h => t1 ((ht b).1 h)
  have t2' : ¬ Tch Fx Bs W x.b := fun h => t2 ((ht x.b).1 h)
  have t3' : ¬ Tch Fx Bs W x.vm := fun h => t3 ((ht x.vm).1 h)
  clear hb h it t1 t2 t3 hc ht
  have c0 := hb'.cell 0 (v := .pointer (some ⟨x.b, 0, none⟩)) rfl
  have p2 := h'.c17
  have hm := h'.vm
  have hkeys := keys_Vlt (some x.vm) W
  have hb1 := Blk.new W #[.map (some x.vm)] 95
  have hm1 := hm.alloc (.cells #[.map (some x.vm)] 95)
  have hsorted := sorted_keys_vlt W.heap.size x.vm B.cnt _ ks hks hcnt _ hb1 hm1
  have hc01 : Chg [] W (W.alloc (.cells #[.map (some x.vm)] 95)) := (Chg.refl [] W).alloc _
  generalize W.alloc (.cells #[.map (some x.vm)] 95) = W1 at hkeys hsorted hc01 hm1 hb1
  have hmemK : ∀ y ∈ ks, (Lit.int .u8 y).wf = true ∧ (B.f y).isSome = true := fun y hy => by have := (hks.mem y).1 hy; simpa using this
  clear hks
  refine callsIn_of_wp Tryz.func90 rfl trivial ?_ rfl
  simp only [Tryz.ntmps90, List.size_toArray, List.length_cons, List.length_nil, Nat.reduceAdd, Nat.reduceSub, Array.replicate_succ, Array.replicate_zero, List.push_toArray, List.append_toArray, List.nil_append, List.cons_append]
  gi_wp2_with (first
    | (refine And.intro trivial ?_; gi_at_call 92; refine (callsIn_of hkeys).mono ?_; rintro e w1 ⟨rfl, hw1⟩; subst hw1)
    | (refine And.intro trivial ?_; gi_at_call 91; refine (callsIn_of hsorted).mono ?_; rintro e w2 ⟨v, rfl, hs, hfr, hch⟩; obtain ⟨va, vcap, rfl⟩ := hs.len))
  have hcx := hc01.trans hch (by simp)
  have itx := it'.chg hcx (by simp)
  have htx : ∀ k, Tch Fx Bs w2 k ↔ Tch Fx Bs W k := fun k => it'.tch hcx (by simp) k
  have hJ0 : J [] w2 := hJ [] W w2 none h0 hcx.grew (fun r e => by cases e)
  have hbx := hb'.chg hcx (by simp)
  have hx := h'.same hcx
  have x1 : ¬ Tch Fx Bs w2 b := fun h => t1' ((htx b).1 h)
  have x2 : ¬ Tch Fx Bs w2 x.b := fun h => t2' ((htx x.b).1 h)
  have x3 : ¬ Tch Fx Bs w2 x.vm := fun h => t3' ((htx x.vm).1 h)
  have x4 : ∀ k, inBlk (.slice va ks.length vcap) k → ¬ Tch Fx Bs w2 k := fun k hk h => by
    have h1 := hfr k hk
    have h2 := it'.low k ((htx k).1 h)
    have := hc01.size
    omega
  clear hJx hc01 hch hcx htx h0 hb' h' it' t1' t2' t3' c0 p2 hm hcnt hm1 hb1 hfr hkeys hsorted
  have hvl : (B.vs hok ks).length = ks.length := by simp [Bk.vs]
  gi_loopw [14] (fun i wr => ∃ k : Nat, k ≤ ks.length ∧ i = .int .i64 k ∧ J ((B.vs hok ks).take k) wr ∧ Kp Fx Bs w2 wr) (fun i _ => ks.length - (intOf i).toNat)
  case atStart => exact ⟨0, Nat.zero_le _, rfl, by simpa using hJ0, Kp.refl _ _ _⟩
  case round =>
    obtain ⟨k, hk, rfl, hJs, hkp⟩ := hrel
    by_cases hlt : k < ks.length
    · obtain ⟨bb, off, rfl, hcell⟩ := (hs.kp hkp x4).cell hlt
      have hlen2 : k < (B.vs hok ks).length := by rw [hvl]; exact hlt
      have hxk : (B.vs hok ks)[k] = B.vk hok ks[k] := by simp [Bk.vs]
      obtain ⟨fn, tmps, assign, body, hy, hR⟩ := hY _ ((B.vs hok ks)[k]) wr hJs (by rw [List.length_take]; omega)
      rw [hxk] at hy hR
      have hbk := hbx.kp hkp x1
      have hpk := hx.blk.kp hkp x2
      have hmk : MapV wr 45 .u8 x.vm B.cnt (fun k => (B.f k).map (fun v => .agg v.cs)) := by
        obtain ⟨D, ⟨es, clock, h1, r⟩, kk⟩ := hx.vm
        exact ⟨D, ⟨es, clock, hkp.same x.vm _ h1 (.inr rfl) x3, r⟩, kk⟩
      have c0 := hbk.cell 0 (v := .pointer (some ⟨x.b, 0, none⟩)) rfl
      have p2 := hpk.cell 17 (v := .map (some x.vm)) rfl
      obtain ⟨hwf, hsome⟩ := hmemK ks[k] (List.getElem_mem hlt)
      generalize ks[k] = key at hcell hy hR hwf hxk hsome
      obtain ⟨vv, hvv⟩ := Option.isSome_iff_exists.1 hsome
      have hrun := hmk.look Tryz.underlying45 Tryz.underlying95 (zVault _) hwf
      have hvt : (B.vk hok key).1 = vv := by simp [Bk.vk, Bk.vt, hvv]
      rw [hvv] at hrun
      simp only [Option.map_some, Option.getD_some] at hrun
      rw [hvt] at hy
      clear hsome
      gi_wp2
      refine hR.mono ?_
      rintro e W3 (⟨rfl, hJ3, hk3⟩ | ⟨rfl, hJx3⟩)
      · gi_wp2
        go_roundw
        case rel => exact ⟨k + 1, by omega, by simp, by rw [take_succ_get _ hlen2, hxk]; exact hJ3, hkp.trans hk3⟩
        case measure => simp [intOf]; omega
      · gi_wp2
        refine bodyPost_ret (results_none rfl _ _ _) rfl ?_
        exact ⟨⟨_, rfl⟩, .inr ⟨(B.vs hok ks).take (k + 1), List.take_prefix _ _, by rw [take_succ_get _ hlen2, hxk]; exact hJx3⟩⟩
    · obtain rfl : k = ks.length := by omega
      gi_wp2
      go_end0
      exact ⟨⟨_, rfl⟩, .inl ⟨_, rfl, by rw [List.take_of_length_le (by omega)] at hJs; exact hJs⟩⟩
end Go.Proofs.YtackdgbcmeafhaaGreat

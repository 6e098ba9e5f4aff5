/- PursePlays: the walk. -/
import Derived.Test.YtbagkfeodjkdmaaPurseRounds
import Derived.Deep.MidRow
import Derived.Deep.DrawnRows
import Derived.Deep.DeepCutAuto
namespace Go.Proofs.Ytbagkfeodjkdmaa
open Go.RowKit Go.Maps Go.Shelf
attribute [local go_sem ↓] Go.wp_at_zero Go.wp_at_succ

/-- the model's cells, as they are loaded and stored whole. -/
theorem Mod16.range {wr : World} {q : Nat} {U : Pur} (h : Mod16 wr q U) : ∃ rs : List Value, rs.length = 259 ∧ (∀ W, Chg [] wr W → W.rangeAt q 0 rs) ∧ (∀ W b, Blk W b rs.toArray 65 → Mod16 W b U) ∧ (∀ v ∈ rs, v.oneCell' = true) := by
  obtain ⟨cs, hmb, mc, ma, mi, mo⟩ := h
  have hsz : 258 < cs.size := (Array.getElem?_eq_some_iff.1 mo).1
  have hrk : ∀ k, k < 259 → (cs.extract 0 259)[k]? = cs[k]? := fun k hk => by rw [Array.getElem?_extract, if_pos (by omega), Nat.zero_add]
  have hlen : (cs.extract 0 259).toList.length = 259 := by simp; omega
  refine ⟨(cs.extract 0 259).toList, hlen, fun W hc => World.rangeAt_of_block (hmb.chg hc (by simp)) 0 259, fun W b hb => ?_, fun v hv => ?_⟩
  · rw [Array.toArray_toList] at hb
    exact ⟨_, hb, fun k hk => by rw [hrk k (by omega)]; exact mc k hk, by rw [hrk _ (by omega)]; exact ma, by rw [hrk _ (by omega)]; exact mi, by rw [hrk _ (by omega)]; exact mo⟩
  · obtain ⟨i, hi, rfl⟩ := List.getElem_of_mem hv
    have hi2 : i < 259 := by omega
    have e2 : some (cs.extract 0 259).toList[i] = cs[i]? := by rw [← hrk i hi2, ← Array.getElem?_toList]; exact (List.getElem?_eq_getElem hi).symm
    generalize (cs.extract 0 259).toList[i] = u at e2
    by_cases c1 : i < 256
    · rw [mc i c1] at e2; cases e2; rfl
    · have c2 : i = 256 ∨ i = 257 ∨ i = 258 := by omega
      rcases c2 with rfl | rfl | rfl
      · rw [ma] at e2; cases e2; rfl
      · rw [mi] at e2; cases e2; rfl
      · rw [mo] at e2; cases e2; rfl

theorem zero16 : ∃ z : Array Value, (∀ w, (zeroValue 65).run Try.prog w = .ok (.agg z) w) ∧ z.size = 259 :=
  ⟨Array.replicate 259 (.int .u64 0), fun w => by kernel_rfl, by simp⟩

section
variable {w : World} {o : Oper} {a : Act} {K : Act → World → Prop} {Q : Exit → Act → World → Prop}
theorem wp_alloc_z (t : TypeId) (ho : o.op = .alloc t) {z : Array Value} (hz : ∀ w, (zeroValue t).run Try.prog w = .ok (.agg z) w)
    (h : K (a.put o.dst (.pointer (some ⟨w.heap.size, 0, none⟩))) (w.alloc (.cells z t))) : o.wp Try.prog a w K Q := by
  unfold Oper.wp
  simp [execOp, ho, Instr.alloc, Sem.run_bind, hz, newVar, newRow, Value.cells, Result.andThen]
  exact h
theorem setCells_blk {b : Nat} {t : TypeId} : ∀ (vs : List Value) (o : Nat) (w : World) (c : Array Value), Blk w b c t → ∃ c', Blk (w.setCells b o vs) b c' t ∧ c'.size = c.size
  | [], _, _, c, h => ⟨c, h, rfl⟩
  | v :: vs, o, w, c, h => by
    obtain ⟨c', h', e⟩ := setCells_blk vs (o + 1) (w.setCell ⟨b, o, none⟩ v) _ (h.set o v)
    exact ⟨c', h', by simpa using e⟩
theorem setCells_chg {b : Nat} {S : List Nat} {a : World} (hb : b ∈ S ∨ a.heap.size ≤ b) : ∀ (vs : List Value) (o : Nat) (w : World), Chg S a w → Chg S a (w.setCells b o vs)
  | [], _, _, h => h
  | v :: vs, o, w, h => setCells_chg hb vs (o + 1) _ (h.setCell hb v)
theorem wp_store_blk (t : TypeId) (x y : Operand) (ho : o.op = .store t x y) {b : Nat} (hx : a.eval x = .pointer (some ⟨b, 0, none⟩)) {cs : List Value} (hy : a.eval y = .agg cs.toArray) {old : Array Value} (hb : Blk w b old t)
    (hs : old.size = cs.length) (hi : (Try.prog.info? t).map (·.size) = some cs.length) (h1 : ∀ v ∈ cs, v.oneCell' = true)
    (h : ∀ w2, Blk w2 b cs.toArray t → Chg [b] w w2 → K (a.put o.dst undef) w2) : o.wp Try.prog a w K Q := by
  refine wp_store_mid t x y ho b 0 cs.toArray hx hy (fun j hj => ⟨?_, hb.free _⟩) (by simpa using hi) (all_oneCell_toArray h1) ?_
  · rw [hb.cell (0 + j) (v := old.getD (0 + j) undef) (by simp [show j < old.size by simp at hj; omega])]; rfl
  · refine h _ ?_ ?_
    · obtain ⟨c', h', e'⟩ := setCells_blk cs.toArray.toList 0 w old hb
      have : c' = cs.toArray := by
        apply Array.ext_getElem?
        intro j
        by_cases hj : j < cs.length
        · have h1 := World.cell?_setCells_in b cs.toArray.toList 0 w (fun j hj => by
            rw [hb.cell (0 + j) (v := old.getD (0 + j) undef) (by simp [show j < old.size by simp at hj; omega])]; rfl) j (by simpa using hj)
          have h2 := h'.cell (0 + j) (v := c'.getD j undef) (by simp [show j < c'.size by omega])
          rw [h1] at h2
          simp [show j < c'.size by omega, hj] at h2 ⊢
          exact h2.symm
        · simp [show ¬ j < c'.size by omega, hj]
      rw [this] at h'; exact h'
    · exact setCells_chg (.inl (by simp)) _ _ _ (Chg.refl _ _)
end

set_option maxRecDepth 100000 in
set_option maxHeartbeats 8000000 in
theorem law16_PursePlays (vl vm : Value) (w : World) (hl : ∃ n, n ≤ maxLen ∧ Acts16 w vl n) (hm : ∃ n, n ≤ maxLen ∧ Acts16 w vm n) :
    Calls Try.prog 7 #[vl, vm] w fun e w' => e = .returned (.bool true) ∧ Chg [] w w' := by
  obtain ⟨n, hn, hl⟩ := hl
  obtain ⟨m, hmm, hm⟩ := hm
  obtain ⟨la, lcap, rfl⟩ := hl.len
  obtain ⟨ma, mcap, rfl⟩ := hm.len
  by_cases h1 : n ≤ 60 ∧ m ≤ 60
  · obtain ⟨h1, h2⟩ := h1
    obtain ⟨z, hz1, hz2, hz3⟩ := built16
    have HZ := Lib.hid hz3
    clear hz3 hz2
    go_enter Try.func7, Try.ntmps7
    go_wp2_with fail
    refine (law16_lives _).mono ?_
    rintro e w1 ⟨rfl, hc1⟩
    go_wp2_with fail
    refine (purse_New _).mono ?_
    rintro e w2 ⟨p, fp, mb, rfl, hpur, hc2, hfr⟩
    have hf1 := hfr p (by simp)
    have hf2 := hfr fp (by simp)
    have hf3 := hfr mb (by simp)
    have hz := Nat.le_trans hc1.size hc2.size
    have hz1' := hc1.size
    have l1 := hpur.lt
    have hst : St16 (w2.alloc (.cells z 65)) p fp mb w2.heap.size ⟨Led.zero, 0, 0, 0⟩ :=
      ⟨hpur.chg ((Chg.refl [] w2).alloc _) (by simp) (by simp) (by simp), PurOk.zero, Mod16.zero HZ.out w2, by omega, by omega, by omega⟩
    have hcx : Chg [] w (w2.alloc (.cells z 65)) := (hc1.trans hc2 (by simp)).alloc _
    have g1 : w.heap.size ≤ p := by omega
    have g2 : w.heap.size ≤ fp := by omega
    have g3 : w.heap.size ≤ mb := by omega
    clear hpur hc1 hc2 hfr hf1 hf2 hf3 l1 hz1'
    go_wp2_with (refine wpList_build0 rfl 65 rfl hz1 ?_)
    generalize w2.alloc (.cells z 65) = w4 at hst hcx ⊢
    generalize w2.heap.size = q at hst hz ⊢
    have hall : ∀ {W}, Chg [p, fp, mb, q] w4 W → Chg [] w W := fun k => hcx.trans k (by simp [g1, g2, g3, hz])
    clear w1 w2 hz1 HZ
    go_loopw [31] (fun i wr => ∃ (k : Nat) (U : Pur), k ≤ n ∧ i = .int .i64 k ∧ St16 wr p fp mb q U ∧ Chg [p, fp, mb, q] w4 wr) (fun i _ => n - (intOf i).toNat)
    case atStart => exact ⟨0, _, Nat.zero_le _, rfl, hst, Chg.refl _ _⟩
    case round =>
      obtain ⟨k, U, hk, rfl, hsr, hcr⟩ := hrel
      by_cases hlt : k < n
      · obtain ⟨b, off, rfl, hbl, kind, B, x, v1, v2, q0, q1, q2⟩ := (hl.chg (hall hcr)).at hlt
        have hq : Chg [] wr (wr.alloc (.cells #[.int .i64 kind, .int .u8 B, .int .u64 x] 67)) := (Chg.refl [] wr).alloc _
        have hdo := law16_do p fp mb q U kind B x _ (hsr.chg hq (by simp) (by simp) (by simp) (by simp)) v1 v2
        go_wp2_with (go_at_call 35; refine hdo.mono ?_; rintro e w5 ⟨rfl, hs5, hc5⟩)
        have his := law16_is p fp mb q _ w5 hs5
        go_wp2_with (go_at_call 38; refine his.mono ?_; rintro e w6 ⟨rfl, hc6⟩)
        have hs6 := hs5.chg hc6 (by simp) (by simp) (by simp) (by simp)
        go_roundw
        case rel => exact ⟨k + 1, _, by omega, by simp, hs6, ((hcr.trans hq (by simp)).trans hc5 (fun t ht => .inl ht)).trans hc6 (by simp)⟩
        case measure => simp [intOf]; omega
      · obtain rfl : k = n := by omega
        clear hst
        obtain ⟨cs, hmb, mc, ma', mi, mo⟩ := hsr.mod
        clear mc ma' mi mo hmb cs
        obtain ⟨rs, hrs, hrg, hmodn, h1c⟩ := hsr.mod.range
        have hinfo : (Try.prog.info? 65).map (·.size) = some rs.length := by rw [hrs]; kernel_rfl
        have hcopy : ∀ W, Chg [] wr W → Calls Try.prog 39 #[.pointer (some ⟨p, 0, none⟩)] W fun e w' => ∃ p2 fp2 mb2, e = .returned (.pointer (some ⟨p2, 0, none⟩)) ∧ PurAt w' p2 fp2 mb2 U ∧ Chg [] W w' ∧ Fresh W [p2, fp2, mb2] := fun W hc =>
          purse_Copy p fp mb U W (hsr.pur.same hc)
        obtain ⟨z, hzv, hzs⟩ := zero16
        go_upto_region 10 with fail
        go_cut [9, 10] (fun s9 s10 wx => ∃ p2 fp2 mb2 q2 : Nat, s9 = .pointer (some ⟨p2, 0, none⟩) ∧ s10 = .pointer (some ⟨q2, 0, none⟩) ∧ St16 wx p2 fp2 mb2 q2 U ∧ Chg [] wr wx ∧ wr.heap.size ≤ p2 ∧ wr.heap.size ≤ fp2 ∧ wr.heap.size ≤ mb2 ∧ wr.heap.size ≤ q2)
        case first =>
          refine wp_region_held_drew (S := fun w' => Chg [] wr w') (by kernel_rfl) ((Chg.refl _ _).drew) (fun hH => ?_)
          refine wpAnyH_take (i := 0) (v := .pointer (some ⟨p, 0, none⟩)) rfl (by kernel_rfl) (by kernel_rfl) (by kernel_rfl) (fun _ _ _ h => h) (.inl ⟨by rfl, fun w' _ => ?_⟩) hH ?_
          · go_simp
          try simp only [Act.put, List.setIfInBounds_toArray, List.set_cons_zero, List.set_cons_succ]
          refine wpAnyH_take (i := 2) (v := .pointer (some ⟨q, 0, none⟩)) rfl (by kernel_rfl) (by kernel_rfl) (by kernel_rfl) (fun _ _ _ h => h) (.inl ⟨by rfl, fun w' _ => ?_⟩) hH ?_
          · go_simp
          try simp only [Act.put, List.setIfInBounds_toArray, List.set_cons_zero, List.set_cons_succ]
          refine wpAnyH_take (i := 3) (v := .pointer (some ⟨q, 0, none⟩)) rfl (by kernel_rfl) (by kernel_rfl) (by kernel_rfl) (fun _ _ _ h => h) (.inl ⟨by rfl, fun w' _ => ?_⟩) hH ?_
          · go_simp
          try simp only [Act.put, List.setIfInBounds_toArray, List.set_cons_zero, List.set_cons_succ]
          refine wpAnyH_take (i := 4) (v := _) rfl (by kernel_rfl) (by kernel_rfl) (by kernel_rfl) (fun _ _ _ h => h) (yieldsIf_load_mid (by rfl) 65 _ rfl q 0 rfl rs _ hrg Try.underlying65 rfl hinfo) hH ?_
          try simp only [Act.put, List.setIfInBounds_toArray, List.set_cons_zero, List.set_cons_succ]
          refine wpAnyH_ready (rs := [1, 5]) (by kernel_rfl) (by simp) (AllReadyH.cons rfl (fun K hK => ?_) (AllReadyH.cons rfl (fun K hK => ?_) AllReadyH.nil))
          · go_simp
            go_at_call 39
            refine (hcopy _ hH).mono ?_
            rintro e w5 ⟨p2, fp2, mb2, rfl, hp5, hc5, hf5⟩
            dsimp only
            have f1 := hf5 p2 (by simp)
            have f2 := hf5 fp2 (by simp)
            have f3 := hf5 mb2 (by simp)
            simp only [World.size_drew] at f1 f2 f3
            have l5 := hp5.lt
            have hH5 := hH.trans hc5 (by simp)
            refine hK.out _ _ hH5 (fun _ => ?_)
            refine wpAnyH_ready (rs := [5]) (by kernel_rfl) (by simp) (AllReadyH.cons rfl (fun K hK => ?_) AllReadyH.nil)
            rw [if_pos (by rfl)]
            refine wp_alloc_z 65 rfl hzv ?_
            have hb6 := Blk.new w5 z 65
            have hH6 := hH5.alloc (.cells z 65)
            have hp6 := hp5.same ((Chg.refl [] w5).alloc (.cells z 65))
            refine hK.out _ _ hH6 (fun _ => ?_)
            try simp only [Act.put, List.setIfInBounds_toArray, List.set_cons_zero, List.set_cons_succ]
            have hfr : wr.heap.size ≤ w5.heap.size := hH5.size
            refine wpAnyH_ready (rs := [6]) (by kernel_rfl) (by simp) (AllReadyH.cons rfl (fun K hK => ?_) AllReadyH.nil)
            go_simp
            refine hK.out _ _ hH6 (fun _ => ?_)
            try simp only [Act.put, List.setIfInBounds_toArray, List.set_cons_zero, List.set_cons_succ]
            refine wpAnyH_ready (rs := [7]) (by kernel_rfl) (by simp) (AllReadyH.cons rfl (fun K hK => ?_) AllReadyH.nil)
            rw [if_pos (by rfl)]
            refine wp_store_blk 65 _ _ rfl rfl rfl hb6 (by omega) hinfo h1c ?_
            intro w7 hb7 hc7
            have hH7 : Chg [] wr w7 := hH6.trans hc7 (by simp [hfr])
            refine hK.out _ _ hH7 (fun _ => ?_)
            try simp only [Act.put, List.setIfInBounds_toArray, List.set_cons_zero, List.set_cons_succ]
            refine wpAnyH_done (by kernel_rfl) ?_ _
            have hst2 : St16 w7 p2 fp2 mb2 w5.heap.size U := ⟨hp6.chg hc7 (by simp; omega) (by simp; omega) (by simp; omega), hsr.ok, hmodn w7 _ hb7, by omega, by omega, by omega⟩
            go_wp2_with fail
            go_meet
            exact ⟨p2, fp2, mb2, w5.heap.size, rfl, rfl, hst2, hH7, f1, f2, f3, hfr⟩
          · rw [if_pos (by rfl)]
            refine wp_alloc_z 65 rfl hzv ?_
            have hb5 := Blk.new wr.drew z 65
            have hH5 := hH.alloc (.cells z 65)
            refine hK.out _ _ hH5 (fun _ => ?_)
            try simp only [Act.put, List.setIfInBounds_toArray, List.set_cons_zero, List.set_cons_succ, World.size_drew]
            simp only [World.size_drew] at hb5
            refine wpAnyH_ready (rs := [1]) (by kernel_rfl) (by simp) (AllReadyH.cons rfl (fun K hK => ?_) AllReadyH.nil)
            go_simp
            go_at_call 39
            refine (hcopy _ hH5).mono ?_
            rintro e w6 ⟨p2, fp2, mb2, rfl, hp6, hc6, hf6⟩
            dsimp only
            have f1 := hf6 p2 (by simp)
            have f2 := hf6 fp2 (by simp)
            have f3 := hf6 mb2 (by simp)
            simp only [World.size_drew, World.size_alloc] at f1 f2 f3
            have hb6 := hb5.chg hc6 (by simp)
            have hH6 := hH5.trans hc6 (by simp)
            refine hK.out _ _ hH6 (fun _ => ?_)
            try simp only [Act.put, List.setIfInBounds_toArray, List.set_cons_zero, List.set_cons_succ]
            have hfr : wr.heap.size ≤ wr.heap.size := Nat.le_refl _
            refine wpAnyH_ready (rs := [6]) (by kernel_rfl) (by simp) (AllReadyH.cons rfl (fun K hK => ?_) AllReadyH.nil)
            go_simp
            refine hK.out _ _ hH6 (fun _ => ?_)
            try simp only [Act.put, List.setIfInBounds_toArray, List.set_cons_zero, List.set_cons_succ]
            refine wpAnyH_ready (rs := [7]) (by kernel_rfl) (by simp) (AllReadyH.cons rfl (fun K hK => ?_) AllReadyH.nil)
            rw [if_pos (by rfl)]
            refine wp_store_blk 65 _ _ rfl rfl rfl hb6 (by omega) hinfo h1c ?_
            intro w7 hb7 hc7
            have hH7 : Chg [] wr w7 := hH6.trans hc7 (by simp [hfr])
            refine hK.out _ _ hH7 (fun _ => ?_)
            try simp only [Act.put, List.setIfInBounds_toArray, List.set_cons_zero, List.set_cons_succ]
            refine wpAnyH_done (by kernel_rfl) ?_ _
            have hst2 : St16 w7 p2 fp2 mb2 wr.heap.size U := ⟨hp6.chg hc7 (by simp; omega) (by simp; omega) (by simp; omega), hsr.ok, hmodn w7 _ hb7, by omega, by omega, by omega⟩
            go_wp2_with fail
            go_meet
            exact ⟨p2, fp2, mb2, wr.heap.size, rfl, rfl, hst2, hH7, by omega, by omega, by omega, hfr⟩
        case rest =>
          obtain ⟨p2, fp2, mb2, q2, rfl, rfl, hst2, hcc, f1, f2, f3, f4⟩ := hcut
          clear hcopy hmodn hrg h1c hinfo hzv
          have hcw : Chg [] w wc := (hall hcr).trans hcc (by simp)
          have lr := hsr.pur.lt
          have lq := hsr.mod.lt
          have e1 : p ≠ p2 ∧ p ≠ fp2 ∧ p ≠ mb2 ∧ p ≠ q2 ∧ fp ≠ p2 ∧ fp ≠ fp2 ∧ fp ≠ mb2 ∧ fp ≠ q2 ∧ mb ≠ p2 ∧ mb ≠ fp2 ∧ mb ≠ mb2 ∧ mb ≠ q2 ∧ q ≠ p2 ∧ q ≠ fp2 ∧ q ≠ mb2 ∧ q ≠ q2 := by omega
          have hsc := hsr.chg hcc (by simp) (by simp) (by simp) (by simp)
          have z0 := (hall hcr).size
          have hall2 : ∀ {W}, Chg [p2, fp2, mb2, q2] wc W → Chg [] w W := fun k => hcw.trans k (by simp; omega)
          clear hsr hcr hcc hall hcx lr lq
          go_wp2
          go_loopw [54] (fun i wr => ∃ (k : Nat) (U2 : Pur), k ≤ m ∧ i = .int .i64 k ∧ St16 wr p2 fp2 mb2 q2 U2 ∧ Chg [p2, fp2, mb2, q2] wc wr) (fun i _ => m - (intOf i).toNat)
          case atStart => exact ⟨0, _, Nat.zero_le _, rfl, hst2, Chg.refl _ _⟩
          case round =>
            obtain ⟨k, U2, hk, rfl, hsr, hcr⟩ := hrel
            by_cases hlt : k < m
            · obtain ⟨b, off, rfl, hbl, kind, B, x, v1, v2, q0, q1, q2'⟩ := (hm.chg (hall2 hcr)).at hlt
              have hq : Chg [] wr (wr.alloc (.cells #[.int .i64 kind, .int .u8 B, .int .u64 x] 67)) := (Chg.refl [] wr).alloc _
              have hdo := law16_do p2 fp2 mb2 q2 U2 kind B x _ (hsr.chg hq (by simp) (by simp) (by simp) (by simp)) v1 v2
              go_wp2_with (go_at_call 35; refine hdo.mono ?_; rintro e w5 ⟨rfl, hs5, hc5⟩)
              go_roundw
              case rel => exact ⟨k + 1, _, by omega, by simp, hs5, (hcr.trans hq (by simp)).trans hc5 (fun t ht => .inl ht)⟩
              case measure => simp [intOf]; omega
            · obtain rfl : k = m := by omega
              have hs1 := hsc.chg hcr (by simp [e1]) (by simp [e1]) (by simp [e1]) (by simp [e1])
              have is1 := law16_is p fp mb q U wr hs1
              go_wp2_with (first
                | (go_at_call_of 38 (Value.pointer (some ⟨p, 0, none⟩)); refine is1.mono ?_; rintro e w11 ⟨rfl, hc11⟩; have is2 := law16_is p2 fp2 mb2 q2 U2 w11 (hsr.chg hc11 (by simp) (by simp) (by simp) (by simp)))
                | (go_at_call_of 38 (Value.pointer (some ⟨p2, 0, none⟩)); refine is2.mono ?_; rintro e w12 ⟨rfl, hc12⟩))
              go_ret
              exact ⟨rfl, ((hall2 hcr).trans hc11 (by simp)).trans hc12 (by simp)⟩
  · by_cases h2 : n ≤ 60
    · have h3 : 60 < m := by omega
      go_enter Try.func7, Try.ntmps7
      go_wp2_with fail
      refine (law16_lives _).mono ?_
      rintro e w1 ⟨rfl, hc1⟩
      go_wp2_with fail
      refine (law16_lives _).mono ?_
      rintro e w2 ⟨rfl, hc2⟩
      go_wp2
      go_ret
      exact ⟨rfl, hc1.trans hc2 (by simp)⟩
    · have h3 : 60 < n := by omega
      go_enter Try.func7, Try.ntmps7
      go_wp2_with fail
      refine (law16_lives _).mono ?_
      rintro e w1 ⟨rfl, hc1⟩
      go_wp2_with fail
      refine (law16_lives _).mono ?_
      rintro e w2 ⟨rfl, hc2⟩
      go_wp2
      go_ret
      exact ⟨rfl, hc1.trans hc2 (by simp)⟩
end Go.Proofs.Ytbagkfeodjkdmaa

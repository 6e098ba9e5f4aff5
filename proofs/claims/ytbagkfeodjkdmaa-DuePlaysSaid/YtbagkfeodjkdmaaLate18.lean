/- pontagelaw18.late: who is late, in order. -/
import Derived.Test.YtbagkfeodjkdmaaThApp
import Derived.Test.YtbagkfeodjkdmaaDueLate
import Derived.Test.YtbagkfeodjkdmaaInv
namespace Go.Proofs.Ytbagkfeodjkdmaa
open Go.RowKit Go.Maps Go.Shelf Go.Deep

/-- the inner loop's find: of the first k. -/
def Best (lf : List Thing) (now : Int) (k : Nat) (b : Int) : Prop :=
  (b = -1 ∧ ∀ u ∈ lf.take k, ¬ u.due < now) ∨ ∃ (j : Nat) (h : j < lf.length), b = j ∧ j < k ∧ lf[j].due < now ∧ (∀ u ∈ lf.take j, u.due < now → lf[j].due < u.due) ∧ (∀ u ∈ lf.take k, u.due < now → lf[j].due ≤ u.due)
theorem Best.start (lf : List Thing) (now : Int) : Best lf now 0 (-1) := .inl ⟨rfl, by simp⟩
theorem mem_take_succ {lf : List Thing} {k : Nat} (hk : k < lf.length) {u : Thing} (h : u ∈ lf.take (k + 1)) : u ∈ lf.take k ∨ u = lf[k] := by
  rw [List.take_succ_eq_append_getElem hk] at h
  exact (List.mem_append.1 h).imp id (fun h => List.mem_singleton.1 h)
theorem Best.skip {lf : List Thing} {now : Int} {k : Nat} {b : Int} (h : Best lf now k b) (hk : k < lf.length) (hn : ¬ lf[k].due < now) : Best lf now (k + 1) b := by
  rcases h with ⟨rfl, h⟩ | ⟨j, hj, rfl, h1, h2, h3, h4⟩
  · refine .inl ⟨rfl, fun u hu => ?_⟩
    rcases mem_take_succ hk hu with hu | rfl
    · exact h u hu
    · exact hn
  · refine .inr ⟨j, hj, rfl, by omega, h2, h3, fun u hu hd => ?_⟩
    rcases mem_take_succ hk hu with hu | rfl
    · exact h4 u hu hd
    · exact absurd hd hn
theorem Best.keep {lf : List Thing} {now : Int} {k j : Nat} (h : Best lf now k j) (hk : k < lf.length) (hj : j < lf.length) (hn : lf[j].due ≤ lf[k].due) : Best lf now (k + 1) j := by
  rcases h with ⟨e, _⟩ | ⟨j', hj', e, h1, h2, h3, h4⟩
  · omega
  · obtain rfl : j = j' := by omega
    refine .inr ⟨j, hj, rfl, by omega, h2, h3, fun u hu hd => ?_⟩
    rcases mem_take_succ hk hu with hu | rfl
    · exact h4 u hu hd
    · exact hn
theorem Best.first {lf : List Thing} {now : Int} {k : Nat} (h : Best lf now k (-1)) (hk : k < lf.length) (hd : lf[k].due < now) : Best lf now (k + 1) k := by
  rcases h with ⟨_, h⟩ | ⟨j, hj, e, _⟩
  · refine .inr ⟨k, hk, rfl, by omega, hd, fun u hu hl => absurd hl (h u hu), fun u hu hl => ?_⟩
    rcases mem_take_succ hk hu with hu | rfl
    · exact absurd hl (h u hu)
    · exact Int.le_refl _
  · omega
theorem Best.turn {lf : List Thing} {now : Int} {k j : Nat} (h : Best lf now k j) (hk : k < lf.length) (hj : j < lf.length) (hd : lf[k].due < now) (hn : lf[k].due < lf[j].due) : Best lf now (k + 1) k := by
  rcases h with ⟨e, _⟩ | ⟨j', hj', e, h1, h2, h3, h4⟩
  · omega
  · obtain rfl : j = j' := by omega
    refine .inr ⟨k, hk, rfl, by omega, hd, fun u hu hl => by have := h4 u hu hl; omega, fun u hu hl => ?_⟩
    rcases mem_take_succ hk hu with hu | rfl
    · have := h4 u hu hl; omega
    · exact Int.le_refl _
theorem Best.cases {lf : List Thing} {now : Int} {k : Nat} {b : Int} (h : Best lf now k b) : b = -1 ∨ ∃ j : Nat, b = j ∧ j < lf.length := by
  rcases h with ⟨e, _⟩ | ⟨j, hj, e, _⟩
  · exact .inl e
  · exact .inr ⟨j, e, hj⟩
theorem Best.none_ {lf : List Thing} {now : Int} (h : Best lf now lf.length (-1)) : ∀ u ∈ lf, ¬ u.due < now := by
  rcases h with ⟨_, h⟩ | ⟨j, hj, e, _⟩
  · rwa [List.take_length] at h
  · omega
theorem Best.some_ {T : Tab} {m lf : List Thing} {now : Int} {os : List Int} {j : Nat} (h : Best lf now lf.length j) (hj : j < lf.length) (hm : TabM T m) (hi : LateInv T m now os lf) :
    LateInv T m now (os ++ [lf[j].id]) (lf.take j ++ lf.drop (j + 1)) := by
  rcases h with ⟨e, _⟩ | ⟨j', hj', e, h1, h2, h3, h4⟩
  · omega
  · obtain rfl : j = j' := by omega
    have e1 : lf = lf.take j ++ lf[j] :: lf.drop (j + 1) := by rw [← List.drop_eq_getElem_cons hj, List.take_append_drop]
    have hi' : LateInv T m now os (lf.take j ++ lf[j] :: lf.drop (j + 1)) := by rw [← e1]; exact hi
    refine hi'.step hm h2 h3 fun u hu hl => h4 u ?_ hl
    rw [List.take_length]
    exact List.mem_of_mem_drop hu

set_option maxRecDepth 100000 in
set_option maxHeartbeats 4000000 in
theorem law18_late (n₀ : Nat) (v : Value) (m : List Thing) (T : Tab) (now : Int) (w : World) (hv : Th n₀ w v m) (hm : TabM T m) (hlen : m.length ≤ 1000) :
    Calls Try.prog 62 #[v, .int .u64 now] w fun e w' => ∃ y os, e = .returned y ∧ SlI w' .u64 y os ∧ os.Pairwise T.lt ∧ (∀ x, x ∈ os ↔ T.late x now = true) ∧ os.length ≤ m.length ∧ (∀ k, inBlk y k → w.heap.size ≤ k) ∧ Chg [] w w' := by
  obtain ⟨i0, hi, hz0, hz1, hz2⟩ := info_parts infoAU
  obtain ⟨a, cap, rfl⟩ := hv.len
  go_enter Try.func62, Try.ntmps62
  go_wp2_with (first
    | (at_builtin; refine wpList_append_T rfl _ _ rfl w.heap.size _ _ [] m rfl rfl (Th.empty w.heap.size w (Nat.le_refl _)) (hv.alloc _).read (by simp) (by simp; omega) ?_; intro v1 w1 ht1 hg1 hl1)
    | go_in)
  have hc1 : Chg [] w w1 := ((Chg.refl [] w).alloc (.cells #[] 111)).grown hg1 (fun k e => .inr (by cases e; exact Nat.le_refl _))
  simp only [List.nil_append] at ht1
  have z1 := hc1.size
  clear hg1 hl1
  obtain ⟨b1, cap1, rfl⟩ := ht1.len
  obtain ⟨s, hs⟩ : ∃ s, s = w.heap.size := ⟨_, rfl⟩
  rw [← hs] at ht1
  have hs' := Lib.hid hs
  clear hs
  go_loopw [5, 6] (fun s5 s6 wr => ∃ (vo vl : Value) (os : List Int) (lf : List Thing), vo = s5 ∧ vl = s6 ∧ wr.ownsRow s 23 1 vo os.length (os.map (Value.int .u64)) ∧ Th s wr vl lf ∧ LateInv T m now os lf ∧ os.length + lf.length = m.length ∧ Chg [] w wr) (fun _ s6 _ => match s6 with | .slice _ n _ => n | _ => 0)
  case atStart => exact ⟨_, _, [], m, rfl, rfl, by simpa using World.ownsRow_nil _ _ _ _, ht1, LateInv.start T m now, by simp, hc1⟩
  case round =>
    obtain ⟨vo, vl, os, lf, rfl, rfl, hrow, htl, hli, hsum, hch⟩ := hrel
    obtain ⟨ba, bcap, rfl⟩ := htl.len
    go_wp2
    have hlf : lf.length ≤ 1000 := by omega
    go_loopw [7, 15] (fun s7 s15 wr2 => ∃ (k : Nat) (b : Int), s7 = .int .i64 b ∧ s15 = .int .i64 k ∧ k ≤ lf.length ∧ Best lf now k b ∧ Chg [] wr wr2) (fun _ s15 _ => lf.length - (intOf s15).toNat)
    case atStart => exact ⟨0, -1, rfl, rfl, Nat.zero_le _, Best.start _ _, Chg.refl _ _⟩
    case round =>
      obtain ⟨k, b, rfl, rfl, hk, hbest, hcr⟩ := hrel
      by_cases hlt : k < lf.length
      · obtain ⟨g, rfl, q0, q1, q2⟩ := (htl.chg hcr (by simp)).cell hlt
        have hq : Chg [] wr (wr.alloc (.cells #[.int .u64 lf[k].id, .int .u64 lf[k].due, .string lf[k].x] 111)) := (Chg.refl [] wr).alloc _
        have hcq := hcr.trans hq (by simp)
        have hbt := Blk.new wr #[.int .u64 lf[k].id, .int .u64 lf[k].due, .string lf[k].x] 111
        have z1 := hbt.cell 1 (v := .int .u64 lf[k].due) rfl
        by_cases hd : lf[k].due < now
        · rcases hbest.cases with rfl | ⟨j, rfl, hj⟩
          · have hb2 := hbest.first hlt hd
            clear hbest
            go_wp2
            go_quiet (fail)
            go_wp2
            go_roundw
            case rel => exact ⟨k + 1, _, rfl, by simp, by omega, hb2, hcq.drewN _⟩
            case measure => simp [intOf]; omega
          · obtain ⟨g', e', p0, p1, p2⟩ := (htl.chg hcq (by simp)).cell hj
            cases e'
            by_cases hn : lf[k].due < lf[j].due
            · have hb2 := hbest.turn hlt hj hd hn
              clear hbest p0 p2
              go_wp2
              go_quiet (fail)
              go_wp2
              go_roundw
              case rel => exact ⟨k + 1, _, rfl, by simp, by omega, hb2, hcq.drewN _⟩
              case measure => simp [intOf]; omega
            · have hn' : lf[j].due ≤ lf[k].due := by omega
              have hb2 := hbest.keep hlt hj hn'
              clear hbest p0 p2 hn
              go_wp2
              go_quiet (fail)
              go_wp2
              go_roundw
              case rel => exact ⟨k + 1, _, rfl, by simp, by omega, hb2, hcq.drewN _⟩
              case measure => simp [intOf]; omega
        · have hd' : decide (lf[k].due < now) = false := by simpa using hd
          have hb2 := hbest.skip hlt hd
          clear hbest hd
          go_wp2
          go_quiet (fail)
          go_wp2
          go_roundw
          case rel => exact ⟨k + 1, _, rfl, by simp, by omega, hb2, hcq.drewN _⟩
          case measure => simp [intOf]; omega
      · obtain rfl : k = lf.length := by omega
        rcases hbest.cases with rfl | ⟨j, rfl, hj⟩
        · have hdone := hli.done hm hbest.none_
          obtain ⟨hsl, hin⟩ := SlI.of_own (row_chg hrow hcr (by simp))
          clear hbest
          go_wp2
          go_ret
          exact ⟨_, os, rfl, hsl, hli.asc, hdone, by omega, fun k hk => by have := hin k hk; have := hs'.out; omega, hch.trans hcr (by simp)⟩
        · have hli2 := hbest.some_ hj hm hli
          obtain ⟨g, rfl, q0, q1, q2⟩ := (htl.chg hcr (by simp)).cell hj
          have hrow2 := row_chg hrow hcr (by simp)
          have hnr := hch.trans hcr (by simp)
          clear hbest
          have htl2 := htl.chg hcr (by simp)
          have hws : s ≤ wr.heap.size := by have := hs'.out; have := hnr.size; omega
          go_wp2_with (first
            | (at_builtin; refine wpList_append_own_at _ rfl _ _ 22 rfl s 23 i0 (.int .u64 0) 1 8 Try.underlying22 hi hz0 hz1 hz2 rfl (by decide) vo _ _ rfl (hrow2.alloc _) ⟨wr.heap.size, 0, none⟩ 1 1 [.int .u64 lf[j].id] rfl rfl (cell_one_new _ _ _) (by simp [Value.oneCell']) (by unfold maxLen; omega) (by omega) (by simp; omega) ?_; intro v' w4 hown' hgrow hnil' hloc)
            | go_in)
          have htl4 : Th s w4 (.slice (some ⟨g, 0, none⟩) lf.length bcap) lf := (htl2.alloc _).kept hgrow (rows_ne hrow2 htl2 (by decide))
          have hc4 : Chg [] w w4 := (hnr.alloc (.cells #[.int .u64 lf[j].id] 23)).grown hgrow (fun k e => .inr (by have := (row_low hrow2 k e).1; have := hs'.out; omega))
          have hn4 : s ≤ w4.heap.size := by have := hs'.out; have := hc4.size; omega
          --CUT
          have hcap : lf.length ≤ bcap := th_cap htl4
          refine wp_region_any (by kernel_rfl) ?_
          change wpAny _ _ _ _ _ _ _ (World.drew _)
          refine wpAny_take (i := 1) (v := .slice (some ⟨g, 0, none⟩) lf.length bcap) rfl (by kernel_rfl) (by kernel_rfl) (by kernel_rfl) (fun _ _ _ h => h) (Or.inl ⟨by rfl, fun w' => ?_⟩) ?_
          · go_simp
          try simp only [Act.put, List.setIfInBounds_toArray, List.set_cons_zero, List.set_cons_succ, List.getElem_toArray, List.getElem_cons_succ, List.getElem_cons_zero]
          refine wpAny_take (i := 2) (v := .int .i64 j) rfl (by kernel_rfl) (by kernel_rfl) (by kernel_rfl) (fun _ _ _ h => h) (Or.inl ⟨by rfl, fun w' => ?_⟩) ?_
          · go_simp
          try simp only [Act.put, List.setIfInBounds_toArray, List.set_cons_zero, List.set_cons_succ, List.getElem_toArray, List.getElem_cons_succ, List.getElem_cons_zero]
          refine wpAny_take (i := 3) (v := .slice (some ⟨g, 0, none⟩) j bcap) rfl (by kernel_rfl) (by kernel_rfl) (by kernel_rfl) (fun _ _ _ h => h) (Or.inl ⟨by rfl, fun w' => ?_⟩) ?_
          · go_simp
            intro h
            exfalso
            omega
          try simp only [Act.put, List.setIfInBounds_toArray, List.set_cons_zero, List.set_cons_succ, List.getElem_toArray, List.getElem_cons_succ, List.getElem_cons_zero]
          refine wpAny_take (i := 5) (v := .slice (some ⟨g, 0, none⟩) lf.length bcap) rfl (by kernel_rfl) (by kernel_rfl) (by kernel_rfl) (fun _ _ _ h => h) (Or.inl ⟨by rfl, fun w' => ?_⟩) ?_
          · go_simp
          try simp only [Act.put, List.setIfInBounds_toArray, List.set_cons_zero, List.set_cons_succ, List.getElem_toArray, List.getElem_cons_succ, List.getElem_cons_zero]
          refine wpAny_take (i := 6) (v := .int .i64 j) rfl (by kernel_rfl) (by kernel_rfl) (by kernel_rfl) (fun _ _ _ h => h) (Or.inl ⟨by rfl, fun w' => ?_⟩) ?_
          · go_simp
          try simp only [Act.put, List.setIfInBounds_toArray, List.set_cons_zero, List.set_cons_succ, List.getElem_toArray, List.getElem_cons_succ, List.getElem_cons_zero]
          refine wpAny_take (i := 7) (v := .int .i64 (j + 1)) rfl (by kernel_rfl) (by kernel_rfl) (by kernel_rfl) (fun _ _ _ h => h) (Or.inl ⟨by rfl, fun w' => ?_⟩) ?_
          · go_simp
            rw [IntKind.wrap_i64]
            omega
          try simp only [Act.put, List.setIfInBounds_toArray, List.set_cons_zero, List.set_cons_succ, List.getElem_toArray, List.getElem_cons_succ, List.getElem_cons_zero]
          refine wpAny_take (i := 8) (v := .slice (if bcap = j + 1 then some ⟨g, 0, none⟩ else some ⟨g, (j + 1) * 3, none⟩) (lf.length - (j + 1)) (bcap - (j + 1))) rfl (by kernel_rfl) (by kernel_rfl) (by kernel_rfl) (fun _ _ _ h => h) (Or.inl ⟨by rfl, fun w' => ?_⟩) ?_
          · go_simp
            first | (intro h; exfalso; have := h (by omega); omega) | (rw [if_pos (by omega)])
          try simp only [Act.put, List.setIfInBounds_toArray, List.set_cons_zero, List.set_cons_succ, List.getElem_toArray, List.getElem_cons_succ, List.getElem_cons_zero]
          refine wpAny_ready (rs := [0]) (by kernel_rfl) (by simp) (AllReady.cons rfl (fun K hK => ?_) AllReady.nil)
          go_simp
          refine hK _ _ ?_
          clear hK K
          try simp only [Act.put, List.setIfInBounds_toArray, List.set_cons_zero, List.set_cons_succ, List.getElem_toArray, List.getElem_cons_succ, List.getElem_cons_zero]
          refine wpAny_ready (rs := [4]) (by kernel_rfl) (by simp) (AllReady.cons rfl (fun K hK => ?_) AllReady.nil)
          rw [if_pos (by rfl)]
          refine op_append_T _ _ rfl s (.slice (some ⟨(w4).drew.heap.size, 0, none⟩) 0 0) (.slice (some ⟨g, 0, none⟩) j bcap) [] _ rfl rfl (Th.empty s (w4).drew hn4) ((Th.readTake (Th.drew htl4) (Nat.le_of_lt hj)).alloc _) (by have := hn4; simp; omega) (by simp only [List.length_nil, List.length_take]; omega) ?_
          intro vx wx htx hgx hlx
          refine hK _ _ ?_
          clear hK K
          try simp only [Act.put, List.setIfInBounds_toArray, List.set_cons_zero, List.set_cons_succ, List.getElem_toArray, List.getElem_cons_succ, List.getElem_cons_zero]
          refine wpAny_ready (rs := [9]) (by kernel_rfl) (by simp) (AllReady.cons rfl (fun K hK => ?_) AllReady.nil)
          rw [if_pos (by rfl)]
          have hsx : (w4).heap.size + 1 ≤ wx.heap.size := by have h1 : ((w4).alloc (.cells #[] 111)).heap.size ≤ wx.heap.size := hgx.size; rwa [World.size_alloc] at h1
          have hgl := (Th.low htl4 (g := g) rfl).2
          refine op_append_T _ _ rfl s vx _ _ _ rfl rfl htx (((Th.readDrop (Th.drew htl4) hj (bcap - (j + 1))).alloc _).kept hgx (fun g2 e => by rw [th_if_block] at e; cases e; intro e2; have e3 : g = (w4).heap.size := Option.some.inj e2; omega)) (by have h2 := hn4; omega) (by simp only [List.length_append, List.length_nil, List.length_take, List.length_drop]; omega) ?_
          intro vz wz htz hgz hlz
          refine hK _ _ ?_
          clear hK K
          try simp only [Act.put, List.setIfInBounds_toArray, List.set_cons_zero, List.set_cons_succ, List.getElem_toArray, List.getElem_cons_succ, List.getElem_cons_zero]
          have hcz : Chg [] (w4) wz := (((Chg.refl [] (w4)).drew.alloc (.cells #[] 111)).grown hgx (fun k e => .inr (by cases e; exact Nat.le_refl _))).grown hgz (fun k e => .inr (by rcases hlx with h | h <;> rw [h] at e <;> have e3 := Option.some.inj e; exact Nat.le_of_eq e3; have e4 : ((w4).alloc (.cells #[] 111)).heap.size = k := e3; rw [World.size_alloc] at e4; omega))
          clear hgx hlx hgz hlz htx
          refine wpAny_ready (rs := [10]) (by kernel_rfl) (by simp) (AllReady.cons rfl (fun K hK => ?_) AllReady.nil)
          go_simp
          refine hK _ _ ?_
          clear hK K
          try simp only [Act.put, List.setIfInBounds_toArray, List.set_cons_zero, List.set_cons_succ, List.getElem_toArray, List.getElem_cons_succ, List.getElem_cons_zero]
          refine wpAny_done (by kernel_rfl) ?_ _
          --END
          go_wp2
          go_roundw
          case rel => exact ⟨v', vz, os ++ [lf[j].id], lf.take j ++ lf.drop (j + 1), rfl, rfl, by simpa using row_chg hown' hcz (by simp), htz, hli2, by simp; omega, hc4.trans hcz (by simp)⟩
          case measure =>
            obtain ⟨za, zcap, rfl⟩ := htz.len
            simp; omega
end Go.Proofs.Ytbagkfeodjkdmaa

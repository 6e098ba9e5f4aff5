import Derived.Test.YtmkgbinmilcojaaGreatTreeAddT
import Derived.Test.YtmkgbinmilcojaaGreatReadParse
import Derived.DeepKeys3

/- Package relay: what a relay is; New; hashes compared. -/
namespace Go.Proofs.YtmkgbinmilcojaaGreat
open Go.RowKit Go.Maps Go.WideMaps
attribute [-go_sem] loadCellsFrom Instr.build

set_option maxRecDepth 100000 in
theorem hash_eq {a b : List Nat} (ha : HK a) (hb : HK b) (w : World) : (Op.equalIn 10000 26 (hv a) (hv b)).run Tryz.prog w = .ok (decide (a = b)) w := by
  obtain ⟨r, hr, he⟩ := run_equal_deep (P := Tryz.prog) w (m := 2) (by omega) (arrH.at 0) arrH.wide (keyOf_hash ha) (keyOf_hash hb)
  have hr2 : (Op.equalIn 10000 26 (hv a) (hv b)).run Tryz.prog w = .ok r w := hr
  rw [hr2]
  have : r = decide (a = b) := by
    cases r with
    | true => have := keyH_inj ha hb (he.1 rfl); simp [this]
    | false =>
      have hne : a ≠ b := fun e => by subst e; exact absurd (he.2 rfl) (by simp)
      simp [hne]
  rw [this]
/-- the relay at block rb. -/
structure RelAt (w : World) (rb : Nat) (x : Lt) (T : Tr) (d : Nat) : Prop where
  blk : Blk w rb (T.r.l ++ [Value.pointer (some ⟨x.b, 0, none⟩), Value.int .i64 (d : Int)]).toArray 124
  t : TreeAt w x T
theorem r_cell {l : List Value} (h : l.length = 72) (a b : Value) : (l ++ [a, b]).toArray[72]? = some a ∧ (l ++ [a, b]).toArray[73]? = some b := by
  simp [h]
theorem r_set73 {l : List Value} (h : l.length = 72) (a b v : Value) : (l ++ [a, b]).toArray.setIfInBounds 73 v = (l ++ [a, v]).toArray := by
  apply Array.ext'
  simp only [Array.toList_setIfInBounds]
  rw [List.set_append_right _ _ (by omega), h]
  rfl
set_option maxRecDepth 100000 in
set_option maxHeartbeats 2000000 in
theorem relay_New (r : Rl) (ok : RlOk r) (w : World) :
    Calls Tryz.prog 19 #[.agg r.cs] w fun e w' => Chg [] w w' ∧ ((checkR r ≠ 0 ∧ e = .returned (.tuple #[.pointer none, .int .i64 (checkR r)])) ∨ (checkR r = 0 ∧ ∃ rb x, e = .returned (.tuple #[.pointer (some ⟨rb, 0, none⟩), .int .i64 0]) ∧ RelAt w' rb x (newT r) 0 ∧ w.heap.size ≤ rb ∧ x.low w.heap.size ∧ rb ∉ x.all)) := by
  have hnew := tree_New r ok
  have hbr := build_relay (l := r.l) (Rl.len ok)
  have bR := Blk.new w r.cs 30
  have k0 : Chg [] w (w.alloc (.cells r.cs 30)) := (Chg.refl _ _).alloc _
  have hrs : r.cs.size = 72 := Rl.size ok
  have hld := load_blkC bR 72 hrs
  change ∀ p w, (Instr.build 124 #[(0, .agg r.cs), (1, .pointer p)]).run Tryz.prog w = _ at hbr
  obtain ⟨rl, hrl⟩ : ∃ rl, rl = r.l := ⟨_, rfl⟩
  obtain ⟨cs, hcs⟩ : ∃ cs, cs = r.cs := ⟨_, rfl⟩
  rw [← hcs] at bR k0 hrs hld ⊢
  simp only [← hcs, ← hrl] at hnew hbr
  have hrl' := Lib.hid hrl
  have hcs' := Lib.hid hcs
  clear hrl hcs
  have hok' := Lib.hid ok
  go_enter Tryz.func19, Tryz.ntmps19
  go_wp2_with fail
  have hw0 := (hnew (w.alloc (.cells cs 30)))
  clear hnew
  generalize w.alloc (.cells cs 30) = W0 at *
  refine hw0.mono ?_
  rintro e w1 ⟨k1, ⟨hne, rfl⟩ | ⟨h0, x, rfl, hT, hlow⟩⟩
  · have hb : (checkR r == 0) = false := by simp [hne]
    obtain ⟨cr, hcr⟩ : ∃ cr, cr = checkR r := ⟨_, rfl⟩
    rw [← hcr] at hb ⊢
    have hcr' := Lib.hid hcr
    have hq := Lib.hid hne
    clear hne hcr
    dsimp only
    have kf := k0.trans k1 (by simp)
    clear hld k0 k1 bR hw0
    go_wp2
    exact bodyPost_ret (v := .tuple #[.pointer none, .int .i64 cr]) (by simp [results, Tryz.results19, go_sem]) rfl ⟨kf, .inl ⟨hq.out, by rw [hcr'.out]⟩⟩
  · dsimp only
    have bR1 := bR.chg k1 (by simp)
    have hld1 := load_blkC bR1 72 hrs
    have kf := k0.trans k1 (by simp)
    have hs0 := k0.size
    have hs1 := k1.size
    have b9 := Blk.new w1 (rl ++ [Value.pointer (some ⟨x.b, 0, none⟩), Value.int .i64 0]).toArray 124
    have k9 := kf.alloc (.cells (rl ++ [Value.pointer (some ⟨x.b, 0, none⟩), Value.int .i64 0]).toArray 124)
    have kk : Chg [] w1 (w1.alloc (.cells (rl ++ [Value.pointer (some ⟨x.b, 0, none⟩), Value.int .i64 0]).toArray 124)) := (Chg.refl _ _).alloc _
    have hT9 := hT.chgS (by simp) kk
    have hx := Lib.hid h0
    have hlt : ∀ b ∈ x.all, b < w1.heap.size := by
      intro b hb
      obtain ⟨c, hb1, hC⟩ := hT.tb
      simp only [Lt.all, List.mem_cons] at hb
      rcases hb with rfl | rfl | rfl | hb
      · exact hb1.lt
      · exact hT.mp.lt
      · exact row_lt hC rfl
      · obtain ⟨i, hi, rfl⟩ := List.getElem_of_mem hb
        have hil : i < (newT r).ns.length := by rw [← hT.len]; exact hi
        have := (hT.nd i _ (List.getElem?_eq_getElem hil)).lt
        simpa [List.getD_eq_getElem?_getD, hi] using this
    clear hld k0 k1 bR hw0 hT kk h0 bR1
    go_wp2
    exact bodyPost_ret (v := .tuple #[.pointer (some ⟨w1.heap.size, 0, none⟩), .int .i64 0]) (by simp [results, Tryz.results19, go_sem]) rfl ⟨k9, .inr ⟨hx.out, w1.heap.size, x, rfl, ⟨by rw [show (newT r).r.l = rl from hrl'.out.symm]; exact b9, hT9⟩, by omega, fun b hb => by have := hlow b hb; omega, fun hb => by have := hlt _ hb; omega⟩⟩
end Go.Proofs.YtmkgbinmilcojaaGreat

/- Package relay: Submit of a block behind the best one. Printed by submitgen.py. -/
namespace Go.Proofs.YtmkgbinmilcojaaGreat
open Go.RowKit Go.Maps
attribute [-go_sem] loadCellsFrom Instr.build

theorem zeroTold (w : World) : (zeroValue 67).run Tryz.prog w = .ok (.agg (bytesV (List.replicate 32 0) ++ [Value.int .i64 0, Value.bool false, Value.int .i64 0]).toArray) w := by kernel_rfl
theorem infoTold : (Tryz.prog.info? 67).map (·.size) = some 35 := by kernel_rfl
set_option maxRecDepth 100000 in
theorem build_told_fn (f : Nat → Value) (w : World) : (Instr.build 67 #[(0, .agg (fnC 32 f).toArray)]).run Tryz.prog w = .ok (.agg (fnC 32 f ++ [Value.int .i64 0, Value.bool false, Value.int .i64 0]).toArray) w := by kernel_rfl
theorem build_told {l : List Value} (h : l.length = 32) (w : World) : (Instr.build 67 #[(0, .agg l.toArray)]).run Tryz.prog w = .ok (.agg (l ++ [Value.int .i64 0, Value.bool false, Value.int .i64 0]).toArray) w := by
  rw [list_fn h]; exact build_told_fn _ w
theorem tc_32 (kl : List Value) (h : kl.length = 32) (a b c : Value) : (kl ++ [a, b, c]).toArray[32]? = some a := by simp [h]
theorem tc_33 (kl : List Value) (h : kl.length = 32) (a b c : Value) : (kl ++ [a, b, c]).toArray[33]? = some b := by simp [h]
theorem tc_34 (kl : List Value) (h : kl.length = 32) (a b c : Value) : (kl ++ [a, b, c]).toArray[34]? = some c := by simp [h]
theorem ts_32 (kl : List Value) (h : kl.length = 32) (a b c v : Value) : (kl ++ [a, b, c]).toArray.setIfInBounds 32 v = (kl ++ [v, b, c]).toArray := by
  apply Array.ext'; simp only [Array.toList_setIfInBounds]; rw [List.set_append_right _ _ (by omega), h]; rfl
theorem ts_33 (kl : List Value) (h : kl.length = 32) (a b c v : Value) : (kl ++ [a, b, c]).toArray.setIfInBounds 33 v = (kl ++ [a, v, c]).toArray := by
  apply Array.ext'; simp only [Array.toList_setIfInBounds]; rw [List.set_append_right _ _ (by omega), h]; rfl
theorem ts_34 (kl : List Value) (h : kl.length = 32) (a b c v : Value) : (kl ++ [a, b, c]).toArray.setIfInBounds 34 v = (kl ++ [a, b, v]).toArray := by
  apply Array.ext'; simp only [Array.toList_setIfInBounds]; rw [List.set_append_right _ _ (by omega), h]; rfl
theorem tpart (kl : List Value) (a b c : Value) : ∀ (j : Nat) (v : Value), kl.toArray[j]? = some v → (kl ++ [a, b, c]).toArray[0 + j]? = some v := by
  intro j v h
  simp only [List.getElem?_toArray] at h ⊢
  rw [Nat.zero_add, List.getElem?_append_left (List.getElem?_eq_some_iff.1 h).1]; exact h
theorem TreeAt.all_lt {w : World} {x : Lt} {T : Tr} (h : TreeAt w x T) : ∀ b ∈ x.all, b < w.heap.size := by
  intro b hb
  obtain ⟨c, hb1, hC⟩ := h.tb
  simp only [Lt.all, List.mem_cons] at hb
  rcases hb with rfl | rfl | rfl | hb
  · exact hb1.lt
  · exact h.mp.lt
  · exact row_lt hC rfl
  · obtain ⟨i, hi, rfl⟩ := List.getElem_of_mem hb
    have hil : i < T.ns.length := by rw [← h.len]; exact hi
    have := (h.nd i _ (List.getElem?_eq_getElem hil)).lt
    simpa [List.getD_eq_getElem?_getD, hi] using this
end Go.Proofs.YtmkgbinmilcojaaGreat

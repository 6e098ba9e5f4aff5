/- Package book: what a book is (by the usual rules); New. -/
import Derived.Test.YtackdgbcmeafhaaGreatBookNew
import Derived.Test.YtackdgbcmeafhaaGreatLedCopy
import Derived.Test.YtackdgbcmeafhaaGreatReg
import Derived.Deep.RegionHeld3
namespace Go.Proofs.YtackdgbcmeafhaaGreat
open Go.RowKit Go.Maps Go.Shelf

structure Vt where
  who : Int
  ad : Array Value
  col : Nat
  iss : Nat
  com : Nat
  goi : Nat
  lea : Nat
  fal : Bool
def Vt.cs (v : Vt) : Array Value := #[.int .u8 v.who] ++ v.ad ++ #[.int .u64 v.col, .int .u64 v.iss, .int .u64 v.com, .int .u64 v.goi, .int .u64 v.lea, .bool v.fal]
structure Bk where
  now : Nat
  L : Led
  U : Pur
  F : Fd
  pc : Nat
  pi : Nat
  f : Int → Option Vt
  cnt : Nat
  dep : Nat
/-- where a book's parts lie. -/
structure Lc where
  b : Nat
  t : Nat
  tm : Nat
  p : Nat
  pf : Nat
  pm : Nat
  fd : Nat
  vm : Nat
def Lc.all (x : Lc) : List Nat := [x.b, x.t, x.tm, x.p, x.pf, x.pm, x.fd, x.vm]
def bkCells (x : Lc) (B : Bk) : Array Value := usual ++ #[.int .u64 B.now, .pointer (some ⟨x.t, 0, none⟩), .pointer (some ⟨x.p, 0, none⟩), .pointer (some ⟨x.fd, 0, none⟩), .int .u64 B.pc, .int .u64 B.pi, .map (some x.vm), .int .u64 B.dep]
structure BkAt (w : World) (x : Lc) (B : Bk) : Prop where
  blk : Blk w x.b (bkCells x B) 97
  led : LedAt w x.t x.tm B.L
  pur : PurAt w x.p x.pf x.pm B.U
  fd : FdAt w x.fd B.F
  vm : MapV w 45 .u8 x.vm B.cnt (fun k => (B.f k).map (fun v => .agg v.cs))
  nd : x.all.Nodup
theorem BkAt.chg {w w' : World} {x : Lc} {B : Bk} {S : List Nat} (h : BkAt w x B) (c : Chg S w w') (hS : ∀ k ∈ x.all, k ∉ S) : BkAt w' x B :=
  ⟨h.blk.chg c (hS _ (by simp [Lc.all])), h.led.chg c (hS _ (by simp [Lc.all])) (hS _ (by simp [Lc.all])), h.pur.chg c (hS _ (by simp [Lc.all])) (hS _ (by simp [Lc.all])) (hS _ (by simp [Lc.all])), h.fd.chg c (hS _ (by simp [Lc.all])), h.vm.chg c (hS _ (by simp [Lc.all])), h.nd⟩
theorem BkAt.same {w w' : World} {x : Lc} {B : Bk} (h : BkAt w x B) (c : Chg [] w w') : BkAt w' x B := h.chg c (by simp)
def Bk.zero : Bk := ⟨0, Led.zero, ⟨Led.zero, 0, 0, 0⟩, ⟨100, 50, 0, 0⟩, 0, 0, fun _ => none, 0, 0⟩

set_option maxRecDepth 100000 in
set_option maxHeartbeats 4000000 in
theorem book_New (w : World) : Calls Tryz.prog 9 #[.agg usual] w fun e w' => ∃ x, e = .returned (.tuple #[.pointer (some ⟨x.b, 0, none⟩), .int .i64 0]) ∧ BkAt w' x Bk.zero ∧ Chg [] w w' ∧ Fresh w x.all := by
  have hmm := @run_makeMap Tryz.prog
  have hchk := book_Check
  have h2 : ∀ w, Calls Tryz.prog 38 #[.agg #[.int .u64 100, .int .u64 50]] w fun e w' => ∃ p, e = .returned (.tuple #[.pointer (some ⟨p, 0, none⟩), .int .i64 0]) ∧ FdAt w' p ⟨100, 50, 0, 0⟩ ∧ Chg [] w w' ∧ w.heap.size ≤ p := fun w => oracle_New 100 50 (by decide) (by decide) w
  have hb0 := Blk.new w usual 30
  have hld0 := load_blk hb0 11 (by rfl)
  unfold usual at hb0 hchk hld0 ⊢
  go_enter Tryz.func9, Tryz.ntmps9
  go_wp2_with (first
    | (go_at_call 37; refine (hchk _).mono ?_; rintro e w1 ⟨rfl, k1⟩; have hb1 := hb0.chg k1 (by simp); have hc3 := hb1.cell 3 (v := .int .u64 100) rfl; have hc4 := hb1.cell 4 (v := .int .u64 50) rfl)
    | (go_at_call 38; refine (h2 _).mono ?_; rintro e W ⟨fd, rfl, hf, k2, hfd⟩))
  have hb := hb1.chg k2 (by simp)
  have hc0 : Chg [] w W := (((Chg.refl [] w).alloc _).trans k1 (by simp)).trans k2 (by simp)
  have hz0 := (((Chg.refl [] w).alloc (.cells #[.int .u64 2000, .int .u64 1500, .int .u64 1200, .int .u64 100, .int .u64 50, .int .u64 10, .int .u64 10, .int .u64 10, .int .u64 50, .int .u64 100, .int .u64 10] 30)).trans k1 (by simp)).size
  clear hb0 hb1 hld0 k1 k2 hchk h2 hc3 hc4
  go_wp2
  --NEW
  refine wp_region_held_drew (S := fun w' => Chg [] W w') (by kernel_rfl) ((Chg.refl _ _).drew) (fun hH0 => ?_)
  refine wpAnyH_take (i := 0) (v := .agg #[.int .u64 2000, .int .u64 1500, .int .u64 1200, .int .u64 100, .int .u64 50, .int .u64 10, .int .u64 10, .int .u64 10, .int .u64 50, .int .u64 100, .int .u64 10]) rfl (by kernel_rfl) (by kernel_rfl) (by kernel_rfl) (fun _ _ _ h => h) (.inl ⟨by rfl, fun w' hw' => ?_⟩) hH0 ?_
  · have hbq := hb.chg hw' (by simp)
    have cq0 := hbq.cell 0 (v := .int .u64 2000) rfl
    have cq1 := hbq.cell 1 (v := .int .u64 1500) rfl
    have cq2 := hbq.cell 2 (v := .int .u64 1200) rfl
    have cq3 := hbq.cell 3 (v := .int .u64 100) rfl
    have cq4 := hbq.cell 4 (v := .int .u64 50) rfl
    have cq5 := hbq.cell 5 (v := .int .u64 10) rfl
    have cq6 := hbq.cell 6 (v := .int .u64 10) rfl
    have cq7 := hbq.cell 7 (v := .int .u64 10) rfl
    have cq8 := hbq.cell 8 (v := .int .u64 50) rfl
    have cq9 := hbq.cell 9 (v := .int .u64 100) rfl
    have cq10 := hbq.cell 10 (v := .int .u64 10) rfl
    go_simp
  try simp only [Act.put, List.setIfInBounds_toArray, List.set_cons_zero, List.set_cons_succ, List.getElem_toArray, List.getElem_cons_succ, List.getElem_cons_zero]
  refine wpAnyH_take (i := 3) (v := .pointer (some ⟨fd, 0, none⟩)) rfl (by kernel_rfl) (by kernel_rfl) (by kernel_rfl) (fun _ _ _ h => h) (.inl ⟨by rfl, fun w' hw' => ?_⟩) hH0 ?_
  · go_simp
  try simp only [Act.put, List.setIfInBounds_toArray, List.set_cons_zero, List.set_cons_succ, List.getElem_toArray, List.getElem_cons_succ, List.getElem_cons_zero]
  refine wpAnyH_ready (rs := [1, 4]) (by kernel_rfl) (by simp) (AllReadyH.cons rfl (fun K hK => ?_) (AllReadyH.cons rfl (fun K hK => ?_) AllReadyH.nil))
  · go_simp
    go_at_call 39
    refine (token_New _).mono ?_
    rintro e w1 ⟨t, tm, rfl, hl, k1, fT⟩
    dsimp only
    have fT1 := fT t (by simp)
    have fT2 := fT tm (by simp)
    have hH1 := hH0.trans k1 (by simp)
    have sz1 := k1.size
    have hz1 := hH0.size
    refine hK.out _ _ hH1 (fun _ => ?_)
    try simp only [Act.put, List.setIfInBounds_toArray, List.set_cons_zero, List.set_cons_succ, List.getElem_toArray, List.getElem_cons_succ, List.getElem_cons_zero]
    refine wpAnyH_ready (rs := [2, 4]) (by kernel_rfl) (by simp) (AllReadyH.cons rfl (fun K hK => ?_) (AllReadyH.cons rfl (fun K hK => ?_) AllReadyH.nil))
    · go_simp
      go_at_call 40
      refine (purse_New _).mono ?_
      rintro e w2 ⟨p, pf, pm, rfl, hp, k2, fP⟩
      dsimp only
      have fP1 := fP p (by simp)
      have fP2 := fP pf (by simp)
      have fP3 := fP pm (by simp)
      have lT2 := hl.lt
      have hl := hl.chg k2 (by simp) (by simp)
      have hH2 := hH1.trans k2 (by simp)
      have sz2 := k2.size
      have hz2 := hH1.size
      refine hK.out _ _ hH2 (fun _ => ?_)
      try simp only [Act.put, List.setIfInBounds_toArray, List.set_cons_zero, List.set_cons_succ, List.getElem_toArray, List.getElem_cons_succ, List.getElem_cons_zero]
      refine wpAnyH_ready (rs := [4]) (by kernel_rfl) (by simp) (AllReadyH.cons rfl (fun K hK => ?_) AllReadyH.nil)
      go_simp
      have k3 : Chg [] (w2) ((w2).alloc (.map #[] 0)) := (Chg.refl _ _).alloc _
      have hm := MapV.made (w2) 45 .u8
      obtain ⟨vm, hvm⟩ : ∃ vm, vm = (w2).heap.size := ⟨_, rfl⟩
      have hvs : (w2).heap.size + 1 = ((w2).alloc (.map #[] 0)).heap.size := by simp
      rw [← hvm] at hm ⊢
      generalize (w2).alloc (.map #[] 0) = w3 at hm k3 hvs ⊢
      have hvz := Lib.hid hvm
      clear hvm
      have lT3 := hl.lt
      have hl := hl.chg k3 (by simp) (by simp)
      have lP3 := hp.led.lt
      have lQ3 := hp.blk.lt
      have hp := hp.same k3
      have hH3 := hH2.trans k3 (by simp)
      have sz3 := k3.size
      have hz3 := hH2.size
      refine hK.out _ _ hH3 (fun _ => ?_)
      try simp only [Act.put, List.setIfInBounds_toArray, List.set_cons_zero, List.set_cons_succ, List.getElem_toArray, List.getElem_cons_succ, List.getElem_cons_zero]
      refine wpAnyH_take (i := 5) (v := .agg #[.int .u64 2000, .int .u64 1500, .int .u64 1200, .int .u64 100, .int .u64 50, .int .u64 10, .int .u64 10, .int .u64 10, .int .u64 50, .int .u64 100, .int .u64 10, .int .u64 0, .pointer (some ⟨t, 0, none⟩), .pointer (some ⟨p, 0, none⟩), .pointer (some ⟨fd, 0, none⟩), .int .u64 0, .int .u64 0, .map (some vm), .int .u64 0]) rfl (by kernel_rfl) (by kernel_rfl) (by kernel_rfl) (fun _ _ _ h => h) (.inl ⟨by rfl, fun w' hw' => ?_⟩) hH3 ?_
      · go_simp
      try simp only [Act.put, List.setIfInBounds_toArray, List.set_cons_zero, List.set_cons_succ, List.getElem_toArray, List.getElem_cons_succ, List.getElem_cons_zero]
      refine wpAnyH_ready (rs := [6]) (by kernel_rfl) (by simp) (AllReadyH.cons rfl (fun K hK => ?_) AllReadyH.nil)
      go_simp
      refine hK.out _ _ (hH3.alloc _) (fun _ => ?_)
      try simp only [Act.put, List.setIfInBounds_toArray, List.set_cons_zero, List.set_cons_succ, List.getElem_toArray, List.getElem_cons_succ, List.getElem_cons_zero]
      have hHz := hH3.alloc (.cells #[.int .u64 2000, .int .u64 1500, .int .u64 1200, .int .u64 100, .int .u64 50, .int .u64 10, .int .u64 10, .int .u64 10, .int .u64 50, .int .u64 100, .int .u64 10, .int .u64 0, .pointer (some ⟨t, 0, none⟩), .pointer (some ⟨p, 0, none⟩), .pointer (some ⟨fd, 0, none⟩), .int .u64 0, .int .u64 0, .map (some vm), .int .u64 0] 97)
      refine wpAnyH_take (i := 7) (v := .pointer (some ⟨(w3).heap.size, 0, none⟩)) rfl (by kernel_rfl) (by kernel_rfl) (by kernel_rfl) (fun _ _ _ h => h) (.inl ⟨by rfl, fun w' hw' => ?_⟩) hHz ?_
      · go_simp
      try simp only [Act.put, List.setIfInBounds_toArray, List.set_cons_zero, List.set_cons_succ, List.getElem_toArray, List.getElem_cons_succ, List.getElem_cons_zero]
      refine wpAnyH_take (i := 8) (v := .int .i64 0) rfl (by kernel_rfl) (by kernel_rfl) (by kernel_rfl) (fun _ _ _ h => h) (.inl ⟨by rfl, fun w' hw' => ?_⟩) hHz ?_
      · go_simp
      try simp only [Act.put, List.setIfInBounds_toArray, List.set_cons_zero, List.set_cons_succ, List.getElem_toArray, List.getElem_cons_succ, List.getElem_cons_zero]
      refine wpAnyH_done (by kernel_rfl) ?_ _
      go_wp2
      go_ret2
      have hfz := hf.chg hH3 (by simp)
      have lf := Blk.lt hf
      have lz := hH3.size
      have lt := hl.lt
      have lp := hp.led.lt
      have lp0 := hp.blk.lt
      have lm := hm.lt
      have hvm := hvz.out
      have ne1 := hl.ne
      have ne2 := hp.ne1
      have ne3 := hp.ne2
      have ne4 := hp.led.ne
      have kz := hc0.trans hHz (by simp)
      refine ⟨⟨(w3).heap.size, t, tm, p, pf, pm, fd, vm⟩, rfl, ⟨Blk.new _ _ _, hl.chg ((Chg.refl [] _).alloc _) (by simp) (by simp), hp.same ((Chg.refl [] _).alloc _), hfz.chg ((Chg.refl [] _).alloc _) (by simp), (hm.alloc _).congr (fun _ _ => rfl), ?_⟩, kz, ?_⟩
      · simp [Lc.all]; omega
      · simp [Fresh, Lc.all]; omega
    · go_simp
      have k2 : Chg [] (w1) ((w1).alloc (.map #[] 0)) := (Chg.refl _ _).alloc _
      have hm := MapV.made (w1) 45 .u8
      obtain ⟨vm, hvm⟩ : ∃ vm, vm = (w1).heap.size := ⟨_, rfl⟩
      have hvs : (w1).heap.size + 1 = ((w1).alloc (.map #[] 0)).heap.size := by simp
      rw [← hvm] at hm ⊢
      generalize (w1).alloc (.map #[] 0) = w2 at hm k2 hvs ⊢
      have hvz := Lib.hid hvm
      clear hvm
      have lT2 := hl.lt
      have hl := hl.chg k2 (by simp) (by simp)
      have hH2 := hH1.trans k2 (by simp)
      have sz2 := k2.size
      have hz2 := hH1.size
      refine hK.out _ _ hH2 (fun _ => ?_)
      try simp only [Act.put, List.setIfInBounds_toArray, List.set_cons_zero, List.set_cons_succ, List.getElem_toArray, List.getElem_cons_succ, List.getElem_cons_zero]
      refine wpAnyH_ready (rs := [2]) (by kernel_rfl) (by simp) (AllReadyH.cons rfl (fun K hK => ?_) AllReadyH.nil)
      go_simp
      go_at_call 40
      refine (purse_New _).mono ?_
      rintro e w3 ⟨p, pf, pm, rfl, hp, k3, fP⟩
      dsimp only
      have fP1 := fP p (by simp)
      have fP2 := fP pf (by simp)
      have fP3 := fP pm (by simp)
      have lT3 := hl.lt
      have hl := hl.chg k3 (by simp) (by simp)
      have lM3 := hm.lt
      have hm := hm.chg k3 (by simp)
      have hH3 := hH2.trans k3 (by simp)
      have sz3 := k3.size
      have hz3 := hH2.size
      refine hK.out _ _ hH3 (fun _ => ?_)
      try simp only [Act.put, List.setIfInBounds_toArray, List.set_cons_zero, List.set_cons_succ, List.getElem_toArray, List.getElem_cons_succ, List.getElem_cons_zero]
      refine wpAnyH_take (i := 5) (v := .agg #[.int .u64 2000, .int .u64 1500, .int .u64 1200, .int .u64 100, .int .u64 50, .int .u64 10, .int .u64 10, .int .u64 10, .int .u64 50, .int .u64 100, .int .u64 10, .int .u64 0, .pointer (some ⟨t, 0, none⟩), .pointer (some ⟨p, 0, none⟩), .pointer (some ⟨fd, 0, none⟩), .int .u64 0, .int .u64 0, .map (some vm), .int .u64 0]) rfl (by kernel_rfl) (by kernel_rfl) (by kernel_rfl) (fun _ _ _ h => h) (.inl ⟨by rfl, fun w' hw' => ?_⟩) hH3 ?_
      · go_simp
      try simp only [Act.put, List.setIfInBounds_toArray, List.set_cons_zero, List.set_cons_succ, List.getElem_toArray, List.getElem_cons_succ, List.getElem_cons_zero]
      refine wpAnyH_ready (rs := [6]) (by kernel_rfl) (by simp) (AllReadyH.cons rfl (fun K hK => ?_) AllReadyH.nil)
      go_simp
      refine hK.out _ _ (hH3.alloc _) (fun _ => ?_)
      try simp only [Act.put, List.setIfInBounds_toArray, List.set_cons_zero, List.set_cons_succ, List.getElem_toArray, List.getElem_cons_succ, List.getElem_cons_zero]
      have hHz := hH3.alloc (.cells #[.int .u64 2000, .int .u64 1500, .int .u64 1200, .int .u64 100, .int .u64 50, .int .u64 10, .int .u64 10, .int .u64 10, .int .u64 50, .int .u64 100, .int .u64 10, .int .u64 0, .pointer (some ⟨t, 0, none⟩), .pointer (some ⟨p, 0, none⟩), .pointer (some ⟨fd, 0, none⟩), .int .u64 0, .int .u64 0, .map (some vm), .int .u64 0] 97)
      refine wpAnyH_take (i := 7) (v := .pointer (some ⟨(w3).heap.size, 0, none⟩)) rfl (by kernel_rfl) (by kernel_rfl) (by kernel_rfl) (fun _ _ _ h => h) (.inl ⟨by rfl, fun w' hw' => ?_⟩) hHz ?_
      · go_simp
      try simp only [Act.put, List.setIfInBounds_toArray, List.set_cons_zero, List.set_cons_succ, List.getElem_toArray, List.getElem_cons_succ, List.getElem_cons_zero]
      refine wpAnyH_take (i := 8) (v := .int .i64 0) rfl (by kernel_rfl) (by kernel_rfl) (by kernel_rfl) (fun _ _ _ h => h) (.inl ⟨by rfl, fun w' hw' => ?_⟩) hHz ?_
      · go_simp
      try simp only [Act.put, List.setIfInBounds_toArray, List.set_cons_zero, List.set_cons_succ, List.getElem_toArray, List.getElem_cons_succ, List.getElem_cons_zero]
      refine wpAnyH_done (by kernel_rfl) ?_ _
      go_wp2
      go_ret2
      have hfz := hf.chg hH3 (by simp)
      have lf := Blk.lt hf
      have lz := hH3.size
      have lt := hl.lt
      have lp := hp.led.lt
      have lp0 := hp.blk.lt
      have lm := hm.lt
      have hvm := hvz.out
      have ne1 := hl.ne
      have ne2 := hp.ne1
      have ne3 := hp.ne2
      have ne4 := hp.led.ne
      have kz := hc0.trans hHz (by simp)
      refine ⟨⟨(w3).heap.size, t, tm, p, pf, pm, fd, vm⟩, rfl, ⟨Blk.new _ _ _, hl.chg ((Chg.refl [] _).alloc _) (by simp) (by simp), hp.same ((Chg.refl [] _).alloc _), hfz.chg ((Chg.refl [] _).alloc _) (by simp), (hm.alloc _).congr (fun _ _ => rfl), ?_⟩, kz, ?_⟩
      · simp [Lc.all]; omega
      · simp [Fresh, Lc.all]; omega
  · go_simp
    have k00 : Chg [] W ((W.alloc (.map #[] 0)).drew) := ((Chg.refl [] W).alloc _).drew
    have k1 : Chg [] W.drew ((W.alloc (.map #[] 0)).drew) := ⟨k00.os, k00.tape, k00.output, k00.size, k00.block⟩
    have hm := (MapV.made W 45 .u8).drew
    obtain ⟨vm, hvm⟩ : ∃ vm, vm = W.heap.size := ⟨_, rfl⟩
    have hvs : W.heap.size + 1 = ((W.alloc (.map #[] 0)).drew).heap.size := by simp
    rw [← hvm] at hm ⊢
    generalize (W.alloc (.map #[] 0)).drew = w1 at hm k1 hvs ⊢
    clear k00
    have hvz := Lib.hid hvm
    clear hvm
    have hH1 := hH0.trans k1 (by simp)
    have sz1 := k1.size
    have hz1 := hH0.size
    refine hK.out _ _ hH1 (fun _ => ?_)
    try simp only [Act.put, List.setIfInBounds_toArray, List.set_cons_zero, List.set_cons_succ, List.getElem_toArray, List.getElem_cons_succ, List.getElem_cons_zero]
    refine wpAnyH_ready (rs := [1]) (by kernel_rfl) (by simp) (AllReadyH.cons rfl (fun K hK => ?_) AllReadyH.nil)
    go_simp
    go_at_call 39
    refine (token_New _).mono ?_
    rintro e w2 ⟨t, tm, rfl, hl, k2, fT⟩
    dsimp only
    have fT1 := fT t (by simp)
    have fT2 := fT tm (by simp)
    have lM2 := hm.lt
    have hm := hm.chg k2 (by simp)
    have hH2 := hH1.trans k2 (by simp)
    have sz2 := k2.size
    have hz2 := hH1.size
    refine hK.out _ _ hH2 (fun _ => ?_)
    try simp only [Act.put, List.setIfInBounds_toArray, List.set_cons_zero, List.set_cons_succ, List.getElem_toArray, List.getElem_cons_succ, List.getElem_cons_zero]
    refine wpAnyH_ready (rs := [2]) (by kernel_rfl) (by simp) (AllReadyH.cons rfl (fun K hK => ?_) AllReadyH.nil)
    go_simp
    go_at_call 40
    refine (purse_New _).mono ?_
    rintro e w3 ⟨p, pf, pm, rfl, hp, k3, fP⟩
    dsimp only
    have fP1 := fP p (by simp)
    have fP2 := fP pf (by simp)
    have fP3 := fP pm (by simp)
    have lT3 := hl.lt
    have hl := hl.chg k3 (by simp) (by simp)
    have lM3 := hm.lt
    have hm := hm.chg k3 (by simp)
    have hH3 := hH2.trans k3 (by simp)
    have sz3 := k3.size
    have hz3 := hH2.size
    refine hK.out _ _ hH3 (fun _ => ?_)
    try simp only [Act.put, List.setIfInBounds_toArray, List.set_cons_zero, List.set_cons_succ, List.getElem_toArray, List.getElem_cons_succ, List.getElem_cons_zero]
    refine wpAnyH_take (i := 5) (v := .agg #[.int .u64 2000, .int .u64 1500, .int .u64 1200, .int .u64 100, .int .u64 50, .int .u64 10, .int .u64 10, .int .u64 10, .int .u64 50, .int .u64 100, .int .u64 10, .int .u64 0, .pointer (some ⟨t, 0, none⟩), .pointer (some ⟨p, 0, none⟩), .pointer (some ⟨fd, 0, none⟩), .int .u64 0, .int .u64 0, .map (some vm), .int .u64 0]) rfl (by kernel_rfl) (by kernel_rfl) (by kernel_rfl) (fun _ _ _ h => h) (.inl ⟨by rfl, fun w' hw' => ?_⟩) hH3 ?_
    · go_simp
    try simp only [Act.put, List.setIfInBounds_toArray, List.set_cons_zero, List.set_cons_succ, List.getElem_toArray, List.getElem_cons_succ, List.getElem_cons_zero]
    refine wpAnyH_ready (rs := [6]) (by kernel_rfl) (by simp) (AllReadyH.cons rfl (fun K hK => ?_) AllReadyH.nil)
    go_simp
    refine hK.out _ _ (hH3.alloc _) (fun _ => ?_)
    try simp only [Act.put, List.setIfInBounds_toArray, List.set_cons_zero, List.set_cons_succ, List.getElem_toArray, List.getElem_cons_succ, List.getElem_cons_zero]
    have hHz := hH3.alloc (.cells #[.int .u64 2000, .int .u64 1500, .int .u64 1200, .int .u64 100, .int .u64 50, .int .u64 10, .int .u64 10, .int .u64 10, .int .u64 50, .int .u64 100, .int .u64 10, .int .u64 0, .pointer (some ⟨t, 0, none⟩), .pointer (some ⟨p, 0, none⟩), .pointer (some ⟨fd, 0, none⟩), .int .u64 0, .int .u64 0, .map (some vm), .int .u64 0] 97)
    refine wpAnyH_take (i := 7) (v := .pointer (some ⟨(w3).heap.size, 0, none⟩)) rfl (by kernel_rfl) (by kernel_rfl) (by kernel_rfl) (fun _ _ _ h => h) (.inl ⟨by rfl, fun w' hw' => ?_⟩) hHz ?_
    · go_simp
    try simp only [Act.put, List.setIfInBounds_toArray, List.set_cons_zero, List.set_cons_succ, List.getElem_toArray, List.getElem_cons_succ, List.getElem_cons_zero]
    refine wpAnyH_take (i := 8) (v := .int .i64 0) rfl (by kernel_rfl) (by kernel_rfl) (by kernel_rfl) (fun _ _ _ h => h) (.inl ⟨by rfl, fun w' hw' => ?_⟩) hHz ?_
    · go_simp
    try simp only [Act.put, List.setIfInBounds_toArray, List.set_cons_zero, List.set_cons_succ, List.getElem_toArray, List.getElem_cons_succ, List.getElem_cons_zero]
    refine wpAnyH_done (by kernel_rfl) ?_ _
    go_wp2
    go_ret2
    have hfz := hf.chg hH3 (by simp)
    have lf := Blk.lt hf
    have lz := hH3.size
    have lt := hl.lt
    have lp := hp.led.lt
    have lp0 := hp.blk.lt
    have lm := hm.lt
    have hvm := hvz.out
    have ne1 := hl.ne
    have ne2 := hp.ne1
    have ne3 := hp.ne2
    have ne4 := hp.led.ne
    have kz := hc0.trans hHz (by simp)
    refine ⟨⟨(w3).heap.size, t, tm, p, pf, pm, fd, vm⟩, rfl, ⟨Blk.new _ _ _, hl.chg ((Chg.refl [] _).alloc _) (by simp) (by simp), hp.same ((Chg.refl [] _).alloc _), hfz.chg ((Chg.refl [] _).alloc _) (by simp), (hm.alloc _).congr (fun _ _ => rfl), ?_⟩, kz, ?_⟩
    · simp [Lc.all]; omega
    · simp [Fresh, Lc.all]; omega
  --NEWEND
end Go.Proofs.YtackdgbcmeafhaaGreat

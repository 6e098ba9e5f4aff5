/- Package book: what is asked of a book; put, open. -/
import Derived.Test.YtackdgbcmeafhaaGreatBook
namespace Go.Proofs.YtackdgbcmeafhaaGreat
open Go.RowKit Go.Maps Go.Shelf

theorem BkAt.c11 {w : World} {x : Lc} {B : Bk} (h : BkAt w x B) : w.cell? ⟨x.b, 11, none⟩ = some (.int .u64 B.now) := h.blk.cell 11 rfl
theorem BkAt.c12 {w : World} {x : Lc} {B : Bk} (h : BkAt w x B) : w.cell? ⟨x.b, 12, none⟩ = some (.pointer (some ⟨x.t, 0, none⟩)) := h.blk.cell 12 rfl
theorem BkAt.c13 {w : World} {x : Lc} {B : Bk} (h : BkAt w x B) : w.cell? ⟨x.b, 13, none⟩ = some (.pointer (some ⟨x.p, 0, none⟩)) := h.blk.cell 13 rfl
theorem BkAt.c14 {w : World} {x : Lc} {B : Bk} (h : BkAt w x B) : w.cell? ⟨x.b, 14, none⟩ = some (.pointer (some ⟨x.fd, 0, none⟩)) := h.blk.cell 14 rfl
theorem BkAt.c17 {w : World} {x : Lc} {B : Bk} (h : BkAt w x B) : w.cell? ⟨x.b, 17, none⟩ = some (.map (some x.vm)) := h.blk.cell 17 rfl
theorem BkAt.c0 {w : World} {x : Lc} {B : Bk} (h : BkAt w x B) : w.cell? ⟨x.b, 0, none⟩ = some (.int .u64 2000) := h.blk.cell 0 rfl

set_option maxRecDepth 100000 in
set_option maxHeartbeats 1000000 in
theorem law20_Usual (w : World) : Calls Tryz.prog 8 #[] w fun e w' => e = .returned (.agg usual) ∧ Chg [] w w' := by
  unfold usual
  go_enter Tryz.func8, Tryz.ntmps8
  go_wp2
  exact bodyPost_ret (v := .agg #[.int .u64 2000, .int .u64 1500, .int .u64 1200, .int .u64 100, .int .u64 50, .int .u64 10, .int .u64 10, .int .u64 10, .int .u64 50, .int .u64 100, .int .u64 10]) (by simp [results, Tryz.results8, go_sem]) rfl ⟨rfl, (by repeat (first | exact Chg.refl _ _ | refine Chg.alloc ?_ _ | refine Chg.drew ?_ | refine Chg.drewN ?_ _ | refine Chg.setCell ?_ (.inr (by simp)) _))⟩
set_option maxHeartbeats 400000 in
theorem book_Feed (x : Lc) (B : Bk) (w : World) (h : BkAt w x B) : Calls Tryz.prog 10 #[.pointer (some ⟨x.b, 0, none⟩)] w fun e w' => e = .returned (.pointer (some ⟨x.fd, 0, none⟩)) ∧ w = w' := by
  have c := h.c14
  go_enter Tryz.func10, Tryz.ntmps10
  go_wp2
  go_ret
  exact ⟨rfl, rfl⟩
set_option maxHeartbeats 400000 in
theorem book_Purse (x : Lc) (B : Bk) (w : World) (h : BkAt w x B) : Calls Tryz.prog 13 #[.pointer (some ⟨x.b, 0, none⟩)] w fun e w' => e = .returned (.pointer (some ⟨x.p, 0, none⟩)) ∧ w = w' := by
  have c := h.c13
  go_enter Tryz.func13, Tryz.ntmps13
  go_wp2
  go_ret
  exact ⟨rfl, rfl⟩
set_option maxHeartbeats 400000 in
theorem book_Tokens (x : Lc) (B : Bk) (w : World) (h : BkAt w x B) : Calls Tryz.prog 35 #[.pointer (some ⟨x.b, 0, none⟩)] w fun e w' => e = .returned (.pointer (some ⟨x.t, 0, none⟩)) ∧ w = w' := by
  have c := h.c12
  go_enter Tryz.func35, Tryz.ntmps35
  go_wp2
  go_ret
  exact ⟨rfl, rfl⟩
set_option maxRecDepth 100000 in
set_option maxHeartbeats 1000000 in
theorem book_Price (x : Lc) (B : Bk) (hn : B.now ≤ 1099511627776) (ok : FdOk B.F) (w : World) (h : BkAt w x B) : Calls Tryz.prog 29 #[.pointer (some ⟨x.b, 0, none⟩)] w fun e w' => e = .returned (.tuple #[.int .u64 (B.F.price B.now).1, .int .i64 (B.F.price B.now).2]) ∧ Chg [] w w' := by
  have c := h.c14
  have c1 := h.c11
  go_enter Tryz.func29, Tryz.ntmps29
  go_wp2
  --PRICE
  refine wp_region_held_drew (S := fun w' => Chg [] w w') (by kernel_rfl) ((Chg.refl _ _).drew) (fun hH0 => ?_)
  refine wpAnyH_take (i := 0) (v := .pointer (some ⟨x.b, 0, none⟩)) rfl (by kernel_rfl) (by kernel_rfl) (by kernel_rfl) (fun _ _ _ h => h) (.inl ⟨by rfl, fun w' hw' => ?_⟩) hH0 ?_
  · go_simp
  try simp only [Act.put, List.setIfInBounds_toArray, List.set_cons_zero, List.set_cons_succ, List.getElem_toArray, List.getElem_cons_succ, List.getElem_cons_zero]
  refine wpAnyH_take (i := 1) (v := .pointer (some ⟨x.b, 0, none⟩)) rfl (by kernel_rfl) (by kernel_rfl) (by kernel_rfl) (fun _ _ _ h => h) (.inl ⟨by rfl, fun w' hw' => ?_⟩) hH0 ?_
  · go_simp
  try simp only [Act.put, List.setIfInBounds_toArray, List.set_cons_zero, List.set_cons_succ, List.getElem_toArray, List.getElem_cons_succ, List.getElem_cons_zero]
  refine wpAnyH_take (i := 2) (v := .pointer (some ⟨x.b, 14, none⟩)) rfl (by kernel_rfl) (by kernel_rfl) (by kernel_rfl) (fun _ _ _ h => h) (.inl ⟨by rfl, fun w' hw' => ?_⟩) hH0 ?_
  · go_simp
  try simp only [Act.put, List.setIfInBounds_toArray, List.set_cons_zero, List.set_cons_succ, List.getElem_toArray, List.getElem_cons_succ, List.getElem_cons_zero]
  refine wpAnyH_take (i := 3) (v := .pointer (some ⟨x.fd, 0, none⟩)) rfl (by kernel_rfl) (by kernel_rfl) (by kernel_rfl) (fun _ _ _ h => h) (.inl ⟨by rfl, fun w' hw' => ?_⟩) hH0 ?_
  · have hz := (h.same hw').c14
    go_simp
  try simp only [Act.put, List.setIfInBounds_toArray, List.set_cons_zero, List.set_cons_succ, List.getElem_toArray, List.getElem_cons_succ, List.getElem_cons_zero]
  refine wpAnyH_take (i := 4) (v := .pointer (some ⟨x.b, 0, none⟩)) rfl (by kernel_rfl) (by kernel_rfl) (by kernel_rfl) (fun _ _ _ h => h) (.inl ⟨by rfl, fun w' hw' => ?_⟩) hH0 ?_
  · go_simp
  try simp only [Act.put, List.setIfInBounds_toArray, List.set_cons_zero, List.set_cons_succ, List.getElem_toArray, List.getElem_cons_succ, List.getElem_cons_zero]
  refine wpAnyH_take (i := 5) (v := .pointer (some ⟨x.b, 0, none⟩)) rfl (by kernel_rfl) (by kernel_rfl) (by kernel_rfl) (fun _ _ _ h => h) (.inl ⟨by rfl, fun w' hw' => ?_⟩) hH0 ?_
  · go_simp
  try simp only [Act.put, List.setIfInBounds_toArray, List.set_cons_zero, List.set_cons_succ, List.getElem_toArray, List.getElem_cons_succ, List.getElem_cons_zero]
  refine wpAnyH_take (i := 6) (v := .pointer (some ⟨x.b, 11, none⟩)) rfl (by kernel_rfl) (by kernel_rfl) (by kernel_rfl) (fun _ _ _ h => h) (.inl ⟨by rfl, fun w' hw' => ?_⟩) hH0 ?_
  · go_simp
  try simp only [Act.put, List.setIfInBounds_toArray, List.set_cons_zero, List.set_cons_succ, List.getElem_toArray, List.getElem_cons_succ, List.getElem_cons_zero]
  refine wpAnyH_take (i := 7) (v := .int .u64 B.now) rfl (by kernel_rfl) (by kernel_rfl) (by kernel_rfl) (fun _ _ _ h => h) (.inl ⟨by rfl, fun w' hw' => ?_⟩) hH0 ?_
  · have hz := (h.same hw').c11
    go_simp
  try simp only [Act.put, List.setIfInBounds_toArray, List.set_cons_zero, List.set_cons_succ, List.getElem_toArray, List.getElem_cons_succ, List.getElem_cons_zero]
  refine wpAnyH_ready (rs := [8]) (by kernel_rfl) (by simp) (AllReadyH.cons rfl (fun K hK => ?_) AllReadyH.nil)
  try rw [if_pos (by rfl)]
  go_simp
  go_at_call 89
  refine (oracle_Price x.fd B.F B.now hn _ (h.same hH0).fd ok).mono ?_
  rintro e wk1 ⟨rfl, hd1⟩
  dsimp only
  have hH1 := hH0.trans hd1 (by simp)
  refine hK.out _ _ hH1 (fun _ => ?_)
  try simp only [Act.put, List.setIfInBounds_toArray, List.set_cons_zero, List.set_cons_succ, List.getElem_toArray, List.getElem_cons_succ, List.getElem_cons_zero]
  refine wpAnyH_take (i := 9) (v := .int .u64 (B.F.price B.now).1) rfl (by kernel_rfl) (by kernel_rfl) (by kernel_rfl) (fun _ _ _ h => h) (.inl ⟨by rfl, fun w' hw' => ?_⟩) hH1 ?_
  · go_simp
  try simp only [Act.put, List.setIfInBounds_toArray, List.set_cons_zero, List.set_cons_succ, List.getElem_toArray, List.getElem_cons_succ, List.getElem_cons_zero]
  refine wpAnyH_take (i := 10) (v := .int .i64 (B.F.price B.now).2) rfl (by kernel_rfl) (by kernel_rfl) (by kernel_rfl) (fun _ _ _ h => h) (.inl ⟨by rfl, fun w' hw' => ?_⟩) hH1 ?_
  · go_simp
  try simp only [Act.put, List.setIfInBounds_toArray, List.set_cons_zero, List.set_cons_succ, List.getElem_toArray, List.getElem_cons_succ, List.getElem_cons_zero]
  refine wpAnyH_take (i := 11) (v := .int .u64 (B.F.price B.now).1) rfl (by kernel_rfl) (by kernel_rfl) (by kernel_rfl) (fun _ _ _ h => h) (.inl ⟨by rfl, fun w' hw' => ?_⟩) hH1 ?_
  · go_simp
  try simp only [Act.put, List.setIfInBounds_toArray, List.set_cons_zero, List.set_cons_succ, List.getElem_toArray, List.getElem_cons_succ, List.getElem_cons_zero]
  refine wpAnyH_take (i := 12) (v := .int .i64 (B.F.price B.now).2) rfl (by kernel_rfl) (by kernel_rfl) (by kernel_rfl) (fun _ _ _ h => h) (.inl ⟨by rfl, fun w' hw' => ?_⟩) hH1 ?_
  · go_simp
  try simp only [Act.put, List.setIfInBounds_toArray, List.set_cons_zero, List.set_cons_succ, List.getElem_toArray, List.getElem_cons_succ, List.getElem_cons_zero]
  refine wpAnyH_done (by kernel_rfl) ?_ _
  --PRICEEND
  go_wp2
  go_ret2
  exact ⟨rfl, hH1⟩
end Go.Proofs.YtackdgbcmeafhaaGreat

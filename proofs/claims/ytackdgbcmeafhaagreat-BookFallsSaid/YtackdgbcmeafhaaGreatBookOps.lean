import Derived.Test.YtackdgbcmeafhaaGreatBook2

/- Package book: put, open. -/
namespace Go.Proofs.YtackdgbcmeafhaaGreat
open Go.RowKit Go.Maps Go.Shelf
attribute [-go_sem] loadCellsFrom

theorem op_upd_v {w : World} {o : Oper} {a : Act} {K' : Act → World → Prop} {Q : Exit → Act → World → Prop} (m x v : Operand) (t : TypeId) (hop : o.op = Op.mapUpdate t m x v)
    (K E : TypeId) (kq : IntKind) (hK : Tryz.prog.underlying K = some (.int kq)) (ht : Tryz.prog.underlying t = some (.map K E)) (b cnt : Nat) (f : Int → Option Value) (hf : MapV w K kq b cnt f) (hn : cnt < maxLen) (hm : a.eval m = .map (some b)) (key : Int) (val : Value) (hx : a.eval x = .int kq key) (hv : a.eval v = val)
    (hkw : (Lit.int kq key).wf = true)
    (hk : ∀ w', MapV w' K kq b (if (f key).isSome then cnt else cnt + 1) (fun y => if y = key then some val else f y) → w.mapTurned w' b → K' (a.put o.dst undef) w') : o.wp Tryz.prog a w K' Q := by
  obtain ⟨D, h, s, k⟩ := hf
  obtain ⟨w', hrun, r1, r2⟩ := h.store (int_keyed hK) ht hn (keyOf_int_mk hK hkw) (val := val) (d := .held val) (ps := []) rfl
  unfold Oper.wp
  simp [execOp, hop, hm, hx, hv, hrun, Result.andThen]
  refine hk w' ⟨D.put (.int kq key) (.held val), ?_, ?_, fun y hy => ?_⟩ r2
  · have e := size_put (h.tidy (int_keyed hK)) (k := .int kq key) (.held val)
    rw [(k key hkw).1, s] at e
    obtain ⟨es, clock, h1, F, h2, h3⟩ := r1
    refine ⟨es, clock, h1, F, ?_, h3⟩
    rw [h3] at e
    simp only [Maps.size, length_sorted, List.length_map, Array.length_toList] at e
    omega
  · have e := size_put (h.tidy (int_keyed hK)) (k := .int kq key) (.held val)
    rw [(k key hkw).1, s] at e
    exact e
  · by_cases e : y = key
    · subst e
      have hkl : WideAt.IsKeyLit (.int kq y) := by trivial
      simp only [if_true, Option.isSome_some, Option.getD_some]
      exact ⟨has_put_same h.isMap hkl _, fun z => atKey_put_same h.isMap hkl _ _⟩
    · have hne : Lit.int kq y ≠ Lit.int kq key := fun h => e (by cases h; rfl)
      simp only [if_neg e]
      rw [has_put_other hne]
      exact ⟨(k y hy).1, fun z => by rw [atKey_put_other hne]; exact (k y hy).2 z⟩

theorem Vt.size (v : Vt) (h : v.ad.size = 20) : v.cs.size = 27 := by simp [Vt.cs, h]
theorem Vt.c0 (v : Vt) : v.cs[0]? = some (.int .u8 v.who) := by simp [Vt.cs, Array.getElem?_append]
theorem Vt.c21 (v : Vt) (h : v.ad.size = 20) : v.cs[21]? = some (.int .u64 v.col) ∧ v.cs[22]? = some (.int .u64 v.iss) ∧ v.cs[23]? = some (.int .u64 v.com) ∧ v.cs[24]? = some (.int .u64 v.goi) ∧ v.cs[25]? = some (.int .u64 v.lea) ∧ v.cs[26]? = some (.bool v.fal) := by
  simp [Vt.cs, h, Array.getElem?_append]
def Bk.put (B : Bk) (v : Vt) : Bk := { B with f := fun y => if y = v.who then some v else B.f y, cnt := if (B.f v.who).isSome then B.cnt else B.cnt + 1 }
set_option maxRecDepth 100000 in
set_option maxHeartbeats 2000000 in
theorem book_put (x : Lc) (B : Bk) (v : Vt) (hv : v.ad.size = 20) (hw : (Lit.int .u8 v.who).wf = true) (hcnt : B.cnt < 1000) (w : World) (h : BkAt w x B) :
    Calls Tryz.prog 53 #[.pointer (some ⟨x.b, 0, none⟩), .agg v.cs] w fun e w' => e = .returned (.int .i64 0) ∧ BkAt w' x (B.put v) ∧ Chg [x.vm] w w' := by
  have hsz := v.size hv
  have hc0 := v.c0
  obtain ⟨cs, hcs⟩ : ∃ cs, cs = v.cs := ⟨_, rfl⟩
  rw [← hcs] at hsz hc0 ⊢
  have HCS := Lib.hid hcs
  clear hcs
  have hb0 := Blk.new w cs 52
  go_enter Tryz.func53, Tryz.ntmps53
  go_wp2
  have hnd := h.nd
  simp only [Lc.all, List.nodup_cons, List.mem_cons, List.not_mem_nil, or_false, not_or] at hnd
  obtain ⟨⟨n1, n2, n3, n4, n5, n6, nb⟩, ⟨_, _, _, _, _, m1⟩, ⟨_, _, _, _, m2⟩, ⟨_, _, _, m3⟩, ⟨_, _, m4⟩, ⟨_, m5⟩, m6, _⟩ := hnd
  have hA := h.same ((Chg.refl [] w).alloc (.cells cs 52))
  have kA : Chg [x.vm] w (w.alloc (.cells cs 52)) := (Chg.refl _ _).alloc _
  have hbA := hA.blk
  have hmA := hA.vm
  have ng : w.heap.size ≠ x.vm := by have := h.vm.lt; omega
  generalize w.alloc (.cells cs 52) = wA at hb0 hA hbA hmA kA ⊢
  generalize w.heap.size = g at hb0 ng ⊢
  --PUT

  refine wp_region_held_drew (S := fun w' => Chg [x.vm] wA w') (by kernel_rfl) ((Chg.refl _ _).drew) (fun hH0 => ?_)
  refine wpAnyH_take (i := 0) (v := .pointer (some ⟨x.b, 0, none⟩)) rfl (by kernel_rfl) (by kernel_rfl) (by kernel_rfl) (fun _ _ _ h => h) (.inl ⟨by rfl, fun w' hw' => ?_⟩) hH0 ?_
  · go_simp
  try simp only [Act.put, List.setIfInBounds_toArray, List.set_cons_zero, List.set_cons_succ, List.getElem_toArray, List.getElem_cons_succ, List.getElem_cons_zero]
  refine wpAnyH_take (i := 1) (v := .pointer (some ⟨x.b, 0, none⟩)) rfl (by kernel_rfl) (by kernel_rfl) (by kernel_rfl) (fun _ _ _ h => h) (.inl ⟨by rfl, fun w' hw' => ?_⟩) hH0 ?_
  · go_simp
  try simp only [Act.put, List.setIfInBounds_toArray, List.set_cons_zero, List.set_cons_succ, List.getElem_toArray, List.getElem_cons_succ, List.getElem_cons_zero]
  refine wpAnyH_take (i := 2) (v := .pointer (some ⟨x.b, 17, none⟩)) rfl (by kernel_rfl) (by kernel_rfl) (by kernel_rfl) (fun _ _ _ h => h) (.inl ⟨by rfl, fun w' hw' => ?_⟩) hH0 ?_
  · go_simp
  try simp only [Act.put, List.setIfInBounds_toArray, List.set_cons_zero, List.set_cons_succ, List.getElem_toArray, List.getElem_cons_succ, List.getElem_cons_zero]
  refine wpAnyH_take (i := 3) (v := .map (some x.vm)) rfl (by kernel_rfl) (by kernel_rfl) (by kernel_rfl) (fun _ _ _ h => h) (.inl ⟨by rfl, fun w' hw' => ?_⟩) hH0 ?_
  · have hz := (hbA.chg hw' (by simp [nb])).cell 17 (v := .map (some x.vm)) rfl
    go_simp
  try simp only [Act.put, List.setIfInBounds_toArray, List.set_cons_zero, List.set_cons_succ, List.getElem_toArray, List.getElem_cons_succ, List.getElem_cons_zero]
  refine wpAnyH_take (i := 4) (v := .pointer (some ⟨g, 0, none⟩)) rfl (by kernel_rfl) (by kernel_rfl) (by kernel_rfl) (fun _ _ _ h => h) (.inl ⟨by rfl, fun w' hw' => ?_⟩) hH0 ?_
  · go_simp
  try simp only [Act.put, List.setIfInBounds_toArray, List.set_cons_zero, List.set_cons_succ, List.getElem_toArray, List.getElem_cons_succ, List.getElem_cons_zero]
  refine wpAnyH_take (i := 5) (v := .int .u8 v.who) rfl (by kernel_rfl) (by kernel_rfl) (by kernel_rfl) (fun _ _ _ h => h) (.inl ⟨by rfl, fun w' hw' => ?_⟩) hH0 ?_
  · have hz := (hb0.chg hw' (by simp [ng])).cell 0 hc0
    go_simp
  try simp only [Act.put, List.setIfInBounds_toArray, List.set_cons_zero, List.set_cons_succ, List.getElem_toArray, List.getElem_cons_succ, List.getElem_cons_zero]
  refine wpAnyH_take (i := 6) (v := .agg cs) rfl (by kernel_rfl) (by kernel_rfl) (by kernel_rfl) (fun _ _ _ h => h) (.inl ⟨by rfl, fun w' hw' => ?_⟩) hH0 ?_
  · have hz := load_blk (hb0.chg hw' (by simp [ng])) 27 hsz
    go_simp
  try simp only [Act.put, List.setIfInBounds_toArray, List.set_cons_zero, List.set_cons_succ, List.getElem_toArray, List.getElem_cons_succ, List.getElem_cons_zero]
  refine wpAnyH_ready (rs := [7]) (by kernel_rfl) (by simp) (AllReadyH.cons rfl (fun K hK => ?_) AllReadyH.nil)
  rw [if_pos (by rfl)]
  refine op_upd_v _ _ _ 95 rfl 45 52 .u8 Tryz.underlying45 Tryz.underlying95 x.vm B.cnt _ hmA.drew (by unfold maxLen; omega) rfl v.who (.agg cs) rfl rfl hw ?_
  intro w2 hm2 ht2
  have hH1 : Chg [x.vm] wA w2 := (Chg.refl [x.vm] wA).drew.turned ht2 (.inl (by simp))
  refine hK.out _ _ hH1 (fun _ => ?_)
  try simp only [Act.put, List.setIfInBounds_toArray, List.set_cons_zero, List.set_cons_succ, List.getElem_toArray, List.getElem_cons_succ, List.getElem_cons_zero]
  refine wpAnyH_done (by kernel_rfl) ?_ _
  --PUTEND
  go_wp2
  go_ret
  refine ⟨rfl, ⟨hbA.chg hH1 (by simp [nb]), hA.led.chg hH1 (by simp [m1]) (by simp [m2]), hA.pur.chg hH1 (by simp [m3]) (by simp [m4]) (by simp [m5]), hA.fd.chg hH1 (by simp [m6]), ?_, h.nd⟩, kA.trans hH1 (by simp)⟩
  have e : (if ((B.f v.who).map (fun v => Value.agg v.cs)).isSome then B.cnt else B.cnt + 1) = (B.put v).cnt := by simp [Bk.put]
  rw [e] at hm2
  refine hm2.congr (fun y _ => ?_)
  simp only [Bk.put]
  by_cases ey : y = v.who
  · simp [ey, HCS.out]
  · simp [ey]
end Go.Proofs.YtackdgbcmeafhaaGreat

/- Package book: open. -/
namespace Go.Proofs.YtackdgbcmeafhaaGreat
open Go.RowKit Go.Maps Go.Shelf
attribute [-go_sem] loadCellsFrom

theorem store_blk {W : World} {b : Nat} {old cs : Array Value} {T : TypeId} (hb : Blk W b old T) (hs : old.size = cs.size) (h1 : cs.all (·.oneCell') = true) :
    ∃ W2, (storeCells ⟨b, 0, none⟩ cs.toList).run Tryz.prog W = .ok () W2 ∧ Blk W2 b cs T ∧ Chg [b] W W2 := by
  have hr := run_storeCells_from (P := Tryz.prog) b T cs.toList 0 old W hb (by simp; omega) (fun v hv => (Array.all_eq_true_iff_forall_mem.1 h1) v (by simpa using hv))
  simp only [List.take_zero, List.nil_append, Array.toArray_toList] at hr
  refine ⟨_, hr, setRow_heap W b old cs T _ hb, ⟨rfl, rfl, rfl, by simp [World.setRow], fun k _ hk => setRow_other W b k cs (by simpa using hk)⟩⟩
def VtOk (v : Vt) : Prop := v.ad.size = 20 ∧ v.ad.all (·.oneCell') = true
theorem VtOk.one {v : Vt} (h : VtOk v) : v.cs.all (·.oneCell') = true := by
  unfold Vt.cs
  rw [Array.all_append, Array.all_append, h.2]
  simp [Value.oneCell']
def Bk.chk (a : Int) : Int := if a = 0 ∨ ¬ a ≤ 4611686018427387904 then 1 else 0
set_option maxHeartbeats 1000000 in
theorem book_amount (x : Lc) (a : Int) (w : World) : Calls Tryz.prog 103 #[.pointer (some ⟨x.b, 0, none⟩), .int .u64 a] w fun e w' => e = .returned (.int .i64 (Bk.chk a)) ∧ w = w' := by
  unfold Bk.chk
  have hr := Amount_Right a
  by_cases h0 : a = 0
  · subst h0
    go_enter Tryz.func103, Tryz.ntmps103
    go_wp2
    go_ret
    exact ⟨by simp, rfl⟩
  · have b0 : (a == 0) = false := by simp [h0]
    by_cases h1 : a ≤ 4611686018427387904
    · rw [show decide (a ≤ 4611686018427387904) = true by simpa using h1] at hr
      go_enter Tryz.func103, Tryz.ntmps103
      go_wp2_with (go_at_call 51; refine (hr _).mono ?_; rintro e w' ⟨rfl, rfl⟩)
      go_ret
      exact ⟨by simp [h0, h1], rfl⟩
    · rw [show decide (a ≤ 4611686018427387904) = false by simpa using h1] at hr
      go_enter Tryz.func103, Tryz.ntmps103
      go_wp2_with (go_at_call 51; refine (hr _).mono ?_; rintro e w' ⟨rfl, rfl⟩)
      go_ret
      exact ⟨by simp [h1], rfl⟩
set_option maxRecDepth 100000 in
set_option maxHeartbeats 2000000 in
theorem book_open_ok (x : Lc) (B : Bk) (k a : Int) (f : Bool) (v : Vt) (hv : VtOk v) (hk : (Lit.int .u8 k).wf = true) (ha : Bk.chk a = 0) (hf : B.f k = some v) (hfal : (v.fal && !f) = false) (w : World) (h : BkAt w x B) :
    Calls Tryz.prog 54 #[.pointer (some ⟨x.b, 0, none⟩), .int .u8 k, .int .u64 a, .bool f] w fun e w' => e = .returned (.tuple #[.agg v.cs, .int .i64 0]) ∧ Chg [] w w' := by
  have hz := zVault
  have ham := fun w => book_amount x a w
  rw [ha] at ham
  have hsz := v.size hv.1
  have h26 := (v.c21 hv.1).2.2.2.2.2
  have hone := hv.one
  have hinfo : (Tryz.prog.info? 52).map (·.size) = some 27 := by kernel_rfl
  have hst := run_storeCells_new (P := Tryz.prog) (w.alloc (.cells zVt 52)) 52 zVt v.cs (by rw [hsz]; exact hinfo) (by rw [hsz]; rfl) hone
  have hA := h.same ((Chg.refl [] w).alloc (.cells zVt 52))
  have hc17 := hA.c17
  have hm := hA.vm
  have hb11 := Blk.new (w.alloc (.cells zVt 52)) v.cs 52
  have hb8 := (Blk.new w zVt 52).alloc (.cells v.cs 52)
  have hld := load_blk hb11 27 hsz
  have hc26 := hb11.cell 26 h26
  obtain ⟨W2, hst2, hb2, k2⟩ := store_blk hb8 (cs := v.cs) (by rw [hsz]; rfl) hone
  have hld2 := load_blk hb2 27 hsz
  have kf : Chg [] w W2 := (((Chg.refl [] w).alloc _).alloc _).trans k2 (by simp)
  have s1 : (w.alloc (.cells zVt 52)).heap.size = w.heap.size + 1 := by simp
  rw [s1] at hst hld hc26
  clear hb8 hb11
  generalize v.fal = fl at *
  cases fl <;> cases f <;> first | (exfalso; revert hfal; decide) | skip
  all_goals
    go_enter Tryz.func54, Tryz.ntmps54
    go_wp2_with (first
      | (go_at_call 103; refine (ham _).mono ?_; rintro e w' ⟨rfl, rfl⟩)
      | (at_lookup; go_loud (refine wpList_look_ok_v _ rfl _ _ 95 rfl 45 52 .u8 Tryz.underlying45 Tryz.underlying95 _ (zVault _) x.vm B.cnt _ hm rfl k rfl hk ?_); rw [hf]; simp only [Option.map_some, Option.getD_some, Option.isSome_some]))
    exact bodyPost_ret (v := .tuple #[.agg v.cs, .int .i64 0]) (by simp [results, Tryz.results54, go_sem, hld2]) rfl ⟨rfl, kf⟩
end Go.Proofs.YtackdgbcmeafhaaGreat

/- Package book: Burden, secure, Reserve. -/
namespace Go.Proofs.YtackdgbcmeafhaaGreat
open Go.RowKit Go.Maps Go.Shelf
attribute [-go_sem] loadCellsFrom

def Vt.bur (v : Vt) : Nat := v.iss + v.com + v.goi
set_option maxRecDepth 100000 in
set_option maxHeartbeats 1000000 in
theorem vault_Burden (v : Vt) (hv : VtOk v) (hb : v.bur < 18446744073709551616) (w : World) :
    Calls Tryz.prog 56 #[.agg v.cs] w fun e w' => e = .returned (.int .u64 v.bur) ∧ Chg [] w w' := by
  have hsz := v.size hv.1
  obtain ⟨h21, h22, h23, h24, h25, h26⟩ := v.c21 hv.1
  have hbk := Blk.new w v.cs 52
  have c22 := hbk.cell 22 h22
  have c23 := hbk.cell 23 h23
  have c24 := hbk.cell 24 h24
  unfold Vt.bur at hb ⊢
  clear h21 h22 h23 h24 h25 h26
  go_enter Tryz.func56, Tryz.ntmps56
  go_wp2
  go_ret
  exact ⟨by simp, (by repeat (first | exact Chg.refl _ _ | refine Chg.alloc ?_ _ | refine Chg.drew ?_ | refine Chg.drewN ?_ _ | refine Chg.setCell ?_ (.inr (by simp)) _))⟩
def Bk.sec (B : Bk) (col parts : Nat) : Int := if (B.F.price B.now).2 ≠ 0 then (B.F.price B.now).2 else if 4611686018427387904 < parts then 4 else if enoughB col parts (B.F.price B.now).1 2000 = true then 0 else 19
set_option maxRecDepth 100000 in
set_option maxHeartbeats 2000000 in
theorem book_secure (x : Lc) (B : Bk) (col parts : Nat) (hn : B.now ≤ 1099511627776) (ok : FdOk B.F) (w : World) (h : BkAt w x B) :
    Calls Tryz.prog 55 #[.pointer (some ⟨x.b, 0, none⟩), .int .u64 col, .int .u64 parts] w fun e w' => e = .returned (.int .i64 (B.sec col parts)) ∧ Chg [] w w' := by
  have hp := book_Price x B hn ok w h
  have hr := Amount_Right parts
  have he := rate_Enough col parts (B.F.price B.now).1 2000
  unfold Bk.sec
  generalize (B.F.price B.now).1 = P at *
  generalize (B.F.price B.now).2 = E at *
  by_cases h1 : E = 0
  · subst h1
    by_cases h2 : 4611686018427387904 < parts
    · rw [show decide ((parts : Int) ≤ 4611686018427387904) = false by simp; omega] at hr
      go_enter Tryz.func55, Tryz.ntmps55
      go_wp2_with (first
        | (go_at_call 29; refine hp.mono ?_; rintro e w1 ⟨rfl, k1⟩)
        | (go_at_call 51; refine (hr _).mono ?_; rintro e w' ⟨rfl, rfl⟩))
      go_ret
      exact ⟨by simp [h2], k1⟩
    · rw [show decide ((parts : Int) ≤ 4611686018427387904) = true by simp; omega] at hr
      cases hen : enoughB col parts P 2000
      all_goals
        rw [hen] at he
        go_enter Tryz.func55, Tryz.ntmps55
        go_wp2_with (first
          | (go_at_call 29; refine hp.mono ?_; rintro e w1 ⟨rfl, k1⟩; have hc0 := (h.same k1).c0)
          | (go_at_call 51; refine (hr _).mono ?_; rintro e w' ⟨rfl, rfl⟩)
          | (go_at_call 104; refine (he _).mono ?_; rintro e w2 ⟨rfl, k2⟩))
        go_ret
        exact ⟨by simp [h2], k1.trans k2 (by simp)⟩
  · have b1 : (E == 0) = false := by simp [h1]
    go_enter Tryz.func55, Tryz.ntmps55
    go_wp2_with (go_at_call 29; refine hp.mono ?_; rintro e w1 ⟨rfl, k1⟩)
    go_ret
    exact ⟨by simp [h1], k1⟩
end Go.Proofs.YtackdgbcmeafhaaGreat

/- Package book: Reserve. -/
namespace Go.Proofs.YtackdgbcmeafhaaGreat
open Go.RowKit Go.Maps Go.Shelf
attribute [-go_sem] loadCellsFrom

theorem Vt.set_com (v : Vt) (hv : v.ad.size = 20) (n : Nat) : v.cs.setIfInBounds 23 (.int .u64 n) = ({ v with com := n } : Vt).cs := by
  unfold Vt.cs
  apply Array.ext_getElem?
  intro i
  rw [Array.getElem?_setIfInBounds]
  by_cases h : 23 = i
  · subst h; simp [hv, Array.getElem?_append]
  · rw [if_neg h]
    simp only [Array.getElem?_append]
    split
    · rfl
    · simp [hv]
      rcases Nat.lt_or_ge i 27 with h2 | h2
      · have : i = 21 ∨ i = 22 ∨ i = 24 ∨ i = 25 ∨ i = 26 ∨ i < 21 := by omega
        rcases this with rfl | rfl | rfl | rfl | rfl | h3 <;> simp_all
      · simp [show 6 ≤ i - 21 by omega]
set_option maxRecDepth 100000 in
set_option maxHeartbeats 4000000 in
theorem book_Reserve (x : Lc) (B : Bk) (k : Int) (a : Nat) (v : Vt) (hv : VtOk v) (hk : (Lit.int .u8 k).wf = true) (ha : Bk.chk a = 0) (hf : B.f k = some v) (hfal : v.fal = false) (hwho : v.who = k) (hb : v.bur + a < 18446744073709551616) (hcnt : B.cnt < 1000)
    (hn : B.now ≤ 1099511627776) (ok : FdOk B.F) (w : World) (h : BkAt w x B) :
    Calls Tryz.prog 16 #[.pointer (some ⟨x.b, 0, none⟩), .int .u8 k, .int .u64 a] w fun e w' => e = .returned (.int .i64 (B.sec v.col (v.bur + a))) ∧ BkAt w' x (if B.sec v.col (v.bur + a) = 0 then B.put { v with com := v.com + a } else B) ∧ Chg [x.vm] w w' := by
  have hz := zVault
  have hsz := v.size hv.1
  have hinfo : (Tryz.prog.info? 52).map (·.size) = some 27 := by kernel_rfl
  have hop := book_open_ok x B k a false v hv hk ha hf (by rw [hfal]; rfl) w h
  have hs := v.set_com hv.1 (v.com + a)
  rw [Int.natCast_add] at hs
  obtain ⟨v', hv'⟩ : ∃ v' : Vt, v' = { v with com := v.com + a } := ⟨_, rfl⟩
  rw [← hv'] at hs ⊢
  have hvo : VtOk v' := by rw [hv']; exact hv
  have hbur : v'.bur = v.bur + a := by rw [hv']; simp [Vt.bur]; omega
  have hw' : v'.who = k := by rw [hv']; exact hwho
  have hcol : v'.col = v.col := by rw [hv']
  have hcb : (v.com : Int) + a < 18446744073709551616 := by unfold Vt.bur at hb; omega
  have h23 := (v.c21 hv.1).2.2.1
  clear hv'
  rw [← hbur]
  have hsec := fun w h => book_secure x B v.col v'.bur hn ok w h
  generalize B.sec v.col v'.bur = E at hsec ⊢
  have hbb : v'.bur < 18446744073709551616 := by omega
  clear hbur
  go_enter Tryz.func16, Tryz.ntmps16
  go_wp2_with fail
  refine hop.mono ?_
  rintro e w1 ⟨rfl, k1⟩
  have hst := run_storeCells_new (P := Tryz.prog) w1 52 zVt v.cs (by rw [hsz]; exact hinfo) (by rw [hsz]; rfl) hv.one
  have hb1 := Blk.new w1 v.cs 52
  have hc23 := hb1.cell 23 h23
  have hf23 := hb1.free 23
  go_wp2
  have hA := h.same (k1.alloc (.cells v'.cs 52))
  have kA : Chg [] w (w1.alloc (.cells v'.cs 52)) := k1.alloc _
  have hb2 := Blk.new w1 v'.cs 52
  have hsz2 := v'.size hvo.1
  have h21 := (v'.c21 hvo.1).1
  rw [hcol] at h21
  have ng : w1.heap.size ≠ x.vm := by have := (h.same k1).vm.lt; omega
  clear hb1 hc23 hf23 hst hz hs hop h23
  generalize w1.alloc (.cells v'.cs 52) = W2 at hA kA hb2 ⊢
  generalize w1.heap.size = g at hb2 ng ⊢
  --RES

  refine wp_region_held_drew (S := fun w' => Chg [] W2 w') (by kernel_rfl) ((Chg.refl _ _).drew) (fun hH0 => ?_)
  refine wpAnyH_take (i := 0) (v := .pointer (some ⟨x.b, 0, none⟩)) rfl (by kernel_rfl) (by kernel_rfl) (by kernel_rfl) (fun _ _ _ h => h) (.inl ⟨by rfl, fun w' hw' => ?_⟩) hH0 ?_
  · go_simp
  try simp only [Act.put, List.setIfInBounds_toArray, List.set_cons_zero, List.set_cons_succ, List.getElem_toArray, List.getElem_cons_succ, List.getElem_cons_zero]
  refine wpAnyH_take (i := 1) (v := .pointer (some ⟨g, 21, none⟩)) rfl (by kernel_rfl) (by kernel_rfl) (by kernel_rfl) (fun _ _ _ h => h) (.inl ⟨by rfl, fun w' hw' => ?_⟩) hH0 ?_
  · go_simp
  try simp only [Act.put, List.setIfInBounds_toArray, List.set_cons_zero, List.set_cons_succ, List.getElem_toArray, List.getElem_cons_succ, List.getElem_cons_zero]
  refine wpAnyH_take (i := 2) (v := .int .u64 v.col) rfl (by kernel_rfl) (by kernel_rfl) (by kernel_rfl) (fun _ _ _ h => h) (.inl ⟨by rfl, fun w' hw' => ?_⟩) hH0 ?_
  · have hz := (hb2.chg hw' (by simp)).cell 21 h21
    go_simp
  try simp only [Act.put, List.setIfInBounds_toArray, List.set_cons_zero, List.set_cons_succ, List.getElem_toArray, List.getElem_cons_succ, List.getElem_cons_zero]
  refine wpAnyH_take (i := 3) (v := .agg v'.cs) rfl (by kernel_rfl) (by kernel_rfl) (by kernel_rfl) (fun _ _ _ h => h) (.inl ⟨by rfl, fun w' hw' => ?_⟩) hH0 ?_
  · have hz := load_blk (hb2.chg hw' (by simp)) 27 hsz2
    go_simp
  try simp only [Act.put, List.setIfInBounds_toArray, List.set_cons_zero, List.set_cons_succ, List.getElem_toArray, List.getElem_cons_succ, List.getElem_cons_zero]
  refine wpAnyH_ready (rs := [4]) (by kernel_rfl) (by simp) (AllReadyH.cons rfl (fun K hK => ?_) AllReadyH.nil)
  try rw [if_pos (by rfl)]
  go_simp
  go_at_call 56
  refine (vault_Burden v' hvo hbb _).mono ?_
  rintro e wk1 ⟨rfl, hd1⟩
  dsimp only
  have hH1 := hH0.trans hd1 (by simp)
  refine hK.out _ _ hH1 (fun _ => ?_)
  try simp only [Act.put, List.setIfInBounds_toArray, List.set_cons_zero, List.set_cons_succ, List.getElem_toArray, List.getElem_cons_succ, List.getElem_cons_zero]
  refine wpAnyH_ready (rs := [5]) (by kernel_rfl) (by simp) (AllReadyH.cons rfl (fun K hK => ?_) AllReadyH.nil)
  try rw [if_pos (by rfl)]
  go_simp
  go_at_call 55
  refine (hsec _ (hA.same hH1)).mono ?_
  rintro e wk2 ⟨rfl, hd2⟩
  dsimp only
  have hH2 := hH1.trans hd2 (by simp)
  refine hK.out _ _ hH2 (fun _ => ?_)
  try simp only [Act.put, List.setIfInBounds_toArray, List.set_cons_zero, List.set_cons_succ, List.getElem_toArray, List.getElem_cons_succ, List.getElem_cons_zero]
  refine wpAnyH_take (i := 6) (v := .int .i64 E) rfl (by kernel_rfl) (by kernel_rfl) (by kernel_rfl) (fun _ _ _ h => h) (.inl ⟨by rfl, fun w' hw' => ?_⟩) hH2 ?_
  · go_simp
  try simp only [Act.put, List.setIfInBounds_toArray, List.set_cons_zero, List.set_cons_succ, List.getElem_toArray, List.getElem_cons_succ, List.getElem_cons_zero]
  refine wpAnyH_done (by kernel_rfl) ?_ _
  --RESEND
  by_cases hE : E = 0
  · subst hE
    have hput := book_put x B v' hvo.1 (by rw [hw']; exact hk) hcnt _ (hA.same hH2)
    have hld := load_blk (hb2.chg hH2 (by simp)) 27 hsz2
    go_wp2_with (go_at_call 53; refine hput.mono ?_; rintro e w3 ⟨rfl, hB3, k3⟩)
    go_ret
    exact ⟨rfl, by first | exact hB3 | (rw [if_pos rfl]; exact hB3), ((kA.trans hH2 (by simp)).mono (by simp)).trans k3 (fun t ht => .inl ht)⟩
  · have bE : (E == 0) = false := by simp [hE]
    have hE' := Lib.hid hE
    clear hE hsec
    clear hsz2 h21 hcol hw' hwho hcb hf hfal hbb hinfo hsz ha hk hcnt hn hb hb2 ng hvo hv ok h
    go_wp2
    go_ret
    exact ⟨rfl, by first | exact hA.same hH2 | (rw [if_neg hE'.out]; exact hA.same hH2), (kA.trans hH2 (by simp)).mono (by simp)⟩
end Go.Proofs.YtackdgbcmeafhaaGreat

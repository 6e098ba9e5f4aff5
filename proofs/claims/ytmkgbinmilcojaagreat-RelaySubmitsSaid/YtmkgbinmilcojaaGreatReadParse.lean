import Derived.Test.YtmkgbinmilcojaaGreatDblHead
import Derived.Laws.CopyOwn
import Derived.Test.YtmkgbinmilcojaaGreatFromB
import Derived.Test.YtmkgbinmilcojaaGreatCloneChunk
import Derived.Laws.Tables
import Derived.Test.YtmkgbinmilcojaaGreatNodeMap

/- octet.Reader: Read, Raw, End; header.hash. -/
namespace Go.Proofs.YtmkgbinmilcojaaGreat
open Go.RowKit Go.Maps
attribute [-go_sem] loadCellsFrom

/-- the reader at block R has l left, at (g, off). -/
structure RdAt (W : World) (R g off cap : Nat) (l : List Nat) : Prop where
  blk : Blk W R #[.slice (some ⟨g, off, none⟩) l.length cap, .bool false] 180
  at_ : BytesAt W g off l
  lt : g < W.heap.size
  ne : g ≠ R
  cap : l.length ≤ cap
theorem RdAt.chg {W W' : World} {R g off cap : Nat} {l : List Nat} {S : List Nat} (h : RdAt W R g off cap l) (k : Chg S W W') (h1 : R ∉ S) (h2 : g ∉ S) : RdAt W' R g off cap l :=
  ⟨h.blk.chg k h1, h.at_.chg k h.lt h2, Nat.lt_of_lt_of_le h.lt k.size, h.ne, h.cap⟩
set_option maxHeartbeats 400000 in
theorem reader_Wrong (W : World) (R g off cap : Nat) (l : List Nat) (h : RdAt W R g off cap l) :
    Calls Tryz.prog 116 #[.pointer (some ⟨R, 0, none⟩)] W fun e w' => e = .returned (.bool false) ∧ W = w' := by
  have c0 := h.blk.cell 0 rfl
  have c1 := h.blk.cell 1 rfl
  go_enter Tryz.func116, Tryz.ntmps116
  go_wp2
  go_ret
  exact ⟨rfl, rfl⟩
set_option maxHeartbeats 400000 in
theorem reader_End (W : World) (R g off cap : Nat) (l : List Nat) (h : RdAt W R g off cap l) :
    Calls Tryz.prog 94 #[.pointer (some ⟨R, 0, none⟩)] W fun e w' => e = .returned (.bool (decide (l.length = 0))) ∧ W = w' := by
  have hw := reader_Wrong W R g off cap l h
  have c0 := h.blk.cell 0 (v := .slice (some ⟨g, off, none⟩) l.length cap) rfl
  go_enter Tryz.func94, Tryz.ntmps94
  go_wp2_with fail
  refine hw.mono ?_
  rintro e w' ⟨rfl, rfl⟩
  dsimp only
  go_wp2
  go_ret
  exact ⟨by cases l <;> simp; omega, rfl⟩
theorem BytesAt.part' {w : World} {g off : Nat} {l : List Nat} (h : BytesAt w g off l) (a : Nat) : BytesAt w g (off + a) (l.drop a) :=
  ⟨fun x hx => h.1 x (List.mem_of_mem_drop hx), fun j v hj => by
    have := h.2 (a + j) v (by simpa using hj)
    rw [Nat.add_assoc]; exact this⟩
set_option maxRecDepth 100000 in
set_option maxHeartbeats 2000000 in
theorem octet_Read (g off cap : Nat) (l : List Nat) (hl : l.length ≤ 1000000) (h0 : 0 < l.length) (w : World) (hp : BytesAt w g off l) (hg : g < w.heap.size) :
    Calls Tryz.prog 90 #[.slice (some ⟨g, off, none⟩) l.length cap] w fun e w' => ∃ R g2 cap2, e = .returned (.pointer (some ⟨R, 0, none⟩)) ∧ RdAt w' R g2 0 cap2 l ∧ w.heap.size ≤ R ∧ w.heap.size ≤ g2 ∧ Chg [] w w' := by
  have h256 := hp.1
  go_enter Tryz.func90, Tryz.ntmps90
  go_wp2_with fail
  refine (clone_bytes g off cap l hl w hp hg).mono ?_
  rintro e w1 ⟨v, rfl, hv, k1⟩
  obtain ⟨g2, cap2, rfl, hg0, hg1, hB, hcap⟩ := bytesAt_row hv h0 h256
  have bR := Blk.new w1 #[.slice (some ⟨g2, 0, none⟩) l.length cap2, .bool false] 180
  have k2 := k1.alloc (.cells #[.slice (some ⟨g2, 0, none⟩) l.length cap2, .bool false] 180)
  have hs := k1.size
  go_wp2
  go_ret
  exact ⟨w1.heap.size, g2, cap2, rfl, ⟨bR, hB.chg ((Chg.refl [] w1).alloc _) hg1 (by simp), by simp; omega, by omega, hcap⟩, hs, hg0, k2⟩
set_option maxRecDepth 100000 in
set_option maxHeartbeats 2000000 in
theorem reader_Raw (n : Nat) (hn0 : 0 < n) (R g off cap : Nat) (l : List Nat) (hn : n ≤ l.length) (hl : l.length ≤ 1000000) (w : World) (h : RdAt w R g off cap l) :
    Calls Tryz.prog 93 #[.pointer (some ⟨R, 0, none⟩), .int .i64 n] w fun e w' => ∃ g2 cap2, e = .returned (.slice (some ⟨g2, 0, none⟩) n cap2) ∧ n ≤ cap2 ∧ BytesAt w' g2 0 (l.take n) ∧ w.heap.size ≤ g2 ∧ g2 < w'.heap.size ∧ (∃ off2, RdAt w' R g off2 (cap - n) (l.drop n)) ∧ Chg [R] w w' := by
  have hw := reader_Wrong w R g off cap l h
  have hat := h.at_
  have hcp := h.cap
  have htl : (l.take n).length = n := by simp; omega
  have hpt : BytesAt w g off (l.take n) := ⟨fun x hx => hat.1 x (List.mem_of_mem_take hx), fun j v hj => hat.2 j v (by rw [List.getElem?_take] at hj; split at hj; exact hj; cases hj)⟩
  have hcl := clone_bytes g off cap (l.take n) (by omega) w hpt h.lt
  have hdl : (l.drop n).length = l.length - n := by simp
  rw [htl] at hcl
  have hb := h.blk
  obtain ⟨m, hm⟩ : ∃ m, m = l.length := ⟨_, rfl⟩
  rw [← hm] at hb hn hl hcp hdl
  have c0 := hb.cell 0 (v := .slice (some ⟨g, off, none⟩) m cap) rfl
  have d1 : decide ((n : Int) < 0) = false := by simp
  have d2 : decide ((m : Int) < n) = false := by simp; omega
  have y1 : (n : Int) ≤ (cap : Int) := by omega
  have y2 : (n : Int) ≤ (m : Int) := by omega
  have y3 : (0 : Int) ≤ (n : Int) := by omega
  have hm' := Lib.hid hm
  have hdl' := Lib.hid hdl
  clear hm hdl hn hcp
  go_enter Tryz.func93, Tryz.ntmps93
  go_wp2_with fail
  refine hw.mono ?_
  rintro e w' ⟨rfl, rfl⟩
  dsimp only
  go_wp2_with fail
  refine hcl.mono ?_
  rintro e w2 ⟨v, rfl, hv, k2⟩
  obtain ⟨g2, cap2, rfl, hg0, hg1, hB, hcap⟩ := bytesAt_row (l := l.take n) (by rw [htl]; exact hv) (by omega) hpt.1
  rw [htl] at hcap ⊢
  have hb2 := hb.chg k2 (by simp)
  have c2 := hb2.cell 0 (v := .slice (some ⟨g, off, none⟩) m cap) rfl
  have f2 := hb2.free 0
  have hsz := k2.size
  have hlt := h.blk.lt
  have hg2 := h.lt
  have hne := h.ne
  have hat2 := (hat.part' n).chg k2 hg2 (by simp)
  clear hcl hat
  have hfin : ∀ off2, BytesAt w2 g off2 (l.drop n) → ∃ off2', RdAt (w2.setCell ⟨R, 0, none⟩ (.slice (some ⟨g, off2, none⟩) (m - n) (cap - n))) R g off2' (cap - n) (l.drop n) := fun off2 hb => by
    have hset := hb2.set 0 (.slice (some ⟨g, off2, none⟩) (m - n) (cap - n))
    refine ⟨off2, ⟨by rw [hdl'.out]; exact hset, hb.chg ((Chg.refl [R] w2).setCell (.inl (by simp)) _) (by omega) (by simpa using hne), by simp [World.setCell]; omega, hne, by rw [hdl'.out]; have := h.cap; rw [← hm'.out] at this; omega⟩⟩
  have hB2 : ∀ v, BytesAt (w2.setCell ⟨R, 0, none⟩ v) g2 0 (l.take n) := fun v => hB.chg ((Chg.refl [R] w2).setCell (.inl (by simp)) _) hg1 (by simp; omega)
  have hsz2 : ∀ v, g2 < (w2.setCell ⟨R, 0, none⟩ v).heap.size := fun v => by simpa [World.setCell] using hg1
  have kf : ∀ v, Chg [R] w (w2.setCell ⟨R, 0, none⟩ v) := fun v => (k2.mono (by simp)).setCell (.inl (by simp)) _
  have hB2' := Lib.hid hB2
  have hsz2' := Lib.hid hsz2
  have kf' := Lib.hid kf
  have hfin' := Lib.hid hfin
  clear hB2 hsz2 kf hfin hB hg1 hb2 k2 hb hw hpt hm'
  by_cases hcn : cap = n
  · have hl0 : l.drop n = [] := by
      have h1 := hdl'.out; have h2 := h.cap
      refine List.eq_nil_of_length_eq_zero ?_
      rw [List.length_drop]; omega
    have hbe : BytesAt w2 g off (l.drop n) := by rw [hl0]; exact ⟨by simp, by simp⟩
    have hbe' := Lib.hid hbe
    subst hcn
    clear h hat2 hl0 hbe
    go_wp2
    go_ret
    exact ⟨g2, cap2, rfl, hcap, hB2'.out _, hg0, hsz2'.out _, (by have := hfin'.out off hbe'.out; rw [Nat.sub_self] at this ⊢; exact this), kf'.out _⟩
  · have hcn2 : ¬ cap - n = 0 := by have := h.cap; have := hdl'.out; omega
    have hat3 := Lib.hid hat2
    clear h hat2
    go_wp2
    go_ret
    exact ⟨g2, cap2, rfl, hcap, hB2'.out _, hg0, hsz2'.out _, hfin'.out _ hat3.out, kf'.out _⟩
end Go.Proofs.YtmkgbinmilcojaaGreat

/- header.hash; slices.Backward; octet.Reader.Get. -/
namespace Go.Proofs.YtmkgbinmilcojaaGreat
open Go.RowKit Go.Maps Go.Shelf
attribute [-go_sem] loadCellsFrom
attribute [local go_sem] Oper.semAt_some

theorem infoU8s : (Tryz.prog.info? 5).map (·.size) = some 1 := by kernel_rfl
set_option maxRecDepth 100000 in
set_option maxHeartbeats 2000000 in
theorem header_hash (g cap : Nat) (l : List Nat) (hl : l.length = 32) (w : World) (hp : BytesAt w g 0 l) (hg : g < w.heap.size) :
    Calls Tryz.prog 92 #[.slice (some ⟨g, 0, none⟩) 32 cap] w fun e w' => e = .returned (.agg (bytesV l).toArray) ∧ Chg [] w w' := by
  have hz := zeroHash
  have bO := (Blk.new w z32 26).alloc (.cells z32 26)
  have bC := Blk.at (w.alloc (.cells z32 26)) z32 26 (w.heap.size + 1) (by simp)
  have k0 : Chg [] w ((w.alloc (.cells z32 26)).alloc (.cells z32 26)) := ((Chg.refl _ _).alloc _).alloc _
  have hp0 := hp.chg k0 hg (by simp)
  have hsrc : ∀ (j : Nat) u, (bytesV l)[j]? = some u → ((w.alloc (.cells z32 26)).alloc (.cells z32 26)).cell? ((⟨g, 0, none⟩ : Addr).add j) = some u := fun j u hu => by
    rw [show (⟨g, 0, none⟩ : Addr).add j = ⟨g, 0 + j, none⟩ by unfold Addr.add; split <;> simp_all]
    simp only [bytesV, List.getElem?_map, Option.map_eq_some_iff] at hu
    obtain ⟨b, hb, rfl⟩ := hu
    exact hp0.2 j b hb
  have hzs : z32.size = 32 := rfl
  have hone := bytesV_all l
  have hsz : (bytesV l).toArray.size = 32 := by simp [bytesV_len, hl]
  obtain ⟨zz, hzz⟩ : ∃ zz, zz = z32 := ⟨_, rfl⟩
  rw [← hzz] at hz bO bC k0 hsrc hzs
  clear hzz hp0
  obtain ⟨W2, hcp, bC2, kk⟩ : ∃ W2, (Builtin.copy_ #[36, 36] 3 #[.slice (some ⟨w.heap.size + 1, 0, none⟩) 32 32, .slice (some ⟨g, 0, none⟩) 32 cap]).run Tryz.prog ((w.alloc (.cells zz 26)).alloc (.cells zz 26)) = .ok (.int .i64 32) W2 ∧ Blk W2 (w.heap.size + 1) (bytesV l).toArray 26 ∧ Chg [w.heap.size + 1] ((w.alloc (.cells zz 26)).alloc (.cells zz 26)) W2 := by
    have hr := run_copy_row (P := Tryz.prog) ((w.alloc (.cells zz 26)).alloc (.cells zz 26)) 36 36 3 5 (w.heap.size + 1) 0 32 32 ⟨g, 0, none⟩ 32 cap zz 26 (bytesV l) Tryz.underlying36 infoU8s bC (by rw [bytesV_len, hl]; rfl) hsrc (by rw [bytesV_len, hl, hzs]; omega) (bytesV_one l)
    have e : (zz.toList.take 0 ++ bytesV l ++ zz.toList.drop (0 + (bytesV l).length)).toArray = (bytesV l).toArray := by
      rw [bytesV_len, hl, List.take_zero, List.drop_of_length_le (by simp [hzs])]; simp
    rw [e, show goInt ((bytesV l).length : Int) = .int .i64 32 by rw [bytesV_len, hl]; rfl] at hr
    exact ⟨_, hr, setRow_heap _ _ zz _ _ _ bC, ⟨rfl, rfl, rfl, by simp [World.setRow], fun k _ hk => setRow_other _ _ k _ (by simpa using hk)⟩⟩
  have bO2 := bO.chg kk (by simp)
  have hld := load_blkC bC2 32 hsz
  obtain ⟨W3, hst, b3, k3⟩ := store_cells bO2 (cs := (bytesV l).toArray) (by rw [hsz, hzs]) hone
  have hld2 := load_blkC b3 32 hsz
  have kf := (k0.trans kk (by simp)).trans k3 (by simp)
  clear bO bC k0 hsrc bC2 kk bO2 k3 b3 hp
  obtain ⟨ds, hds⟩ : ∃ ds, ds = (bytesV l).toArray := ⟨_, rfl⟩
  rw [← hds] at hld hst hld2 hsz ⊢
  clear hds hone
  go_enter Tryz.func92, Tryz.ntmps92
  go_wp2
  exact bodyPost_ret (v := .agg ds) (by simp [results, Tryz.results92, go_sem, hld2]) rfl ⟨rfl, kf⟩

theorem rev_take {m k : Nat} (h : k < m) : (List.finRange m).reverse.take (k + 1) = (List.finRange m).reverse.take k ++ [⟨m - 1 - k, by omega⟩] := by
  rw [List.take_succ_eq_append_getElem (by simpa using h)]
  simp
theorem rev_all (m : Nat) : (List.finRange m).reverse.take m = (List.finRange m).reverse := List.take_of_length_le (by simp)
theorem cell_obj {w : World} {g o : Nat} {v : Value} (h : w.cell? ⟨g, o, none⟩ = some v) : ∃ ob : Obj, w.heap[g]? = some ob ∧ ob.isCells = true := by
  simp only [World.cell?] at h
  split at h
  · rename_i c t f e; exact ⟨_, e, rfl⟩
  · cases h
/-- slices.Backward of bytes. -/
theorem backward1 (n : Nat) (hn : 1 ≤ n) (Fx : List Nat) (bs g off cap : Nat) (l : List Nat) (hl : l.length ≤ 100000) (_ : l.length ≤ cap) (w : World)
    (hb : Blk w bs #[.slice (some ⟨g, off, none⟩) l.length cap] 36) (hp : BytesAt w g off l) (hg : g < w.heap.size) (hgc : ∃ o : Obj, w.heap[g]? = some o ∧ o.isCells = true) (t1 : bs ∉ Fx) (t2 : g ∉ Fx) :
    SeqStopsK Fence.wide n Tryz.prog 128 #[.pointer (some ⟨bs, 0, none⟩)] (fun j : Fin l.length => #[.int .i64 j.1, .int .u8 (l[j.1] : Nat)]) (Kp Fx []) (fun xs => xs = (List.finRange l.length).reverse) (fun _ => True) l.length w := fun lp J Jx W hW hJ hJx hY h0 => by
  have hc : Chg [] w W := .of_below' hW (Nat.le_refl _)
  have hb' := hb.chg hc (by simp)
  obtain ⟨go, hgb, hgo⟩ := hgc
  have hgb' : W.heap[g]? = some go := (hc.block g hg (by simp)).trans hgb
  have hp' := hp.chg hc hg (by simp)
  clear hb hp hgb hc hg
  refine callsIn_of_wp Tryz.func128 rfl trivial ?_ rfl
  simp only [Tryz.ntmps128, List.size_toArray, List.length_cons, List.length_nil, Nat.reduceAdd, Nat.reduceSub, Array.replicate_succ, Array.replicate_zero, List.push_toArray, List.append_toArray, List.nil_append, List.cons_append]
  have c0 : W.cell? ⟨bs, 0, none⟩ = some (.slice (some ⟨g, off, none⟩) l.length cap) := hb'.cell 0 rfl
  gi_wp2
  gi_loopw [3] (fun i wr => ∃ k : Nat, k ≤ l.length ∧ i = .int .i64 ((l.length : Int) - 1 - k) ∧ J ((List.finRange l.length).reverse.take k) wr ∧ Kp Fx [] W wr) (fun i _ => (intOf i + 1).toNat)
  case atStart => exact ⟨0, Nat.zero_le _, by simp, by simpa using h0, Kp.refl _ _ _⟩
  case round =>
    obtain ⟨k, hk, rfl, hJs, hkp⟩ := hrel
    have c0 : wr.cell? ⟨bs, 0, none⟩ = some (.slice (some ⟨g, off, none⟩) l.length cap) := (hb'.kp hkp (fun t => t1 (tch_fx.1 t))).cell 0 rfl
    have hgr : wr.heap[g]? = some go := hkp.same g go hgb' (.inl hgo) (fun t => t2 (tch_fx.1 t))
    by_cases hlt : k < l.length
    · obtain ⟨j, hj⟩ : ∃ j, j = l.length - 1 - k := ⟨_, rfl⟩
      have hjl : j < l.length := by omega
      have hce : wr.cell? ⟨g, off + j, none⟩ = some (.int .u8 (l[j] : Nat)) := by
        have h1 := hp'.2 j l[j] (by simp)
        rw [World.cell?_of_block (w := W) (show wr.heap[g]? = W.heap[g]? from hgr.trans hgb'.symm)]
        exact h1
      obtain ⟨fn, tmps, assign, body, hy, hR⟩ := hY _ ⟨j, hjl⟩ wr hJs (by simp; omega)
      have hnext : J ((List.finRange l.length).reverse.take k ++ [⟨j, hjl⟩]) = J ((List.finRange l.length).reverse.take (k + 1)) := by
        rw [rev_take hlt]; congr; 
      have hjj : ((l.length : Int) - 1 - k) = (j : Int) := by omega
      rw [hjj]
      have hj' := Lib.hid hj
      have hjj' := Lib.hid hjj
      clear hj hjj
      have y0 : (0 : Int) ≤ (j : Int) := by omega
      have y1 : (j : Int) < (l.length : Int) := by omega
      gi_wp2
      refine hR.mono ?_
      rintro e W3 (⟨rfl, hJ3, hk3⟩ | ⟨rfl, hJx3⟩)
      · gi_wp2
        go_roundw
        case rel => exact ⟨k + 1, by omega, by have := hj'.out; simp; omega, by rw [← hnext]; exact hJ3, hkp.trans hk3⟩
        case measure => simp [intOf]
      · gi_wp2
        refine bodyPost_ret (results_none rfl _ _ _) rfl ?_
        exact ⟨⟨_, rfl⟩, .inr ⟨_, trivial, hJx3⟩⟩
    · obtain rfl : k = l.length := by omega
      have hz : ((l.length : Int) - 1 - (l.length : Int)) = -1 := by omega
      rw [hz]
      gi_wp2
      go_end0
      exact ⟨⟨_, rfl⟩, .inl ⟨_, rfl, by rw [rev_all] at hJs; exact hJs⟩⟩

set_option maxHeartbeats 400000 in
theorem slices_Backward (a : Option Addr) (n c : Nat) (w : World) : Calls Tryz.prog 115 #[.slice a n c] w fun e w' => e = .returned (.func (.func 128) #[] #[.pointer (some ⟨w.heap.size, 0, none⟩)]) ∧ w' = w.alloc (.cells #[.slice a n c] 36) := by
  go_enter Tryz.func115, Tryz.ntmps115
  go_wp2
  go_ret
  exact ⟨rfl, rfl⟩
/-- what the loop has made of some of the bytes. -/
def accB (l : List Nat) (js : List (Fin l.length)) : Nat := js.foldl (fun x (j : Fin l.length) => x * 256 + l[j.1]) 0
theorem accB_snoc (l : List Nat) (js : List (Fin l.length)) (j : Fin l.length) : accB l (js ++ [j]) = accB l js * 256 + l[j.1] := by simp [accB]
theorem accB_lt {l : List Nat} (h : ∀ x ∈ l, x < 256) (js : List (Fin l.length)) : accB l js < 256 ^ js.length := by
  suffices hs : ∀ (js : List (Fin l.length)) (x m : Nat), x < 256 ^ m → js.foldl (fun x (j : Fin l.length) => x * 256 + l[j.1]) x < 256 ^ (m + js.length) by
    have := hs js 0 0 (by simp); simpa [accB] using this
  intro js
  induction js with
  | nil => intro x m hx; simpa using hx
  | cons j js ih =>
    intro x m hx
    have hj := h l[j.1] (List.getElem_mem _)
    have := ih (x * 256 + l[j.1]) (m + 1) (by rw [Nat.pow_succ]; omega)
    rw [List.foldl_cons, List.length_cons, show m + (js.length + 1) = m + 1 + js.length by omega]
    exact this
theorem accB_all (l : List Nat) : accB l (List.finRange l.length).reverse = numB l := by
  have h1 : ∀ (js : List (Fin l.length)) (x : Nat), js.foldl (fun x (j : Fin l.length) => x * 256 + l[j.1]) x = (js.map (fun j : Fin l.length => l[j.1])).foldl (fun x b => x * 256 + b) x := fun js x => by rw [List.foldl_map]
  have h2 : (List.finRange l.length).reverse.map (fun j : Fin l.length => l[j.1]) = l.reverse := by
    rw [List.map_reverse]; congr 1
    apply List.ext_getElem <;> simp
  unfold accB numB
  rw [h1, h2, List.foldl_reverse]
  congr 1
  funext b n
  omega
theorem or8 {x b : Nat} (hx : x < 256 ^ 7) (hb : b < 256) : bits .or .u64 ((x : Int) * 256) (b : Int) = ((x * 256 + b : Nat) : Int) := by
  have h := (or_disj (q := (x : Int)) (y := (b : Int)) (R := 8) (by omega) (by omega) (by omega) (by omega) (by omega)).1
  rw [show (2 : Int) ^ 8 = 256 by rfl, Int.mul_comm] at h
  rw [h]; omega
set_option maxRecDepth 100000 in
set_option maxHeartbeats 4000000 in
theorem reader_Get4 (R g off cap : Nat) (l : List Nat) (hn : 4 ≤ l.length) (hl : l.length ≤ 100000) (w : World) (h : RdAt w R g off cap l) :
    Calls Tryz.prog 91 #[.pointer (some ⟨R, 0, none⟩), .int .i64 4] w fun e w' => e = .returned (.int .u64 (numB (l.take 4) : Nat)) ∧ (∃ off2, RdAt w' R g off2 (cap - 4) (l.drop 4)) ∧ Chg [R] w w' := by
  have hraw := reader_Raw 4 (by omega) R g off cap l hn (by omega)
  have hb256 : ∀ x ∈ l.take 4, x < 256 := fun x hx => h.at_.1 x (List.mem_of_mem_take hx)
  have htl : (l.take 4).length = 4 := by simp; omega
  obtain ⟨bs, hbs⟩ : ∃ bs, bs = l.take 4 := ⟨_, rfl⟩
  rw [← hbs] at hraw hb256 htl ⊢
  clear hbs
  refine (callsIn_wide (n := 3)).1 ?_
  refine callsIn_of_wp_marks Tryz.func91 rfl trivial ?_ rfl
  simp only [Tryz.ntmps91, List.size_toArray, List.length_cons, List.length_nil, Nat.reduceAdd, Nat.reduceSub, Array.replicate_succ, Array.replicate_zero, List.push_toArray, List.append_toArray, List.nil_append, List.cons_append]
  have hT := Blk.new w #[.int .u64 0] 49
  have k0 : Chg [] w (w.alloc (.cells #[.int .u64 0] 49)) := (Chg.refl _ _).alloc _
  have hR0 := h.chg k0 (by simp) (by simp)
  gi_wp2
  generalize w.alloc (.cells #[.int .u64 0] 49) = W0 at *
  refine And.intro trivial ?_
  refine (callsIn_wd (hraw W0 hR0)).mono ?_
  rintro e w1 ⟨g2, cap2, rfl, hcap2, hB, hg0, hg1, ⟨off2, hR1⟩, k1⟩
  dsimp only
  have hRl := h.blk.lt
  have hT1 := hT.chg k1 (by simp; omega)
  have k01 := (k0.mono (T := [R]) (by simp)).trans k1 (fun t ht => .inl ht)
  have hs0 := k0.size
  have hs1 := k1.size
  have hTl := hT.lt
  have hg2R : g2 ≠ R := by omega
  gi_wp2
  refine And.intro trivial ?_
  refine (callsIn_wd (slices_Backward _ _ _ w1)).mono ?_
  rintro e w2 ⟨rfl, hw2⟩
  dsimp only
  have hb1 := Blk.new w1 #[.slice (some ⟨g2, 0, none⟩) 4 cap2] 36
  have k2 : Chg [] w1 w2 := by rw [hw2]; exact (Chg.refl _ _).alloc _
  rw [← hw2] at hb1
  clear hw2
  have hT2 := hT1.chg k2 (by simp)
  have hB2 := hB.chg k2 hg1 (by simp)
  have hR2 := hR1.chg k2 (by simp) (by simp)
  have hs2 := k2.size
  have k02 := k01.trans k2 (by simp)
  obtain ⟨c0v, hc0v⟩ : ∃ v, bs[0]? = some v := ⟨bs[0]'(by omega), by simp⟩
  have hobj := cell_obj (hB2.2 0 c0v hc0v)
  have hit := backward1 2 (by omega) [w.heap.size] w1.heap.size g2 0 cap2 bs (by omega) (by omega) w2 (by rw [htl]; exact hb1) hB2 (by omega) hobj (by simp; omega) (by simp; omega)
  have hRne : R ≠ w.heap.size := by omega
  have hgne := h.ne
  have hgl := h.lt
  clear hraw hb1 hB hB2 hR1 hT1 hT hobj hc0v k0 k1 k2 hR0
  gi_wp2
  refine wpIn_rangeFunc_ex rfl (by omega) (gf := 128) (lb := #[.pointer (some ⟨w1.heap.size, 0, none⟩)]) rfl trivial (enters_of Tryz.func128 (by kernel_rfl) rfl) hit Kp.trans' (kp_b (by simp)) (Below.refl _ _) (fun _ => rfl)
    (fun pre W => Blk W w.heap.size #[.int .u64 (accB bs pre : Nat)] 49 ∧ Chg [w.heap.size] w2 W)
    (fun _ _ _ => False) ?hI ?hIx ?h0 ?hab ?done ?stop
  case hI =>
    exact fun s A B row hs hg hr => ⟨hs.1.grown hg (fun e => by obtain ⟨o, ho, hc⟩ := (hr w.heap.size e.symm).2; rw [show A.heap[w.heap.size]? = _ from hs.1] at ho; cases ho; cases hc), hs.2.grown hg (fun k e => .inr (hr k e).1)⟩
  case hIx => exact fun _ _ _ _ _ hs _ _ => hs
  case h0 => exact ⟨hT2, Chg.refl _ _⟩
  case stop => exact fun _ _ _ _ _ _ h => h.elim
  case hab =>
    apply Exists.intro
    constructor
    · intro l x W K hK
      gi_wp2
      exact hK
    · rintro l2 pre x W ⟨hS, kW⟩ hlen
      have hx := accB_lt hb256 pre
      have hxb := hb256 bs[x.1] (List.getElem_mem _)
      have hnx := Lib.hid (accB_snoc bs pre x)
      have h7 : accB bs pre < 256 ^ 7 := Nat.lt_of_lt_of_le hx (Nat.pow_le_pow_right (by decide) (by omega))
      have h8 := or8 h7 hxb
      have hset := hS.set 0 (.int .u64 ((accB bs pre * 256 + bs[x.1] : Nat) : Int))
      have c0 := hS.cell 0 (v := .int .u64 (accB bs pre : Nat)) rfl
      have f0 := hS.free 0
      generalize accB bs pre = y at *
      generalize bs[x.1] = b at *
      have hw1 : IntKind.u64.wrap ((y : Int) * 256) = (y : Int) * 256 := wrap_u64_id (by omega) (by omega)
      have hw2 : IntKind.u64.wrap (b : Int) = (b : Int) := wrap_u64_id (by omega) (by omega)
      gi_wp2
      have kb : Chg [w.heap.size] W (W.setCell ⟨w.heap.size, 0, none⟩ (.int .u64 ((y * 256 + b : Nat) : Int))) := (Chg.refl _ _).setCell (.inl (by simp)) _
      have ec : ((y * 256 + b : Nat) : Int) = (y : Int) * 256 + b := by omega
      first
        | exact ⟨kb.keeps hS, kb.kp, by rw [hnx.out]; exact hset, kW.trans kb (by simp)⟩
        | (rw [ec] at kb hset; exact ⟨kb.keeps hS, kb.kp, by rw [hnx.out, ec]; exact hset, kW.trans kb (by simp)⟩)
  case done =>
    rintro D xs W hD rfl ⟨hS, kW⟩ hK
    rw [accB_all] at hS
    have c0 := hS.cell 0 (v := .int .u64 (numB bs : Nat)) rfl
    have kf : Chg [R] w W := (k02.mono (T := [R]) (by simp)).trans kW (fun t ht => by simp at ht; subst ht; exact .inr (Nat.le_refl _))
    have hRf := hR2.chg kW (by simpa using hRne) (by simp; omega)
    gi_wp2
    refine ⟨by simp, .inl ⟨_, _, rfl, run_takeDeferred hK, ?_⟩⟩
    have hDW := (Array.getElem?_eq_some_iff.1 hK).1
    have kd : Chg [] W (W.putObj D (.deferred none)) → False ∨ True := fun _ => .inr trivial
    have hkD : Chg [D] W (W.putObj D (.deferred none)) := (Chg.refl [D] W).grown (grownBy_putObj' W D _) (fun k e => by cases e; exact .inl (by simp))
    exact ⟨_, results_tmp rfl _ _ _, rfl, ⟨off2, hRf.chg hkD (by simp; omega) (by simp; omega)⟩, kf.trans hkD (fun t ht => by simp at ht; subst ht; exact .inr (by omega))⟩
end Go.Proofs.YtmkgbinmilcojaaGreat

/- header.Parse. Printed by parsegen.py. -/
namespace Go.Proofs.YtmkgbinmilcojaaGreat
open Go.RowKit Go.Maps
attribute [-go_sem] loadCellsFrom Instr.build

/-- the header of bytes. -/
def hdOf (l : List Nat) : Hd := ⟨numB (l.take 4), (l.drop 4).take 32, (l.drop 36).take 32, numB ((l.drop 68).take 4), numB ((l.drop 72).take 4), numB ((l.drop 76).take 4)⟩
theorem numB_le (x : Nat) (h : x < 4294967296) : numB (leB x 4) = x := by
  simp only [leB, List.range, List.range.loop, List.map_cons, List.map_nil, numB, List.foldr_cons, List.foldr_nil]
  omega
theorem hdOf_hdB {h : Hd} (ok : HdOk h) : hdOf (hdB h) = h := by
  have a := ok.ah
  have b := ok.rt
  have l1 := leB_len h.ver 4
  have l2 := leB_len h.tm 4
  have l3 := leB_len h.bt 4
  have l4 := leB_len h.nc 4
  have e1 : (hdB h).take 4 = leB h.ver 4 := by
    unfold hdB; simp only [List.append_assoc]; rw [List.take_append_of_le_length (by omega), List.take_of_length_le (by omega)]
  have d4 : (hdB h).drop 4 = h.ah ++ (h.rt ++ (leB h.tm 4 ++ (leB h.bt 4 ++ leB h.nc 4))) := by
    unfold hdB; simp only [List.append_assoc]; rw [List.drop_append_of_le_length (by omega), List.drop_of_length_le (by omega)]; rfl
  have d36 : (hdB h).drop 36 = h.rt ++ (leB h.tm 4 ++ (leB h.bt 4 ++ leB h.nc 4)) := by
    rw [show 36 = 4 + 32 by rfl, ← List.drop_drop, d4, List.drop_append_of_le_length (by omega), List.drop_of_length_le (by omega)]; rfl
  have d68 : (hdB h).drop 68 = leB h.tm 4 ++ (leB h.bt 4 ++ leB h.nc 4) := by
    rw [show 68 = 36 + 32 by rfl, ← List.drop_drop, d36, List.drop_append_of_le_length (by omega), List.drop_of_length_le (by omega)]; rfl
  have d72 : (hdB h).drop 72 = leB h.bt 4 ++ leB h.nc 4 := by
    rw [show 72 = 68 + 4 by rfl, ← List.drop_drop, d68, List.drop_append_of_le_length (by omega), List.drop_of_length_le (by omega)]; rfl
  have d76 : (hdB h).drop 76 = leB h.nc 4 := by
    rw [show 76 = 72 + 4 by rfl, ← List.drop_drop, d72, List.drop_append_of_le_length (by omega), List.drop_of_length_le (by omega)]; rfl
  unfold hdOf
  rw [e1, d4, d36, d68, d72, d76]
  rw [List.take_append_of_le_length (by omega), List.take_of_length_le (by omega), List.take_append_of_le_length (by omega), List.take_of_length_le (by omega)]
  rw [List.take_append_of_le_length (by omega), List.take_of_length_le (by omega), List.take_append_of_le_length (by omega), List.take_of_length_le (by omega), List.take_of_length_le (by omega)]
  rw [numB_le _ ok.ver, numB_le _ ok.tm, numB_le _ ok.bt, numB_le _ ok.nc]
set_option maxRecDepth 100000 in
theorem build_parse_fn (f g : Nat → Value) (v t b n : Int) (w : World) : (Instr.build 28 #[(0, .int .u32 v), (1, .agg (fnC 32 f).toArray), (2, .agg (fnC 32 g).toArray), (3, .int .u32 t), (4, .int .u32 b), (5, .int .u32 n)]).run Tryz.prog w =
    .ok (.agg (Value.int .u32 v :: (fnC 32 f ++ (fnC 32 g ++ [Value.int .u32 t, Value.int .u32 b, Value.int .u32 n]))).toArray) w := by kernel_rfl
theorem build_parse {l m : List Value} (h : l.length = 32) (h2 : m.length = 32) (v t b n : Int) (w : World) : (Instr.build 28 #[(0, .int .u32 v), (1, .agg l.toArray), (2, .agg m.toArray), (3, .int .u32 t), (4, .int .u32 b), (5, .int .u32 n)]).run Tryz.prog w =
    .ok (.agg (Value.int .u32 v :: (l ++ (m ++ [Value.int .u32 t, Value.int .u32 b, Value.int .u32 n]))).toArray) w := by
  rw [list_fn h, list_fn h2]; exact build_parse_fn _ _ v t b n w
theorem numB4 {l : List Nat} (h : ∀ x ∈ l, x < 256) : numB (l.take 4) < 4294967296 := by
  have h1 := numB_lt (l := l.take 4) (fun x hx => h x (List.mem_of_mem_take hx))
  exact Nat.lt_of_lt_of_le h1 (Nat.le_trans (Nat.pow_le_pow_right (n := 256) (by decide) (show (l.take 4).length ≤ 4 by rw [List.length_take]; omega)) (by decide))
set_option maxRecDepth 100000 in
set_option maxHeartbeats 8000000 in
theorem header_Parse (g off cap : Nat) (l : List Nat) (hl : l.length = 80) (w : World) (hp : BytesAt w g off l) (hg : g < w.heap.size) :
    Calls Tryz.prog 63 #[.slice (some ⟨g, off, none⟩) 80 cap] w fun e w' => e = .returned (.tuple #[.agg (hdOf l).cs, .int .i64 0]) ∧ Chg [] w w' := by
  have h256 := hp.1
  have hz := zeroHd
  have bO := Blk.new w hd0.cs 28
  have k0 : Chg [] w (w.alloc (.cells hd0.cs 28)) := (Chg.refl _ _).alloc _
  have hrd := octet_Read g off cap l (by omega) (by omega) _ (hp.chg k0 hg (by simp)) (by simp; omega)
  rw [hl] at hrd
  have hh0 := Hd.size hd0_ok
  obtain ⟨zs, hzs⟩ : ∃ zs, zs = hd0.cs := ⟨_, rfl⟩
  rw [← hzs] at hz bO k0 hrd hh0
  clear hzs
  go_enter Tryz.func63, Tryz.ntmps63
  go_wp2_with fail
  refine hrd.mono ?_
  rintro e w1 ⟨R, g2, cap2, rfl, hR, hRlow, hg2, k1⟩
  dsimp only
  have bO1 := bO.chg k1 (by simp)
  have k01 := k0.trans k1 (by simp)
  have hOl := bO.lt
  have hRO : R ≠ w.heap.size := by omega
  have hgO : g2 ≠ w.heap.size := by omega
  have hRw : w.heap.size ≤ R := by omega
  have hgw : w.heap.size ≤ g2 := by omega
  clear hrd hp k0 k1 bO hRlow hg2
  have hll0 : l.length = 80 := by simp [hl]
  have hn0 : numB (l.take 4) < 4294967296 := numB4 (fun x hx => h256 x (by simpa using hx))
  obtain ⟨x0, hx0⟩ : ∃ x, x = numB (l.take 4) := ⟨_, rfl⟩
  have hget0 := reader_Get4 R g2 0 cap2 l (by omega) (by omega) w1 hR
  rw [← hx0] at hn0 hget0
  have hx0' := Lib.hid hx0
  clear hx0
  have hwr0 : IntKind.u32.wrap (x0 : Int) = (x0 : Int) := by have : IntKind.u32.wrap (x0 : Int) = (x0 : Int) % 4294967296 := rfl; omega
  go_wp2_with fail
  refine hget0.mono ?_
  rintro e v2 ⟨rfl, ⟨o0, hR0⟩, kk0⟩
  dsimp only
  have kn0 := (k01.mono (T := [R]) (by simp)).trans kk0 (fun t ht => .inl ht)
  have bO0_ := bO1.chg kk0 (by simpa using fun e => hRO e.symm)
  have hll1 : (l.drop 4).length = 76 := by simp [hl]
  have hraw1 := reader_Raw 32 (by omega) R g2 o0 (cap2 - 4) (l.drop 4) (by omega) (by omega) v2 hR0
  go_wp2_with fail
  refine hraw1.mono ?_
  rintro e v3 ⟨gx1, cx1, rfl, _, hB1, hgx1, hgy1, ⟨o1, hR1⟩, kk1⟩
  dsimp only
  rw [List.drop_drop] at hR1
  have kn1_ := (kn0.mono (T := [R]) (by simp)).trans kk1 (fun t ht => .inl ht)
  have bO1__ := bO0_.chg kk1 (by simpa using fun e => hRO e.symm)
  have hhash1 := header_hash gx1 cx1 ((l.drop 4).take 32) (by rw [List.length_take, hll1]; rfl) v3 hB1 hgy1
  go_wp2_with fail
  refine hhash1.mono ?_
  rintro e v3h ⟨rfl, kh1⟩
  dsimp only
  have hR1 := hR1.chg kh1 (by simp) (by simp)
  have kn1 := kn1_.trans kh1 (by simp)
  have bO1_ := bO1__.chg kh1 (by simp)
  have hll2 : (l.drop 36).length = 44 := by simp [hl]
  have hraw2 := reader_Raw 32 (by omega) R g2 o1 ((cap2 - 4) - 32) (l.drop 36) (by omega) (by omega) v3h hR1
  go_wp2_with fail
  refine hraw2.mono ?_
  rintro e v4 ⟨gx2, cx2, rfl, _, hB2, hgx2, hgy2, ⟨o2, hR2⟩, kk2⟩
  dsimp only
  rw [List.drop_drop] at hR2
  have kn2_ := (kn1.mono (T := [R]) (by simp)).trans kk2 (fun t ht => .inl ht)
  have bO2__ := bO1_.chg kk2 (by simpa using fun e => hRO e.symm)
  have hhash2 := header_hash gx2 cx2 ((l.drop 36).take 32) (by rw [List.length_take, hll2]; rfl) v4 hB2 hgy2
  go_wp2_with fail
  refine hhash2.mono ?_
  rintro e v4h ⟨rfl, kh2⟩
  dsimp only
  have hR2 := hR2.chg kh2 (by simp) (by simp)
  have kn2 := kn2_.trans kh2 (by simp)
  have bO2_ := bO2__.chg kh2 (by simp)
  have hll3 : (l.drop 68).length = 12 := by simp [hl]
  have hn3 : numB ((l.drop 68).take 4) < 4294967296 := numB4 (fun x hx => h256 x (List.mem_of_mem_drop hx))
  obtain ⟨x3, hx3⟩ : ∃ x, x = numB ((l.drop 68).take 4) := ⟨_, rfl⟩
  have hget3 := reader_Get4 R g2 o2 (((cap2 - 4) - 32) - 32) (l.drop 68) (by omega) (by omega) v4h hR2
  rw [← hx3] at hn3 hget3
  have hx3' := Lib.hid hx3
  clear hx3
  have hwr3 : IntKind.u32.wrap (x3 : Int) = (x3 : Int) := by have : IntKind.u32.wrap (x3 : Int) = (x3 : Int) % 4294967296 := rfl; omega
  go_wp2_with fail
  refine hget3.mono ?_
  rintro e v5 ⟨rfl, ⟨o3, hR3⟩, kk3⟩
  dsimp only
  rw [List.drop_drop] at hR3
  have kn3 := (kn2.mono (T := [R]) (by simp)).trans kk3 (fun t ht => .inl ht)
  have bO3_ := bO2_.chg kk3 (by simpa using fun e => hRO e.symm)
  have hll4 : (l.drop 72).length = 8 := by simp [hl]
  have hn4 : numB ((l.drop 72).take 4) < 4294967296 := numB4 (fun x hx => h256 x (List.mem_of_mem_drop hx))
  obtain ⟨x4, hx4⟩ : ∃ x, x = numB ((l.drop 72).take 4) := ⟨_, rfl⟩
  have hget4 := reader_Get4 R g2 o3 ((((cap2 - 4) - 32) - 32) - 4) (l.drop 72) (by omega) (by omega) v5 hR3
  rw [← hx4] at hn4 hget4
  have hx4' := Lib.hid hx4
  clear hx4
  have hwr4 : IntKind.u32.wrap (x4 : Int) = (x4 : Int) := by have : IntKind.u32.wrap (x4 : Int) = (x4 : Int) % 4294967296 := rfl; omega
  go_wp2_with fail
  refine hget4.mono ?_
  rintro e v6 ⟨rfl, ⟨o4, hR4⟩, kk4⟩
  dsimp only
  rw [List.drop_drop] at hR4
  have kn4 := (kn3.mono (T := [R]) (by simp)).trans kk4 (fun t ht => .inl ht)
  have bO4_ := bO3_.chg kk4 (by simpa using fun e => hRO e.symm)
  have hll5 : (l.drop 76).length = 4 := by simp [hl]
  have hn5 : numB ((l.drop 76).take 4) < 4294967296 := numB4 (fun x hx => h256 x (List.mem_of_mem_drop hx))
  obtain ⟨x5, hx5⟩ : ∃ x, x = numB ((l.drop 76).take 4) := ⟨_, rfl⟩
  have hget5 := reader_Get4 R g2 o4 (((((cap2 - 4) - 32) - 32) - 4) - 4) (l.drop 76) (by omega) (by omega) v6 hR4
  rw [← hx5] at hn5 hget5
  have hx5' := Lib.hid hx5
  clear hx5
  have hwr5 : IntKind.u32.wrap (x5 : Int) = (x5 : Int) := by have : IntKind.u32.wrap (x5 : Int) = (x5 : Int) % 4294967296 := rfl; omega
  go_wp2_with fail
  refine hget5.mono ?_
  rintro e v7 ⟨rfl, ⟨o5, hR5⟩, kk5⟩
  dsimp only
  rw [List.drop_drop] at hR5
  have kn5 := (kn4.mono (T := [R]) (by simp)).trans kk5 (fun t ht => .inl ht)
  have bO5_ := bO4_.chg kk5 (by simpa using fun e => hRO e.symm)
  have hbp := build_parse (l := bytesV ((l.drop 4).take 32)) (m := bytesV ((l.drop 36).take 32)) (by rw [bytesV_len, List.length_take, hll1]; rfl) (by rw [bytesV_len, List.length_take, hll2]; rfl) (x0 : Int) (x3 : Int) (x4 : Int) (x5 : Int)
  have hcs : (hdOf l).cs = (Value.int .u32 (x0 : Int) :: (bytesV ((l.drop 4).take 32) ++ (bytesV ((l.drop 36).take 32) ++ [Value.int .u32 (x3 : Int), Value.int .u32 (x4 : Int), Value.int .u32 (x5 : Int)]))).toArray := by
    rw [hx0'.out, hx3'.out, hx4'.out, hx5'.out]; rfl
  have hokp : (hdOf l).cs.size = 68 := by
    rw [hcs]; simp [bytesV_len, hl]
  have honep := Hd.one (hdOf l)
  obtain ⟨ps, hps⟩ : ∃ ps, ps = (hdOf l).cs := ⟨_, rfl⟩
  rw [← hps] at hcs hokp honep
  rw [← hcs] at hbp
  have hps' := Lib.hid hps
  clear hps hcs
  have hst := run_storeCells_new (P := Tryz.prog) v7 28 zs ps (by rw [hokp]; exact infoHd) (by rw [hokp, hh0]) honep
  have bP := Blk.new v7 ps 28
  have bO9 := bO5_.alloc (.cells ps 28)
  have k9 := kn5.alloc (.cells ps 28)
  have hR9 := hR5.chg ((Chg.refl [] _).alloc (.cells ps 28)) (by simp) (by simp)
  have hend := reader_End _ _ _ _ _ _ hR9
  have hll9 : (l.drop 80).length = 0 := by simp [hl]
  rw [hll9] at hend
  obtain ⟨W9, hst9, b9, kk9⟩ := store_cells bO9 (cs := ps) (by rw [hokp, hh0]) honep
  have hld9 := load_blkC bP 68 hokp
  have hld10 := load_blkC b9 68 hokp
  have kf : Chg [] w W9 := ((k9.trans kk9 (S := [R]) (fun t ht => .inr (by simp at ht; omega)))).mono (fun t ht => .inr (by simp at ht; omega))
  generalize v7.alloc (.cells ps 28) = w9 at *
  go_wp2_with fail
  refine hend.mono ?_
  rintro e w' ⟨rfl, rfl⟩
  dsimp only
  go_wp2
  exact bodyPost_ret (v := .tuple #[.agg ps, .int .i64 0]) (by simp [results, Tryz.results63, go_sem, hld10]) rfl ⟨by rw [hps'.out], kf⟩
end Go.Proofs.YtmkgbinmilcojaaGreat

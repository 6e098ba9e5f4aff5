import Derived.Test.YtmkgbinmilcojaaGreatPathP
import Derived.Test.YtmkgbinmilcojaaGreatLines13
import Derived.Test.YtmkgbinmilcojaaGreatMadeSt
import Derived.Test.YtmkgbinmilcojaaGreatLives13

/- How deep the best chain was turned is how many of its hashes are gone; pontagelaw13.turned; tree.Len. -/
namespace Go.Proofs.YtmkgbinmilcojaaGreat
open Go.RowKit Go.Maps Go.Shelf
attribute [-go_sem] loadCellsFrom Instr.buildSlice

theorem turn_facts {T : Tr} (I : TrInv T) (W : T.Way) {h : Hd} (hok : HdOk h) (e : (T.add h).1 = 0) (hB : T.isB h = true) : ∃ r : Nat, T.turned h = (T.ch.length : Int) - 1 - r ∧ r < T.ch.length ∧ (∀ k, k ≤ r → T.ch[k]? = (T.add h).2.ch[k]?) ∧ ∀ (k x : Nat), r < k → T.ch[k]? = some x → x ∉ (T.add h).2.ch := by
  have I2 := I.add hok
  have W2 := add_way I W hok
  obtain ⟨i, p, hn, hi, hp, hc, hns, h2⟩ := add_ok e
  have hbest : (T.add h).2.best = hdH h := by unfold Tr.isB at hB; simpa using hB
  have hfn : (T.add h).2.find (hdH h) = some T.ns.length := by rw [add_find e, if_pos rfl]
  have hlast : (T.add h).2.last = T.ns.length := by
    have := best_find I2.ok
    rw [hbest, hfn] at this
    simpa using this.symm
  obtain ⟨q, hq, _⟩ := add_new e
  obtain ⟨pl, hpl, hplh⟩ := I.ok.best
  obtain ⟨pl2, hpl2, _, _, hplh2⟩ := add_old e hpl
  have f1 := Tr.htOf_eq hpl2
  have f2 := Tr.htOf_eq hq
  obtain ⟨c, r, hfk, hr, r1, r2, r3, r4⟩ := fork_spec I2 ((T.add h).2.htOf T.last + (T.add h).2.htOf T.ns.length + 1) T.last T.ns.length pl2 q hpl2 hq (by omega)
  have hch := W2
  unfold Tr.Way at hch
  rw [hlast] at hch
  have hch0 := I.ok.ch0
  have hg := I.grow hok hp hn (chkE_len hc)
  have hll := (List.getElem?_eq_some_iff.1 hpl).1
  have hold : T.ch = (T.add h).2.path T.last := by
    have W1 := W
    unfold Tr.Way at W1
    rw [W1, ← grow_path I.ok hp hg.ok T.last hll]
    exact path_ns hns.symm _
  refine ⟨r.ht, ?_, by omega, fun k hk => ?_, fun k x hk hx => ?_⟩
  · unfold Tr.turned
    rw [hB, if_pos rfl, hfk, f1, Tr.htOf_eq hr]
    omega
  · rw [hold, hch]; exact r3 k hk
  · rw [hch]; rw [hold] at hx; exact r4 k x hk hx
theorem same_chain {T : Tr} (I : TrInv T) (W : T.Way) {h : Hd} (hok : HdOk h) (hB : T.isB h = false) : (T.add h).2.ch = T.ch := by
  by_cases e : (T.add h).1 = 0
  · obtain ⟨i, p, hn, hi, hp, hc, hns, h2⟩ := add_ok e
    rw [h2]
    split
    · exfalso
      rename_i hw
      have hg := I.grow hok hp hn (chkE_len hc)
      have hl : (T.grow h i p).ns[T.ns.length]? = some (newP h i p) := by simp [Tr.grow]
      have hgw : (T.grow h i p).Way := by
        obtain ⟨pl, hpl, _⟩ := I.ok.best
        show T.ch = _
        have : (T.grow h i p).last = T.last := rfl
        rw [this, grow_path I.ok hp hg.ok T.last (List.getElem?_eq_some_iff.1 hpl).1]; exact W
      have hlast := (turn_way hg hgw hl).2
      have : T.isB h = true := by
        unfold Tr.isB
        rw [h2, if_pos hw]
        simp only [decide_eq_true_eq]
        unfold Tr.best
        rw [hlast, turnTo_ns, hl]; rfl
      rw [this] at hB; cases hB
    · rfl
  · rw [add_same e]
/-- how many of A's aren't in B. -/
def offN (A B : List (List Nat)) : Nat := (A.filter (fun x => decide (x ∉ B))).length
theorem offN_split {A B : List (List Nat)} (m : Nat) (hm : m ≤ A.length) (h1 : ∀ (k : Nat) x, k < m → A[k]? = some x → x ∈ B) (h2 : ∀ (k : Nat) x, m ≤ k → A[k]? = some x → x ∉ B) : offN A B = A.length - m := by
  unfold offN
  conv => lhs; rw [← List.take_append_drop m A]
  rw [List.filter_append, List.length_append]
  have e1 : (A.take m).filter (fun x => decide (x ∉ B)) = [] := by
    rw [List.filter_eq_nil_iff]
    intro x hx
    obtain ⟨k, hk⟩ := List.getElem?_of_mem hx
    have hk2 := (List.getElem?_eq_some_iff.1 hk).1
    rw [List.getElem?_take, if_pos (by simp at hk2; omega)] at hk
    simpa using h1 k x (by simp at hk2; omega) hk
  have e2 : (A.drop m).filter (fun x => decide (x ∉ B)) = A.drop m := by
    rw [List.filter_eq_self]
    intro x hx
    obtain ⟨k, hk⟩ := List.getElem?_of_mem hx
    rw [List.getElem?_drop] at hk
    simpa using h2 (m + k) x (by omega) hk
  rw [e1, e2]; simp
theorem offN_snoc (A B : List (List Nat)) (x : List Nat) : offN (A ++ [x]) B = offN A B + if x ∈ B then 0 else 1 := by
  unfold offN
  rw [List.filter_append, List.length_append]
  by_cases h : x ∈ B <;> simp [h]
theorem offN_le (A B : List (List Nat)) : offN A B ≤ A.length := List.length_filter_le _ _
theorem add_hash {T : Tr} {h : Hd} (e : (T.add h).1 = 0) {i : Nat} {p : Pn} (hp : T.ns[i]? = some p) : (T.add h).2.hash i = T.hash i := by
  obtain ⟨q, hq, h1, _⟩ := add_old e hp
  rw [Tr.hash_eq hq, Tr.hash_eq hp, h1]
/-- what a header that was taken has turned. -/
theorem turned_off {T : Tr} (I : TrInv T) (W : T.Way) {h : Hd} (hok : HdOk h) (e : (T.add h).1 = 0) : T.turned h = (offN T.line (T.add h).2.line : Int) := by
  have I2 := I.add hok
  have hold : ∀ k x, T.ch[k]? = some x → ∃ p, T.ns[x]? = some p := fun k x hx => by
    obtain ⟨p, hp, _⟩ := I.ok.ch k x hx; exact ⟨p, hp⟩
  have hget : ∀ (k : Nat) y, T.line[k]? = some y → ∃ x, T.ch[k]? = some x ∧ T.hash x = y := fun k y hy => by
    unfold Tr.line at hy
    rw [List.getElem?_map, Option.map_eq_some_iff] at hy
    exact hy
  have hin : ∀ k x, T.ch[k]? = some x → (T.hash x ∈ (T.add h).2.line ↔ x ∈ (T.add h).2.ch) := fun k x hx => by
    obtain ⟨p, hp⟩ := hold k x hx
    constructor
    · intro hm
      obtain ⟨y, hy, hye⟩ := List.mem_map.1 hm
      obtain ⟨j, hj⟩ := List.getElem?_of_mem hy
      obtain ⟨q, hq, _⟩ := I2.ok.ch j y hj
      obtain ⟨p2, hp2, h1, _⟩ := add_old e hp
      rw [Tr.hash_eq hq, Tr.hash_eq hp, ← h1] at hye
      rw [← I2.ok.dist y x q p2 hq hp2 hye]; exact hy
    · intro hm
      exact List.mem_map.2 ⟨x, hm, add_hash e hp⟩
  cases hB : T.isB h with
  | false =>
    have hc := same_chain I W hok hB
    have h0 : offN T.line (T.add h).2.line = 0 := by
      have := offN_split (A := T.line) (B := (T.add h).2.line) T.line.length (Nat.le_refl _) (fun k y _ hy => by
        obtain ⟨x, hx, rfl⟩ := hget k y hy
        exact (hin k x hx).2 (by rw [hc]; exact List.mem_of_getElem? hx)) (fun k y hk hy => by
        have := (List.getElem?_eq_some_iff.1 hy).1; omega)
      omega
    unfold Tr.turned
    rw [hB, h0]; rfl
  | true =>
    obtain ⟨r, h1, h2, h3, h4⟩ := turn_facts I W hok e hB
    have hl := T.line_len
    have := offN_split (A := T.line) (B := (T.add h).2.line) (r + 1) (by omega) (fun k y hk hy => by
      obtain ⟨x, hx, rfl⟩ := hget k y hy
      refine (hin k x hx).2 ?_
      rw [h3 k (by omega)] at hx
      exact List.mem_of_getElem? hx) (fun k y hk hy => by
      obtain ⟨x, hx, rfl⟩ := hget k y hy
      exact fun hm => h4 k x (by omega) hx ((hin k x hx).1 hm))
    rw [h1, this, hl]
    omega
set_option maxRecDepth 100000 in
set_option maxHeartbeats 1000000 in
theorem tree_Len (x : Lt) (T : Tr) (ok : TrOk T) (w : World) (h : TreeAt w x T) :
    Calls Tryz.prog 33 #[.pointer (some ⟨x.b, 0, none⟩)] w fun e w' => e = .returned (.int .i64 (T.ns.length : Int)) ∧ Chg [] w w' := by
  obtain ⟨g, c, c72, _, _, _, _⟩ := h.slice ok
  have hlen := fun ty => h.mp.len Tryz.underlying88 ty
  generalize T.ns.length = m at *
  go_enter Tryz.func33, Tryz.ntmps33
  go_wp2
  go_ret
  exact ⟨rfl, Chg.refl _ _⟩
set_option maxRecDepth 100000 in
set_option maxHeartbeats 4000000 in
theorem law13_turned (n₁ n₂ : Nat) (v1 v2 : Value) (A B : List (List Nat)) (hA : ∀ x ∈ A, HK x) (hB : ∀ x ∈ B, HK x) (w : World) (h1 : HsS n₁ w v1 A) (h2 : HsS n₂ w v2 B) (hAl : A.length ≤ 100000) (hBl : B.length ≤ 100000) :
    Calls Tryz.prog 32 #[v1, v2] w fun e w' => e = .returned (.int .i64 (offN A B : Int)) ∧ Chg [] w w' := by
  have hz := zeroHash
  obtain ⟨a, cap, rfl⟩ := h1.len'
  rw [List.length_map] at h1 ⊢
  obtain ⟨r, hr⟩ : ∃ r : Int, r = (offN A B : Int) := ⟨_, rfl⟩
  rw [← hr]
  have hr' := Lib.hid hr
  clear hr
  go_enter Tryz.func32, Tryz.ntmps32
  go_wp2_with fail
  go_loopw [5, 10] (fun s5 s10 wr => ∃ k : Nat, k ≤ A.length ∧ s10 = .int .i64 k ∧ s5 = .int .i64 (offN (A.take k) B : Int) ∧ Chg [] w wr) (fun _ s10 _ => A.length - (intOf s10).toNat)
  case atStart => exact ⟨0, Nat.zero_le _, rfl, by simp [offN], Chg.refl _ _⟩
  case round =>
    obtain ⟨k, hk, rfl, rfl, kr⟩ := hrel
    have hof := offN_le (A.take k) B
    rw [List.length_take] at hof
    by_cases hlt : k < A.length
    · obtain ⟨b, rfl, hb, hld⟩ := (h1.chg0 kr).load (i := k) (by simpa using hlt)
      rw [List.getElem_map] at hld
      have ck : HK A[k] := hA _ (List.getElem_mem hlt)
      have hes : (bytesV A[k]).toArray.size = 32 := by simp [bytesV_len, ck.1]
      have hst := run_storeCells_new (P := Tryz.prog) wr 26 z32 (bytesV A[k]).toArray (by rw [hes]; exact infoHash) (by rw [hes]; rfl) (bytesV_all _)
      have bE := Blk.new wr (bytesV A[k]).toArray 26
      have hlE := load_blkC bE 32 hes
      have ka := kr.alloc (.cells (bytesV A[k]).toArray 26)
      have hin := law13_in n₂ v2 B hB A[k] ck _ (h2.chg0 ka) hBl
      unfold hv at hin
      have hsn := offN_snoc (A.take k) B A[k]
      rw [← tk_succ A hlt] at hsn
      obtain ⟨c, hc⟩ : ∃ c, c = offN (A.take k) B := ⟨_, rfl⟩
      rw [← hc] at hof hsn ⊢
      have hc31 : c ≤ 100000 := by omega
      have hsn' := Lib.hid hsn
      clear hc hsn hof h1 h2
      by_cases hm : A[k] ∈ B
      · have hm' := Lib.hid hm
        rw [decide_eq_true hm] at hin
        clear hm
        generalize (bytesV A[k]).toArray = kc at *
        go_upto_region 5 with fail
        clear hst hld
        generalize wr.alloc (.cells kc 26) = wa at *
        generalize wr.heap.size = ga at *
        go_wp2_with fail
        refine hin.mono ?_
        rintro e wb ⟨rfl, kb⟩
        dsimp only
        have kf := ka.trans kb (by simp)
        clear hin kb ka bE hlE
        go_wp2
        go_roundw
        case rel => exact ⟨k + 1, by omega, by simp, by rw [hsn'.out, if_pos hm'.out, Nat.add_zero], kf⟩
        case measure => simp [intOf]; omega
      · have hm' := Lib.hid hm
        rw [decide_eq_false hm] at hin
        clear hm
        generalize (bytesV A[k]).toArray = kc at *
        go_upto_region 5 with fail
        clear hst hld
        generalize wr.alloc (.cells kc 26) = wa at *
        generalize wr.heap.size = ga at *
        go_wp2_with fail
        refine hin.mono ?_
        rintro e wb ⟨rfl, kb⟩
        dsimp only
        have kf := ka.trans kb (by simp)
        clear hin kb ka bE hlE
        go_wp2
        go_roundw
        case rel => exact ⟨k + 1, by omega, by simp, by rw [hsn'.out, if_neg hm'.out]; rfl, kf⟩
        case measure => simp [intOf]; omega
    · obtain rfl : k = A.length := by omega
      rw [List.take_length] at hof ⊢
      rw [← hr'.out]
      have hb : 0 ≤ r ∧ r ≤ 100000 := by rw [hr'.out]; omega
      clear hof
      go_wp2
      go_ret
      exact ⟨rfl, kr⟩
end Go.Proofs.YtmkgbinmilcojaaGreat

/- RelaySubmits: what stands between two rounds: the relay, the tree beside it, the headers tried, the rules. -/
namespace Go.Proofs.YtmkgbinmilcojaaGreat
open Go.RowKit Go.Maps Go.Shelf

structure SbSt (w0 : Nat) (w : World) (rb gR tb : Nat) (cr : Array Value) (r : Rl) (v : Value) (L : List Hd) (T : Tr) (y z : Lt) (d : Nat) : Prop where
  I : TrInv T
  W : T.Way
  rr : T.r = r
  Lo : ∀ h ∈ L, HdOk h
  row : TrS w0 w v L
  rel : RelAt w rb y T d
  tr : TreeAt w z T
  zb : z.b = tb
  bR : Blk w gR cr 30
  ylow : ∀ b ∈ y.all, w0 ≤ b
  zlow : ∀ b ∈ z.all, w0 ≤ b
  rlow : w0 ≤ rb
  ry : rb ∉ y.all
  rz : rb ∉ z.all
  yz : ∀ b ∈ y.all, b ∉ z.all
  gr : gR ≠ rb
  gy : gR ∉ y.all
  gz : gR ∉ z.all
  own : ∀ b, v.ownBlock = some b → b ≠ rb ∧ b ∉ y.all ∧ b ∉ z.all ∧ b ≠ gR
section
variable {w0 : Nat} {w w' w2 w3 : World} {rb gR tb : Nat} {cr : Array Value} {r : Rl} {v : Value} {L : List Hd} {T : Tr} {y z : Lt} {d : Nat}
theorem SbSt.chg0 (S : SbSt w0 w rb gR tb cr r v L T y z d) (k : Chg [] w w') : SbSt w0 w' rb gR tb cr r v L T y z d :=
  ⟨S.I, S.W, S.rr, S.Lo, RowS.chg0 S.row k, ⟨S.rel.blk.chg k (by simp), S.rel.t.chg S.I.ok k⟩, S.tr.chg S.I.ok k, S.zb, S.bR.chg k (by simp), S.ylow, S.zlow, S.rlow, S.ry, S.rz, S.yz, S.gr, S.gy, S.gz, S.own⟩
/-- a header more was tried: the slice's own block, g, is all that has changed. -/
theorem SbSt.app (S : SbSt w0 w rb gR tb cr r v L T y z d) {m : Hd} (mok : HdOk m) {g g' n cap cap' : Nat} (hv : v = .slice (some ⟨g, 0, none⟩) n cap) (k : Chg [g] w w') (hg : g' = g ∨ w.heap.size ≤ g') (hrow : TrS w0 w' (.slice (some ⟨g', 0, none⟩) (n + 1) cap') (L ++ [m])) :
    SbSt w0 w' rb gR tb cr r (.slice (some ⟨g', 0, none⟩) (n + 1) cap') (L ++ [m]) T y z d := by
  obtain ⟨o1, o2, o3, o4⟩ := S.own g (by rw [hv]; rfl)
  have hy := TreeAt.all_lt S.rel.t
  have hz := TreeAt.all_lt S.tr
  have hb := S.rel.blk.lt
  have hR := S.bR.lt
  refine ⟨S.I, S.W, S.rr, fun h hh => ?_, hrow, ⟨S.rel.blk.chg k (by simpa using o1.symm), S.rel.t.chgS (fun b hb => by simp; rintro rfl; exact o2 hb) k⟩, S.tr.chgS (fun b hb => by simp; rintro rfl; exact o3 hb) k, S.zb, S.bR.chg k (by simpa using o4.symm), S.ylow, S.zlow, S.rlow, S.ry, S.rz, S.yz, S.gr, S.gy, S.gz, fun b hbb => ?_⟩
  · rcases List.mem_append.1 hh with h1 | h1
    · exact S.Lo h h1
    · rw [List.mem_singleton.1 h1]; exact mok
  · have : g' = b := Option.some.inj hbb
    subst this
    rcases hg with h | h
    · rw [h]; exact ⟨o1, o2, o3, o4⟩
    · exact ⟨by omega, fun hm => by have := hy _ hm; omega, fun hm => by have := hz _ hm; omega, by omega⟩
theorem SbSt.step (S : SbSt w0 w rb gR tb cr r v L T y z d) (h0 : w0 ≤ w.heap.size) {m : Hd} (mok : HdOk m) {y' z' : Lt} {d2 : Nat} (hy : RelAt w2 rb y' (T.add m).2 d2) (hry : rb ∉ y'.all) (hya : ∀ b ∈ y'.all, b ∈ y.all ∨ w.heap.size ≤ b) (k : Chg (rb :: y.all) w w2)
    (hz : TreeAt w3 z' (T.add m).2) (hzb : z'.b = z.b) (hza : ∀ b ∈ z'.all, b ∈ z.all ∨ w2.heap.size ≤ b) (k2 : Chg z.all w2 w3) : SbSt w0 w3 rb gR tb cr r v L (T.add m).2 y' z' d2 := by
  have ly := TreeAt.all_lt S.rel.t
  have lz := TreeAt.all_lt S.tr
  have ly2 := TreeAt.all_lt hy.t
  have lb := S.rel.blk.lt
  have lR := S.bR.lt
  have s1 := k.size
  have own' : ∀ b, v.ownBlock = some b → b < w.heap.size := fun b hb => S.row.lt hb
  have ny : ∀ b, b < w.heap.size → b ∉ y.all → b ∉ y'.all := fun b hb hn hm => (hya b hm).elim hn (by omega)
  have nz : ∀ b, b < w2.heap.size → b ∉ z.all → b ∉ z'.all := fun b hb hn hm => (hza b hm).elim hn (by omega)
  have I2 := S.I.add mok
  have yz2 : ∀ b ∈ y'.all, b ∉ z.all := fun b hb hm => by
    rcases hya b hb with h | h
    · exact S.yz b h hm
    · have := lz b hm; omega
  refine ⟨I2, add_way S.I S.W mok, (add_r T m).trans S.rr, S.Lo, ?_, ⟨hy.blk.chg k2 (S.rz), hy.t.chgS yz2 k2⟩, hz, hzb.trans S.zb, ?_, fun b hb => (hya b hb).elim (S.ylow b) (fun h => by omega), fun b hb => (hza b hb).elim (S.zlow b) (fun h => by omega), S.rlow, hry, nz rb (by omega) S.rz, fun b hb => nz b (ly2 b hb) (yz2 b hb), S.gr, ny gR lR S.gy, nz gR (by omega) S.gz, fun b hb => ?_⟩
  · refine (RowS.chg S.row k fun b hb e => ?_).chg k2 fun b hb e => ?_
    · obtain ⟨o1, o2, _, _⟩ := S.own b e
      rcases List.mem_cons.1 hb with h | h
      · exact o1 h
      · exact o2 h
    · exact (S.own b e).2.2.1 hb
  · refine (S.bR.chg k fun h => ?_).chg k2 S.gz
    rcases List.mem_cons.1 h with h | h
    · exact S.gr h
    · exact S.gy h
  · obtain ⟨o1, o2, o3, o4⟩ := S.own b hb
    have := own' b hb
    exact ⟨o1, ny b this o2, nz b (by omega) o3, o4⟩
end
/-! ### what is told -/
theorem told_ok {T : Tr} {m : Hd} (e : (T.add m).1 = 0) : T.told m = bytesV (hdH m) ++ [Value.int .i64 ((T.add m).2.htOf T.ns.length : Int), Value.bool (T.isB m), Value.int .i64 (T.turned m)] := by
  unfold Tr.told; rw [if_pos e]
theorem told_bad {T : Tr} {m : Hd} (e : (T.add m).1 ≠ 0) : T.told m = told0 := by unfold Tr.told; rw [if_neg e]
theorem told_len (T : Tr) (m : Hd) : (T.told m).length = 35 := by
  unfold Tr.told
  split
  · simp [bytesV_len, hdH_len]
  · rfl
theorem told_one (T : Tr) (m : Hd) : ∀ u ∈ T.told m, u.oneCell' = true := by
  unfold Tr.told
  split
  · intro u hu
    rcases List.mem_append.1 hu with h | h
    · exact bytesV_one _ u h
    · simp at h; rcases h with rfl | rfl | rfl <;> rfl
  · intro u hu
    exact (Array.all_eq_true_iff_forall_mem.1 told0_one) u (by simpa using hu)
theorem deep_ok {T : Tr} {m : Hd} {d : Nat} (e : (T.add m).1 = 0) : (T.deep m d : Int) = max (d : Int) (T.turned m) := by
  unfold Tr.deep; rw [if_pos e]; omega
theorem deep_bad {T : Tr} {m : Hd} {d : Nat} (e : (T.add m).1 ≠ 0) : T.deep m d = d := by unfold Tr.deep; rw [if_neg e]
/-- how deep a hash lies, as far as the chain was looked through. -/
def Tr.depthTo (T : Tr) (x : List Nat) (k : Nat) : Int := if x ∈ T.line.take k then T.depth x else 0
theorem depthTo_all (T : Tr) (x : List Nat) : T.depthTo x T.line.length = T.depth x := by
  unfold Tr.depthTo
  rw [List.take_length]
  split
  · rfl
  · rename_i h; exact (Tr.depth_out h).symm
theorem depthTo_step {T : Tr} (ok : TrOk T) (x : List Nat) {k : Nat} (h : k < T.line.length) : T.depthTo x (k + 1) = if x = T.line[k] then (T.line.length : Int) - k else T.depthTo x k := by
  unfold Tr.depthTo
  rw [tk_succ _ h]
  by_cases e : x = T.line[k]
  · rw [if_pos e, if_pos (List.mem_append.2 (.inr (by rw [e]; exact List.mem_singleton.2 rfl))), e]
    exact Tr.depth_line ok (List.getElem?_eq_getElem h)
  · rw [if_neg e]
    by_cases hm : x ∈ T.line.take k
    · rw [if_pos hm, if_pos (List.mem_append.2 (.inl hm))]
    · rw [if_neg hm, if_neg (fun h => (List.mem_append.1 h).elim hm (fun h => e (List.mem_singleton.1 h)))]
end Go.Proofs.YtmkgbinmilcojaaGreat

/- pontagelaw13.RelaySubmits. Printed by submits13gen.py. -/
namespace Go.Proofs.YtmkgbinmilcojaaGreat
open Go.RowKit Go.Maps Go.Shelf
attribute [-go_sem] loadCellsFrom Instr.build Instr.buildSlice

theorem relay_Deepest (rb : Nat) (x : Lt) (T : Tr) (hr : RlOk T.r) (d : Nat) (w : World) (h : RelAt w rb x T d) :
    Calls Tryz.prog 29 #[.pointer (some ⟨rb, 0, none⟩)] w fun e w' => e = .returned (.int .i64 (d : Int)) ∧ Chg [] w w' := by
  have c73 := h.blk.cell 73 (r_cell (Rl.len hr) _ _).2
  go_enter Tryz.func29, Tryz.ntmps29
  go_wp2
  go_ret
  exact ⟨rfl, Chg.refl _ _⟩
theorem zeroTold0 (w : World) : (zeroValue 67).run Tryz.prog w = .ok (.agg told0.toArray) w := zeroTold w
set_option maxRecDepth 100000 in
theorem told0_eq (w : World) : (Op.equalIn 10000 67 (.agg told0.toArray) (.agg told0.toArray)).run Tryz.prog w = .ok true w := by kernel_rfl
set_option maxRecDepth 100000 in
set_option maxHeartbeats 16000000 in
theorem law13_RelaySubmits (ev : Int) (sp : Nat) (hsp : sp < 4294967296) (cq : Int) (vl : Value) (w : World) (hl0 : ∃ n, n ≤ maxLen ∧ Steps12 w vl n) :
    Calls Tryz.prog 7 #[.int .i64 ev, .int .u32 (sp : Int), .int .i64 cq, vl] w fun e w' => e = .returned (.bool true) ∧ Chg [] w w' := by
  obtain ⟨n, hnM, hl0⟩ := hl0
  have hl := hl0
  obtain ⟨va, vcap, rfl⟩ := hl.len
  obtain ⟨iH, hiH, hz0, hz1, hz2⟩ := info_partsB infoHeadA
  have hlives := law13_lives
  have hrules := law12_RulesG ev cq sp hsp
  obtain ⟨r, hr⟩ : ∃ r, r = rG (ev % 18446744073709551616).toNat sp (cq % 18446744073709551616).toNat := ⟨_, rfl⟩
  have okr : RlOk r := by rw [hr]; exact rG_ok _ _ _
  have ckr : checkR r = 0 := by rw [hr]; exact rG_ck _ _ _
  have I0 : TrInv (newT r) := by rw [hr]; exact rG_inv _ _ _
  have hfi : r.fi = h0c := by rw [hr]; rfl
  rw [← hr] at hrules
  clear hr
  have hcf1 : 1 ≤ r.cf := (checkR_ok ckr).2.2.2.2.1
  have hcf2 : r.cf ≤ 100 := (checkR_ok ckr).2.2.2.2.2.1
  have hnew := relay_New r okr
  have hnewT := tree_New r okr
  rw [ckr] at hnew hnewT
  have hrs : r.cs.size = 72 := Rl.size okr
  have hro := Rl.one r
  have hcf3 : r.cs[3]? = some (.int .i64 r.cf) := rfl
  have hzR := zeroRl
  have hzS := zeroStep
  have hzH := zeroHd
  have hp4 : ∀ (j : Nat) (v : Value), r.fi.cs[j]? = some v → r.cs[4 + j]? = some v := Rl.part r
  rw [hfi] at hp4
  have hs0 : h0c.cs.size = 68 := Hd.size ok0c
  have hbs0 := run_build_head h0c.cs hs0
  have hzs : hd0.cs.size = 68 := Hd.size hd0_ok
  generalize hc0 : h0c.cs = c0 at *
  have hz4 : zStep.size = 4 := rfl
  generalize zStep = zS at *
  obtain ⟨cr, hcr⟩ : ∃ cr, cr = r.cs := ⟨_, rfl⟩
  rw [← hcr] at hrs hro hp4 hcf3
  simp only [← hcr] at hrules hnew hnewT
  have hcr' := Lib.hid hcr
  clear hcr
  obtain ⟨cf, hcfe⟩ : ∃ z, z = r.cf := ⟨_, rfl⟩
  rw [← hcfe] at hcf1 hcf2 hcf3
  have hcfe' := Lib.hid hcfe
  clear hcfe
  go_enter Tryz.func7, Tryz.ntmps7
  go_wp2_with fail
  refine (hlives _).mono ?_
  rintro e w1 ⟨rfl, k1⟩
  dsimp only
  by_cases hn : 30 < n
  · have d1 : decide ((30 : Int) < n) = true := by simp; omega
    go_wp2_with fail
    refine (hlives _).mono ?_
    rintro e w2 ⟨rfl, k2⟩
    dsimp only
    go_wp2
    go_ret
    exact ⟨rfl, k1.trans k2 (by simp)⟩
  have d1 : decide ((30 : Int) < n) = false := by simp; omega
  go_wp2_with fail
  refine (hrules _).mono ?_
  rintro e w2 ⟨rfl, k2⟩
  dsimp only
  have k02 := k1.trans k2 (by simp)
  clear hlives hrules k1 k2
  have hst := run_storeCells_new (P := Tryz.prog) w2 30 (Rl.cs ⟨0, 0, 0, 0, hd0⟩) cr (by rw [hrs]; exact infoRl) (by rw [hrs]; rfl) hro
  have bR := Blk.new w2 cr 30
  have ldR := load_blkC bR 72 hrs
  have k03 := k02.alloc (.cells cr 30)
  obtain ⟨gR, hgR⟩ : ∃ gR, gR = w2.heap.size := ⟨_, rfl⟩
  have hgRl : w.heap.size ≤ gR := by rw [hgR]; exact k02.size
  go_upto_region 4 with fail
  rw [← hgR] at bR ldR ⊢
  clear hst hzR hgR
  generalize w2.alloc (.cells cr 30) = w3 at *
  go_wp2_with fail
  refine (hnew _).mono ?_
  rintro e w4 ⟨k4, ⟨hne, _⟩ | ⟨_, rb, x, rfl, hRel, hlr, hlx, hrx⟩⟩
  · exact absurd rfl hne
  dsimp only
  have bR4 := bR.chg k4 (by simp)
  have ldR4 := load_blkC bR4 72 hrs
  have k04 := k03.trans k4 (by simp)
  go_wp2_with fail
  refine (hnewT _).mono ?_
  rintro e w5 ⟨k5, ⟨hne, _⟩ | ⟨_, x2, rfl, hT5, hlx2⟩⟩
  · exact absurd rfl hne
  dsimp only
  have bR5 := bR4.chg k5 (by simp)
  have k05 := k04.trans k5 (by simp)
  have ldH := load_part bR5 4 68 hs0 hp4
  have hRel5 : RelAt w5 rb x (newT r) 0 := ⟨hRel.blk.chg k5 (by simp), hRel.t.chg I0.ok k5⟩
  have hb6 := Blk.new w5 c0 28
  have ka : Chg [] w5 (w5.alloc (.cells c0 28)) := (Chg.refl _ _).alloc _
  have hrow6 : TrS w.heap.size (w5.alloc (.cells c0 28)) (.slice (some ⟨w5.heap.size, 0, none⟩) 1 1) [h0c] := by
    refine ⟨⟨rfl, .inr ⟨w5.heap.size, 1, c0, rfl, k05.size, hb6, ?_, ?_, ?_, ?_⟩⟩, ?_⟩
    · simp
    · unfold maxLen; omega
    · rw [hs0]
    · have e : c0.toList = h0c.l := by rw [← hc0]; rfl
      have e2 : h0c.l.length = 68 := Hd.ls ok0c
      rw [e]
      simp only [List.map_cons, List.map_nil, List.length_cons, List.length_nil, List.flatten_cons, List.flatten_nil, List.append_nil]
      exact List.take_of_length_le (by omega)
    · intro u hu
      simp only [List.map_cons, List.map_nil, List.mem_singleton] at hu
      rw [hu]; exact Hd.ls ok0c
  obtain ⟨tb, htb⟩ : ∃ tb, tb = x2.b := ⟨_, rfl⟩
  have S6 : SbSt w.heap.size (w5.alloc (.cells c0 28)) rb gR tb cr r (.slice (some ⟨w5.heap.size, 0, none⟩) 1 1) [h0c] (newT r) x x2 0 := by
    have s3 := k03.size
    have s4 := k4.size
    have s5 := k5.size
    have lb := hRel.blk.lt
    have lx := TreeAt.all_lt hRel.t
    have lx2 := TreeAt.all_lt hT5
    have lR := bR.lt
    refine ⟨I0, new_way, rfl, by simpa using ok0c, hrow6, ⟨hRel5.blk.chg ka (by simp), hRel5.t.chg I0.ok ka⟩, hT5.chg I0.ok ka, htb.symm, bR5.chg ka (by simp), fun b hb => by have := hlx b hb; omega, fun b hb => by have := hlx2 b hb; omega, by omega, hrx, fun h => by have := hlx2 _ h; omega, fun b hb h => by have h1 := lx b hb; have h2 := hlx2 _ h; omega, by omega, fun h => by have := hlx _ h; omega, fun h => by have := hlx2 _ h; omega, fun b hb => ?_⟩
    have : w5.heap.size = b := Option.some.inj hb
    subst this
    exact ⟨by omega, fun h => by have := lx _ h; omega, fun h => by have := lx2 _ h; omega, by omega⟩
  have k06 := k05.trans ka (by simp)
  rw [← htb]
  have htb' := Lib.hid htb
  clear htb
  go_upto_region 10 with fail
  clear ldH bR4 bR5 bR ldR ldR4 hb6 ka hRel hRel5 hT5 k04 k03 k02 k05 hbs0 hrs hro hlx hlr hlx2 hrow6 k4 k5 hrx
  generalize w5.alloc (.cells c0 28) = w6 at *
  generalize w5.heap.size = g6 at *
  go_wp2_with fail
  go_loopw [14, 15, 70] (fun s14 s15 s70 wr => ∃ (v : Value) (i : Nat) (L : List Hd) (T : Tr) (y z : Lt) (d : Nat) (D : Int), v = s14 ∧ D = d ∧ s15 = .int .i64 D ∧ i ≤ n ∧ s70 = .int .i64 i ∧ L.length = i + 1 ∧ SbSt w.heap.size wr rb gR tb cr r v L T y z d ∧ Chg [] w wr) (fun _ _ s70 _ => n - (intOf s70).toNat)
  case atStart => exact ⟨_, 0, [h0c], newT r, x, x2, 0, 0, rfl, rfl, rfl, Nat.zero_le _, rfl, rfl, S6, k06⟩
  case round =>
    obtain ⟨v, i, L, T, y, z, d, D, rfl, hD, rfl, hi, rfl, hLl, Sr, kr⟩ := hrel
    have hD' := Lib.hid hD
    clear hD S6 k06 I0
    have I := Sr.I
    by_cases hlt : i < n
    · obtain ⟨b, off, K, an, late, root, hroot, rfl, c0', c1', c2', c3'⟩ := (hl.chg kr).at hlt
      have hldS : (loadCellsFrom ⟨b, off + i * 4, none⟩ 0 4 #[]).run Tryz.prog wr = .ok #[.int .i64 K, .int .i64 an, .int .i32 late, .int .u8 (root : Int)] wr := by
        have := run_loadCells_list (P := Tryz.prog) wr ⟨b, off + i * 4, none⟩ [.int .i64 K, .int .i64 an, .int .i32 late, .int .u8 (root : Int)] (fun j u hj => by
          rw [addr_ad]
          match j, hj with
          | 0, hj => cases hj; exact c0'
          | 1, hj => cases hj; exact c1'
          | 2, hj => cases hj; exact c2'
          | 3, hj => cases hj; exact c3'
          | j + 4, hj => simp at hj)
        simpa [loadCells] using this
      clear c0' c1' c2' c3'
      obtain ⟨S, hS⟩ : ∃ S : Array Value, S = #[.int .i64 K, .int .i64 an, .int .i32 late, .int .u8 (root : Int)] := ⟨_, rfl⟩
      have hS4 : S.size = 4 := by rw [hS]; rfl
      have hSo : S.all (·.oneCell') = true := by rw [hS]; simp [Value.oneCell']
      have hS1 : S[1]? = some (.int .i64 an) := by rw [hS]; rfl
      rw [← hS] at hldS
      have hS' := Lib.hid hS
      clear hS
      have hst := run_storeCells_new (P := Tryz.prog) wr 46 zS S (by rw [hS4]; exact infoStep) (by rw [hS4, hz4]) hSo
      have bS := Blk.new wr S 46
      have ka : Chg [] wr (wr.alloc (.cells S 46)) := (Chg.refl _ _).alloc _
      go_upto_region 13 with fail
      have k9 := kr.trans ka (by simp)
      have S9 := Sr.chg0 ka
      clear hst hldS ka Sr kr
      generalize wr.alloc (.cells S 46) = w9 at *
      generalize wr.heap.size = gS at *
      obtain ⟨ta, tcap, rfl⟩ := S9.row.len'
      rw [List.length_map] at S9 ⊢
      obtain ⟨ln, hln⟩ : ∃ ln, ln = L.length := ⟨_, rfl⟩
      rw [← hln] at S9 hLl ⊢
      obtain ⟨A, hA⟩ : ∃ A : Nat, IntKind.u64.wrap an = (A : Int) := ⟨(an % 18446744073709551616).toNat, by rw [IntKind.wrap_u64]; omega⟩
      obtain ⟨j, hj⟩ : ∃ j, j = A % ln := ⟨_, rfl⟩
      have hjl : j < ln := by rw [hj]; exact Nat.mod_lt _ (by omega)
      have e8 : IntKind.u64.wrap (ln : Int) = (ln : Int) := by rw [IntKind.wrap_u64]; omega
      have e9 : Int.tmod (A : Int) (ln : Int) = (j : Int) := by rw [Int.tmod_eq_emod_of_nonneg (by omega), hj]; exact (Int.natCast_emod A ln).symm
      have e10 : IntKind.u64.wrap (j : Int) = (j : Int) := by rw [IntKind.wrap_u64]; omega
      have e11 : IntKind.i64.wrap (j : Int) = (j : Int) := by rw [IntKind.wrap_i64]; omega
      have nz : ((ln : Int) == 0) = false := by simp; omega
      obtain ⟨gT, cT, rfl, hgT, bT, hcT⟩ := RowS.elem S9.row (i := j) (by rw [List.length_map]; omega)
      have hjL : j < L.length := by omega
      rw [List.getElem_map] at hcT
      have aok := get_ok S9.Lo j hjL
      obtain ⟨a, ha⟩ : ∃ a, a = L[j] := ⟨_, rfl⟩
      rw [← ha] at hcT aok
      obtain ⟨m, hm⟩ : ∃ m, m = madeN (hdH a) K (tmL a.tm late) root (T.bitsOf (hdH a)).1 := ⟨_, rfl⟩
      have mok : HdOk m := by rw [hm]; exact madeN_ok (HK_hash a) K (tmL_lt _ _) hroot (bitsOf_lt I.ok _)
      have hmade : ∀ w', Chg [] w9 w' → Calls Tryz.prog 12 #[.pointer (some ⟨tb, 0, none⟩), .agg a.l.toArray, .agg S] w' fun e w'' => e = .returned (.agg m.l.toArray) ∧ Chg [] w' w'' := fun w' k => by
        have := law12_Made z T I a aok K an late root hroot (bitsOf_lt I.ok _) w' (S9.tr.chg I.ok k)
        rw [← hm, ← hS'.out, S9.zb] at this
        exact this
      have hajs : a.l.toArray.size = 68 := by simpa using Hd.ls aok
      have hms : m.l.length = 68 := Hd.ls mok
      have hmo := Hd.ones m
      have hbs := run_build_head m.l.toArray (by simpa using hms)
      have hbytes := header_Bytes m mok
      change ∀ w, Calls Tryz.prog 24 #[.agg m.l.toArray] w _ at hbytes
      obtain ⟨zh, hzh⟩ : ∃ zh, zh = hd0.cs := ⟨_, rfl⟩
      have hzsz : zh.size = 68 := by rw [hzh]; exact hzs
      have hzH' : ∀ w, (zeroValue 28).run Tryz.prog w = .ok (.agg zh) w := by rw [hzh]; exact hzH
      have hzh' := Lib.hid hzh
      have hgS : gS < w9.heap.size := bS.lt
      have hln0 : ¬ ln = 0 := by omega
      have hln31 : ln ≤ 31 := by omega
      have hLl' := Lib.hid hLl
      have hln' := Lib.hid hln
      clear hLl hln
      have hh9 := k9.size
      clear hzh hj hm ha hjL
      obtain ⟨aj, haj⟩ : ∃ aj, aj = a.l := ⟨_, rfl⟩
      rw [← haj] at hajs hcT
      simp only [← haj] at hmade
      clear haj
      obtain ⟨ml, hml⟩ : ∃ ml, ml = m.l := ⟨_, rfl⟩
      rw [← hml] at hms hmo
      simp only [← hml] at hmade hbs hbytes
      have hml' := Lib.hid hml
      clear hml
      go_cut [18] (fun s18 wx => ∃ gH, s18 = .pointer (some ⟨gH, 0, none⟩) ∧ Blk wx gH ml.toArray 28 ∧ w9.heap.size ≤ gH ∧ Chg [] w9 wx)
      case first =>
        refine wp_region_held_drew (S := fun w' => Chg [] w9 w') (by kernel_rfl) ((Chg.refl _ _).drew) (fun hH51 => ?_)
        obtain ⟨wd51, hwd51⟩ : ∃ wd, wd = (w9).drew := ⟨_, rfl⟩
        rw [← hwd51] at hH51 ⊢
        clear hwd51
        refine TK 0 (.pointer (some ⟨tb, 0, none⟩)) rfl hH51 (fun w' hw' => ?_) ?_
        · go_simp
        try simp only [Act.put, Sa, Sb, Sc, Sd, Se, Sf]
        refine TK 1 (.slice (some ⟨gT, 0, none⟩) ln tcap) rfl hH51 (fun w' hw' => ?_) ?_
        · go_simp
        try simp only [Act.put, Sa, Sb, Sc, Sd, Se, Sf]
        refine TK 2 (.pointer (some ⟨gS, 1, none⟩)) rfl hH51 (fun w' hw' => ?_) ?_
        · go_simp
        try simp only [Act.put, Sa, Sb, Sc, Sd, Se, Sf]
        refine TK 3 (.int .i64 an) rfl hH51 (fun w' hw' => ?_) ?_
        · (have k9 := bS.chg hw' (by simp); have c0 := k9.cell 1 hS1; go_simp)
        try simp only [Act.put, Sa, Sb, Sc, Sd, Se, Sf]
        refine TK 4 (.int .u64 (A : Int)) rfl hH51 (fun w' hw' => ?_) ?_
        · (rw [← hA]; go_simp)
        try simp only [Act.put, Sa, Sb, Sc, Sd, Se, Sf]
        refine TK 5 (.slice (some ⟨gT, 0, none⟩) ln tcap) rfl hH51 (fun w' hw' => ?_) ?_
        · go_simp
        try simp only [Act.put, Sa, Sb, Sc, Sd, Se, Sf]
        refine TK 6 (.int .i64 (ln : Int)) rfl hH51 (fun w' hw' => ?_) ?_
        · go_simp
        try simp only [Act.put, Sa, Sb, Sc, Sd, Se, Sf]
        refine TK 7 (.int .u64 (ln : Int)) rfl hH51 (fun w' hw' => ?_) ?_
        · go_simp
        try simp only [Act.put, Sa, Sb, Sc, Sd, Se, Sf]
        refine TK 8 (.int .u64 (j : Int)) rfl hH51 (fun w' hw' => ?_) ?_
        · go_simp
        try simp only [Act.put, Sa, Sb, Sc, Sd, Se, Sf]
        refine TK 9 (.int .i64 (j : Int)) rfl hH51 (fun w' hw' => ?_) ?_
        · go_simp
        try simp only [Act.put, Sa, Sb, Sc, Sd, Se, Sf]
        refine TK 10 (.pointer (some ⟨gT, j * 68, none⟩)) rfl hH51 (fun w' hw' => ?_) ?_
        · go_simp
        try simp only [Act.put, Sa, Sb, Sc, Sd, Se, Sf]
        refine TK 11 (.agg aj.toArray) rfl hH51 (fun w' hw' => ?_) ?_
        · (have k9 := bT.chg hw' (by simp); have l0 := load_part k9 (j * 68) 68 hajs hcT; go_simp)
        try simp only [Act.put, Sa, Sb, Sc, Sd, Se, Sf]
        refine TK 12 (.agg S) rfl hH51 (fun w' hw' => ?_) ?_
        · (have k9 := bS.chg hw' (by simp); have l0 := load_blkC k9 4 hS4; go_simp)
        try simp only [Act.put, Sa, Sb, Sc, Sd, Se, Sf]
        refine RD2 13 14 rfl rfl (fun K hK => ?_) (fun K hK => ?_)
        · try rw [if_pos (by rfl)]
          go_simp
          go_at_call 12
          refine (hmade _ hH51).mono ?_
          rintro e52 w52 ⟨rfl, hc52⟩
          dsimp only
          have hH52 := hH51.trans hc52 (by simp)
          refine hK.out _ _ hH52 (fun _ => ?_)
          try simp only [Act.put, Sa, Sb, Sc, Sd, Se, Sf]
          refine RD 14 rfl (fun K hK => ?_)
          rw [if_pos (by rfl)]
          refine op_alloc 28 18 (by kernel_rfl) (by kernel_rfl) hzH' ?_
          have kbH53 := Blk.new (w52) zh 28
          have hH53 := hH52.alloc (.cells zh 28)
          have hgeH53 := hH52.size
          obtain ⟨gH53, hgg53⟩ : ∃ g, g = (w52).heap.size := ⟨_, rfl⟩
          rw [← hgg53] at kbH53 hgeH53 ⊢
          generalize (w52).alloc (.cells zh 28) = w53 at hH53 kbH53 ⊢
          clear hgg53
          refine hK.out _ _ hH53 (fun _ => ?_)
          try simp only [Act.put, Sa, Sb, Sc, Sd, Se, Sf]
          refine RD 15 rfl (fun K hK => ?_)
          rw [if_pos (by rfl)]
          refine op_store 28 (.tmp 18) (.tmp 87) (by kernel_rfl) (by kernel_rfl) rfl (cs := ml) rfl kbH53 (by simp [hzsz, hms]) (infoHd3 hms) (by exact hmo) ?_
          intro w54 kbH54 hc54
          have hH54 : Chg [] w9 w54 := hH53.trans hc54 (by simp; omega)
          refine hK.out _ _ hH54 (fun _ => ?_)
          try simp only [Act.put, Sa, Sb, Sc, Sd, Se, Sf]
          refine wpAnyH_done (by kernel_rfl) ?_ _
          go_wp2_with fail
          go_meet
          exact ⟨gH53, rfl, kbH54, by omega, hH54⟩
        · rw [if_pos (by rfl)]
          refine op_alloc 28 18 (by kernel_rfl) (by kernel_rfl) hzH' ?_
          have kbH55 := Blk.new (wd51) zh 28
          have hH55 := hH51.alloc (.cells zh 28)
          have hgeH55 := hH51.size
          obtain ⟨gH55, hgg55⟩ : ∃ g, g = (wd51).heap.size := ⟨_, rfl⟩
          rw [← hgg55] at kbH55 hgeH55 ⊢
          generalize (wd51).alloc (.cells zh 28) = w55 at hH55 kbH55 ⊢
          clear hgg55
          refine hK.out _ _ hH55 (fun _ => ?_)
          try simp only [Act.put, Sa, Sb, Sc, Sd, Se, Sf]
          refine RD 13 rfl (fun K hK => ?_)
          try rw [if_pos (by rfl)]
          go_simp
          go_at_call 12
          refine (hmade _ hH55).mono ?_
          rintro e56 w56 ⟨rfl, hc56⟩
          dsimp only
          have hH56 := hH55.trans hc56 (by simp)
          have kbH56 := kbH55.chg hc56 (by simp)
          refine hK.out _ _ hH56 (fun _ => ?_)
          try simp only [Act.put, Sa, Sb, Sc, Sd, Se, Sf]
          refine RD 15 rfl (fun K hK => ?_)
          rw [if_pos (by rfl)]
          refine op_store 28 (.tmp 18) (.tmp 87) (by kernel_rfl) (by kernel_rfl) rfl (cs := ml) rfl kbH56 (by simp [hzsz, hms]) (infoHd3 hms) (by exact hmo) ?_
          intro w57 kbH57 hc57
          have hH57 : Chg [] w9 w57 := hH56.trans hc57 (by simp; omega)
          refine hK.out _ _ hH57 (fun _ => ?_)
          try simp only [Act.put, Sa, Sb, Sc, Sd, Se, Sf]
          refine wpAnyH_done (by kernel_rfl) ?_ _
          go_wp2_with fail
          go_meet
          exact ⟨gH55, rfl, kbH57, by omega, hH57⟩
      case rest =>
        obtain ⟨gH, rfl, bH, hgH, k10⟩ := hcut
        have S10 := S9.chg0 k10
        have k010 := k9.trans k10 (by simp)
        have hgT9 := bT.lt
        have hHs : ml.toArray.size = 68 := by simpa using hms
        have ldM := load_blkC bH 68 hHs
        have hs10 := k10.size
        have hgHn : gH ∉ rb :: y.all ∧ gH ∉ z.all := by
          have h1 := S9.rel.blk.lt
          have h2 := TreeAt.all_lt S9.rel.t
          have h3 := TreeAt.all_lt S9.tr
          refine ⟨fun h => ?_, fun h => by have := h3 _ h; omega⟩
          rcases List.mem_cons.1 h with h | h
          · omega
          · have := h2 _ h; omega
        clear S9 bT bS hmade k9 k10 hcT
        generalize wc = w10 at *
        have hcells : ∀ (j : Nat) u, ml[j]? = some u → (w10.alloc (.cells ml.toArray 28)).cell? ((⟨w10.heap.size, 0, none⟩ : Addr).add j) = some u := fun j u hj => by
          rw [addr_ad, Nat.zero_add]; exact (Blk.new w10 ml.toArray 28).cell j (by simpa using hj)
        have hLn : (L.map Hd.l).length = ln := by rw [List.length_map, hln'.out]
        have h010 := k010.size
        have hrow10 := S10.row.row
        rw [hLn] at hrow10
        clear hLn
        obtain ⟨fl, hfl⟩ : ∃ fl, fl = (L.map Hd.l).flatten := ⟨_, rfl⟩
        rw [← hfl] at hrow10
        have hfl' := Lib.hid hfl
        clear hfl
        have hneH : gH ≠ gT := by omega
        go_wp2_with (at_builtin; go_loud (refine wpList_append_own_at _ rfl _ _ 44 rfl w.heap.size 28 iH (.agg hd0.cs) 68 80 Tryz.underlying44 hiH hz0 hz1 hz2 rfl (by decide) _ _ _ rfl (hrow10.alloc _) ⟨w10.heap.size, 0, none⟩ 1 1 ml rfl (by omega) hcells hmo (by unfold maxLen; omega) (by omega) (by simp; omega) ?_); intro v' w11 hown' hgrow hnil' hloc; obtain ⟨g', cap', rfl⟩ := ownsRow_succ hown'; have k11 : Chg [gT] w10 w11 := ((Chg.refl _ _).alloc _).grown hgrow (fun k e => .inl (by cases e; simp)); have bH11 := bH.chg k11 (by simpa using hneH); have ld11 := load_blkC bH11 68 hHs; have hg' : g' = gT ∨ g' = w10.heap.size + 1 := hloc.elim (fun h => .inl (Option.some.inj (show some g' = some gT from h))) (fun h => .inr (by have h2 : some g' = some _ := h; simpa using h2)); clear ldM hloc hnil' hgrow)
        have hLn2 : ((L ++ [m]).map Hd.l).length = ln + 1 := by simp [hln'.out]
        have hfl2 : ((L ++ [m]).map Hd.l).flatten = fl ++ ml := by rw [hfl'.out, hml'.out]; simp
        have hT11 : TrS w.heap.size w11 (.slice (some ⟨g', 0, none⟩) (ln + 1) cap') (L ++ [m]) := ⟨by rw [hLn2, hfl2]; exact hown', fun u hu => by
          obtain ⟨h, hh, rfl⟩ := List.mem_map.1 hu
          rcases List.mem_append.1 hh with h1 | h1
          · exact Hd.ls (S10.Lo h h1)
          · rw [List.mem_singleton.1 h1]; exact Hd.ls mok⟩
        have S11 := S10.app mok rfl k11 (hg'.imp id (fun h => by omega)) hT11
        have k011 := k010.trans k11 (by simp; omega)
        have hLl2 : (L ++ [m]).length = i + 1 + 1 := by rw [List.length_append, ← hln'.out, hLl'.out]; rfl
        have hline := law13_line z T I.ok w11 S11.tr
        rw [S11.zb] at hline
        have hs11 := k011.size
        clear hown' hLn2 hfl2 k010 k11 hcells hrow10 bH hbs hT11 S10 hg' hneH
        have l11 : rb < w11.heap.size ∧ (∀ b ∈ y.all, b < w11.heap.size) ∧ ∀ b ∈ z.all, b < w11.heap.size := ⟨S11.rel.blk.lt, TreeAt.all_lt S11.rel.t, TreeAt.all_lt S11.tr⟩
        refine hline.mono ?_
        rintro e w12 ⟨vw, rfl, hW12, k12⟩
        dsimp only
        have hs12 := k12.size
        have S12 := S11.chg0 k12
        have bH12 := bH11.chg k12 (by simp)
        have ld12 := load_blkC bH12 68 hHs
        have k012 := k011.trans k12 (by simp)
        clear S11 k011 k12 bH11 ld11 hline
        go_wp2_with fail
        refine (hbytes _).mono ?_
        rintro e w13 ⟨v80, rfl, hrow80, k13⟩
        rw [← hdB_len mok] at hrow80
        obtain ⟨gB, capB, rfl, hgB, hgBl, hBt, hcapB⟩ := bytesAt_row hrow80 (by rw [hdB_len mok]; omega) (hdB_lt mok)
        rw [hdB_len mok] at hcapB ⊢
        dsimp only
        have hs13 := k13.size
        have S13 := S12.chg0 k13
        have bH13 := bH12.chg k13 (by simp)
        have hW13 : HsS w11.heap.size w13 vw T.line := hW12.chg0 k13
        have k013 := k012.trans k13 (by simp)
        have h013 := k013.size
        have hsub := relay_Submit rb gB 0 capB d y T I m mok w13 S13.rel S13.ry hBt hgBl
        clear S12 k012 k13 bH12 ld12 hW12 hbytes hrow80 hBt
        obtain ⟨tl, htl⟩ : ∃ tl, tl = (T.told m).toArray := ⟨_, rfl⟩
        have tls : tl.size = 35 := by rw [htl]; simp [told_len]
        have tlo : tl.all (·.oneCell') = true := by
          rw [htl, Array.all_eq_true_iff_forall_mem]
          exact fun u hu => told_one T m u (by simpa using hu)
        obtain ⟨ae, hae⟩ : ∃ ae, ae = (T.add m).1 := ⟨_, rfl⟩
        rw [← htl, ← hae] at hsub
        have htl' := Lib.hid htl
        have hae' := Lib.hid hae
        clear htl hae
        go_wp2_with fail
        refine hsub.mono ?_
        rintro e w14 ⟨rfl, y', hyb2, hRel14, hry', hya, k14⟩
        dsimp only
        have hzT := zeroTold0
        have hz35 : told0.toArray.size = 35 := rfl
        have ht0e := told0_eq
        have hbt0 : ∀ w, (Instr.build 67 #[]).run Tryz.prog w = .ok (.agg told0.toArray) w := build_told0
        obtain ⟨z0, hz0e⟩ : ∃ z0, z0 = told0.toArray := ⟨_, rfl⟩
        rw [← hz0e] at hz35
        simp only [← hz0e] at hzT ht0e hbt0
        have hz0' := Lib.hid hz0e
        clear hz0e
        have hst := run_storeCells_new (P := Tryz.prog) w14 67 z0 tl (by rw [tls]; exact infoTold) (by rw [tls, hz35]) tlo
        have bT := Blk.new w14 tl 67
        have ka : Chg [] w14 (w14.alloc (.cells tl 67)) := (Chg.refl _ _).alloc _
        have hs14 := k14.size
        have hgX : w13.heap.size ≤ w14.heap.size := hs14
        have bH15 := (bH13.chg k14 hgHn.1).chg ka (by simp)
        have hW15 : HsS w11.heap.size (w14.alloc (.cells tl 67)) vw T.line := (hW13.chg k14 (fun b hb e => by
          have h1 := hW13.own e
          rcases List.mem_cons.1 hb with h | h
          · omega
          · have := l11.2.1 b h; omega)).chg0 ka
        have hT15 : TreeAt (w14.alloc (.cells tl 67)) z T := (S13.tr.chgS (fun b hb h => by
          rcases List.mem_cons.1 h with h | h
          · exact S13.rz (h ▸ hb)
          · exact S13.yz b h hb) k14).chg I.ok ka
        have hR15 : RelAt (w14.alloc (.cells tl 67)) rb y' (T.add m).2 (T.deep m d) := ⟨hRel14.blk.chg ka (by simp), hRel14.t.chg (I.add mok).ok ka⟩
        have k1315 : Chg (rb :: y.all) w13 (w14.alloc (.cells tl 67)) := k14.alloc _
        have hadd := tree_Add z T I m mok (w14.alloc (.cells tl 67)) hT15
        rw [S13.zb, ← hae'.out] at hadd
        change Calls Tryz.prog 15 #[_, .agg m.l.toArray] _ _ at hadd
        rw [← hml'.out] at hadd
        have ldH15 := load_blkC bH15 68 hHs
        have hgX3 : ∀ b ∈ z.all, b < w14.heap.size := fun b hb => by have := l11.2.2 b hb; omega
        go_upto_region 18 with fail
        clear hst hzT
        obtain ⟨gX, hgXe⟩ : ∃ g, g = w14.heap.size := ⟨_, rfl⟩
        rw [← hgXe] at bT hgX hgX3 ⊢
        clear hgXe
        generalize w14.alloc (.cells tl 67) = w15 at *
        go_wp2_with fail
        refine hadd.mono ?_
        rintro e w16 ⟨rfl, k16, z', hzb', hT16, hza⟩
        dsimp only
        have S16W := S13.W
        have S16 := S13.step (by omega) mok hR15 hry' hya k1315 hT16 hzb' hza k16
        have hgXz : gX ∉ z.all := fun h => by have := hgX3 _ h; omega
        have bT16 := bT.chg k16 hgXz
        have bH16 := bH15.chg k16 hgHn.2
        have hW16 : HsS w11.heap.size w16 vw T.line := hW15.chg k16 (fun b hb e => by
          have h1 := hW15.own e
          have := l11.2.2 b hb; omega)
        have k016 : Chg [] w w16 := (k013.trans k1315 (fun b hb => by
          rcases List.mem_cons.1 hb with h | h
          · exact .inr (by rw [h]; exact S13.rlow)
          · exact .inr (S13.ylow b h))).trans k16 (fun b hb => .inr (S13.zlow b hb))
        have hT2ok : (T.add m).2.ns = (T.add m).2.ns := rfl
        clear S13 k013 k1315 k16 hT16 hza hzb' hR15 hT15 bT bH13 bH15 hW13 hW15 hadd ldH15 hRel14 hya hsub k14 ka hgX3 hT2ok
        by_cases hok : ae = 0
        · subst hok
          have hok2 : (T.add m).1 = 0 := hae'.out.symm
          have I2 := S16.I
          have k1 : HK (hdH m) := HK_hash m
          obtain ⟨q, hq, _⟩ := add_new hok2
          have hqn := Tr.htOf_eq hq
          have hnode : (T.add m).2.node (hdH m) = some q := by unfold Tr.node; rw [add_find hok2, if_pos rfl]; exact hq
          have htq := told_ok hok2
          rw [hqn] at htq
          have htoff := turned_off I S16W mok hok2
          have hdeep := deep_ok (d := d) hok2
          obtain ⟨T2, hT2⟩ : ∃ T2, T2 = (T.add m).2 := ⟨_, rfl⟩
          obtain ⟨d2, hd2⟩ : ∃ d2, d2 = T.deep m d := ⟨_, rfl⟩
          obtain ⟨tn, htn⟩ : ∃ tn, tn = T.turned m := ⟨_, rfl⟩
          obtain ⟨bb, hbb⟩ : ∃ bb, bb = T.isB m := ⟨_, rfl⟩
          obtain ⟨hn', hhn⟩ : ∃ z : Int, z = (q.ht : Int) := ⟨_, rfl⟩
          have heqB := fun w => hash_eq (HK_best I2.ok) k1 w
          rw [show decide ((T.add m).2.best = hdH m) = T.isB m from rfl, ← hbb] at heqB
          rw [← hT2] at I2 hnode htoff S16
          simp only [← hT2] at heqB
          rw [← hd2] at S16 hdeep
          rw [← htn, ← hbb, ← hhn] at htq
          rw [← htn] at htoff hdeep
          have hmx : max D tn = (d2 : Int) := by rw [hD'.out]; exact hdeep.symm
          obtain ⟨D2, hD2⟩ : ∃ D2 : Int, D2 = (d2 : Int) := ⟨_, rfl⟩
          rw [← hD2] at hmx
          have hD2' := Lib.hid hD2
          have hhash := fun w => header_Hash m mok w
          have heqK := fun w => hash_eq k1 k1 w
          simp only [decide_eq_true (rfl : hdH m = hdH m)] at heqK
          have hks : (bytesV (hdH m)).length = 32 := by rw [bytesV_len]; exact k1.1
          have hheight : ∀ w', Chg [] w16 w' → Calls Tryz.prog 31 #[.pointer (some ⟨tb, 0, none⟩), hv (hdH m)] w' fun e w'' => e = .returned (.tuple #[.int .i64 hn', .bool true]) ∧ Chg [] w' w'' := fun w' k => by
            have := tree_Height z' T2 I2.ok (hdH m) k1 w' (S16.tr.chg I2.ok k)
            rw [hnode, S16.zb] at this
            rw [hhn]; exact this
          have hbest : ∀ w', Chg [] w16 w' → Calls Tryz.prog 14 #[.pointer (some ⟨tb, 0, none⟩)] w' fun e w'' => e = .returned (hv T2.best) ∧ Chg [] w' w'' := fun w' k => by
            have := tree_Best z' T2 I2.ok w' (S16.tr.chg I2.ok k)
            rw [S16.zb] at this
            exact this
          unfold hv at hhash heqK heqB hheight hbest
          change ∀ w, Calls Tryz.prog 27 #[.agg m.l.toArray] w _ at hhash
          simp only [← hml'.out] at hhash
          have hlnow := fun w' (k : Chg [] w16 w') => law13_line z' T2 I2.ok w' (S16.tr.chg I2.ok k)
          simp only [S16.zb] at hlnow
          have htoff' := Lib.hid htoff
          have hCo1 : ∀ x ∈ T.line, HK x := fun x hx => Tr.line_ok hx
          have hCo2 : ∀ x ∈ T2.line, HK x := fun x hx => Tr.line_ok hx
          have hCl1 : T.line.length ≤ 100000 := by rw [T.line_len]; have := I.ok.chl; omega
          have hCl2 : T2.line.length ≤ 100000 := by rw [T2.line_len]; have := I2.ok.chl; omega
          rw [htl'.out, htq] at bT16
          have t32 := tc_32 _ hks (.int .i64 hn') (.bool bb) (.int .i64 tn)
          have t33 := tc_33 _ hks (.int .i64 hn') (.bool bb) (.int .i64 tn)
          have t34 := tc_34 _ hks (.int .i64 hn') (.bool bb) (.int .i64 tn)
          have tpt := tpart (bytesV (hdH m)) (.int .i64 hn') (.bool bb) (.int .i64 tn)
          have hksz : (bytesV (hdH m)).toArray.size = 32 := by simpa using hks
          generalize (bytesV (hdH m) ++ [Value.int .i64 hn', Value.bool bb, Value.int .i64 tn]).toArray = tk at *
          obtain ⟨kd, hkd⟩ : ∃ kd, kd = (bytesV (hdH m)).toArray := ⟨_, rfl⟩
          simp only [← hkd] at hhash hheight heqB
          have heqD : ∀ w, (Op.equalIn 10000 26 (.agg (bytesV (hdH m)).toArray) (.agg kd)).run Tryz.prog w = .ok true w := fun w => by rw [hkd]; exact heqK w
          clear heqK hkd
          generalize (bytesV (hdH m)).toArray = kc at *
          generalize (bytesV T2.best).toArray = bk at *
          obtain ⟨L2, hL2⟩ : ∃ L2, L2 = L ++ [m] := ⟨_, rfl⟩
          rw [← hL2] at S16 hLl2
          have hLl2' := Lib.hid hLl2
          clear hT2 hd2 htn hbb hhn hD2 hL2 hLl2 htq hq hqn hnode hdeep htoff htl' tls tlo hks
          have ldH16 := load_blkC bH16 68 hHs
          go_wp2_with fail
          refine (hhash _).mono ?_
          rintro e w17 ⟨rfl, k17⟩
          dsimp only
          go_wp2_with fail
          refine (hheight w17 k17).mono ?_
          rintro e w18 ⟨rfl, k18⟩
          dsimp only
          have k1618 := k17.trans k18 (by simp)
          go_wp2_with fail
          refine (hlnow w18 k1618).mono ?_
          rintro e w19 ⟨vn, rfl, hN19, k19⟩
          dsimp only
          have k1619 := k1618.trans k19 (by simp)
          have htu := law13_turned w11.heap.size w18.heap.size vw vn T.line T2.line hCo1 hCo2 w19 (hW16.chg0 k1619) hN19 hCl1 hCl2
          rw [← htoff'.out] at htu
          clear k17 k18 k19 k1618 hlnow hheight ldH16 hN19 hW16 hCo1 hCo2 hCl1 hCl2 htoff'
          go_wp2_with fail
          refine htu.mono ?_
          rintro e w20 ⟨rfl, k20⟩
          dsimp only
          have k1620 := k1619.trans k20 (by simp)
          have S20 := S16.chg0 k1620
          have bT20 := bT16.chg k1620 (by simp)
          have bH20 := bH16.chg k1620 (by simp)
          have k020 := k016.trans k1620 (by simp)
          have hbest20 := fun w' (k : Chg [] w20 w') => hbest w' (k1620.trans k (by simp))
          clear htu k20 k1619 k1620 S16 bT16 bH16 k016 hbest
          go_upto_region 27 with fail
          go_cut [153] (fun s153 wx => s153 = .bool false ∧ Chg [] w20 wx)
          case first =>
            refine wp_region_held_drew (S := fun w' => Chg [] w20 w') (by kernel_rfl) ((Chg.refl _ _).drew) (fun hH151 => ?_)
            obtain ⟨wd151, hwd151⟩ : ∃ wd, wd = (w20).drew := ⟨_, rfl⟩
            rw [← hwd151] at hH151 ⊢
            clear hwd151
            refine TK 0 (.pointer (some ⟨gX, 0, none⟩)) rfl hH151 (fun w' hw' => ?_) ?_
            · go_simp
            try simp only [Act.put, Sa, Sb, Sc, Sd, Se, Sf]
            refine TK 1 (.agg kc) rfl hH151 (fun w' hw' => ?_) ?_
            · (have k9 := bT20.chg hw' (by simp); have l0 := load_part k9 0 32 hksz tpt; go_simp)
            try simp only [Act.put, Sa, Sb, Sc, Sd, Se, Sf]
            refine TK 2 (.agg ml.toArray) rfl hH151 (fun w' hw' => ?_) ?_
            · (have k9 := bH20.chg hw' (by simp); have l0 := load_blkC k9 68 hHs; go_simp)
            try simp only [Act.put, Sa, Sb, Sc, Sd, Se, Sf]
            refine RD 3 rfl (fun K hK => ?_)
            try rw [if_pos (by rfl)]
            go_simp
            go_at_call 27
            refine (hhash _).mono ?_
            rintro e152 w152 ⟨rfl, hc152⟩
            dsimp only
            have hH152 := hH151.trans hc152 (by simp)
            refine hK.out _ _ hH152 (fun _ => ?_)
            try simp only [Act.put, Sa, Sb, Sc, Sd, Se, Sf]
            refine TK 4 (.bool false) rfl hH152 (fun w' hw' => ?_) ?_
            · go_simp
            try simp only [Act.put, Sa, Sb, Sc, Sd, Se, Sf]
            refine TK 5 (.bool false) rfl hH152 (fun w' hw' => ?_) ?_
            · go_simp
            try simp only [Act.put, Sa, Sb, Sc, Sd, Se, Sf]
            refine TK 6 (.pointer (some ⟨gX, 32, none⟩)) rfl hH152 (fun w' hw' => ?_) ?_
            · go_simp
            try simp only [Act.put, Sa, Sb, Sc, Sd, Se, Sf]
            refine TK 7 (.int .i64 hn') rfl hH152 (fun w' hw' => ?_) ?_
            · (have k9 := bT20.chg hw' (by simp); have c0 := k9.cell 32 t32; go_simp)
            try simp only [Act.put, Sa, Sb, Sc, Sd, Se, Sf]
            refine TK 8 (.int .i64 hn') rfl hH152 (fun w' hw' => ?_) ?_
            · go_simp
            try simp only [Act.put, Sa, Sb, Sc, Sd, Se, Sf]
            refine TK 9 (.bool false) rfl hH152 (fun w' hw' => ?_) ?_
            · go_simp
            try simp only [Act.put, Sa, Sb, Sc, Sd, Se, Sf]
            refine TK 10 (.bool false) rfl hH152 (fun w' hw' => ?_) ?_
            · go_simp
            try simp only [Act.put, Sa, Sb, Sc, Sd, Se, Sf]
            refine TK 11 (.bool false) rfl hH152 (fun w' hw' => ?_) ?_
            · go_simp
            try simp only [Act.put, Sa, Sb, Sc, Sd, Se, Sf]
            refine TK 12 (.pointer (some ⟨gX, 33, none⟩)) rfl hH152 (fun w' hw' => ?_) ?_
            · go_simp
            try simp only [Act.put, Sa, Sb, Sc, Sd, Se, Sf]
            refine TK 13 (.bool bb) rfl hH152 (fun w' hw' => ?_) ?_
            · (have k9 := bT20.chg hw' (by simp); have c0 := k9.cell 33 t33; go_simp)
            try simp only [Act.put, Sa, Sb, Sc, Sd, Se, Sf]
            refine TK 14 (.pointer (some ⟨tb, 0, none⟩)) rfl hH152 (fun w' hw' => ?_) ?_
            · go_simp
            try simp only [Act.put, Sa, Sb, Sc, Sd, Se, Sf]
            refine TK 16 (.agg ml.toArray) rfl hH152 (fun w' hw' => ?_) ?_
            · (have k9 := bH20.chg hw' (by simp); have l0 := load_blkC k9 68 hHs; go_simp)
            try simp only [Act.put, Sa, Sb, Sc, Sd, Se, Sf]
            refine RD 15 rfl (fun K hK => ?_)
            try rw [if_pos (by rfl)]
            go_simp
            go_at_call 14
            refine (hbest20 _ hH152).mono ?_
            rintro e153 w153 ⟨rfl, hc153⟩
            dsimp only
            have hH153 := hH152.trans hc153 (by simp)
            refine hK.out _ _ hH153 (fun _ => ?_)
            try simp only [Act.put, Sa, Sb, Sc, Sd, Se, Sf]
            refine RD 17 rfl (fun K hK => ?_)
            try rw [if_pos (by rfl)]
            go_simp
            go_at_call 27
            refine (hhash _).mono ?_
            rintro e154 w154 ⟨rfl, hc154⟩
            dsimp only
            have hH154 := hH153.trans hc154 (by simp)
            refine hK.out _ _ hH154 (fun _ => ?_)
            try simp only [Act.put, Sa, Sb, Sc, Sd, Se, Sf]
            refine TK 18 (.bool bb) rfl hH154 (fun w' hw' => ?_) ?_
            · go_simp
            try simp only [Act.put, Sa, Sb, Sc, Sd, Se, Sf]
            refine TK 19 (.bool false) rfl hH154 (fun w' hw' => ?_) ?_
            · go_simp
            try simp only [Act.put, Sa, Sb, Sc, Sd, Se, Sf]
            refine TK 20 (.bool false) rfl hH154 (fun w' hw' => ?_) ?_
            · go_simp
            try simp only [Act.put, Sa, Sb, Sc, Sd, Se, Sf]
            refine TK 21 (.bool false) rfl hH154 (fun w' hw' => ?_) ?_
            · go_simp
            try simp only [Act.put, Sa, Sb, Sc, Sd, Se, Sf]
            refine TK 22 (.pointer (some ⟨gX, 34, none⟩)) rfl hH154 (fun w' hw' => ?_) ?_
            · go_simp
            try simp only [Act.put, Sa, Sb, Sc, Sd, Se, Sf]
            refine TK 23 (.int .i64 tn) rfl hH154 (fun w' hw' => ?_) ?_
            · (have k9 := bT20.chg hw' (by simp); have c0 := k9.cell 34 t34; go_simp)
            try simp only [Act.put, Sa, Sb, Sc, Sd, Se, Sf]
            refine TK 24 (.int .i64 tn) rfl hH154 (fun w' hw' => ?_) ?_
            · go_simp
            try simp only [Act.put, Sa, Sb, Sc, Sd, Se, Sf]
            refine TK 25 (.bool false) rfl hH154 (fun w' hw' => ?_) ?_
            · go_simp
            try simp only [Act.put, Sa, Sb, Sc, Sd, Se, Sf]
            refine TK 26 (.bool false) rfl hH154 (fun w' hw' => ?_) ?_
            · go_simp
            try simp only [Act.put, Sa, Sb, Sc, Sd, Se, Sf]
            refine wpAnyH_done (by kernel_rfl) ?_ _
            go_wp2_with fail
            go_meet
            exact ⟨rfl, hH154⟩
          case rest =>
            obtain ⟨rfl, k21⟩ := hcut
            have S21 := S20.chg0 k21
            have k021 := k020.trans k21 (by simp)
            clear S20 k020 k21 bT20 bH20 hbest20 heqD heqB hhash
            go_wp2
            go_roundw
            case rel => exact ⟨_, i + 1, L2, T2, y', z', d2, D2, rfl, hD2'.out, rfl, by omega, by simp, hLl2'.out, S21, k021⟩
            case measure => simp [intOf]; omega
        · have hb1 : (ae != 0) = true := by simpa using hok
          have hb2 : (ae == 0) = false := by simpa using hok
          have hne : (T.add m).1 ≠ 0 := by rw [← hae'.out]; exact hok
          have htl0 : tl = z0 := by rw [htl'.out, told_bad hne, hz0'.out]
          have hdd : T.deep m d = d := deep_bad hne
          have hDd : D = ((T.deep m d : Nat) : Int) := by rw [hdd]; exact hD'.out
          have hDd' := Lib.hid hDd
          subst htl0
          have ldT := load_blkC bT16 35 tls
          obtain ⟨T2, hT2⟩ : ∃ T2, T2 = (T.add m).2 := ⟨_, rfl⟩
          obtain ⟨d2, hd2⟩ : ∃ d2, d2 = T.deep m d := ⟨_, rfl⟩
          rw [← hT2, ← hd2] at S16
          rw [← hd2] at hDd'
          obtain ⟨L2, hL2⟩ : ∃ L2, L2 = L ++ [m] := ⟨_, rfl⟩
          rw [← hL2] at S16 hLl2
          have hLl2' := Lib.hid hLl2
          clear hDd hdd hne hok hT2 hd2 hL2 hLl2
          go_wp2
          go_roundw
          case rel => exact ⟨_, i + 1, L2, T2, y', z', d2, D, rfl, hDd'.out, rfl, by omega, by simp, hLl2'.out, S16, k016⟩
          case measure => simp [intOf]; omega
    · obtain rfl : i = n := by omega
      have hzK := zeroHash
      have okT := I.ok
      have hCo : ∀ x ∈ T.line, HK x := fun x hx => Tr.line_ok hx
      have hCl : T.line.length ≤ 4096 := by rw [T.line_len]; exact I.ok.chl
      have hL31 : L.length ≤ 31 := by omega
      have hLo := Sr.Lo
      have hkb := HK_best I.ok
      have hline := law13_line z T I.ok wr Sr.tr
      rw [Sr.zb] at hline
      obtain ⟨ta, tcap, rfl⟩ := Sr.row.len'
      rw [List.length_map] at Sr ⊢
      have hstp := fun x k h => depthTo_step (T := T) okT x (k := k) h
      have hall := depthTo_all T
      clear hnew hnewT hl hl0 hLl hnM hn d1 hi hz0 hz1 hz2 hiH hp4 hs0 hzS hz4 hlt
      go_wp2_with fail
      refine hline.mono ?_
      rintro e w14 ⟨cv, rfl, hH14, k14⟩
      obtain ⟨ca, ccap, rfl⟩ := hH14.len'
      rw [List.length_map] at hH14 ⊢
      dsimp only
      have S14 := Sr.chg0 k14
      have k014 := kr.trans k14 (by simp)
      have hdee := relay_Deepest rb y T okT.r d w14 S14.rel
      rw [← hD'.out] at hdee
      clear hline Sr kr k14
      go_wp2_with fail
      refine hdee.mono ?_
      rintro e w15 ⟨rfl, k15⟩
      dsimp only
      have S15 := S14.chg0 k15
      have htr := relay_Tree rb y T okT.r d
      clear hdee
      go_wp2_with fail
      refine (htr w15 S15.rel).mono ?_
      rintro e w16 ⟨rfl, k16⟩
      dsimp only
      have S16 := S15.chg0 k16
      have hb1 := tree_Best y T okT w16 S16.rel.t
      obtain ⟨b1, hb1e⟩ : ∃ b1, b1 = (bytesV T.best).toArray := ⟨_, rfl⟩
      have heq := fun w => hash_eq hkb hkb w
      simp only [decide_eq_true (rfl : T.best = T.best)] at heq
      unfold hv at heq
      have heqB : ∀ w, (Op.equalIn 10000 26 (.agg b1) (.agg (bytesV T.best).toArray)).run Tryz.prog w = .ok true w := fun w => by rw [hb1e]; exact heq w
      rw [← hb1e] at hb1
      have hb2 := fun w' (k : Chg [] w16 w') => tree_Best z T okT w' (S16.tr.chg okT k)
      simp only [S16.zb] at hb2
      clear heq hb1e
      generalize (bytesV T.best).toArray = b2 at *
      go_wp2_with fail
      refine hb1.mono ?_
      rintro e w17 ⟨rfl, k17⟩
      dsimp only
      go_wp2_with fail
      refine (hb2 w17 k17).mono ?_
      rintro e w18 ⟨rfl, k18⟩
      dsimp only
      have S18 := S16.chg0 (k17.trans k18 (by simp))
      clear hb1 hb2
      go_wp2_with fail
      refine (htr w18 S18.rel).mono ?_
      rintro e w19 ⟨rfl, k19⟩
      dsimp only
      have S19 := S18.chg0 k19
      have hl1 := tree_Len y T okT w19 S19.rel.t
      have hl2 := fun w' (k : Chg [] w19 w') => tree_Len z T okT w' (S19.tr.chg okT k)
      simp only [S19.zb] at hl2
      go_wp2_with fail
      refine hl1.mono ?_
      rintro e w20 ⟨rfl, k20⟩
      dsimp only
      go_wp2_with fail
      refine (hl2 w20 k20).mono ?_
      rintro e w21 ⟨rfl, k21⟩
      dsimp only
      have k1421 : Chg [] w14 w21 := ((((k15.trans k16 (by simp)).trans (k17.trans k18 (by simp)) (by simp)).trans k19 (by simp)).trans k20 (by simp)).trans k21 (by simp)
      have S21 := S14.chg0 k1421
      have k021 := k014.trans k1421 (by simp)
      have hH21 : HsS wr.heap.size w21 (.slice ca T.line.length ccap) T.line := hH14.chg0 k1421
      clear hl1 hl2 htr heqB S14 S15 S16 S18 S19 k15 k16 k17 k18 k19 k20 k21 k1421 k014 hH14
      go_wp2_with fail
      go_loopw [179] (fun s179 wq => ∃ k : Nat, k ≤ L.length ∧ s179 = .int .i64 k ∧ Chg [] w21 wq) (fun s179 _ => L.length - (intOf s179).toNat)
      case atStart => exact ⟨0, Nat.zero_le _, rfl, Chg.refl _ _⟩
      case round =>
        obtain ⟨k, hk, rfl, kq⟩ := hrel
        obtain ⟨wq, rfl⟩ : ∃ wq, wq = wr := ⟨_, rfl⟩
        have Sq := S21.chg0 kq
        have hHq := hH21.chg0 kq
        have k0q := k021.trans kq (by simp)
        clear S21 hH21 k021
        by_cases hlt3 : k < L.length
        · have aok := get_ok hLo k hlt3
          obtain ⟨gL, hgLe, hgL, hldL⟩ := RowS.load Sq.row (i := k) (by simpa using hlt3)
          subst hgLe
          rw [List.getElem_map] at hldL
          obtain ⟨a, ha⟩ : ∃ a, a = L[k] := ⟨_, rfl⟩
          rw [← ha] at aok hldL
          clear ha
          have has : a.l.toArray.size = 68 := by simpa using Hd.ls aok
          have hao : a.l.toArray.all (·.oneCell') = true := Hd.one a
          have hst := run_storeCells_new (P := Tryz.prog) wq 28 hd0.cs a.l.toArray (by rw [has]; exact infoHd) (by rw [has, hzs]) hao
          have ka : Chg [] wq (wq.alloc (.cells a.l.toArray 28)) := (Chg.refl _ _).alloc _
          have bE := Blk.new wq a.l.toArray 28
          have hlE := load_blkC bE 68 has
          have hhash := fun w => header_Hash a aok w
          change ∀ w, Calls Tryz.prog 27 #[.agg a.l.toArray] w _ at hhash
          have hxk := HK_hash a
          generalize hdH a = hx at *
          obtain ⟨al, hal⟩ : ∃ al, al = a.l.toArray := ⟨_, rfl⟩
          simp only [← hal] at hhash
          rw [← hal] at hldL has hst ka bE hlE
          clear hal hao
          have Sa' := Sq.chg0 ka
          have hHa := hHq.chg0 ka
          have kqa := kq.trans ka (by simp)
          have k0a := k0q.trans ka (by simp)
          go_upto_region 36 with fail
          clear hst hldL Sq hHq ka k0q
          obtain ⟨gE, hgE⟩ : ∃ g, g = wq.heap.size := ⟨_, rfl⟩
          rw [← hgE] at bE hlE ⊢
          clear hgE
          generalize wq.alloc (.cells al 28) = wa at *
          go_wp2_with fail
          refine (hhash _).mono ?_
          rintro e wb ⟨rfl, kb⟩
          dsimp only
          have hes : (bytesV hx).toArray.size = 32 := by simp [bytesV_len, hxk.1]
          have hst := run_storeCells_new (P := Tryz.prog) wb 26 z32 (bytesV hx).toArray (by rw [hes]; exact infoHash) (by rw [hes]; rfl) (bytesV_all _)
          have kc0 : Chg [] wa (wb.alloc (.cells (bytesV hx).toArray 26)) := kb.alloc _
          have bX := Blk.new wb (bytesV hx).toArray 26
          have hlX := load_blkC bX 32 hes
          have Sc' := Sa'.chg0 kc0
          have hHc : HsS wr.heap.size _ (.slice ca T.line.length ccap) T.line := hHa.chg0 kc0
          have kqc := kqa.trans kc0 (by simp)
          have k0c := k0a.trans kc0 (by simp)
          have hheight := fun w' (k : Chg [] (wb.alloc (.cells (bytesV hx).toArray 26)) w') => tree_Height z T okT hx hxk w' (Sc'.tr.chg okT k)
          simp only [Sc'.zb] at hheight
          have hdep := fun w' (S : SbSt w.heap.size w' rb gR tb cr r (.slice (some ⟨gL, 0, none⟩) L.length tcap) L T y z d) => relay_Depth rb y T S.I d hx hxk w' S.rel
          have hcon := fun w' (S : SbSt w.heap.size w' rb gR tb cr r (.slice (some ⟨gL, 0, none⟩) L.length tcap) L T y z d) => relay_Confirmed rb y T S.I d hx hxk w' S.rel
          have hq : (T.node hx).isSome = (T.find hx).isSome := by
            cases hf : T.find hx with
            | none => rw [Tr.node_none hf]; rfl
            | some i => obtain ⟨p, hp, hn, _⟩ := Tr.node_some hf; rw [hn]; rfl
          rw [hq] at hheight
          have hcfd : T.conf hx = if (T.find hx).isSome = true then if T.depth hx < cf then 13 else 0 else 12 := by unfold Tr.conf; rw [Sc'.rr, ← hcfe'.out]
          have heqC : ∀ y ∈ T.line, ∀ w, (Op.equalIn 10000 26 (.agg (bytesV hx).toArray) (.agg (bytesV y).toArray)).run Tryz.prog w = .ok (decide (hx = y)) w := fun y hy w => hash_eq hxk (hCo y hy) w
          have hstx := fun k h => hstp hx k h
          have hallx := hall hx
          have hd00 : T.depthTo hx 0 = 0 := by unfold Tr.depthTo; simp
          generalize (((T.node hx).map (fun p => p.ht)).getD 0) = hh at *
          generalize (T.find hx).isSome = there at *
          unfold hv at hheight hdep hcon
          generalize (bytesV hx).toArray = kc at *
          go_upto_region 37 with fail
          clear hst Sa' hHa kqa k0a kb kc0 bE hlE hhash hstp hall
          obtain ⟨gX, hgX⟩ : ∃ g, g = wb.heap.size := ⟨_, rfl⟩
          rw [← hgX] at bX hlX ⊢
          clear hgX
          generalize wb.alloc (.cells kc 26) = wc at *
          go_wp2_with fail
          refine (hheight wc (Chg.refl _ _)).mono ?_
          rintro e wd ⟨rfl, kd⟩
          dsimp only
          have Sd' := Sc'.chg0 kd
          have hHd := hHc.chg0 kd
          have bXd := bX.chg kd (by simp)
          have kqd := kqc.trans kd (by simp)
          have k0d := k0c.trans kd (by simp)
          clear Sc' hHc bX hlX kqc k0c kd hheight
          obtain ⟨dp0, hdp0⟩ : ∃ z : Int, z = T.depthTo hx 0 := ⟨_, rfl⟩
          go_wp2_with fail
          go_loopw [33, 193] (fun s33 s193 we => ∃ (j : Nat) (D3 : Int), j ≤ T.line.length ∧ s193 = .int .i64 j ∧ D3 = T.depthTo hx j ∧ s33 = .int .i64 D3 ∧ Chg [] wd we) (fun _ s193 _ => T.line.length - (intOf s193).toNat)
          case atStart => exact ⟨0, 0, Nat.zero_le _, rfl, hd00.symm, rfl, Chg.refl _ _⟩
          case round =>
            obtain ⟨j, D3, hj, rfl, hD3, rfl, ke⟩ := hrel
            obtain ⟨we, rfl⟩ : ∃ we, we = wr := ⟨_, rfl⟩
            have hD3' := Lib.hid hD3
            clear hD3
            by_cases hltj : j < T.line.length
            · obtain ⟨gC, hgCe, hgC, hldC⟩ := (hHd.chg0 ke).load (i := j) (by simpa using hltj)
              subst hgCe
              rw [List.getElem_map] at hldC
              have ck : HK T.line[j] := hCo _ (List.getElem_mem hltj)
              have hes2 : (bytesV T.line[j]).toArray.size = 32 := by simp [bytesV_len, ck.1]
              have hst := run_storeCells_new (P := Tryz.prog) we 26 z32 (bytesV T.line[j]).toArray (by rw [hes2]; exact infoHash) (by rw [hes2]; rfl) (bytesV_all _)
              have ka : Chg [] we (we.alloc (.cells (bytesV T.line[j]).toArray 26)) := (Chg.refl _ _).alloc _
              have bY := Blk.new we (bytesV T.line[j]).toArray 26
              have hlY := load_blkC bY 32 hes2
              have hlX2 := load_blkC ((bXd.chg ke (by simp)).chg ka (by simp)) 32 hes
              have kea := ke.trans ka (by simp)
              have heqj := heqC _ (List.getElem_mem hltj) (we.alloc (.cells (bytesV T.line[j]).toArray 26))
              have hsx := hstx j hltj
              have hsx' := Lib.hid hsx
              have hv85 : IntKind.i64.wrap ((T.line.length : Int) - j) = (T.line.length : Int) - j := by rw [IntKind.wrap_i64]; omega
              clear hsx hstx hallx heqC hcfd hdep hcon hCo ka Sd' hHd k0d kqd
              by_cases hxy : hx = T.line[j]
              · rw [decide_eq_true hxy] at heqj
                have hxy' := Lib.hid hxy
                clear hxy
                generalize (bytesV T.line[j]).toArray = kd at *
                go_upto_region 42 with fail
                clear hst hldC
                generalize we.alloc (.cells kd 26) = wf at *
                generalize we.heap.size = gf at *
                go_wp2
                go_roundw
                case rel => exact ⟨j + 1, _, by omega, by simp, by rw [hsx'.out, if_pos hxy'.out], rfl, kea⟩
                case measure => simp [intOf]; omega
              · rw [decide_eq_false hxy] at heqj
                have hxy' := Lib.hid hxy
                clear hxy
                generalize (bytesV T.line[j]).toArray = kd at *
                go_upto_region 42 with fail
                clear hst hldC
                generalize we.alloc (.cells kd 26) = wf at *
                generalize we.heap.size = gf at *
                go_wp2
                go_roundw
                case rel => exact ⟨j + 1, D3, by omega, by simp, by rw [hsx'.out, if_neg hxy'.out]; exact hD3'.out, rfl, kea⟩
                case measure => simp [intOf]; omega
            · obtain rfl : j = T.line.length := by omega
              have hD4 : D3 = T.depth hx := by rw [hD3'.out]; exact hallx
              have Se := Sd'.chg0 ke
              have bXe := bXd.chg ke (by simp)
              have hlXe := load_blkC bXe 32 hes
              have c3 := Se.bR.cell 3 hcf3
              have kqe := kqd.trans ke (by simp)
              have hdep2 := fun w' (k : Chg [] we w') => hdep w' (Se.chg0 k)
              have hcon2 := fun w' (k : Chg [] we w') => hcon w' (Se.chg0 k)
              rw [← hD4] at hcfd
              simp only [← hD4] at hdep2
              obtain ⟨cv, hcv⟩ : ∃ cv, cv = T.conf hx := ⟨_, rfl⟩
              rw [← hcv] at hcfd
              simp only [← hcv] at hcon2
              clear hcv hD4 hD3' hallx hstx heqC hdep hcon Sd' hHd k0d kqd ke bXd
              cases there with
              | false =>
                have hcv2 : cv = 12 := by rw [hcfd]; rfl
                subst hcv2
                clear hcfd
                go_wp2_with fail
                refine (hdep2 _ (Chg.refl _ _)).mono ?_
                rintro e wf ⟨rfl, kf⟩
                dsimp only
                have hlXf := load_blkC (bXe.chg kf (by simp)) 32 hes
                go_wp2_with fail
                refine (hcon2 wf kf).mono ?_
                rintro e wg ⟨rfl, kg⟩
                dsimp only
                have kqg := (kqe.trans kf (by simp)).trans kg (by simp)
                clear hdep2 hcon2 kf kg
                go_wp2
                go_roundw
                case rel => exact ⟨k + 1, by omega, by simp, kqg⟩
                case measure => simp [intOf]; omega
              | true =>
                rw [if_pos rfl] at hcfd
                by_cases hlc : D3 < cf
                · have hcv2 : cv = 13 := by rw [hcfd, if_pos hlc]
                  have hdl : decide (D3 < cf) = true := decide_eq_true hlc
                  subst hcv2
                  clear hcfd hlc
                  go_wp2_with fail
                  refine (hdep2 _ (Chg.refl _ _)).mono ?_
                  rintro e wf ⟨rfl, kf⟩
                  dsimp only
                  have hlXf := load_blkC (bXe.chg kf (by simp)) 32 hes
                  go_wp2_with fail
                  refine (hcon2 wf kf).mono ?_
                  rintro e wg ⟨rfl, kg⟩
                  dsimp only
                  have kqg := (kqe.trans kf (by simp)).trans kg (by simp)
                  clear hdep2 hcon2 kf kg
                  go_wp2
                  go_roundw
                  case rel => exact ⟨k + 1, by omega, by simp, kqg⟩
                  case measure => simp [intOf]; omega
                · have hcv2 : cv = 0 := by rw [hcfd, if_neg hlc]
                  have hdl : decide (D3 < cf) = false := decide_eq_false hlc
                  subst hcv2
                  clear hcfd hlc
                  go_wp2_with fail
                  refine (hdep2 _ (Chg.refl _ _)).mono ?_
                  rintro e wf ⟨rfl, kf⟩
                  dsimp only
                  have hlXf := load_blkC (bXe.chg kf (by simp)) 32 hes
                  go_wp2_with fail
                  refine (hcon2 wf kf).mono ?_
                  rintro e wg ⟨rfl, kg⟩
                  dsimp only
                  have kqg := (kqe.trans kf (by simp)).trans kg (by simp)
                  clear hdep2 hcon2 kf kg
                  go_wp2
                  go_roundw
                  case rel => exact ⟨k + 1, by omega, by simp, kqg⟩
                  case measure => simp [intOf]; omega
        · obtain rfl : k = L.length := by omega
          go_wp2
          go_ret
          exact ⟨rfl, k0q⟩
theorem law13_RelaySubmits_ (ev sp cq : Int) (vl : Value) (w : World) (_ : (Lit.int .i64 ev).wf = true) (hs : (Lit.int .u32 sp).wf = true) (_ : (Lit.int .i64 cq).wf = true) (hl : ∃ n, n ≤ maxLen ∧ Steps12 w vl n) :
    Calls Tryz.prog 7 #[.int .i64 ev, .int .u32 sp, .int .i64 cq, vl] w fun e w' => e = .returned (.bool true) ∧ Chg [] w w' := by
  obtain ⟨h1, h2⟩ := wf_u32.1 hs
  obtain ⟨k, rfl⟩ : ∃ k : Nat, sp = (k : Int) := ⟨sp.toNat, by omega⟩
  exact law13_RelaySubmits ev k (by omega) cq vl w hl
end Go.Proofs.YtmkgbinmilcojaaGreat

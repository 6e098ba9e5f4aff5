import Derived.Test.YtmkgbinmilcojaaGreatDblHead
import Derived.Maps.Ext
import Derived.WideKeyArr
import Derived.Test.YtmkgbinmilcojaaGreatNotWorkB
import Derived.Test.YtmkgbinmilcojaaGreatRegInv

/- Maps whose keys are 32 bytes. -/
namespace Go.Proofs.YtmkgbinmilcojaaGreat
open Go.RowKit Go.Maps Go.WideMaps

def HK (k : List Nat) : Prop := k.length = 32 ∧ ∀ x ∈ k, x < 256
def hv (k : List Nat) : Value := .agg (bytesV k).toArray
def keyH (k : List Nat) : Lit := .string (keyBytes (k.map (fun b : Nat => Lit.int .u8 (b : Int))))
theorem hv_inj {a b : List Nat} (h : hv a = hv b) : a = b := by
  have h1 : bytesV a = bytesV b := by simpa [hv] using h
  unfold bytesV at h1
  have h2 := congrArg (List.map (fun v : Value => match v with | .int _ x => x.toNat | _ => 0)) h1
  simpa [List.map_map, Function.comp_def] using h2
theorem arrH : ArrKey Tryz.prog 26 5 32 := ⟨by kernel_rfl, by kernel_rfl, by kernel_rfl, by kernel_rfl⟩
theorem mapM_all {α β : Type} {f : α → Option β} {g : α → β} : ∀ (l : List α), (∀ x ∈ l, f x = some (g x)) → l.mapM f = some (l.map g)
  | [], _ => rfl
  | x :: l, h => by
    rw [List.mapM_cons, h x (by simp), mapM_all l (fun y hy => h y (by simp [hy]))]
    rfl
theorem types_pos : 0 < Tryz.prog.types.size := by decide +kernel
theorem succ_of_pos {n : Nat} (h : 0 < n) : ∃ m, n = m + 1 := ⟨n - 1, by omega⟩
theorem types_succ : ∃ m, Tryz.prog.types.size = m + 1 := succ_of_pos types_pos
theorem flat_one {α β : Type} (g : α → β) : ∀ l : List α, (l.map fun x => [g x]).flatten = l.map g
  | [] => rfl
  | x :: l => by simp [flat_one g l]
theorem keyOf_hash {k : List Nat} (h : HK k) : keyOf Tryz.prog 26 (hv k) = some (keyH k) := by
  have A := arrH
  have hkt := A.keyType types_succ
  obtain ⟨m, hm⟩ := types_succ
  have hlen : (bytesV k).toArray.size = 32 := by simp [bytesV_len, h.1]
  have hu8 : Tryz.prog.underlying 5 = some (.int .u8) := by kernel_rfl
  unfold keyOf
  simp only [A.hu]
  rw [if_pos (by simp [hkt, Value.formed, hv, A.hu, A.size, bytesV_len, h.1]), hm]
  unfold Program.keyLits
  simp only [A.hu, hv, Value.cells]
  rw [if_pos (by rw [A.size]; simpa using hlen)]
  have hm2 := mapM_all (f := fun i => Tryz.prog.keyLits (m + 1) 5 (((bytesV k).drop (i * Tryz.prog.cellsOf 5)).take (Tryz.prog.cellsOf 5))) (g := fun i => [Lit.int .u8 ((k.getD i 0 : Nat) : Int)]) (List.range 32) (fun i hi => by
    have hi' : i < k.length := by rw [h.1]; simpa using hi
    rw [A.one, Nat.mul_one]
    have e : ((bytesV k).drop i).take 1 = [Value.int .u8 ((k.getD i 0 : Nat) : Int)] := by
      rw [List.drop_eq_getElem_cons (by rw [bytesV_len]; exact hi'), List.take_succ_cons, List.take_zero]
      simp [bytesV, hi']
    rw [e]
    unfold Program.keyLits
    simp only [hu8]
    have hb := h.2 (k.getD i 0) (by rw [List.getD_eq_getElem?_getD]; simp [hi'])
    rw [if_pos ⟨trivial, wf_u8.2 ⟨by omega, by omega⟩⟩])
  show Option.map _ (Option.map _ (List.mapM _ (List.range 32))) = _
  rw [hm2]
  rw [Option.map_some, flat_one]
  have e2 : (List.range 32).map (fun i => Lit.int .u8 ((k.getD i 0 : Nat) : Int)) = k.map (fun b : Nat => Lit.int .u8 (b : Int)) := by
    apply List.ext_getElem
    · simp [h.1]
    · intro i h1 h2
      have hi : i < k.length := by simpa using h2
      simp [hi]
  rw [e2, Option.map_some]
  rfl
theorem keyedH : Keyed Tryz.prog 26 := Keyed.of_law arrH.law
theorem keyH_inj {a b : List Nat} (ha : HK a) (hb : HK b) (h : keyH a = keyH b) : a = b :=
  hv_inj (keyedH.inj (keyOf_hash ha) (by rw [h]; exact keyOf_hash hb))
theorem keyH_lit (k : List Nat) : WideAt.IsKeyLit (keyH k) := trivial

/-- block b is a map of cnt entries from hashes: f. -/
def MapH (w : World) (b cnt : Nat) (f : List Nat → Option Value) : Prop :=
  ∃ D : DataW Value, w.ownsMap Tryz.prog 26 heldR b cnt D ∧ Maps.size D = cnt ∧ ∀ k, HK k → (Maps.has D (keyH k) = (f k).isSome ∧ ∀ z, D.atKey (keyH k) (.held z) = .held ((f k).getD z))
section
variable {w w' : World} {b cnt : Nat} {f : List Nat → Option Value}
theorem MapH.made (w : World) : MapH (w.alloc (.map #[] 0)) w.heap.size 0 (fun _ => none) :=
  ⟨.map [], World.ownsMap_made _ _ _ _, rfl, fun _ _ => ⟨rfl, fun _ => rfl⟩⟩
theorem MapH.lt (h : MapH w b cnt f) : b < w.heap.size := by obtain ⟨D, h, _⟩ := h; exact h.lt
theorem MapH.grown {row : Option Nat} (h : MapH w b cnt f) (hg : w.grownBy w' row) (hb : some b ≠ row) : MapH w' b cnt f := by obtain ⟨D, h, k⟩ := h; exact ⟨D, h.kept hg hb, k⟩
theorem MapH.alloc (h : MapH w b cnt f) (o : Obj) : MapH (w.alloc o) b cnt f := by obtain ⟨D, h, k⟩ := h; exact ⟨D, h.alloc o, k⟩
theorem MapH.drew (h : MapH w b cnt f) : MapH w.drew b cnt f := h
theorem MapH.drewN (h : MapH w b cnt f) (m : Nat) : MapH (w.drewN m) b cnt f := h
theorem MapH.setCell (h : MapH w b cnt f) {p : Addr} (hp : b ≠ p.block) (u : Value) : MapH (w.setCell p u) b cnt f := by obtain ⟨D, h, k⟩ := h; exact ⟨D, h.setCell hp u, k⟩
theorem MapH.chg {S : List Nat} (h : MapH w b cnt f) (c : Chg S w w') (hb : b ∉ S) : MapH w' b cnt f := by
  have hl := h.lt
  obtain ⟨D, ⟨es, clock, h1, r⟩, k⟩ := h
  exact ⟨D, ⟨es, clock, (c.block b hl hb).trans h1, r⟩, k⟩
theorem MapH.congr {g : List Nat → Option Value} (h : MapH w b cnt f) (e : ∀ k, HK k → f k = g k) : MapH w b cnt g := by
  obtain ⟨D, h, s, k⟩ := h; exact ⟨D, h, s, fun x hx => by rw [← e x hx]; exact k x hx⟩
theorem MapH.look (h : MapH w b cnt f) {t E : TypeId} (ht : Tryz.prog.underlying t = some (.map 26 E)) {z : Value} (hz : (zeroValue E).run Tryz.prog w = .ok z w)
    {x : List Nat} (hx : HK x) : (Instr.lookup t (.map (some b)) (hv x) false).run Tryz.prog w = .ok ((f x).getD z) w := by
  obtain ⟨D, h, _, k⟩ := h
  obtain ⟨v, ps, hrun, hv⟩ := h.lookup keyedH ht hz (zd := .held z) (zp := []) rfl (keyOf_hash hx)
  rw [(k x hx).2] at hv
  simp only [heldR, Option.some.injEq, Prod.mk.injEq, DataW.held.injEq] at hv
  rw [← hv.1]; exact hrun
theorem MapH.look_ok (h : MapH w b cnt f) {t E : TypeId} (ht : Tryz.prog.underlying t = some (.map 26 E)) {z : Value} (hz : (zeroValue E).run Tryz.prog w = .ok z w)
    {x : List Nat} (hx : HK x) : (Instr.lookup t (.map (some b)) (hv x) true).run Tryz.prog w = .ok (.tuple #[(f x).getD z, .bool (f x).isSome]) w := by
  obtain ⟨D, h, _, k⟩ := h
  obtain ⟨v, ps, hrun, hv⟩ := h.look_ok keyedH ht hz (zd := .held z) (zp := []) rfl (keyOf_hash hx)
  rw [(k x hx).2] at hv
  simp only [heldR, Option.some.injEq, Prod.mk.injEq, DataW.held.injEq] at hv
  rw [← hv.1, ← (k x hx).1]; exact hrun
theorem MapH.len (h : MapH w b cnt f) {t E : TypeId} (ht : Tryz.prog.underlying t = some (.map 26 E)) (ty : TypeId) : (Builtin.len_ #[t] ty #[.map (some b)]).run Tryz.prog w = .ok (.int .i64 cnt) w := by
  obtain ⟨D, h, s, _⟩ := h
  rw [← s]; exact h.len ht ty
theorem MapH.store (h : MapH w b cnt f) {t E : TypeId} (ht : Tryz.prog.underlying t = some (.map 26 E)) (hn : cnt < maxLen) {key : List Nat} (hk : HK key) (val : Value) :
    ∃ w', (Instr.mapUpdate t (.map (some b)) (hv key) val).run Tryz.prog w = .ok () w' ∧ MapH w' b (if (f key).isSome then cnt else cnt + 1) (fun y => if y = key then some val else f y) ∧ Chg [b] w w' := by
  obtain ⟨D, h, s, k⟩ := h
  obtain ⟨w', hrun, r1, r2⟩ := h.store keyedH ht hn (keyOf_hash hk) (val := val) (d := .held val) (ps := []) rfl
  refine ⟨w', hrun, ⟨D.put (keyH key) (.held val), ?_, ?_, fun y hy => ?_⟩, (Chg.refl [b] w).turned r2 (.inl (by simp))⟩
  · have e := size_put (h.tidy keyedH) (k := keyH key) (.held val)
    rw [(k key hk).1, s] at e
    obtain ⟨es, clock, h1, F, h2, h3⟩ := r1
    refine ⟨es, clock, h1, F, ?_, h3⟩
    rw [h3] at e
    simp only [Maps.size, length_sorted, List.length_map, Array.length_toList] at e
    omega
  · have e := size_put (h.tidy keyedH) (k := keyH key) (.held val)
    rw [(k key hk).1, s] at e
    exact e
  · by_cases e : y = key
    · subst e
      simp only [if_true, Option.isSome_some, Option.getD_some]
      exact ⟨has_put_same h.isMap (keyH_lit y) _, fun z => atKey_put_same h.isMap (keyH_lit y) _ _⟩
    · have hne : keyH y ≠ keyH key := fun h => e (keyH_inj hy hk h)
      simp only [if_neg e]
      rw [has_put_other hne]
      exact ⟨(k y hy).1, fun z => by rw [atKey_put_other hne]; exact (k y hy).2 z⟩
end
end Go.Proofs.YtmkgbinmilcojaaGreat

/- Package adjust: the rules' cells; Check. -/
namespace Go.Proofs.YtmkgbinmilcojaaGreat
open Go.RowKit Go.Maps
attribute [-go_sem] loadCellsFrom

theorem load_part {W : World} {g : Nat} {cs ds : Array Value} {T : TypeId} (h : Blk W g cs T) (off n : Nat) (hn : ds.size = n) (hd : ∀ (j : Nat) (v : Value), ds[j]? = some v → cs[off + j]? = some v) : (loadCellsFrom ⟨g, off, none⟩ 0 n #[]).run Tryz.prog W = .ok ds W := by
  have := run_loadCells_list (P := Tryz.prog) W ⟨g, off, none⟩ ds.toList (fun j v hv => by
    have hadd : (⟨g, off, none⟩ : Addr).add j = ⟨g, off + j, none⟩ := by unfold Addr.add; split <;> simp_all
    rw [hadd]
    exact h.cell (off + j) (hd j v (by simpa using hv)))
  rw [show ds.toList.length = n by simpa using hn] at this
  simpa [loadCells] using this
structure Rl where
  ev : Int
  sp : Nat
  lm : Nat
  cf : Int
  fi : Hd
structure RlOk (r : Rl) : Prop where
  ev : -9223372036854775808 ≤ r.ev ∧ r.ev ≤ 9223372036854775807
  sp : r.sp < 4294967296
  lm : r.lm < 4294967296
  cf : -9223372036854775808 ≤ r.cf ∧ r.cf ≤ 9223372036854775807
  fi : HdOk r.fi
def Rl.cs (r : Rl) : Array Value := (.int .i64 r.ev :: .int .u32 r.sp :: .int .u32 r.lm :: .int .i64 r.cf :: r.fi.l).toArray
theorem Hd.lsize {h : Hd} (ok : HdOk h) : h.l.length = 68 := by have := Hd.size ok; simpa [Hd.cs] using this
theorem Rl.size {r : Rl} (ok : RlOk r) : r.cs.size = 72 := by simp [Rl.cs, Hd.lsize ok.fi]
theorem Rl.one (r : Rl) : r.cs.all (·.oneCell') = true := by
  have h := Array.all_eq_true_iff_forall_mem.1 (Hd.one r.fi)
  rw [Array.all_eq_true_iff_forall_mem]
  intro v hv
  simp only [Rl.cs, List.mem_toArray, List.mem_cons] at hv
  rcases hv with rfl | rfl | rfl | rfl | hv
  · rfl
  · rfl
  · rfl
  · rfl
  · exact h v (by simpa [Hd.cs] using hv)
theorem Rl.part (r : Rl) : ∀ (j : Nat) (v : Value), r.fi.cs[j]? = some v → r.cs[4 + j]? = some v := by
  intro j v h
  simp only [Hd.cs, List.getElem?_toArray] at h
  simp only [Rl.cs, List.getElem?_toArray]
  rw [show 4 + j = j + 1 + 1 + 1 + 1 by omega]
  simpa using h
theorem Rl.v (r : Rl) (ok : RlOk r) : RulesV (.agg r.cs) r.sp r.lm := ⟨_, rfl, Rl.size ok, rfl, rfl, ok.sp, ok.lm⟩
def Rl.out (r : Rl) : Bool := decide (r.ev < 2) || decide (2016 < r.ev) || decide (r.sp < 1) || decide (2147483648 < r.sp) || decide (r.cf < 1) || decide (100 < r.cf)
def checkR (r : Rl) : Int := if r.out then 1 else if decE r.lm ≠ 0 then decE r.lm else checkE r.fi (decT r.lm)

set_option maxRecDepth 100000 in
set_option maxHeartbeats 4000000 in
theorem rck_1 (cs : Array Value) (ev cf : Int) (sp lm : Nat) (e0 : cs[0]? = some (.int .i64 ev)) (e1 : cs[1]? = some (.int .u32 (sp : Int))) (e2 : cs[2]? = some (.int .u32 (lm : Int))) (e3 : cs[3]? = some (.int .i64 cf)) (d1 : decide (ev < 2) = true) (w : World) : Calls Tryz.prog 21 #[.agg cs] w fun e w' => e = .returned (.int .i64 1) ∧ Chg [] w w' := by
  have bR := Blk.new w cs 30
  have c0 := bR.cell 0 e0
  have c1 := bR.cell 1 e1
  have c2 := bR.cell 2 e2
  have c3 := bR.cell 3 e3
  have k0 : Chg [] w (w.alloc (.cells cs 30)) := (Chg.refl _ _).alloc _
  clear e0 e1 e2 e3
  go_enter Tryz.func21, Tryz.ntmps21
  go_wp2
  go_ret
  exact ⟨rfl, k0⟩
set_option maxRecDepth 100000 in
set_option maxHeartbeats 4000000 in
theorem rck_2 (cs : Array Value) (ev cf : Int) (sp lm : Nat) (e0 : cs[0]? = some (.int .i64 ev)) (e1 : cs[1]? = some (.int .u32 (sp : Int))) (e2 : cs[2]? = some (.int .u32 (lm : Int))) (e3 : cs[3]? = some (.int .i64 cf)) (d1 : decide (ev < 2) = false) (d2 : decide (2016 < ev) = true) (w : World) : Calls Tryz.prog 21 #[.agg cs] w fun e w' => e = .returned (.int .i64 1) ∧ Chg [] w w' := by
  have bR := Blk.new w cs 30
  have c0 := bR.cell 0 e0
  have c1 := bR.cell 1 e1
  have c2 := bR.cell 2 e2
  have c3 := bR.cell 3 e3
  have k0 : Chg [] w (w.alloc (.cells cs 30)) := (Chg.refl _ _).alloc _
  clear e0 e1 e2 e3
  go_enter Tryz.func21, Tryz.ntmps21
  go_wp2
  go_ret
  exact ⟨rfl, k0⟩
set_option maxRecDepth 100000 in
set_option maxHeartbeats 4000000 in
theorem rck_3 (cs : Array Value) (ev cf : Int) (sp lm : Nat) (e0 : cs[0]? = some (.int .i64 ev)) (e1 : cs[1]? = some (.int .u32 (sp : Int))) (e2 : cs[2]? = some (.int .u32 (lm : Int))) (e3 : cs[3]? = some (.int .i64 cf)) (d1 : decide (ev < 2) = false) (d2 : decide (2016 < ev) = false) (d3 : decide ((sp : Int) < 1) = true) (w : World) : Calls Tryz.prog 21 #[.agg cs] w fun e w' => e = .returned (.int .i64 1) ∧ Chg [] w w' := by
  have bR := Blk.new w cs 30
  have c0 := bR.cell 0 e0
  have c1 := bR.cell 1 e1
  have c2 := bR.cell 2 e2
  have c3 := bR.cell 3 e3
  have k0 : Chg [] w (w.alloc (.cells cs 30)) := (Chg.refl _ _).alloc _
  clear e0 e1 e2 e3
  go_enter Tryz.func21, Tryz.ntmps21
  go_wp2
  go_ret
  exact ⟨rfl, k0⟩
set_option maxRecDepth 100000 in
set_option maxHeartbeats 4000000 in
theorem rck_4 (cs : Array Value) (ev cf : Int) (sp lm : Nat) (e0 : cs[0]? = some (.int .i64 ev)) (e1 : cs[1]? = some (.int .u32 (sp : Int))) (e2 : cs[2]? = some (.int .u32 (lm : Int))) (e3 : cs[3]? = some (.int .i64 cf)) (d1 : decide (ev < 2) = false) (d2 : decide (2016 < ev) = false) (d3 : decide ((sp : Int) < 1) = false) (d4 : decide ((2147483648 : Int) < sp) = true) (w : World) : Calls Tryz.prog 21 #[.agg cs] w fun e w' => e = .returned (.int .i64 1) ∧ Chg [] w w' := by
  have bR := Blk.new w cs 30
  have c0 := bR.cell 0 e0
  have c1 := bR.cell 1 e1
  have c2 := bR.cell 2 e2
  have c3 := bR.cell 3 e3
  have k0 : Chg [] w (w.alloc (.cells cs 30)) := (Chg.refl _ _).alloc _
  clear e0 e1 e2 e3
  go_enter Tryz.func21, Tryz.ntmps21
  go_wp2
  go_ret
  exact ⟨rfl, k0⟩
set_option maxRecDepth 100000 in
set_option maxHeartbeats 4000000 in
theorem rck_5 (cs : Array Value) (ev cf : Int) (sp lm : Nat) (e0 : cs[0]? = some (.int .i64 ev)) (e1 : cs[1]? = some (.int .u32 (sp : Int))) (e2 : cs[2]? = some (.int .u32 (lm : Int))) (e3 : cs[3]? = some (.int .i64 cf)) (d1 : decide (ev < 2) = false) (d2 : decide (2016 < ev) = false) (d3 : decide ((sp : Int) < 1) = false) (d4 : decide ((2147483648 : Int) < sp) = false) (d5 : decide (cf < 1) = true) (w : World) : Calls Tryz.prog 21 #[.agg cs] w fun e w' => e = .returned (.int .i64 1) ∧ Chg [] w w' := by
  have bR := Blk.new w cs 30
  have c0 := bR.cell 0 e0
  have c1 := bR.cell 1 e1
  have c2 := bR.cell 2 e2
  have c3 := bR.cell 3 e3
  have k0 : Chg [] w (w.alloc (.cells cs 30)) := (Chg.refl _ _).alloc _
  clear e0 e1 e2 e3
  go_enter Tryz.func21, Tryz.ntmps21
  go_wp2
  go_ret
  exact ⟨rfl, k0⟩
set_option maxRecDepth 100000 in
set_option maxHeartbeats 4000000 in
theorem rck_6 (cs : Array Value) (ev cf : Int) (sp lm : Nat) (e0 : cs[0]? = some (.int .i64 ev)) (e1 : cs[1]? = some (.int .u32 (sp : Int))) (e2 : cs[2]? = some (.int .u32 (lm : Int))) (e3 : cs[3]? = some (.int .i64 cf)) (d1 : decide (ev < 2) = false) (d2 : decide (2016 < ev) = false) (d3 : decide ((sp : Int) < 1) = false) (d4 : decide ((2147483648 : Int) < sp) = false) (d5 : decide (cf < 1) = false) (d6 : decide (100 < cf) = true) (w : World) : Calls Tryz.prog 21 #[.agg cs] w fun e w' => e = .returned (.int .i64 1) ∧ Chg [] w w' := by
  have bR := Blk.new w cs 30
  have c0 := bR.cell 0 e0
  have c1 := bR.cell 1 e1
  have c2 := bR.cell 2 e2
  have c3 := bR.cell 3 e3
  have k0 : Chg [] w (w.alloc (.cells cs 30)) := (Chg.refl _ _).alloc _
  clear e0 e1 e2 e3
  go_enter Tryz.func21, Tryz.ntmps21
  go_wp2
  go_ret
  exact ⟨rfl, k0⟩
set_option maxRecDepth 100000 in
set_option maxHeartbeats 4000000 in
theorem rck_7 (cs fs ts : Array Value) (ev cf ee ce : Int) (sp lm : Nat) (e0 : cs[0]? = some (.int .i64 ev)) (e1 : cs[1]? = some (.int .u32 (sp : Int))) (e2 : cs[2]? = some (.int .u32 (lm : Int))) (e3 : cs[3]? = some (.int .i64 cf)) (d1 : decide (ev < 2) = false) (d2 : decide (2016 < ev) = false) (d3 : decide ((sp : Int) < 1) = false) (d4 : decide ((2147483648 : Int) < sp) = false) (d5 : decide (cf < 1) = false) (d6 : decide (100 < cf) = false) (hfs : fs.size = 68) (hpart : ∀ (j : Nat) (v : Value), fs[j]? = some v → cs[4 + j]? = some v) (hts : ts.size = 4) (ht1 : ts.all (·.oneCell') = true)
    (hdec : ∀ w, Calls Tryz.prog 62 #[.int .u32 lm] w fun e w' => e = .returned (.tuple #[.agg ts, .int .i64 ee]) ∧ Chg [] w w')
    (hck : ∀ w, Calls Tryz.prog 39 #[.agg fs, .agg ts] w fun e w' => e = .returned (.int .i64 ce) ∧ Chg [] w w') (w : World) : Calls Tryz.prog 21 #[.agg cs] w fun e w' => e = .returned (.int .i64 (if ee ≠ 0 then ee else ce)) ∧ Chg [] w w' := by
  have bR := Blk.new w cs 30
  have c0 := bR.cell 0 e0
  have c1 := bR.cell 1 e1
  have c2 := bR.cell 2 e2
  have c3 := bR.cell 3 e3
  have k0 : Chg [] w (w.alloc (.cells cs 30)) := (Chg.refl _ _).alloc _
  clear e0 e1 e2 e3
  go_enter Tryz.func21, Tryz.ntmps21
  go_wp2_with fail
  clear d1 d2 d3 d4 d5 d6
  generalize w.alloc (.cells cs 30) = W0 at *
  refine (hdec _).mono ?_
  rintro e w1 ⟨rfl, k1⟩
  dsimp only
  have hst := run_storeCells_new (P := Tryz.prog) w1 51 #[.int .u64 0, .int .u64 0, .int .u64 0, .int .u64 0] ts (by rw [hts]; exact infoW4) (by rw [hts]; rfl) ht1
  have bT := Blk.new w1 ts 51
  have hld := load_blkC bT 4 hts
  have bR1 := (bR.chg k1 (by simp)).alloc (.cells ts 51)
  have hlp := load_part bR1 4 68 hfs hpart
  have k2 := (k0.trans k1 (by simp)).alloc (.cells ts 51)
  by_cases he : ee = 0
  · subst he
    go_wp2_with fail
    refine (hck _).mono ?_
    rintro e w2 ⟨rfl, k3⟩
    dsimp only
    go_wp2
    go_ret
    exact ⟨rfl, k2.trans k3 (by simp)⟩
  · have hb : (ee == 0) = false := by simp [he]
    have hif := Lib.hid (show (if ee ≠ 0 then ee else ce) = ee by simp [he])
    go_wp2
    go_ret
    exact ⟨by show Ending.returned (Value.int .i64 ee) = _; rw [← hif.out], k2⟩
theorem rules_Check (r : Rl) (ok : RlOk r) (w : World) :
    Calls Tryz.prog 21 #[.agg r.cs] w fun e w' => e = .returned (.int .i64 (checkR r)) ∧ Chg [] w w' := by
  have hdec := fun w => target_Decode r.lm ok.lm w
  have hck := fun w => header_Check r.fi ok.fi (decT r.lm) (decT_lt _) w
  obtain ⟨ts, e1, hts, ht1⟩ := wvC (decT r.lm)
  rw [e1] at hdec hck
  by_cases h1 : r.ev < 2
  · rw [show checkR r = 1 by unfold checkR Rl.out; simp [h1]]
    exact rck_1 r.cs r.ev r.cf r.sp r.lm rfl rfl rfl rfl (by simp; omega) w
  by_cases h2 : 2016 < r.ev
  · rw [show checkR r = 1 by unfold checkR Rl.out; simp [h1, h2]]
    exact rck_2 r.cs r.ev r.cf r.sp r.lm rfl rfl rfl rfl (by simp; omega) (by simp; omega) w
  by_cases h3 : r.sp < 1
  · rw [show checkR r = 1 by unfold checkR Rl.out; simp [h1, h2, h3]]
    exact rck_3 r.cs r.ev r.cf r.sp r.lm rfl rfl rfl rfl (by simp; omega) (by simp; omega) (by simp; omega) w
  by_cases h4 : 2147483648 < r.sp
  · rw [show checkR r = 1 by unfold checkR Rl.out; simp [h1, h2, h3, h4]]
    exact rck_4 r.cs r.ev r.cf r.sp r.lm rfl rfl rfl rfl (by simp; omega) (by simp; omega) (by simp; omega) (by simp; omega) w
  by_cases h5 : r.cf < 1
  · rw [show checkR r = 1 by unfold checkR Rl.out; simp [h1, h2, h3, h4, h5]]
    exact rck_5 r.cs r.ev r.cf r.sp r.lm rfl rfl rfl rfl (by simp; omega) (by simp; omega) (by simp; omega) (by simp; omega) (by simp; omega) w
  by_cases h6 : 100 < r.cf
  · rw [show checkR r = 1 by unfold checkR Rl.out; simp [h1, h2, h3, h4, h5, h6]]
    exact rck_6 r.cs r.ev r.cf r.sp r.lm rfl rfl rfl rfl (by simp; omega) (by simp; omega) (by simp; omega) (by simp; omega) (by simp; omega) (by simp; omega) w
  have hx : checkR r = if decE r.lm ≠ 0 then decE r.lm else checkE r.fi (decT r.lm) := by unfold checkR Rl.out; simp [h1, h2, h3, h4, h5, h6]
  rw [hx]
  exact rck_7 r.cs r.fi.cs ts r.ev r.cf _ _ r.sp r.lm rfl rfl rfl rfl (by simp; omega) (by simp; omega) (by simp; omega) (by simp; omega) (by simp; omega) (by simp; omega) (Hd.size ok.fi) (Rl.part r) hts ht1 hdec hck w
end Go.Proofs.YtmkgbinmilcojaaGreat

/- Package tree: nodes' cells; what is built of parts. -/
namespace Go.Proofs.YtmkgbinmilcojaaGreat
open Go.RowKit Go.Maps
attribute [-go_sem] loadCellsFrom

section
variable {w : World} {o : Oper} {a : Act} {K : Act → World → Prop} {Q : Exit → Act → World → Prop}
theorem op_box (t : TypeId) (d : Nat) (hd : o.dst = some d) (x : Operand) (ho : o.op = .box t x) {cs : Array Value} (hx : a.eval x = .agg cs)
    (h : K (a.put (some d) (.pointer (some ⟨w.heap.size, 0, none⟩))) (w.alloc (.cells cs t))) : o.wp Tryz.prog a w K Q := by
  unfold Oper.wp
  simp [execOp, ho, hx, Instr.box, newVar, newRow, Value.cells, Result.andThen]
  show K (a.put o.dst _) _; rw [hd]; exact h
end
theorem cells_fn {cs : Array Value} {n : Nat} (h : cs.size = n) : cs = ((List.range n).map (fun i => cs.getD i undef)).toArray := by
  apply Array.ext_getElem?
  intro i
  by_cases hi : i < n
  · simp [hi, h]
  · simp [hi, h]
def fnC (n : Nat) (f : Nat → Value) : List Value := (List.range n).map f
/-- a node's cells. -/
def nodeL (hl hs : List Value) (p : Option Addr) (n a b c d k : Int) : List Value := hl ++ (hs ++ [Value.pointer p, Value.int .i64 n, Value.int .u64 a, Value.int .u64 b, Value.int .u64 c, Value.int .u64 d, Value.int .i64 k])
set_option maxRecDepth 100000 in
theorem build_node_fn (f g : Nat → Value) (w : World) : (Instr.build 86 #[(0, .agg (fnC 68 f).toArray), (1, .agg (fnC 32 g).toArray)]).run Tryz.prog w =
    .ok (.agg (nodeL (fnC 68 f) (fnC 32 g) none 0 0 0 0 0 0).toArray) w := by kernel_rfl
set_option maxRecDepth 100000 in
theorem build_node4_fn (f g : Nat → Value) (p : Option Addr) (n : Int) (w : World) : (Instr.build 86 #[(0, .agg (fnC 68 f).toArray), (1, .agg (fnC 32 g).toArray), (2, .pointer p), (3, .int .i64 n)]).run Tryz.prog w =
    .ok (.agg (nodeL (fnC 68 f) (fnC 32 g) p n 0 0 0 0 0).toArray) w := by kernel_rfl
set_option maxRecDepth 100000 in
theorem build_tree_fn' (f : Nat → Value) (m : Option Nat) (a : Option Addr) (x y : Nat) (n : Int) (w : World) : (Instr.build 91 #[(0, .agg (fnC 72 f).toArray), (1, .map m), (2, .slice a x y), (3, .int .i64 n)]).run Tryz.prog w =
    .ok (.agg (fnC 72 f ++ [Value.map m, Value.slice a x y, Value.int .i64 n]).toArray) w := by kernel_rfl
set_option maxRecDepth 100000 in
theorem build_relay_fn (f : Nat → Value) (p : Option Addr) (w : World) : (Instr.build 124 #[(0, .agg (fnC 72 f).toArray), (1, .pointer p)]).run Tryz.prog w =
    .ok (.agg (fnC 72 f ++ [Value.pointer p, Value.int .i64 0]).toArray) w := by kernel_rfl
set_option maxRecDepth 100000 in
theorem build_rules_fn (f : Nat → Value) (e s l c : Int) (w : World) : (Instr.build 30 #[(0, .int .i64 e), (1, .int .u32 s), (2, .int .u32 l), (3, .int .i64 c), (4, .agg (fnC 68 f).toArray)]).run Tryz.prog w =
    .ok (.agg (Value.int .i64 e :: Value.int .u32 s :: Value.int .u32 l :: Value.int .i64 c :: fnC 68 f).toArray) w := by kernel_rfl
set_option maxRecDepth 100000 in
theorem build_made_fn (f g : Nat → Value) (v t : Int) (w : World) : (Instr.build 28 #[(0, .int .u32 v), (1, .agg (fnC 32 f).toArray), (3, .int .u32 t), (2, .agg (fnC 32 g).toArray)]).run Tryz.prog w =
    .ok (.agg (Value.int .u32 v :: (fnC 32 f ++ (fnC 32 g ++ [Value.int .u32 t, Value.int .u32 0, Value.int .u32 0]))).toArray) w := by kernel_rfl
theorem list_fn {l : List Value} {n : Nat} (h : l.length = n) : l = fnC n (fun i => l.getD i undef) := by
  apply List.ext_getElem?
  intro i
  by_cases hi : i < n
  · simp [fnC, hi, h]
  · simp [fnC, hi, h]
theorem build_node {hl hs : List Value} (h1 : hl.length = 68) (h2 : hs.length = 32) (w : World) : (Instr.build 86 #[(0, .agg hl.toArray), (1, .agg hs.toArray)]).run Tryz.prog w = .ok (.agg (nodeL hl hs none 0 0 0 0 0 0).toArray) w := by
  rw [list_fn h1, list_fn h2]; exact build_node_fn _ _ w
theorem build_node4 {hl hs : List Value} (h1 : hl.length = 68) (h2 : hs.length = 32) (p : Option Addr) (n : Int) (w : World) : (Instr.build 86 #[(0, .agg hl.toArray), (1, .agg hs.toArray), (2, .pointer p), (3, .int .i64 n)]).run Tryz.prog w = .ok (.agg (nodeL hl hs p n 0 0 0 0 0).toArray) w := by
  rw [list_fn h1, list_fn h2]; exact build_node4_fn _ _ p n w
theorem build_tree {l : List Value} (h : l.length = 72) (m : Option Nat) (a : Option Addr) (x y : Nat) (n : Int) (w : World) : (Instr.build 91 #[(0, .agg l.toArray), (1, .map m), (2, .slice a x y), (3, .int .i64 n)]).run Tryz.prog w = .ok (.agg (l ++ [Value.map m, Value.slice a x y, Value.int .i64 n]).toArray) w := by
  rw [list_fn h]; exact build_tree_fn' _ m a x y n w
theorem build_relay {l : List Value} (h : l.length = 72) (p : Option Addr) (w : World) : (Instr.build 124 #[(0, .agg l.toArray), (1, .pointer p)]).run Tryz.prog w = .ok (.agg (l ++ [Value.pointer p, Value.int .i64 0]).toArray) w := by
  rw [list_fn h]; exact build_relay_fn _ p w
theorem build_rules {l : List Value} (h : l.length = 68) (e s c d : Int) (w : World) : (Instr.build 30 #[(0, .int .i64 e), (1, .int .u32 s), (2, .int .u32 c), (3, .int .i64 d), (4, .agg l.toArray)]).run Tryz.prog w = .ok (.agg (Value.int .i64 e :: Value.int .u32 s :: Value.int .u32 c :: Value.int .i64 d :: l).toArray) w := by
  rw [list_fn h]; exact build_rules_fn _ e s c d w
theorem build_made {l m : List Value} (h : l.length = 32) (h2 : m.length = 32) (v t : Int) (w : World) : (Instr.build 28 #[(0, .int .u32 v), (1, .agg l.toArray), (3, .int .u32 t), (2, .agg m.toArray)]).run Tryz.prog w = .ok (.agg (Value.int .u32 v :: (l ++ (m ++ [Value.int .u32 t, Value.int .u32 0, Value.int .u32 0]))).toArray) w := by
  rw [list_fn h, list_fn h2]; exact build_made_fn _ _ v t w
end Go.Proofs.YtmkgbinmilcojaaGreat

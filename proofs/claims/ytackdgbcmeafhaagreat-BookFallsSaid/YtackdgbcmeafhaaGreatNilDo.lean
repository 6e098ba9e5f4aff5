import Derived.Test.YtackdgbcmeafhaaGreatReg0

/- A book that isn't there: what is left of it; law20.All of it. -/
namespace Go.Proofs.YtackdgbcmeafhaaGreat
open Go.RowKit Go.Maps Go.Shelf
attribute [local go_sem] Oper.semAt_some

set_option maxRecDepth 100000 in
set_option maxHeartbeats 1000000 in
theorem book_Register_nil (k : Int) (ad : Array Value) (col : Int) (had : ad.size = 20) (hone : ad.all (·.oneCell') = true) (w : World) : Calls Tryz.prog 15 #[.pointer none, .int .u8 k, .agg ad, .int .u64 col] w fun e w' => e = .returned (.int .i64 1) ∧ Chg [] w w' := by
  go_enter Tryz.func15, Tryz.ntmps15
  go_wp2
  exact bodyPost_ret (v := .int .i64 1) (by simp [results, Tryz.results15, go_sem]) rfl ⟨rfl, (by repeat (first | exact Chg.refl _ _ | refine Chg.alloc ?_ _ | refine Chg.drew ?_ | refine Chg.drewN ?_ _ | refine Chg.setCell ?_ (.inr (by simp)) _))⟩
set_option maxRecDepth 100000 in
set_option maxHeartbeats 1000000 in
theorem book_Pool_nil (w : World) : Calls Tryz.prog 21 #[.pointer none] w fun e w' => e = .returned (.agg #[.int .u64 0, .int .u64 0]) ∧ Chg [] w w' := by
  go_enter Tryz.func21, Tryz.ntmps21
  go_wp2
  exact bodyPost_ret (v := .agg #[.int .u64 0, .int .u64 0]) (by simp [results, Tryz.results21, go_sem]) rfl ⟨rfl, (by repeat (first | exact Chg.refl _ _ | refine Chg.alloc ?_ _ | refine Chg.drew ?_ | refine Chg.drewN ?_ _ | refine Chg.setCell ?_ (.inr (by simp)) _))⟩
set_option maxRecDepth 100000 in
set_option maxHeartbeats 1000000 in
theorem book_Rules_nil (w : World) : Calls Tryz.prog 36 #[.pointer none] w fun e w' => e = .returned (.agg #[.int .u64 0, .int .u64 0, .int .u64 0, .int .u64 0, .int .u64 0, .int .u64 0, .int .u64 0, .int .u64 0, .int .u64 0, .int .u64 0, .int .u64 0]) ∧ Chg [] w w' := by
  go_enter Tryz.func36, Tryz.ntmps36
  go_wp2
  exact bodyPost_ret (v := .agg #[.int .u64 0, .int .u64 0, .int .u64 0, .int .u64 0, .int .u64 0, .int .u64 0, .int .u64 0, .int .u64 0, .int .u64 0, .int .u64 0, .int .u64 0]) (by simp [results, Tryz.results36, go_sem]) rfl ⟨rfl, (by repeat (first | exact Chg.refl _ _ | refine Chg.alloc ?_ _ | refine Chg.drew ?_ | refine Chg.drewN ?_ _ | refine Chg.setCell ?_ (.inr (by simp)) _))⟩
attribute [-go_sem] loadCellsFrom
set_option maxRecDepth 100000 in
set_option maxHeartbeats 1000000 in
theorem book_Vault_nil (k : Int) (w : World) : Calls Tryz.prog 20 #[.pointer none, .int .u8 k] w fun e w' => e = .returned (.tuple #[.agg zVt, .bool false]) ∧ Chg [] w w' := by
  have hz := zVault
  have hst := run_storeCells_new (P := Tryz.prog) w 52 zVt zVt (by kernel_rfl) rfl (by kernel_rfl)
  have hld := load_blk (Blk.new w zVt 52) 27 (by kernel_rfl)
  go_enter Tryz.func20, Tryz.ntmps20
  go_wp2
  exact bodyPost_ret (v := .tuple #[.agg zVt, .bool false]) (by simp [results, Tryz.results20, go_sem, hld]) rfl ⟨rfl, (by repeat (first | exact Chg.refl _ _ | refine Chg.alloc ?_ _ | refine Chg.drew ?_ | refine Chg.drewN ?_ _ | refine Chg.setCell ?_ (.inr (by simp)) _))⟩
set_option maxRecDepth 100000 in
set_option maxHeartbeats 1000000 in
theorem oracle_Set_nil (p now : Int) (w : World) : Calls Tryz.prog 11 #[.pointer none, .int .u64 p, .int .u64 now] w fun e w' => e = .returned (.int .i64 1) ∧ w = w' := by
  go_enter Tryz.func11, Tryz.ntmps11
  go_wp2
  go_ret
  exact ⟨rfl, rfl⟩
set_option maxHeartbeats 400000 in
theorem book_Vaults_nil (w : World) : Calls Tryz.prog 33 #[.pointer none] w fun e w' => e = .returned (.func (.func 90) #[] #[.pointer (some ⟨w.heap.size, 0, none⟩)]) ∧ w' = w.alloc (.cells #[.pointer none] 32) := by
  go_enter Tryz.func33, Tryz.ntmps33
  go_wp2
  go_ret
  exact ⟨rfl, rfl⟩
set_option maxHeartbeats 400000 in
theorem book_Vaults1_nil (F : Fence) (n : Nat) (h6 : F.fn 90) (hro : F.round = none) (b : Nat) (w : World) (hb : Blk w b #[.pointer none] 32) (encs : Empty → Array Value) (Kp : World → World → Prop) :
    SeqStopsK F n Tryz.prog 90 #[.pointer (some ⟨b, 0, none⟩)] encs Kp (fun xs => xs = []) (fun _ => False) 0 w := fun l J Jx W hW hJ hJx hY h0 => by
  have c0 : W.cell? ⟨b, 0, none⟩ = some (.pointer none) := (hW.cell (p := ⟨b, 0, none⟩) hb.lt).trans (hb.cell 0 rfl)
  refine callsIn_of_wp Tryz.func90 rfl h6 ?_ hro
  simp only [Tryz.ntmps90, List.size_toArray, List.length_cons, List.length_nil, Nat.reduceAdd, Nat.reduceSub, Array.replicate_succ, Array.replicate_zero, List.push_toArray, List.append_toArray, List.nil_append, List.cons_append]
  gi_wp2
  refine bodyPost_ret (results_none rfl _ _ _) rfl ?_
  exact ⟨⟨_, rfl⟩, .inl ⟨[], rfl, h0⟩⟩
theorem seq_ne (f : Nat) (lb : Array Value) (w : World) : (binOp BinOp.eql 85 (.func (.func f) #[] lb) .nilFunc).run Tryz.prog w = .ok (.bool false) w := by
  kernel_rfl
set_option maxRecDepth 100000 in
set_option maxHeartbeats 1000000 in
theorem law20_All_nil (b : Nat) (w : World) (hb : Blk w b #[.pointer none] 32) :
    Calls Tryz.prog 32 #[.func (.func 90) #[] #[.pointer (some ⟨b, 0, none⟩)]] w fun e w' => e = .returned (.slice none 0 0) ∧ Chg [] w w' := by
  refine (callsIn_wide (n := 3)).1 ?_
  refine callsIn_of_wp_marks Tryz.func32 rfl trivial ?_ rfl
  simp only [Tryz.ntmps32, List.size_toArray, List.length_cons, List.length_nil, Nat.reduceAdd, Nat.reduceSub, Array.replicate_succ, Array.replicate_zero, List.push_toArray, List.append_toArray, List.nil_append, List.cons_append]
  have hne := seq_ne 90 #[.pointer (some ⟨b, 0, none⟩)]
  gi_wp2
  have hb1 : Blk (w.alloc (.cells #[.slice none 0 0] 82)) b #[.pointer none] 32 := hb.alloc _
  have hx := Blk.new w #[.slice none 0 0] 82
  refine wpIn_rangeFunc_ownF rfl (by omega) (gf := 90) (lb := #[.pointer (some ⟨b, 0, none⟩)]) rfl trivial (enters_of Tryz.func90 (by kernel_rfl) rfl)
    (book_Vaults1_nil Fence.wide _ trivial rfl b _ hb1 (fun x => x.elim) KeepsWalks) walksK_t walksK_b (Below.refl _ _) (fun x => x.elim)
    (fun pre W => Chg [] w W ∧ W.cell? ⟨w.heap.size, 0, none⟩ = some (.slice none 0 0)) (fun _ _ _ => False) ?hI ?hIx ?h0 (fun _ => { tmps := #[], defers := [] }) ?assign ?body ?done ?stop
  case hI => exact fun s A B row hs hg hr => ⟨hs.1.grown hg (fun k e => .inr (by have := (hr k e).1; simp at this; omega)), cell_kept hs.2 hg (fun r e => (hr r e).2)⟩
  case hIx => exact fun _ _ _ _ _ hs _ _ => hs
  case h0 => exact ⟨(Chg.refl _ _).alloc _, hx.cell 0 rfl⟩
  case assign => exact fun _ x => x.elim
  case body => exact fun _ _ x => x.elim
  case stop => exact fun _ _ _ _ _ h => h.elim
  case done =>
    rintro D ys W hD rfl ⟨hC, hc⟩ hK
    simp at hD
    gi_wp2
    refine ⟨by simp, .inl ⟨_, _, rfl, run_takeDeferred hK, ?_⟩⟩
    exact ⟨_, results_tmp rfl _ _ _, rfl, hC.grown (grownBy_putObj' _ D _) (fun k e => .inr (by cases e; omega))⟩
end Go.Proofs.YtackdgbcmeafhaaGreat

/- Layer 20: near; do, of a book that isn't there. -/
namespace Go.Proofs.YtackdgbcmeafhaaGreat
open Go.RowKit Go.Maps Go.Shelf
attribute [-go_sem] loadCellsFrom

def deed (kind x y a : Int) (ad : Array Value) : Array Value := #[.int .i64 kind, .int .i64 x, .int .i64 y, .int .u64 a] ++ ad
theorem deed_lit (kind x y a : Int) (a0 a1 a2 a3 a4 a5 a6 a7 a8 a9 a10 a11 a12 a13 a14 a15 a16 a17 a18 a19 : Value) : deed kind x y a #[a0, a1, a2, a3, a4, a5, a6, a7, a8, a9, a10, a11, a12, a13, a14, a15, a16, a17, a18, a19] = #[.int .i64 kind, .int .i64 x, .int .i64 y, .int .u64 a, a0, a1, a2, a3, a4, a5, a6, a7, a8, a9, a10, a11, a12, a13, a14, a15, a16, a17, a18, a19] := by
  simp [deed]
def near20 (x : Int) : Int := x % 256
theorem near_eq (x : Int) : wrap64 ((IntKind.u64.wrap x).tmod 256) = near20 x := by
  have h : IntKind.u64.wrap x = x % 18446744073709551616 := rfl
  rw [h, Int.tmod_eq_emod_of_nonneg (by omega)]
  unfold wrap64 near20
  omega
theorem near_range (x : Int) : 0 ≤ near20 x ∧ near20 x ≤ 255 := by unfold near20; omega
set_option maxRecDepth 100000 in
set_option maxHeartbeats 2000000 in
theorem law20_near (kind x y a : Int) (ad : Array Value) (had : ad.size = 20) (hone : ad.all (·.oneCell') = true) (w : World) :
    Calls Tryz.prog 25 #[.agg (deed kind x y a ad)] w fun e w' => e = .returned (.agg (deed kind (near20 x) (near20 y) a ad)) ∧ Chg [] w w' := by
  obtain ⟨a0, a1, a2, a3, a4, a5, a6, a7, a8, a9, a10, a11, a12, a13, a14, a15, a16, a17, a18, a19, rfl⟩ := arr20 had
  rw [deed_lit, deed_lit]
  go_enter Tryz.func25, Tryz.ntmps25
  go_wp2
  generalize hcs : (#[.int .i64 kind, .int .i64 (wrap64 ((IntKind.u64.wrap x).tmod 256)), .int .i64 (wrap64 ((IntKind.u64.wrap y).tmod 256)), .int .u64 a, a0, a1, a2, a3, a4, a5, a6, a7, a8, a9, a10, a11, a12, a13, a14, a15, a16, a17, a18, a19] : Array Value) = cs
  have hsz : cs.size = 24 := by rw [← hcs]; rfl
  have h1 : cs.all (·.oneCell') = true := by rw [← hcs]; simpa [Value.oneCell', and_assoc] using hone
  have hcs2 := Lib.hid hcs
  clear hcs
  have hld := load_blk ((Blk.new w cs 63).alloc (.cells #[.int .i64 0, .int .i64 0, .int .i64 0, .int .u64 0, .int .u8 0, .int .u8 0, .int .u8 0, .int .u8 0, .int .u8 0, .int .u8 0, .int .u8 0, .int .u8 0, .int .u8 0, .int .u8 0, .int .u8 0, .int .u8 0, .int .u8 0, .int .u8 0, .int .u8 0, .int .u8 0, .int .u8 0, .int .u8 0, .int .u8 0, .int .u8 0] 63)) 24 hsz
  have hst := run_storeCells_new (P := Tryz.prog) (w.alloc (.cells cs 63)) 63 #[.int .i64 0, .int .i64 0, .int .i64 0, .int .u64 0, .int .u8 0, .int .u8 0, .int .u8 0, .int .u8 0, .int .u8 0, .int .u8 0, .int .u8 0, .int .u8 0, .int .u8 0, .int .u8 0, .int .u8 0, .int .u8 0, .int .u8 0, .int .u8 0, .int .u8 0, .int .u8 0, .int .u8 0, .int .u8 0, .int .u8 0, .int .u8 0] cs (by rw [hsz]; kernel_rfl) (by rw [hsz]; rfl) h1
  have s1 : (w.alloc (.cells cs 63)).heap.size = w.heap.size + 1 := by simp
  rw [s1] at hst
  have hb := Blk.new (w.alloc (.cells cs 63)) cs 63
  rw [s1] at hb
  have hld2 := load_blk hb 24 hsz
  go_simp
  go_wp2
  refine bodyPost_ret (v := .agg cs) (by simp [results, Tryz.results25, go_sem, hld2]) rfl ⟨?_, (by repeat (first | exact Chg.refl _ _ | refine Chg.alloc ?_ _ | refine Chg.drew ?_ | refine Chg.drewN ?_ _ | refine Chg.setCell ?_ (.inr (by simp)) _))⟩
  rw [← hcs2.out, near_eq, near_eq]
end Go.Proofs.YtackdgbcmeafhaaGreat

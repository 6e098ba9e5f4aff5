import Derived.Test.YtmkgbinmilcojaaGreatMadeSt
import Derived.Test.YtmkgbinmilcojaaGreatDepthAll
import Derived.Test.YtmkgbinmilcojaaGreatRules12K
import Derived.Test.YtmkgbinmilcojaaGreatInvG

/- The example's trees and relay: the first block, and one behind it. -/
namespace Go.Proofs.YtmkgbinmilcojaaGreat
open Go.RowKit Go.Maps
attribute [-go_sem] loadCellsFrom Instr.build

theorem wkT : workN TT = 2 := by decide +kernel
theorem wk0 : hdW h0c = 2 := by
  unfold hdW; rw [show h0c.bt = 545259519 from rfl, kT]; exact wkT
theorem wk1 : hdW h1c = 2 := by
  unfold hdW; rw [show h1c.bt = 545259519 from rfl, kT]; exact wkT
def p0 (k : Nat) : Pn := ⟨h0c, none, 0, 2, k⟩
def p1 : Pn := ⟨h1c, some 0, 1, 4, 0⟩
def T0 : Tr := ⟨rC, [p0 0], [0], 1⟩
def T1 (ch : List Nat) : Tr := ⟨rC, [p0 1, p1], ch, 1⟩
theorem T0_eq : newT rC = T0 := by
  unfold newT T0 p0
  rw [show rC.fi = h0c from rfl, wk0]
theorem T1_eq : T0.grow h1c 0 (p0 0) = T1 [0] := by
  unfold Tr.grow T0 T1 newP p0 p1
  simp only [wk1]
  rfl
theorem h_p0 (k : Nat) : hdH (p0 k).h = H0 := hdH_h0
theorem h_p1 : hdH p1.h ≠ H0 := hne1
theorem top4 : (4 : Nat) < TOP ∧ (2 : Nat) < TOP := by decide +kernel
theorem get1 {α : Type} {a p : α} {i : Nat} (h : [a][i]? = some p) : i = 0 ∧ p = a := by
  match i, h with
  | 0, h => exact ⟨rfl, by simpa using h.symm⟩
  | i + 1, h => simp at h
theorem get2 {α : Type} {a b p : α} {i : Nat} (h : [a, b][i]? = some p) : (i = 0 ∧ p = a) ∨ (i = 1 ∧ p = b) := by
  match i, h with
  | 0, h => exact .inl ⟨rfl, by simpa using h.symm⟩
  | 1, h => exact .inr ⟨rfl, by simpa using h.symm⟩
  | i + 2, h => simp at h
theorem find0 : T0.find H0 = some 0 := by
  unfold Tr.find T0
  rw [List.findIdx?_cons, show hdH (p0 0).h = H0 from hdH_h0]
  simp
theorem find0n : T0.find (hdH h1c) = none := by
  unfold Tr.find T0
  rw [List.findIdx?_cons, show hdH (p0 0).h = H0 from hdH_h0]
  simp [Ne.symm hne1]
theorem find1 (ch : List Nat) : (T1 ch).find H0 = some 0 := by
  unfold Tr.find T1
  rw [List.findIdx?_cons, show hdH (p0 1).h = H0 from hdH_h0]
  simp
theorem find2 (ch : List Nat) : (T1 ch).find (hdH h1c) = some 1 := by
  unfold Tr.find T1
  rw [List.findIdx?_cons, List.findIdx?_cons, show hdH (p0 1).h = H0 from hdH_h0, show p1.h = h1c from rfl]
  simp [Ne.symm hne1]
theorem due0 : T0.due (p0 0) = false := by decide
theorem med0 : medT T0 0 = 1000 := by
  have h : timesN T0 11 (some 0) = [1000] := by decide
  unfold medT
  rw [h]
  simp [srt]
theorem I0 : TrInv T0 := by rw [← T0_eq]; exact TrInv.new okR ckR
theorem okT0 : TrOk T0 := I0.ok
theorem HK0 : HK H0 := ⟨H0_len, H0_lt⟩
theorem chk0 : T0.chkE h1c 0 (p0 0) = 0 := by
  unfold Tr.chkE
  have e1 : T0.nbE (p0 0) = 0 := by unfold Tr.nbE; rw [due0]; rfl
  have e2 : T0.nb 0 (p0 0) = 545259519 := by unfold Tr.nb; rw [due0]; rfl
  rw [if_neg (by rw [e1, e2]; simp [h1c]), show T0.r.lm = 545259519 from rfl, kT, ck1, if_neg (by simp), med0, if_neg (by decide), if_neg (by decide)]
theorem turn01 : (T1 [0]).turnTo 1 = T1 [0, 1] := rfl
theorem add_of {T : Tr} {h : Hd} {i : Nat} {p : Pn} (hs : T.find (hdH h) = none) (hi : T.find h.ah = some i) (hp : T.ns[i]? = some p) : T.add h = T.add1 h i p := by
  unfold Tr.add
  simp only [hs, Option.isSome_none, Bool.false_eq_true, if_false, hi, Option.bind_some, hp, Option.map_some]
theorem add0 : T0.add h1c = (0, T1 [0, 1]) := by
  rw [add_of (i := 0) (p := p0 0) find0n find0 rfl]
  unfold Tr.add1
  rw [chk0, if_neg (by simp)]
  have e : (newP h1c 0 (p0 0)).wk = 4 := by
    show (2 + hdW h1c) % TOP = 4
    rw [wk1]; decide +kernel
  rw [show T0.wkL = 2 from rfl, e, if_pos (by omega), T1_eq]
  show (0, (T1 [0]).turnTo 1) = _
  rw [turn01]
theorem I2 : TrInv (T1 [0, 1]) := by have := I0.add ok1c; rw [add0] at this; exact this
theorem okA2 : TrOk (T1 [0, 1]) := I2.ok
theorem best2 : (T1 [0, 1]).best = hdH h1c := rfl
theorem isB0 : T0.isB h1c = true := by unfold Tr.isB; rw [add0]; show decide ((T1 [0, 1]).best = hdH h1c) = true; rw [best2]; simp
theorem turned0 : T0.turned h1c = 0 := by unfold Tr.turned; rw [isB0, if_pos rfl, add0]; rfl
theorem deep0 : T0.deep h1c 0 = 0 := by unfold Tr.deep; rw [add0, if_pos rfl, turned0]; rfl
theorem told0v : T0.told h1c = bytesV (hdH h1c) ++ [Value.int .i64 1, Value.bool true, Value.int .i64 0] := by
  unfold Tr.told
  rw [add0, if_pos rfl, isB0, turned0]; rfl
theorem submit13 (rb g off cap : Nat) (x : Lt) (w : World) (h : RelAt w rb x T0 0) (hrx : rb ∉ x.all) (hp : BytesAt w g off (hdB h1c)) (hg : g < w.heap.size) :
    Calls Tryz.prog 23 #[.pointer (some ⟨rb, 0, none⟩), .slice (some ⟨g, off, none⟩) 80 cap] w fun e w' => e = .returned (.tuple #[.agg (bytesV (hdH h1c) ++ [Value.int .i64 1, Value.bool true, Value.int .i64 0]).toArray, .int .i64 0]) ∧
      ∃ y, y.b = x.b ∧ RelAt w' rb y (T1 [0, 1]) 0 ∧ Chg (rb :: x.all) w w' := by
  have := relay_Submit rb g off cap 0 x T0 I0 h1c ok1c w h hrx hp hg
  rw [told0v, add0, deep0] at this
  refine this.mono ?_
  rintro e w' ⟨he, y, hy, hR, _, _, hc⟩
  exact ⟨he, y, hy, hR, hc⟩
theorem dep1 : (T1 [0, 1]).depth (hdH h1c) = 1 := by unfold Tr.depth; rw [find2]; rfl
theorem dep0 : (T1 [0, 1]).depth H0 = 2 := by unfold Tr.depth; rw [find1]; rfl
theorem conf1 : (T1 [0, 1]).conf (hdH h1c) = 13 := by unfold Tr.conf; rw [find2, dep1]; rfl
theorem conf0 : (T1 [0, 1]).conf H0 = 0 := by unfold Tr.conf; rw [find1, dep0]; rfl
theorem conf13a (rb : Nat) (y : Lt) (w : World) (h : RelAt w rb y (T1 [0, 1]) 0) : Calls Tryz.prog 30 #[.pointer (some ⟨rb, 0, none⟩), hv (hdH h1c)] w fun e w' => e = .returned (.int .i64 13) ∧ Chg [] w w' := by
  have := relay_Confirmed rb y (T1 [0, 1]) I2 0 (hdH h1c) (HK_hash _) w h
  rw [conf1] at this; exact this
theorem conf13b (rb : Nat) (y : Lt) (w : World) (h : RelAt w rb y (T1 [0, 1]) 0) : Calls Tryz.prog 30 #[.pointer (some ⟨rb, 0, none⟩), hv H0] w fun e w' => e = .returned (.int .i64 0) ∧ Chg [] w w' := by
  have := relay_Confirmed rb y (T1 [0, 1]) I2 0 H0 HK0 w h
  rw [conf0] at this; exact this
set_option maxRecDepth 100000 in
theorem relay_Tree (rb : Nat) (x : Lt) (T : Tr) (hr : RlOk T.r) (d : Nat) (w : World) (h : RelAt w rb x T d) :
    Calls Tryz.prog 22 #[.pointer (some ⟨rb, 0, none⟩)] w fun e w' => e = .returned (.pointer (some ⟨x.b, 0, none⟩)) ∧ Chg [] w w' := by
  have c72 := h.blk.cell 72 (r_cell (Rl.len hr) _ _).1
  go_enter Tryz.func22, Tryz.ntmps22
  go_wp2
  go_ret
  exact ⟨rfl, Chg.refl _ _⟩
end Go.Proofs.YtmkgbinmilcojaaGreat

/- pontagelaw12.Rules, of any numbers. -/
namespace Go.Proofs.YtmkgbinmilcojaaGreat
open Go.RowKit Go.Maps
attribute [-go_sem] loadCellsFrom Instr.build

/-- the rules that a law's numbers make. -/
def rG (a s c : Nat) : Rl := ⟨((2 + a % 6 : Nat) : Int), 1 + s % 1000, 545259519, ((1 + c % 4 : Nat) : Int), h0c⟩
theorem rG_ok (a s c : Nat) : RlOk (rG a s c) := by
  have h1 : a % 6 < 6 := Nat.mod_lt _ (by omega)
  have h2 : s % 1000 < 1000 := Nat.mod_lt _ (by omega)
  have h3 : c % 4 < 4 := Nat.mod_lt _ (by omega)
  constructor <;> simp only [rG] <;> first | exact ok0c | omega
theorem rG_ck (a s c : Nat) : checkR (rG a s c) = 0 := by
  have h1 : a % 6 < 6 := Nat.mod_lt _ (by omega)
  have h2 : s % 1000 < 1000 := Nat.mod_lt _ (by omega)
  have h3 : c % 4 < 4 := Nat.mod_lt _ (by omega)
  unfold checkR
  rw [if_neg (fun h => by simp [Rl.out, rG] at h; rcases h with (((h | h) | h) | h) | h <;> have h9 := of_decide_eq_true h <;> omega), show (rG a s c).lm = 545259519 from rfl, kE, kT, if_neg (by simp)]
  exact ck0
theorem rG_inv (a s c : Nat) : TrInv (newT (rG a s c)) := TrInv.new (rG_ok a s c) (rG_ck a s c)
set_option maxRecDepth 100000 in
set_option maxHeartbeats 4000000 in
theorem law12_RulesV (e s c A B A2 B2 C E S F : Int) (h1 : IntKind.u64.wrap e = A) (h2 : A.tmod 6 = B) (_ : IntKind.u64.wrap B = B) (h3 : IntKind.i64.wrap B = B) (h4 : IntKind.i64.wrap (2 + B) = E) (s1 : s.tmod 1000 = C) (_ : IntKind.u32.wrap C = C) (s2 : IntKind.u32.wrap (1 + C) = S)
    (c1 : IntKind.u64.wrap c = A2) (c2 : A2.tmod 4 = B2) (_ : IntKind.u64.wrap B2 = B2) (c3 : IntKind.i64.wrap B2 = B2) (c4 : IntKind.i64.wrap (1 + B2) = F) (cr : Array Value) (hcr0 : cr = (Value.int .i64 E :: Value.int .u32 S :: Value.int .u32 545259519 :: Value.int .i64 F :: h0c.l).toArray) (w : World) :
    Calls Tryz.prog 9 #[.int .i64 e, .int .u32 s, .int .i64 c] w fun e w' => e = .returned (.agg cr) ∧ Chg [] w w' := by
  have hz := zeroRl
  have hzH := zeroHd
  have hbA := buildA
  have hmine := header_Mine hA okA 1000 (by omega)
  rw [mineA] at hmine
  simp only [Option.getD_some, Option.isSome_some] at hmine
  have hs0 := Hd.size ok0c
  have ho0 := Hd.one h0c
  have hbr := build_rules (l := h0c.l) (Hd.lsize ok0c) E S 545259519 F
  have hrs : cr.size = 72 := by rw [hcr0]; simp [Hd.lsize ok0c]
  have hro : cr.all (·.oneCell') = true := by
    rw [hcr0]
    have := Rl.one ⟨E, 0, 0, F, h0c⟩
    simp only [Rl.cs, List.all_toArray, List.all_cons, Bool.and_eq_true] at this ⊢
    exact ⟨rfl, rfl, rfl, rfl, this.2.2.2.2⟩
  rw [← hcr0] at hbr
  change ∀ w, (Instr.build 30 #[(0, .int .i64 E), (1, .int .u32 S), (2, .int .u32 545259519), (3, .int .i64 F), (4, .agg h0c.cs)]).run Tryz.prog w = .ok (.agg cr) w at hbr
  clear hcr0
  have hzs : (Rl.cs ⟨0, 0, 0, 0, hd0⟩).size = 72 := rfl
  have hhs : hd0.cs.size = 68 := Hd.size hd0_ok
  have bO := Blk.new w (Rl.cs ⟨0, 0, 0, 0, hd0⟩) 30
  have k0 : Chg [] w (w.alloc (.cells (Rl.cs ⟨0, 0, 0, 0, hd0⟩) 30)) := (Chg.refl _ _).alloc _
  generalize Rl.cs ⟨0, 0, 0, 0, hd0⟩ = zr at *
  generalize hd0.cs = zh at *
  generalize hA.cs = ca at *
  generalize h0c.cs = c0 at *
  go_enter Tryz.func9, Tryz.ntmps9
  go_wp2_with fail
  refine (hmine _).mono ?_
  rintro e w1 ⟨rfl, k1⟩
  dsimp only
  have hst := run_storeCells_new (P := Tryz.prog) w1 28 zh c0 (by rw [hs0]; exact infoHd) (by rw [hs0, hhs]) ho0
  have bH := Blk.new w1 c0 28
  have hld := load_blkC bH 68 hs0
  have bO1 := (bO.chg k1 (by simp)).alloc (.cells c0 28)
  have k2 := (k0.trans k1 (by simp)).alloc (.cells c0 28)
  obtain ⟨W9, hst9, b9, kk⟩ := store_cells bO1 (cs := cr) (by rw [hrs, hzs]) hro
  have hld9 := load_blkC b9 72 hrs
  go_wp2
  exact bodyPost_ret (v := .agg cr) (by simp [results, Tryz.results9, go_sem, hld9]) rfl ⟨rfl, k2.trans kk (by simp)⟩
theorem law12_RulesG (e c : Int) (s : Nat) (hs : s < 4294967296) (w : World) :
    Calls Tryz.prog 9 #[.int .i64 e, .int .u32 (s : Int), .int .i64 c] w fun e' w' => e' = .returned (.agg (rG (e % 18446744073709551616).toNat s (c % 18446744073709551616).toNat).cs) ∧ Chg [] w w' := by
  have u : ∀ z : Int, IntKind.u64.wrap z = ((z % 18446744073709551616).toNat : Int) := fun z => by
    rw [IntKind.wrap_u64]; omega
  generalize ha : (e % 18446744073709551616).toNat = a
  generalize hb : (c % 18446744073709551616).toNat = b
  have h1 : a % 6 < 6 := Nat.mod_lt _ (by omega)
  have h2 : s % 1000 < 1000 := Nat.mod_lt _ (by omega)
  have h3 : b % 4 < 4 := Nat.mod_lt _ (by omega)
  refine law12_RulesV e s c a (a % 6 : Nat) b (b % 4 : Nat) (s % 1000 : Nat) (2 + a % 6 : Nat) (1 + s % 1000 : Nat) (1 + b % 4 : Nat) (by rw [u, ha]) ?_ ?_ ?_ ?_ ?_ ?_ ?_ (by rw [u, hb]) ?_ ?_ ?_ ?_ _ rfl w
  · rw [Int.tmod_eq_emod_of_nonneg (by omega)]; omega
  · rw [IntKind.wrap_u64]; omega
  · rw [IntKind.wrap_i64]; omega
  · rw [IntKind.wrap_i64]; omega
  · rw [Int.tmod_eq_emod_of_nonneg (by omega)]; omega
  · rw [IntKind.wrap_u32]; omega
  · rw [IntKind.wrap_u32]; omega
  · rw [Int.tmod_eq_emod_of_nonneg (by omega)]; omega
  · rw [IntKind.wrap_u64]; omega
  · rw [IntKind.wrap_i64]; omega
  · rw [IntKind.wrap_i64]; omega
end Go.Proofs.YtmkgbinmilcojaaGreat

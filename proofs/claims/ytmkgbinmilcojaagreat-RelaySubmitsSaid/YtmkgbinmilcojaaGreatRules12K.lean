import Derived.Test.YtmkgbinmilcojaaGreatMeetsMine
import Derived.Test.YtmkgbinmilcojaaGreatRelayS

/- The two headers that the example mines, by the kernel. -/
namespace Go.Proofs.YtmkgbinmilcojaaGreat
open Go.RowKit Go.Maps

def z32n : List Nat := List.replicate 32 0
def hA : Hd := ⟨1, z32n, z32n, 1000, 545259519, 0⟩
def h0c : Hd := ⟨1, z32n, z32n, 1000, 545259519, 1⟩
def H0 : List Nat := [64, 212, 44, 169, 105, 242, 46, 26, 213, 113, 80, 86, 103, 22, 131, 220, 56, 26, 102, 175, 166, 60, 188, 192, 220, 97, 234, 162, 38, 110, 30, 39]
def h1c : Hd := ⟨2, H0, z32n, 1010, 545259519, 0⟩
def TT : Nat := 8388607 * 256 ^ 29
theorem numB_inj : ∀ {a b : List Nat}, a.length = b.length → (∀ x ∈ a, x < 256) → (∀ x ∈ b, x < 256) → numB a = numB b → a = b
  | [], [], _, _, _, _ => rfl
  | [], _ :: _, h, _, _, _ => by simp at h
  | _ :: _, [], h, _, _, _ => by simp at h
  | x :: a, y :: b, h, ha, hb, e => by
    have h1 := ha x (by simp)
    have h2 := hb y (by simp)
    simp only [numB, List.foldr_cons] at e
    have e1 : x = y := by omega
    have e2 : numB a = numB b := by unfold numB; omega
    rw [e1, numB_inj (by simpa using h) (fun z hz => ha z (by simp [hz])) (fun z hz => hb z (by simp [hz])) e2]
set_option maxRecDepth 100000
theorem kA : Nat.ble (numB (dblS (hdB hA))) TT = false := by decide +kernel
theorem k0h : Nat.beq (numB (dblS (hdB h0c))) (numB H0) = true := by decide +kernel
theorem k0t : Nat.ble (numB H0) TT = true := by decide +kernel
theorem k1t : Nat.ble (numB (dblS (hdB h1c))) TT = true := by decide +kernel
theorem k1n : Nat.beq (numB (dblS (hdB h1c))) (numB H0) = false := by decide +kernel
theorem kT : decT 545259519 = TT := by decide +kernel
theorem kE : decE 545259519 = 0 := by decide +kernel
end Go.Proofs.YtmkgbinmilcojaaGreat

/- pontagelaw12.Rules at the example's numbers. -/
namespace Go.Proofs.YtmkgbinmilcojaaGreat
open Go.RowKit Go.Maps
attribute [-go_sem] loadCellsFrom Instr.build

theorem kT2 : 2 ≤ TT ∧ TT < TOP := by decide +kernel
theorem k0e : numB (hdH h0c) = numB H0 := by unfold hdH; exact Nat.eq_of_beq_eq_true k0h
theorem H0_len : H0.length = 32 := by decide
theorem H0_lt : ∀ x ∈ H0, x < 256 := by decide
theorem hdH_h0 : hdH h0c = H0 := numB_inj ((hdH_len _).trans H0_len.symm) (hdH_lt _) H0_lt k0e
theorem okA : HdOk hA := by constructor <;> first | decide | (intro x hx; simp [hA, z32n] at hx; omega)
theorem ok0c : HdOk h0c := by constructor <;> first | decide | (intro x hx; simp [h0c, z32n] at hx; omega)
theorem ok1c : HdOk h1c := by constructor <;> first | decide | (intro x hx; simp [h1c, z32n] at hx; omega)
theorem mA : meetsB hA TT = false := by
  unfold meetsB
  have h := kA
  simp only [decide_eq_false_iff_not]
  intro h2
  unfold hdH at h2
  rw [Nat.ble_eq_true_of_le h2] at h
  cases h
theorem m0 : meetsB h0c TT = true := by
  unfold meetsB
  rw [hdH_h0]
  simpa using Nat.le_of_ble_eq_true k0t
theorem m1 : meetsB h1c TT = true := by
  unfold meetsB hdH
  simpa using Nat.le_of_ble_eq_true k1t
theorem hne1 : hdH h1c ≠ H0 := fun e => by
  have h := k1n
  rw [show dblS (hdB h1c) = H0 from e] at h
  simp at h
theorem mineA : mineR hA 1000 = some h0c := by
  unfold mineR
  rw [show hA.bt = 545259519 from rfl, kE, kT, if_neg (by simp), mineN_on mA (by decide) (by omega)]
  exact mineN_hit m0 _
theorem mine1 : mineR h1c 400 = some h1c := by
  unfold mineR
  rw [show h1c.bt = 545259519 from rfl, kE, kT, if_neg (by simp)]
  exact mineN_hit m1 _
theorem ck0 : checkE h0c TT = 0 := by
  unfold checkE
  rw [show h0c.bt = 545259519 from rfl, kE, kT, if_neg (by simp), m0]; rfl
theorem ck1 : checkE h1c TT = 0 := by
  unfold checkE
  rw [show h1c.bt = 545259519 from rfl, kE, kT, if_neg (by simp), m1]; rfl
def rC : Rl := ⟨5, 100, 545259519, 2, h0c⟩
theorem okR : RlOk rC := ⟨by decide, by decide, by decide, by decide, ok0c⟩
theorem ckR : checkR rC = 0 := by
  unfold checkR
  rw [if_neg (by decide), show rC.lm = 545259519 from rfl, kE, kT, if_neg (by simp)]
  exact ck0
set_option maxRecDepth 100000 in
theorem zeroRl (w : World) : (zeroValue 30).run Tryz.prog w = .ok (.agg (Rl.cs ⟨0, 0, 0, 0, hd0⟩)) w := by kernel_rfl
set_option maxRecDepth 100000 in
theorem buildA (w : World) : (Instr.build 28 #[(0, .int .u32 1), (3, .int .u32 1000), (4, .int .u32 545259519)]).run Tryz.prog w = .ok (.agg hA.cs) w := by kernel_rfl
theorem infoRl : (Tryz.prog.info? 30).map (·.size) = some 72 := by kernel_rfl
set_option maxRecDepth 100000 in
set_option maxHeartbeats 4000000 in
theorem law12_Rules (w : World) : Calls Tryz.prog 9 #[.int .i64 3, .int .u32 99, .int .i64 1] w fun e w' => e = .returned (.agg rC.cs) ∧ Chg [] w w' := by
  have hz := zeroRl
  have hzH := zeroHd
  have hbA := buildA
  have hmine := header_Mine hA okA 1000 (by omega)
  rw [mineA] at hmine
  simp only [Option.getD_some, Option.isSome_some] at hmine
  have hs0 := Hd.size ok0c
  have ho0 := Hd.one h0c
  have hbr := build_rules (l := h0c.l) (Hd.lsize ok0c) 5 100 545259519 2
  change ∀ w, (Instr.build 30 #[(0, .int .i64 5), (1, .int .u32 100), (2, .int .u32 545259519), (3, .int .i64 2), (4, .agg h0c.cs)]).run Tryz.prog w = .ok (.agg rC.cs) w at hbr
  have hrs : rC.cs.size = 72 := Rl.size okR
  have hro := Rl.one rC
  have hzs : (Rl.cs ⟨0, 0, 0, 0, hd0⟩).size = 72 := rfl
  have hhs : hd0.cs.size = 68 := Hd.size hd0_ok
  have bO := Blk.new w (Rl.cs ⟨0, 0, 0, 0, hd0⟩) 30
  have k0 : Chg [] w (w.alloc (.cells (Rl.cs ⟨0, 0, 0, 0, hd0⟩) 30)) := (Chg.refl _ _).alloc _
  generalize Rl.cs ⟨0, 0, 0, 0, hd0⟩ = zr at *
  generalize hd0.cs = zh at *
  generalize hA.cs = ca at *
  generalize h0c.cs = c0 at *
  obtain ⟨cr, hcr⟩ : ∃ cr, cr = rC.cs := ⟨_, rfl⟩
  rw [← hcr] at hrs hro ⊢
  simp only [← hcr] at hbr
  clear hcr
  go_enter Tryz.func9, Tryz.ntmps9
  go_wp2_with fail
  refine (hmine _).mono ?_
  rintro e w1 ⟨rfl, k1⟩
  dsimp only
  have hst := run_storeCells_new (P := Tryz.prog) w1 28 zh c0 (by rw [hs0]; exact infoHd) (by rw [hs0, hhs]) ho0
  have bH := Blk.new w1 c0 28
  have hld := load_blkC bH 68 hs0
  have bO1 := (bO.chg k1 (by simp)).alloc (.cells c0 28)
  have k2 := (k0.trans k1 (by simp)).alloc (.cells c0 28)
  obtain ⟨W9, hst9, b9, kk⟩ := store_cells bO1 (cs := cr) (by rw [hrs, hzs]) hro
  have hld9 := load_blkC b9 72 hrs
  go_wp2
  exact bodyPost_ret (v := .agg cr) (by simp [results, Tryz.results9, go_sem, hld9]) rfl ⟨rfl, k2.trans kk (by simp)⟩
end Go.Proofs.YtmkgbinmilcojaaGreat

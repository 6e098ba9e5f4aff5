/- Layer 20: BookNone. -/
import Derived.Test.YtackdgbcmeafhaaGreatDoNil
import Derived.Test.YtackdgbcmeafhaaGreatLives20
namespace Go.Proofs.YtackdgbcmeafhaaGreat
open Go.RowKit Go.Maps Go.Shelf
attribute [-go_sem] loadCellsFrom

theorem pool_field (w : World) : (Instr.field 56 (.agg #[.int .u64 0, .int .u64 0]) 1).run Tryz.prog w = .ok (.int .u64 0) w := by kernel_rfl
set_option maxRecDepth 100000 in
set_option maxHeartbeats 4000000 in
theorem law20_BookNone (kind x y a : Int) (ad : Array Value) (had : ad.size = 20) (hone : ad.all (·.oneCell') = true) (w : World) :
    Calls Tryz.prog 5 #[.agg (deed kind x y a ad)] w fun e w' => e = .returned (.bool true) ∧ Chg [] w w' := by
  generalize hcs : deed kind x y a ad = cs
  have hsz : cs.size = 24 := by rw [← hcs]; simp [deed, had]
  have hn := law20_near kind x y a ad had hone
  rw [hcs] at hn
  generalize hcs2 : deed kind (near20 x) (near20 y) a ad = cs2 at hn
  have hsz2 : cs2.size = 24 := by rw [← hcs2]; simp [deed, had]
  have hone2 : cs2.all (·.oneCell') = true := by rw [← hcs2]; simpa [deed, Value.oneCell'] using hone
  have g0 : cs2[0]? = some (.int .i64 kind) := by rw [← hcs2]; simp [deed, Array.getElem?_append]
  have hdo : 0 ≤ kind → kind < 22 → ∀ w, Calls Tryz.prog 27 #[.pointer none, .agg cs2] w fun e w' => e = .returned (.tuple #[.int .u64 0, .int .i64 1]) ∧ Chg [] w w' := fun h0 h22 w => by
    rw [← hcs2]; exact do_nil kind h0 h22 _ _ a ad had hone w
  clear hcs hcs2
  have hpf := pool_field
  have b0 := Blk.new w cs 63
  go_enter Tryz.func5, Tryz.ntmps5
  go_wp2_with fail
  refine (law20_lives _).mono ?_
  rintro e w1 ⟨rfl, k1⟩
  have b1 := b0.chg k1 (by simp)
  have hld := load_blk b1 24 hsz
  go_simp
  go_wp2_with (go_at_call 25; refine (hn _).mono ?_; rintro e w2 ⟨rfl, k2⟩)
  have b2 := b1.chg k2 (by simp)
  obtain ⟨w3, hst, b3, k3⟩ := store_blk b2 (hsz.trans hsz2.symm) hone2
  have kk : Chg [] w w3 := ((((Chg.refl [] w).alloc _).trans k1 (by simp)).trans k2 (by simp)).trans k3 (by simp)
  have c0 := b3.cell 0 g0
  have hld3 := load_blk b3 24 hsz2
  go_simp
  by_cases h0 : 0 ≤ kind
  · by_cases h22 : kind < 22
    · have hd := hdo h0 h22
      go_wp2_with (go_at_call 27; refine (hd _).mono ?_; rintro e w4 ⟨rfl, k4⟩)
      have hz := zVault
      go_wp2_with fail
      refine (book_Vault_nil 1 _).mono ?_
      rintro e w5 ⟨rfl, k5⟩
      have hst5 := run_storeCells_new (P := Tryz.prog) w5 52 zVt zVt (by kernel_rfl) rfl (by kernel_rfl)
      go_wp2_with (first
        | (go_at_call 29; refine (book_Price_nil _).mono ?_; rintro e w' ⟨rfl, rfl⟩)
        | (go_at_call 30; refine (book_Now_nil _).mono ?_; rintro e w' ⟨rfl, rfl⟩)
        | (go_at_call 31; refine (book_Deposits_nil _).mono ?_; rintro e w' ⟨rfl, rfl⟩))
      have kV : Chg [] w (w5.alloc (.cells zVt 52)) := ((kk.trans k4 (by simp)).trans k5 (by simp)).alloc _
      generalize w5.alloc (.cells zVt 52) = w6 at kV ⊢
      refine (book_Vaults_nil w6).mono ?_
      rintro e w7 ⟨rfl, hw7⟩
      have hb7 := Blk.new w6 #[.pointer none] 32
      rw [← hw7] at hb7
      have k7 : Chg [] w6 w7 := by rw [hw7]; exact (Chg.refl _ _).alloc _
      clear hw7
      go_wp2_with fail
      refine (law20_All_nil _ w7 hb7).mono ?_
      rintro e w8 ⟨rfl, k8⟩
      go_wp2_with (first
        | (go_at_call 34; refine (book_Copy_nil _).mono ?_; rintro e w' ⟨rfl, rfl⟩)
        | (go_at_call 35; refine (book_Tokens_nil _).mono ?_; rintro e w' ⟨rfl, rfl⟩)
        | (go_at_call 13; refine (book_Purse_nil _).mono ?_; rintro e w' ⟨rfl, rfl⟩)
        | (go_at_call 10; refine (book_Feed_nil _).mono ?_; rintro e w' ⟨rfl, rfl⟩))
      refine (book_Rules_nil w8).mono ?_
      rintro e w9 ⟨rfl, k9⟩
      go_wp2_with (go_at_call 21; refine (book_Pool_nil _).mono ?_; rintro e w10 ⟨rfl, k10⟩)
      go_ret
      exact ⟨rfl, (((kV.trans k7 (by simp)).trans k8 (by simp)).trans k9 (by simp)).trans k10 (by simp)⟩
    · clear hdo
      have hz := zVault
      go_wp2_with fail
      refine (book_Vault_nil 1 _).mono ?_
      rintro e w5 ⟨rfl, k5⟩
      have hst5 := run_storeCells_new (P := Tryz.prog) w5 52 zVt zVt (by kernel_rfl) rfl (by kernel_rfl)
      go_wp2_with (first
        | (go_at_call 29; refine (book_Price_nil _).mono ?_; rintro e w' ⟨rfl, rfl⟩)
        | (go_at_call 30; refine (book_Now_nil _).mono ?_; rintro e w' ⟨rfl, rfl⟩)
        | (go_at_call 31; refine (book_Deposits_nil _).mono ?_; rintro e w' ⟨rfl, rfl⟩))
      have kV : Chg [] w (w5.alloc (.cells zVt 52)) := (kk.trans k5 (by simp)).alloc _
      generalize w5.alloc (.cells zVt 52) = w6 at kV ⊢
      refine (book_Vaults_nil w6).mono ?_
      rintro e w7 ⟨rfl, hw7⟩
      have hb7 := Blk.new w6 #[.pointer none] 32
      rw [← hw7] at hb7
      have k7 : Chg [] w6 w7 := by rw [hw7]; exact (Chg.refl _ _).alloc _
      clear hw7
      go_wp2_with fail
      refine (law20_All_nil _ w7 hb7).mono ?_
      rintro e w8 ⟨rfl, k8⟩
      go_wp2_with (first
        | (go_at_call 34; refine (book_Copy_nil _).mono ?_; rintro e w' ⟨rfl, rfl⟩)
        | (go_at_call 35; refine (book_Tokens_nil _).mono ?_; rintro e w' ⟨rfl, rfl⟩)
        | (go_at_call 13; refine (book_Purse_nil _).mono ?_; rintro e w' ⟨rfl, rfl⟩)
        | (go_at_call 10; refine (book_Feed_nil _).mono ?_; rintro e w' ⟨rfl, rfl⟩))
      refine (book_Rules_nil w8).mono ?_
      rintro e w9 ⟨rfl, k9⟩
      go_wp2_with (go_at_call 21; refine (book_Pool_nil _).mono ?_; rintro e w10 ⟨rfl, k10⟩)
      go_ret
      exact ⟨rfl, (((kV.trans k7 (by simp)).trans k8 (by simp)).trans k9 (by simp)).trans k10 (by simp)⟩
  · clear hdo
    have hz := zVault
    go_wp2_with fail
    refine (book_Vault_nil 1 _).mono ?_
    rintro e w5 ⟨rfl, k5⟩
    have hst5 := run_storeCells_new (P := Tryz.prog) w5 52 zVt zVt (by kernel_rfl) rfl (by kernel_rfl)
    go_wp2_with (first
      | (go_at_call 29; refine (book_Price_nil _).mono ?_; rintro e w' ⟨rfl, rfl⟩)
      | (go_at_call 30; refine (book_Now_nil _).mono ?_; rintro e w' ⟨rfl, rfl⟩)
      | (go_at_call 31; refine (book_Deposits_nil _).mono ?_; rintro e w' ⟨rfl, rfl⟩))
    have kV : Chg [] w (w5.alloc (.cells zVt 52)) := (kk.trans k5 (by simp)).alloc _
    generalize w5.alloc (.cells zVt 52) = w6 at kV ⊢
    refine (book_Vaults_nil w6).mono ?_
    rintro e w7 ⟨rfl, hw7⟩
    have hb7 := Blk.new w6 #[.pointer none] 32
    rw [← hw7] at hb7
    have k7 : Chg [] w6 w7 := by rw [hw7]; exact (Chg.refl _ _).alloc _
    clear hw7
    go_wp2_with fail
    refine (law20_All_nil _ w7 hb7).mono ?_
    rintro e w8 ⟨rfl, k8⟩
    go_wp2_with (first
      | (go_at_call 34; refine (book_Copy_nil _).mono ?_; rintro e w' ⟨rfl, rfl⟩)
      | (go_at_call 35; refine (book_Tokens_nil _).mono ?_; rintro e w' ⟨rfl, rfl⟩)
      | (go_at_call 13; refine (book_Purse_nil _).mono ?_; rintro e w' ⟨rfl, rfl⟩)
      | (go_at_call 10; refine (book_Feed_nil _).mono ?_; rintro e w' ⟨rfl, rfl⟩))
    refine (book_Rules_nil w8).mono ?_
    rintro e w9 ⟨rfl, k9⟩
    go_wp2_with (go_at_call 21; refine (book_Pool_nil _).mono ?_; rintro e w10 ⟨rfl, k10⟩)
    go_ret
    exact ⟨rfl, (((kV.trans k7 (by simp)).trans k8 (by simp)).trans k9 (by simp)).trans k10 (by simp)⟩
theorem law20_BookNoneV (v : Value) (w : World) (h : ∃ kind x y a ad, v = .agg (deed kind x y a ad) ∧ ad.size = 20 ∧ ad.all (·.oneCell') = true ∧ (Lit.int .i64 kind).wf = true ∧ (Lit.int .i64 x).wf = true ∧ (Lit.int .i64 y).wf = true ∧ (Lit.int .u64 a).wf = true) :
    Calls Tryz.prog 5 #[v] w fun e w' => e = .returned (.bool true) ∧ Chg [] w w' := by
  obtain ⟨kind, x, y, a, ad, rfl, had, hone, -, -, -, -⟩ := h
  exact law20_BookNone kind x y a ad had hone w
end Go.Proofs.YtackdgbcmeafhaaGreat

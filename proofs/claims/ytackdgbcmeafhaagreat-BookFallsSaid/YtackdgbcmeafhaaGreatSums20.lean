/- Layer 20: a book's getters; Sums. -/
import Derived.Test.YtackdgbcmeafhaaGreatAll20
import Derived.Test.YtackdgbcmeafhaaGreatBook8
namespace Go.Proofs.YtackdgbcmeafhaaGreat
open Go.RowKit Go.Maps Go.Shelf
attribute [-go_sem] loadCellsFrom
attribute [local go_sem] Oper.semAt_some

theorem BkAt.c15 {w : World} {x : Lc} {B : Bk} (h : BkAt w x B) : w.cell? ⟨x.b, 15, none⟩ = some (.int .u64 B.pc) := h.blk.cell 15 rfl
theorem BkAt.c16 {w : World} {x : Lc} {B : Bk} (h : BkAt w x B) : w.cell? ⟨x.b, 16, none⟩ = some (.int .u64 B.pi) := h.blk.cell 16 rfl
theorem BkAt.c18 {w : World} {x : Lc} {B : Bk} (h : BkAt w x B) : w.cell? ⟨x.b, 18, none⟩ = some (.int .u64 B.dep) := h.blk.cell 18 rfl
theorem book_Deposits (x : Lc) (B : Bk) (w : World) (h : BkAt w x B) : Calls Tryz.prog 31 #[.pointer (some ⟨x.b, 0, none⟩)] w fun e w' => e = .returned (.int .u64 B.dep) ∧ w = w' := by
  have c := h.c18
  go_enter Tryz.func31, Tryz.ntmps31
  go_wp2
  go_ret
  exact ⟨rfl, rfl⟩
section
attribute [local go_sem] loadCellsFrom
theorem book_Pool (x : Lc) (B : Bk) (w : World) (h : BkAt w x B) : Calls Tryz.prog 21 #[.pointer (some ⟨x.b, 0, none⟩)] w fun e w' => e = .returned (.agg #[.int .u64 B.pc, .int .u64 B.pi]) ∧ Chg [] w w' := by
  have hA := h.same ((Chg.refl [] w).alloc (.cells #[.int .u64 0, .int .u64 0] 56))
  have c15 := hA.c15
  have c16 := hA.c16
  have ne : x.b ≠ w.heap.size := by have := h.ltv; omega
  go_enter Tryz.func21, Tryz.ntmps21
  go_wp2
  exact bodyPost_ret (v := .agg #[.int .u64 B.pc, .int .u64 B.pi]) (by simp [results, Tryz.results21, go_sem]) rfl ⟨rfl, (by repeat (first | exact Chg.refl _ _ | refine Chg.alloc ?_ _ | refine Chg.drew ?_ | refine Chg.drewN ?_ _ | refine Chg.setCell ?_ (.inr (by simp)) _))⟩
end
theorem pool_field0 (a b : Int) (w : World) : (Instr.field 56 (.agg #[.int .u64 a, .int .u64 b]) 0).run Tryz.prog w = .ok (.int .u64 a) w := by kernel_rfl
theorem pool_field1 (a b : Int) (w : World) : (Instr.field 56 (.agg #[.int .u64 a, .int .u64 b]) 1).run Tryz.prog w = .ok (.int .u64 b) w := by kernel_rfl

/-- All(b.Vaults()) -/
theorem law20_All_bk (b : Nat) (x : Lc) (B : Bk) (hok : B.ok) (ks : List Int) (hks : KeysW (fun k => (B.f k).map (fun v => .agg v.cs)) ks) (hcnt : B.cnt ≤ 100000) (hkl : ks.length ≤ 100000) (w : World) (hb : Blk w b #[.pointer (some ⟨x.b, 0, none⟩)] 32) (h : BkAt w x B) :
    Calls Tryz.prog 32 #[.func (.func 90) #[] #[.pointer (some ⟨b, 0, none⟩)]] w fun e w' => ∃ v, e = .returned v ∧ VtS w.heap.size w' v (B.vs hok ks) ∧ Chg [] w w' := by
  obtain ⟨it, ht⟩ := itPre_new w (.cells #[.slice none 0 0] 82) (.slice none 0 0) 82 rfl (by simp)
  have hc : Chg [] w (w.alloc (.cells #[.slice none 0 0] 82)) := (Chg.refl _ _).alloc _
  have l1 := hb.lt
  have l2 := h.ltv
  refine (law20_All 90 _ (enters_of Tryz.func90 (by kernel_rfl) rfl) _ _ ks.length (by omega) w
    (book_Vaults1 2 (by omega) [] [w.heap.size] b x B hok ks hks hcnt hkl _ (hb.alloc _) (h.same hc) it (fun h => by have := (ht _).1 h; omega) (fun h => by have := (ht _).1 h; omega) (fun h => by have := (ht _).1 h; omega))).mono ?_
  rintro e w' ⟨v, xs, he, hxs, hs, hc⟩
  rw [hxs] at hs
  exact ⟨v, he, hs, hc⟩
def sumI (l : List Vk) : Nat := (l.map (fun v => v.1.iss)).sum
def sumC (l : List Vk) : Nat := (l.map (fun v => v.1.col)).sum
theorem sum_take (f : Vk → Nat) (l : List Vk) (k : Nat) (h : k < l.length) : ((l.take (k + 1)).map f).sum = ((l.take k).map f).sum + f l[k] := by
  rw [take_succ_get _ h, List.map_append, List.sum_append]; simp
theorem sum_le (f : Vk → Nat) (l : List Vk) (k : Nat) : ((l.take k).map f).sum ≤ (l.map f).sum := by
  conv => rhs; rw [← List.take_append_drop k l, List.map_append, List.sum_append]
  omega
set_option maxRecDepth 100000 in
set_option maxHeartbeats 4000000 in
theorem law20_Sums (x : Lc) (B : Bk) (hok : B.ok) (ks : List Int) (hks : KeysW (fun k => (B.f k).map (fun v => .agg v.cs)) ks) (hcnt : B.cnt ≤ 100000) (hkl : ks.length ≤ 100000)
    (h1 : B.pi + sumI (B.vs hok ks) < 18446744073709551616) (h2 : B.pc + B.dep + sumC (B.vs hok ks) < 18446744073709551616) (w : World) (h : BkAt w x B) :
    Calls Tryz.prog 23 #[.pointer (some ⟨x.b, 0, none⟩)] w fun e w' => e = .returned (.bool (((B.pi + sumI (B.vs hok ks) : Nat) : Int) == B.L.tot && ((B.pc + B.dep + sumC (B.vs hok ks) : Nat) : Int) == B.U.held)) ∧ Chg [] w w' := by
  have hall := fun b w hb h => law20_All_bk b x B hok ks hks hcnt hkl w hb h
  have hlen : (B.vs hok ks).length ≤ 100000 := by simpa [Bk.vs] using hkl
  generalize B.vs hok ks = l at *
  have hp0 := pool_field0 B.pc B.pi
  have hp1 := pool_field1 B.pc B.pi
  have hcd : (B.pc : Int) + B.dep < 18446744073709551616 := by omega
  obtain ⟨T1, hT1⟩ : ∃ T : Int, T = ((B.pi + sumI l : Nat) : Int) := ⟨_, rfl⟩
  obtain ⟨T2, hT2⟩ : ∃ T : Int, T = ((B.pc + B.dep + sumC l : Nat) : Int) := ⟨_, rfl⟩
  rw [← hT1, ← hT2]
  have hT1' := Lib.hid hT1
  have hT2' := Lib.hid hT2
  clear hT1 hT2
  go_enter Tryz.func23, Tryz.ntmps23
  go_wp2_with fail
  refine (book_Pool x B w h).mono ?_
  rintro e w1 ⟨rfl, k1⟩
  have hA1 := h.same k1
  go_wp2_with fail
  refine (book_Pool x B w1 hA1).mono ?_
  rintro e w2 ⟨rfl, k2⟩
  have hA2 := hA1.same k2
  go_wp2_with (go_at_call 31; refine (book_Deposits x B _ hA2).mono ?_; rintro e w' ⟨rfl, rfl⟩)
  refine (book_Vaults x w2).mono ?_
  rintro e w3 ⟨rfl, hw3⟩
  have hb3 := Blk.new w2 #[.pointer (some ⟨x.b, 0, none⟩)] 32
  have k3 : Chg [] w2 w3 := by rw [hw3]; exact (Chg.refl _ _).alloc _
  rw [← hw3] at hb3
  clear hw3
  have hA3 := hA2.same k3
  go_wp2_with fail
  refine (hall _ w3 hb3 hA3).mono ?_
  rintro e w4 ⟨v, rfl, hv, k4⟩
  obtain ⟨va, vcap, rfl⟩ := hv.len
  have hA4 := hA3.same k4
  have K4 := (((k1.trans k2 (by simp)).trans k3 (by simp)).trans k4 (by simp))
  clear hA1 hA2 hA3 k1 k2 k3 k4 hb3 hall
  go_wp2
  go_loopw [3, 4, 20] (fun s3 s4 s20 wr => ∃ k : Nat, k ≤ l.length ∧ s20 = .int .i64 k ∧ s3 = .int .u64 ((B.pi + sumI (l.take k) : Nat) : Int) ∧ s4 = .int .u64 ((B.pc + B.dep + sumC (l.take k) : Nat) : Int) ∧ Chg [] w4 wr) (fun _ _ s20 _ => l.length - (intOf s20).toNat)
  case atStart => exact ⟨0, Nat.zero_le _, rfl, by simp [sumI], by simp [sumC], Chg.refl _ _⟩
  case round =>
    obtain ⟨k, hk, rfl, rfl, rfl, k5⟩ := hrel
    by_cases hlt : k < l.length
    · obtain ⟨g, rfl, hcell⟩ := (hv.chg k5 (by simp)).cell hlt
      have e1 := sum_take (fun v => v.1.iss) l k hlt
      have e2 := sum_take (fun v => v.1.col) l k hlt
      have e3 := sum_le (fun v => v.1.iss) l (k + 1)
      have e4 := sum_le (fun v => v.1.col) l (k + 1)
      have f1 : B.pi + sumI (l.take (k + 1)) = B.pi + sumI (l.take k) + l[k].1.iss := by unfold sumI; omega
      have f2 : B.pc + B.dep + sumC (l.take (k + 1)) = B.pc + B.dep + sumC (l.take k) + l[k].1.col := by unfold sumC; omega
      have f3 : B.pi + sumI (l.take k) + l[k].1.iss < 18446744073709551616 := by unfold sumI at *; omega
      have f4 : B.pc + B.dep + sumC (l.take k) + l[k].1.col < 18446744073709551616 := by unfold sumC at *; omega
      clear e1 e2 e3 e4 h1 h2
      have f1' := Lib.hid f1
      have f2' := Lib.hid f2
      clear f1 f2
      generalize B.pi + sumI (l.take k) = P at f1' f3 ⊢
      generalize B.pc + B.dep + sumC (l.take k) = Q at f2' f4 ⊢
      have hsz := l[k].1.size l[k].2.1
      have hone := l[k].2.one
      have hld : (loadCellsFrom ⟨g, k * 27, none⟩ 0 27 #[]).run Tryz.prog wr = .ok l[k].1.cs wr := by
        have := run_loadCells_list (P := Tryz.prog) wr ⟨g, k * 27, none⟩ l[k].1.cs.toList (fun j v hv => by
          rw [addr_add']; exact hcell j v (by simpa using hv))
        rw [show l[k].1.cs.toList.length = 27 by simpa using hsz] at this
        simpa [loadCells] using this
      have hz := zVault
      have hst := run_storeCells_new (P := Tryz.prog) wr 52 zVt l[k].1.cs (by rw [hsz]; kernel_rfl) (by rw [hsz]; rfl) hone
      have hb := Blk.new wr l[k].1.cs 52
      have c21 := hb.cell 21 (l[k].1.c21 l[k].2.1).1
      have c22 := hb.cell 22 (l[k].1.c21 l[k].2.1).2.1
      have f3' : (P : Int) + l[k].1.iss < 18446744073709551616 := by omega
      have f4' : (Q : Int) + l[k].1.col < 18446744073709551616 := by omega
      clear f3 f4 hone hcell hv
      obtain ⟨X, hX⟩ : ∃ T : Int, T = (l[k].1.iss : Int) := ⟨_, rfl⟩
      obtain ⟨Y, hY⟩ : ∃ T : Int, T = (l[k].1.col : Int) := ⟨_, rfl⟩
      obtain ⟨P', hP⟩ : ∃ T : Int, T = (P : Int) := ⟨_, rfl⟩
      obtain ⟨Q', hQ⟩ : ∃ T : Int, T = (Q : Int) := ⟨_, rfl⟩
      have z1 : 0 ≤ X := by omega
      have z2 : 0 ≤ Y := by omega
      have z3 : 0 ≤ P' := by omega
      have z4 : 0 ≤ Q' := by omega
      have g1 : ((B.pi + sumI (l.take (k + 1)) : Nat) : Int) = P' + X := by rw [f1'.out, hP, hX]; simp
      have g2 : ((B.pc + B.dep + sumC (l.take (k + 1)) : Nat) : Int) = Q' + Y := by rw [f2'.out, hQ, hY]; simp
      have g1' := Lib.hid g1
      have g2' := Lib.hid g2
      clear g1 g2
      rw [← hX] at c22 f3'
      rw [← hY] at c21 f4'
      rw [← hP] at f3' ⊢
      rw [← hQ] at f4' ⊢
      clear hX hY hP hQ f1' f2'
      generalize l[k] = vk at *
      generalize vk.1.cs = cs at *
      clear hcd hp0 hp1
      go_wp2
      go_roundw
      case rel => exact ⟨k + 1, by omega, by simp, by rw [g1'.out], by rw [g2'.out], k5.alloc _⟩
      case measure => simp [intOf]; omega
    · obtain rfl : k = l.length := by omega
      rw [List.take_length]
      have hA5 := hA4.same k5
      clear h1 h2
      rw [← hT1'.out, ← hT2'.out]
      cases hq : T1 == B.L.tot
      all_goals
        go_wp2_with (first
          | (go_at_call 35; refine (book_Tokens x B _ hA5).mono ?_; rintro e w' ⟨rfl, rfl⟩)
          | (go_at_call 47; refine (token_Total x.t x.tm B.L _ hA5.led).mono ?_; rintro e w' ⟨rfl, rfl⟩)
          | (go_at_call 13; refine (book_Purse x B _ hA5).mono ?_; rintro e w' ⟨rfl, rfl⟩)
          | (go_at_call 65; refine (purse_Held x.p x.pf x.pm B.U _ hA5.pur).mono ?_; rintro e w' ⟨rfl, rfl⟩))
        go_ret
        exact ⟨by rw [hq]; rfl, K4.trans k5 (by simp)⟩
end Go.Proofs.YtackdgbcmeafhaaGreat

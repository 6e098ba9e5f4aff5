/- Layer 20: BookFalls. -/
import Derived.Test.YtackdgbcmeafhaaGreatBook9
import Derived.Test.YtackdgbcmeafhaaGreatSums20
import Derived.Test.YtackdgbcmeafhaaGreatNeeds
import Derived.Test.YtackdgbcmeafhaaGreatLives20
namespace Go.Proofs.YtackdgbcmeafhaaGreat
open Go.RowKit Go.Maps Go.Shelf
attribute [-go_sem] loadCellsFrom

def FF : Fd := ⟨100, 50, 1, 0⟩
def mkB (v : Vt) (L : Led) (U : Pur) (pc pi : Nat) : Bk := ⟨0, L, U, FF, pc, pi, fun y => if y = 1 then some v else none, 1, 0⟩
theorem mkB_put (v v' : Vt) (L : Led) (U : Pur) (pc pi : Nat) (h : v'.who = 1) : (mkB v L U pc pi).put v' = mkB v' L U pc pi := by
  unfold Bk.put mkB
  simp only [h, if_true, Option.isSome_some]
  congr 1
  funext y
  by_cases hy : y = 1 <;> simp [hy]
theorem needs_S {S C0 : Nat} (h : S ≤ 2147483648) (h2 : 2 ≤ S) : ∃ N, N = upQ (S * 1 * 2000) 100000000000 ∧ 1 ≤ N ∧ N ≤ 100 ∧ S * 2000 ≤ N * 100000000000 := by
  refine ⟨_, rfl, ?_⟩
  unfold upQ
  rw [Nat.mul_one]
  split <;> omega
theorem pur_steps {C : Nat} (h1 : 1 ≤ C) (h2 : C ≤ 4611686018427387904) : ∃ U0 U1 : Pur, Bk.zero.U.dIn 1 C = (0, U0) ∧ U0.dHold 1 C = (0, U1) ∧ U1.held = C := by
  have e1 : Bk.zero.U.dIn 1 C = (0, ⟨⟨updM Led.zero.m 1 C, C⟩, 0, C, 0⟩) := by
    unfold Pur.dIn Led.mint0 Led.mint
    rw [if_neg (by omega), if_neg (by simp [Bk.zero]; omega), if_neg (by simp [Bk.zero, Led.zero]; omega), if_neg (by omega), if_neg (by omega), if_pos (by simp [Bk.zero, Led.zero]; omega)]
    simp [Bk.zero, Led.zero]
  have e2 : Pur.dHold ⟨⟨updM Led.zero.m 1 C, C⟩, 0, C, 0⟩ 1 C = (0, ⟨(Led.burn ⟨updM Led.zero.m 1 C, C⟩ 1 C).2, 0 + C, C, 0⟩) := by
    unfold Pur.dHold Pur.dHold1
    rw [if_neg (by omega), if_neg (by omega), if_neg (by simp [updM])]
  exact ⟨_, _, e1, e2, by simp⟩
theorem led_steps {S G : Nat} (h1 : 1 ≤ G) (h2 : G ≤ S) (h3 : S ≤ 4611686018427387904) : ∃ L1 L2 : Led, Led.zero.mint 2 S = (0, L1) ∧ L1.burn 2 G = (0, L2) ∧ L2.tot = (S : Int) - G ∧ LedOk L1 := by
  have e1 : Led.zero.mint 2 S = (0, ⟨updM Led.zero.m 2 S, S⟩) := by
    unfold Led.mint
    rw [if_neg (by omega), if_pos (by simp [Led.zero]; omega)]
    simp [Led.zero]
  have hk := LedOk.zero.mint (k := 2) (a := S) (by omega) (by omega) (by omega)
  rw [e1] at hk
  have e2 : Led.burn ⟨updM Led.zero.m 2 S, S⟩ 2 G = (0, ⟨updM (updM Led.zero.m 2 S) 2 (updM Led.zero.m 2 S 2 - G), (S : Int) - G⟩) := by
    unfold Led.burn
    rw [if_neg (by omega), if_neg (by simp [updM]; omega)]
  exact ⟨_, _, e1, e2, rfl, hk⟩
theorem sec_ok {v : Vt} {L : Led} {U : Pur} {pc pi col parts : Nat} (h1 : col ≤ 4611686018427387904) (h2 : parts ≤ 4611686018427387904) (h3 : parts * 2000 ≤ col * 100000000000) : (mkB v L U pc pi).sec col parts = 0 := by
  have hp : (mkB v L U pc pi).F.price (mkB v L U pc pi).now = (1, 0) := by rfl
  unfold Bk.sec
  rw [hp]
  have he : enoughB col parts 1 2000 = true := by
    unfold enoughB
    have hr : rightB (1 : Nat) (2000 : Nat) [(col : Int), parts] = true := by simp [rightB, prB, thB]; omega
    have hle : parts * 1 * 2000 ≤ col * 100000000 * 1000 := by rw [Nat.mul_one, Nat.mul_assoc col]; exact h3
    rw [hr, Bool.true_and]
    simpa only [decide_eq_true_eq] using hle
  rw [if_neg (by simp), if_neg (by omega), if_pos he]
theorem ffok : FdOk FF := ⟨by decide, by decide, by decide, by decide⟩
def vtB (C i c g : Nat) (f : Bool) : Vt := ⟨1, ad1, C, i, c, g, 0, f⟩
theorem vtB_ok (C i c g : Nat) (f : Bool) : VtOk (vtB C i c g f) := ⟨ad1_size, ad1_one⟩
theorem chk_ok {a : Nat} (h1 : 1 ≤ a) (h2 : a ≤ 4611686018427387904) : Bk.chk a = 0 := by unfold Bk.chk; rw [if_neg (by omega)]
theorem fb_Reserve (C S : Nat) (U : Pur) (hS1 : 1 ≤ S) (hS2 : S ≤ 2147483648) (hC : C ≤ 1152921504606846976) (h3 : S * 2000 ≤ C * 100000000000) (x : Lc) (w : World) (h : BkAt w x (mkB (vtB C 0 0 0 false) Led.zero U 0 0)) :
    Calls Tryz.prog 16 #[.pointer (some ⟨x.b, 0, none⟩), .int .u8 1, .int .u64 S] w fun e w' => e = .returned (.int .i64 0) ∧ BkAt w' x (mkB (vtB C 0 S 0 false) Led.zero U 0 0) ∧ Chg [x.vm] w w' := by
  have hb : (vtB C 0 0 0 false).bur + S = S := by simp [vtB, Vt.bur]
  have hsec : (mkB (vtB C 0 0 0 false) Led.zero U 0 0).sec (vtB C 0 0 0 false).col ((vtB C 0 0 0 false).bur + S) = 0 := by
    rw [hb]; exact sec_ok (col := C) (by omega) (by omega) h3
  have hr := book_Reserve x (mkB (vtB C 0 0 0 false) Led.zero U 0 0) 1 S (vtB C 0 0 0 false) (vtB_ok _ _ _ _ _) (by decide) (chk_ok hS1 (by omega)) rfl rfl rfl (by rw [hb]; omega) (Nat.lt_of_lt_of_le (by decide : (1 : Nat) < 2) (by decide)) (Nat.zero_le _) ffok w h
  rw [hsec, if_pos rfl, mkB_put _ _ _ _ _ _ rfl] at hr
  have e4 : ({ vtB C 0 0 0 false with com := (vtB C 0 0 0 false).com + S } : Vt) = vtB C 0 S 0 false := by simp [vtB]
  rw [e4] at hr
  exact hr
theorem fb_Mint (C S : Nat) (U : Pur) (L1 : Led) (hS1 : 1 ≤ S) (hS2 : S ≤ 2147483648) (hL : Led.zero.mint 2 S = (0, L1)) (x : Lc) (w : World) (h : BkAt w x (mkB (vtB C 0 S 0 false) Led.zero U 0 0)) :
    Calls Tryz.prog 17 #[.pointer (some ⟨x.b, 0, none⟩), .int .u8 1, .int .u8 2, .int .u64 S] w fun e w' => e = .returned (.int .i64 0) ∧ BkAt w' x (mkB (vtB C S 0 0 false) L1 U 0 0) ∧ Chg [x.vm, x.t, x.tm] w w' := by
  have hr := book_Mint x (mkB (vtB C 0 S 0 false) Led.zero U 0 0) 1 2 S (vtB C 0 S 0 false) (vtB_ok _ _ _ _ _) (by decide) (by decide) (chk_ok hS1 (by omega)) rfl rfl rfl (by show S ≤ _; omega) (Nat.le_refl _) (by show (Led.zero.mint 2 S).1 = 0; rw [hL]) (by show 0 + S < _; omega) (Nat.lt_of_lt_of_le (by decide : (1 : Nat) < 2) (by decide)) LedOk.zero w h
  have e1 : ({ mkB (vtB C 0 S 0 false) Led.zero U 0 0 with L := ((mkB (vtB C 0 S 0 false) Led.zero U 0 0).L.mint 2 S).2 } : Bk) = mkB (vtB C 0 S 0 false) L1 U 0 0 := by
    show ({ mkB (vtB C 0 S 0 false) Led.zero U 0 0 with L := (Led.zero.mint 2 S).2 } : Bk) = _
    rw [hL]; rfl
  rw [e1, mkB_put _ _ _ _ _ _ rfl] at hr
  have e4 : ({ vtB C 0 S 0 false with com := (vtB C 0 S 0 false).com - S, iss := (vtB C 0 S 0 false).iss + S } : Vt) = vtB C S 0 0 false := by simp [vtB]
  rw [e4] at hr
  exact hr
theorem fb_Burn (C S I G : Nat) (U : Pur) (L1 L2 : Led) (hG1 : 1 ≤ G) (hS : S = I + G) (hS2 : S ≤ 2147483648) (hL : L1.burn 2 G = (0, L2)) (ok : LedOk L1) (x : Lc) (w : World) (h : BkAt w x (mkB (vtB C S 0 0 false) L1 U 0 0)) :
    Calls Tryz.prog 18 #[.pointer (some ⟨x.b, 0, none⟩), .int .u8 1, .int .u8 2, .int .u64 G] w fun e w' => e = .returned (.int .i64 0) ∧ BkAt w' x (mkB (vtB C I 0 G false) L2 U 0 0) ∧ Chg [x.vm, x.t, x.tm] w w' := by
  have hr := book_Burn x (mkB (vtB C S 0 0 false) L1 U 0 0) 1 2 G (vtB C S 0 0 false) (vtB_ok _ _ _ _ _) (by decide) (by decide) (chk_ok hG1 (by omega)) rfl rfl rfl (by show S ≤ _; omega) (Nat.zero_le _) (by show G ≤ S - 0; omega) (by show (L1.burn 2 G).1 = 0; rw [hL]) (by show 0 + G < _; omega) (Nat.lt_of_lt_of_le (by decide : (1 : Nat) < 2) (by decide)) ok w h
  have e1 : ({ mkB (vtB C S 0 0 false) L1 U 0 0 with L := ((mkB (vtB C S 0 0 false) L1 U 0 0).L.burn 2 G).2 } : Bk) = mkB (vtB C S 0 0 false) L2 U 0 0 := by
    show ({ mkB (vtB C S 0 0 false) L1 U 0 0 with L := (L1.burn 2 G).2 } : Bk) = _
    rw [hL]; rfl
  rw [e1, mkB_put _ _ _ _ _ _ rfl] at hr
  have e4 : ({ vtB C S 0 0 false with iss := (vtB C S 0 0 false).iss - G, goi := (vtB C S 0 0 false).goi + G } : Vt) = vtB C I 0 G false := by simp [vtB, hS]
  rw [e4] at hr
  exact hr
theorem fb_Fall (C I G K : Nat) (U : Pur) (L : Led) (hG1 : 1 ≤ G) (hG2 : G ≤ 1073741824) (hI : I ≤ 1073741824) (hC : C ≤ 1152921504606846976) (hK : K = (partN C G (I + G) true).1) (hKC : K ≤ C) (x : Lc) (w : World) (h : BkAt w x (mkB (vtB C I 0 G false) L U 0 0)) :
    Calls Tryz.prog 19 #[.pointer (some ⟨x.b, 0, none⟩), .int .u8 1] w fun e w' => e = .returned (.int .i64 0) ∧ BkAt w' x (mkB (vtB K 0 0 G true) L U (C - K) I) ∧ Chg [x.vm, x.b] w w' := by
  have hr := book_Fall x (mkB (vtB C I 0 G false) L U 0 0) 1 (vtB C I 0 G false) (vtB_ok _ _ _ _ _) (by decide) rfl rfl rfl hG1 (by show C ≤ _; omega) (by show I + G < _; omega) K hK hKC (by show 0 + (C - K) ≤ _; omega) (by show 0 + I ≤ _; omega) (Nat.lt_of_lt_of_le (by decide : (1 : Nat) < 2) (by decide)) w h
  have e1 : ({ mkB (vtB C I 0 G false) L U 0 0 with pc := (mkB (vtB C I 0 G false) L U 0 0).pc + ((vtB C I 0 G false).col - K), pi := (mkB (vtB C I 0 G false) L U 0 0).pi + (vtB C I 0 G false).iss } : Bk) = mkB (vtB C I 0 G false) L U (C - K) I := by
    show (⟨0, L, U, FF, 0 + (C - K), 0 + I, _, 1, 0⟩ : Bk) = ⟨0, L, U, FF, C - K, I, _, 1, 0⟩
    rw [Nat.zero_add, Nat.zero_add]; rfl
  rw [e1, mkB_put _ _ _ _ _ _ rfl] at hr
  exact hr
theorem keep_facts {C I G K : Nat} (hC : C ≤ 1152921504606846976) (hG1 : 1 ≤ G) (hG2 : G ≤ 1073741824) (hI : I ≤ 1073741824) (hK : K = (partN C G (I + G) true).1) : K ≤ C ∧ C * G ≤ K * (I + G) := by
  have hq : partQ C G (I + G) true ≤ C ∧ C * G ≤ partQ C G (I + G) true * (I + G) := by
    have hd := Nat.div_add_mod (C * G) (I + G)
    have hm := Nat.mod_lt (C * G) (show 0 < I + G by omega)
    have hle : C * G ≤ C * (I + G) := Nat.mul_le_mul_left _ (by omega)
    unfold partQ
    split
    · rename_i h
      have h1 : C * G / (I + G) < C := by
        rw [Nat.div_lt_iff_lt_mul (by omega)]
        rcases Nat.lt_or_ge (C * G) (C * (I + G)) with h2 | h2
        · exact h2
        · exfalso
          have : C * G = C * (I + G) := by omega
          exact h.2 (by rw [this]; exact Nat.mul_mod_left _ _)
      refine ⟨h1, ?_⟩
      rw [Nat.add_mul, Nat.one_mul, Nat.mul_comm (C * G / (I + G))]; omega
    · rename_i h
      have h0 : C * G % (I + G) = 0 := by simpa using h
      refine ⟨?_, by rw [Nat.mul_comm (C * G / (I + G))]; omega⟩
      exact Nat.div_le_of_le_mul (by rw [Nat.mul_comm (I + G)]; exact hle)
  rw [hK]; unfold partN
  rw [if_neg (by omega), if_neg (by omega)]
  exact hq
theorem share_facts {C I G K : Nat} (hG1 : 1 ≤ G) (hK : K ≤ 4611686018427387904) (h : C * G ≤ K * (I + G)) : (partN K (I + G) G false).2 = 4 ∨ C ≤ (partN K (I + G) G false).1 := by
  unfold partN
  rw [if_neg (by omega)]
  have hq : C ≤ partQ K (I + G) G false := by
    unfold partQ
    rw [if_neg (by simp)]
    exact (Nat.le_div_iff_mul_le (by omega)).2 h
  split
  · exact .inl rfl
  · exact .inr hq
theorem fb_Sums (K G I PC C : Nat) (L : Led) (U : Pur) (hL : L.tot = I) (hU : U.held = C) (hPC : PC = C - K) (hKC : K ≤ C) (hC : C ≤ 1152921504606846976) (hI : I ≤ 1073741824) (x : Lc) (w : World) (h : BkAt w x (mkB (vtB K 0 0 G true) L U PC I)) :
    Calls Tryz.prog 23 #[.pointer (some ⟨x.b, 0, none⟩)] w fun e w' => e = .returned (.bool true) ∧ Chg [] w w' := by
  have hok : (mkB (vtB K 0 0 G true) L U PC I).ok := by
    intro k v e
    have e' : (if k = 1 then some (vtB K 0 0 G true) else none) = some v := e
    split at e'
    · cases e'; exact vtB_ok _ _ _ _ _
    · cases e'
  have hks : KeysW (fun k => ((mkB (vtB K 0 0 G true) L U PC I).f k).map (fun v => Value.agg v.cs)) [1] := by
    refine ⟨by simp, fun y => ?_⟩
    show y ∈ [1] ↔ _ ∧ (((if y = 1 then some (vtB K 0 0 G true) else none).map (fun v => Value.agg v.cs)).isSome = true)
    by_cases hy : y = 1
    · subst hy; simp; decide
    · simp [hy]
  have hvt : (mkB (vtB K 0 0 G true) L U PC I).vt 1 = vtB K 0 0 G true := by rfl
  have e1 : sumI ((mkB (vtB K 0 0 G true) L U PC I).vs hok [1]) = 0 := by
    show ((mkB (vtB K 0 0 G true) L U PC I).vt 1).iss + 0 = 0
    rw [hvt]; rfl
  have e2 : sumC ((mkB (vtB K 0 0 G true) L U PC I).vs hok [1]) = K := by
    show ((mkB (vtB K 0 0 G true) L U PC I).vt 1).col + 0 = K
    rw [hvt]; rfl
  have hs := law20_Sums x (mkB (vtB K 0 0 G true) L U PC I) hok [1] hks (by show 1 ≤ _; omega) (by decide) (by rw [e1]; show I + 0 < _; omega) (by rw [e2]; show PC + 0 + K < _; omega) w h
  rw [e1, e2] at hs
  have e3 : ((((mkB (vtB K 0 0 G true) L U PC I).pi + 0 : Nat) : Int) == (mkB (vtB K 0 0 G true) L U PC I).L.tot && (((mkB (vtB K 0 0 G true) L U PC I).pc + (mkB (vtB K 0 0 G true) L U PC I).dep + K : Nat) : Int) == (mkB (vtB K 0 0 G true) L U PC I).U.held) = true := by
    show (((I + 0 : Nat) : Int) == L.tot && ((PC + 0 + K : Nat) : Int) == U.held) = true
    rw [hL, hU]
    simp; omega
  rw [e3] at hs
  exact hs
set_option maxRecDepth 100000 in
set_option maxHeartbeats 4000000 in
theorem law20_BookFalls (n0 n1 n2 : Nat) (w : World) :
    Calls Tryz.prog 3 #[.int .u64 n0, .int .u64 n1, .int .u64 n2] w fun e w' => e = .returned (.bool true) ∧ Chg [] w w' := by
  have eC : (n0 : Int) % 1152921504606846976 = ((n0 % 1152921504606846976 : Nat) : Int) := by omega
  have eI : 1 + (n1 : Int) % 1073741824 = ((1 + n1 % 1073741824 : Nat) : Int) := by omega
  have eG : 1 + (n2 : Int) % 1073741824 = ((1 + n2 % 1073741824 : Nat) : Int) := by omega
  obtain ⟨C0, hC0, hC1⟩ : ∃ C0, C0 = n0 % 1152921504606846976 ∧ C0 < 1152921504606846976 := ⟨_, rfl, by omega⟩
  obtain ⟨I, hI0, hI1, hI2⟩ : ∃ C0, C0 = 1 + n1 % 1073741824 ∧ 1 ≤ C0 ∧ C0 ≤ 1073741824 := ⟨_, rfl, by omega, by omega⟩
  obtain ⟨G, hG0, hG1, hG2⟩ : ∃ C0, C0 = 1 + n2 % 1073741824 ∧ 1 ≤ C0 ∧ C0 ≤ 1073741824 := ⟨_, rfl, by omega, by omega⟩
  rw [← hC0] at eC
  rw [← hI0] at eI
  rw [← hG0] at eG
  clear hC0 hI0 hG0
  obtain ⟨S, hS⟩ : ∃ S, S = I + G := ⟨_, rfl⟩
  have hIG : (I : Int) + (G : Int) = (S : Int) := by omega
  obtain ⟨N, hN, hN1, hN2, hN3⟩ := needs_S (S := S) (C0 := C0) (by omega) (by omega)
  have hneeds := rate_Needs S 1 2000 (by omega) (by omega) (by omega) (by omega) (by omega) (by rw [← hN]; omega)
  rw [← hN] at hneeds
  have eC' := Lib.hid eC
  have eI' := Lib.hid eI
  have eG' := Lib.hid eG
  have hIG' := Lib.hid hIG
  clear eC eI eG hIG hN
  go_enter Tryz.func3, Tryz.ntmps3
  go_wp2_with fail
  refine (law20_lives _).mono ?_
  rintro e w1 ⟨rfl, k1⟩
  go_wp2_with fail
  rw [eI'.out, eG'.out, eC'.out]
  refine (law20_Usual _).mono ?_
  rintro e w2 ⟨rfl, k2⟩
  have hst := run_storeCells_new (P := Tryz.prog) w2 30 #[.int .u64 0, .int .u64 0, .int .u64 0, .int .u64 0, .int .u64 0, .int .u64 0, .int .u64 0, .int .u64 0, .int .u64 0, .int .u64 0, .int .u64 0] usual (by kernel_rfl) (by kernel_rfl) (by kernel_rfl)
  have hu := Blk.new w2 usual 30
  have hld := load_blk hu 11 (by kernel_rfl)
  go_wp2_with fail
  have kU : Chg [] w (w2.alloc (.cells usual 30)) := (k1.trans k2 (by simp)).alloc _
  refine (book_New _).mono ?_
  rintro e w3 ⟨x, rfl, h3, k3, fx⟩
  have hu3 := hu.chg k3 (by simp)
  have c0 := hu3.cell 0 (v := .int .u64 2000) rfl
  clear hst hld
  have kU3 := kU.trans k3 (by simp)
  go_wp2_with fail
  refine (book_Feed x _ w3 h3).mono ?_
  rintro e w' ⟨rfl, rfl⟩
  go_wp2_with fail
  refine (oracle_Set0 x.fd _ 1 0 w3 h3.fd rfl).mono ?_
  rintro e w4 ⟨rfl, hF, k4⟩
  have h4 := h3.setF hF k4
  rw [show (Fd.set0 Bk.zero.F 1 0) = (0, FF) by rfl] at h4 ⊢
  clear hF
  have nfx : w2.heap.size ∉ x.all := fun hm => by have := fx _ hm; simp at this; omega
  have hu4 := hu3.chg k4 (by simp; intro e; exact nfx (by simp [Lc.all, e]))
  have c0' := hu4.cell 0 (v := .int .u64 2000) rfl
  clear c0
  go_wp2_with fail
  rw [hIG'.out]
  refine (hneeds _).mono ?_
  rintro e w5 ⟨rfl, k5⟩
  have h5 := h4.same k5
  clear hneeds
  obtain ⟨C, hC, hC2, hC3⟩ : ∃ C, C = max C0 N ∧ N ≤ C ∧ C ≤ 1152921504606846976 := ⟨_, rfl, Nat.le_max_right _ _, by omega⟩
  have eM : max (C0 : Int) (N : Int) = (C : Int) := by omega
  have eM' := Lib.hid eM
  clear eM hC hC1
  have hSC : S * 2000 ≤ C * 100000000000 := Nat.le_trans hN3 (Nat.mul_le_mul_right _ hC2)
  clear hN3
  obtain ⟨U0, U1, hin, hhold, hheld⟩ := pur_steps (C := C) (by omega) (by omega)
  obtain ⟨L1, L2, hmint, hburn, htot, okL1⟩ := led_steps (S := S) (G := G) hG1 (by omega) (by omega)
  have hin' := Lib.hid hin
  have hhold' := Lib.hid hhold
  have hheld' := Lib.hid hheld
  have hmint' := Lib.hid hmint
  have hburn' := Lib.hid hburn
  have htot' := Lib.hid htot
  clear hin hhold hheld hmint hburn htot
  have okU0 : PurOk U0 := by
    have := PurOk.zero.dIn (k := 1) (a := C) (by omega) (by omega) (by omega)
    rw [show (⟨Led.zero, 0, 0, 0⟩ : Pur) = Bk.zero.U by rfl] at this
    rw [hin'.out] at this; exact this
  go_wp2_with fail
  rw [eM'.out]
  refine (book_Purse x _ w5 h5).mono ?_
  rintro e w' ⟨rfl, rfl⟩
  go_wp2_with fail
  refine (purse_In x.p x.pf x.pm _ 1 C w5 h5.pur PurOk.zero (by decide) (by omega)).mono ?_
  rintro e w6 ⟨rfl, hU, k6⟩
  have h6 := h5.setU hU k6
  rw [show ({ Bk.zero with F := FF } : Bk).U = Bk.zero.U by rfl, hin'.out] at h6 ⊢
  clear hU
  go_wp2_with fail
  refine (book_Register0 x _ 1 ad1 C rfl ad1_one (by decide) (by omega) (fun _ => rfl) rfl okU0 w6 h6 (by rw [show ({ Bk.zero with F := FF, U := U0 } : Bk).U = U0 by rfl, hhold'.out])).mono ?_
  rintro e w7 ⟨rfl, h7, k7⟩
  have h7' : BkAt w7 x (mkB (vtB C 0 0 0 false) Led.zero U1 0 0) := by
    have : ({ ({ Bk.zero with F := FF, U := U0 } : Bk) with U := (U0.dHold 1 C).2 } : Bk).put ⟨1, ad1, C, 0, 0, 0, 0, false⟩ = mkB (vtB C 0 0 0 false) Led.zero U1 0 0 := by rw [hhold'.out]; rfl
    rw [← this]; exact h7
  clear h7
  have k7' : Chg x.all w5 w7 := (k6.mono (by intro t ht; simp at ht; simp [Lc.all]; omega)).trans k7 (fun t ht => .inl ht)
  go_wp2_with fail
  rw [hIG'.out]
  refine (fb_Reserve C S U1 (by omega) (by omega) (by omega) hSC x w7 h7').mono ?_
  rintro e w8 ⟨rfl, h8, k8⟩
  go_wp2_with fail
  rw [hIG'.out]
  refine (fb_Mint C S U1 L1 (by omega) (by omega) hmint'.out x w8 h8).mono ?_
  rintro e w9 ⟨rfl, h9, k9⟩
  go_wp2_with fail
  refine (fb_Burn C S I G U1 L1 L2 hG1 hS (by omega) hburn'.out okL1 x w9 h9).mono ?_
  rintro e w10 ⟨rfl, h10, k10⟩
  obtain ⟨K, hK⟩ : ∃ K, K = (partN C G (I + G) true).1 := ⟨_, rfl⟩
  obtain ⟨hKC, hKG⟩ := keep_facts (by omega) hG1 hG2 hI2 hK
  have hK' := Lib.hid hK
  clear hK
  go_wp2_with fail
  refine (fb_Fall C I G K U1 L2 hG1 hG2 hI2 (by omega) hK'.out hKC x w10 h10).mono ?_
  rintro e w11 ⟨rfl, h11, k11⟩
  have hz := zVault
  go_wp2_with fail
  refine (book_Vault x (mkB (vtB K 0 0 G true) L2 U1 (C - K) I) 1 (vtB K 0 0 G true) (vtB_ok _ _ _ _ _) (by decide) rfl w11 h11).mono ?_
  rintro e w12 ⟨rfl, k12⟩
  have h12 := h11.same k12
  obtain ⟨e21, e22, -, e24, -, e26⟩ := (vtB K 0 0 G true).c21 ad1_size
  have hsz := (vtB K 0 0 G true).size ad1_size
  have hone := (vtB_ok K 0 0 G true).one
  have hL2 : L2.tot = I := by rw [htot'.out, ← hIG'.out]; omega
  have hU1 := hheld'.out
  obtain ⟨PC, hPC⟩ : ∃ PC, PC = C - K := ⟨_, rfl⟩
  rw [← hPC] at h12
  have hPK : (PC : Int) + (K : Int) = (C : Int) := by omega
  have hpool := fun W hW => book_Pool x (mkB (vtB K 0 0 G true) L2 U1 PC I) W hW
  have hsums := fun W hW => fb_Sums K G I PC C L2 U1 hL2 hU1 hPC hKC (by omega) (by omega) x W hW
  have hfs := fun W hW => book_Fall_state x (mkB (vtB K 0 0 G true) L2 U1 PC I) 1 (vtB K 0 0 G true) (vtB_ok _ _ _ _ _) (by decide) rfl rfl W hW
  have hpart := fun w => money_Part K (I + G) G false (by omega) (by omega) (by omega) w
  have hshare := share_facts (C := C) (I := I) hG1 (by omega) hKG
  rw [Int.natCast_add] at hpart
  generalize (partN K (I + G) G false).1 = P1 at hpart hshare
  generalize (partN K (I + G) G false).2 = E at hpart hshare
  generalize (vtB K 0 0 G true).cs = cs at e21 e22 e24 e26 hsz hone ⊢
  replace e21 : cs[21]? = some (.int .u64 K) := e21
  replace e22 : cs[22]? = some (.int .u64 0) := e22
  replace e24 : cs[24]? = some (.int .u64 G) := e24
  replace e26 : cs[26]? = some (.bool true) := e26
  have hst := run_storeCells_new (P := Tryz.prog) w12 52 zVt cs (by rw [hsz]; kernel_rfl) (by rw [hsz]; rfl) hone
  have hb := Blk.new w12 cs 52
  have k12' : Chg [] w12 (w12.alloc (.cells cs 52)) := (Chg.refl _ _).alloc _
  have hA := h12.same k12'
  have hpool' := Lib.hid hpool
  have hsums' := Lib.hid hsums
  have hfs' := Lib.hid hfs
  have hPK' := Lib.hid hPK
  clear hpool hsums hfs h12 h11 h10 h9 h8 h7' hL2 hU1 hKG hPC hKC hPK hSC hS
  go_wp2_with fail
  refine (hpool'.out _ hA).mono ?_
  rintro e w13 ⟨rfl, k13⟩
  have hb13 := hb.chg k13 (by simp)
  have hA13 := hA.same k13
  have eP0 : ((mkB (vtB K 0 0 G true) L2 U1 PC I).pc : Int) = PC := rfl
  have eP1 : ((mkB (vtB K 0 0 G true) L2 U1 PC I).pi : Int) = I := rfl
  rw [eP0, eP1]
  clear eP0 eP1
  have g21 := (hb13.alloc (.cells #[.int .u64 (PC : Int), .int .u64 (I : Int)] 56)).cell 21 e21
  have g22 := (hb13.alloc (.cells #[.int .u64 (PC : Int), .int .u64 (I : Int)] 56)).cell 22 e22
  have g24 := (hb13.alloc (.cells #[.int .u64 (PC : Int), .int .u64 (I : Int)] 56)).cell 24 e24
  have g26 := (hb13.alloc (.cells #[.int .u64 (PC : Int), .int .u64 (I : Int)] 56)).cell 26 e26
  go_wp2_with fail
  have hb56 := Blk.new w13 #[.int .u64 (PC : Int), .int .u64 (I : Int)] 56
  have hA14 := hA13.same ((Chg.refl [] w13).alloc (.cells #[.int .u64 (PC : Int), .int .u64 (I : Int)] 56))
  have kP : Chg [] w12 (w13.alloc (.cells #[.int .u64 (PC : Int), .int .u64 (I : Int)] 56)) := (k12'.trans k13 (by simp)).alloc _
  have hb12 := hb13.alloc (.cells #[.int .u64 (PC : Int), .int .u64 (I : Int)] 56)
  clear g21 g22 g24 g26
  generalize w13.alloc (.cells #[.int .u64 (PC : Int), .int .u64 (I : Int)] 56) = W13 at hb56 hA14 kP hb12 ⊢
  refine (hpart W13).mono ?_
  rintro e w14 ⟨rfl, k14⟩
  have hb56' := hb56.chg k14 (by simp)
  have hb12' := hb12.chg k14 (by simp)
  have hA15 := hA14.same k14
  have kQ := kP.trans k14 (by simp)
  have g21 := hb12'.cell 21 e21
  have g22 := hb12'.cell 22 e22
  have g24 := hb12'.cell 24 e24
  have g26 := hb12'.cell 26 e26
  have d0 := hb56'.cell 0 (v := .int .u64 PC) rfl
  have d1 := hb56'.cell 1 (v := .int .u64 I) rfl
  have hnew : ∀ t ∈ x.all, t ∈ ([] : List Nat) ∨ w.heap.size ≤ t := fun t ht => .inr (Nat.le_trans kU.size (fx t ht))
  have q4 : Chg [] w w4 := kU3.trans k4 (fun t ht => hnew t (by simp at ht; simp [Lc.all, ht]))
  have q7 : Chg [] w w7 := (q4.trans k5 (by simp)).trans k7' hnew
  have q8 : Chg [] w w8 := q7.trans k8 (fun t ht => hnew t (by simp at ht; simp [Lc.all, ht]))
  have q9 : Chg [] w w9 := q8.trans k9 (fun t ht => hnew t (by simp at ht; rcases ht with h | h | h <;> simp [Lc.all, h]))
  have q10 : Chg [] w w10 := q9.trans k10 (fun t ht => hnew t (by simp at ht; rcases ht with h | h | h <;> simp [Lc.all, h]))
  have q11 : Chg [] w w11 := q10.trans k11 (fun t ht => hnew t (by simp at ht; rcases ht with h | h <;> simp [Lc.all, h]))
  have q14 : Chg [] w w14 := (q11.trans k12 (by simp)).trans kQ (by simp)
  clear hnew q4 q7 q8 q9 q10 q11
  have hPK := hPK'.out
  have hlt : (C : Int) < 18446744073709551616 := by omega
  clear hb56 hb12 hb13 hb56' hb12' hb hst hpart hA hA13 hA14 kP k12' hone hsz e21 e22 e24 e26 hz
  by_cases hE : E = 4
  · subst hE
    clear hshare
    go_wp2_with (first
      | (go_at_call 19; refine (hfs'.out _ hA15).mono ?_; rintro e w15 ⟨rfl, k15⟩; have hA16 := hA15.same k15)
      | (go_at_call 23; refine (hsums'.out _ hA16).mono ?_; rintro e w16 ⟨rfl, k16⟩))
    go_ret
    exact ⟨rfl, (q14.trans k15 (by simp)).trans k16 (by simp)⟩
  · have hE1 : (E == 4) = false := by simp [hE]
    have hP1 : (C : Int) ≤ P1 := by rcases hshare with h | h <;> omega
    clear hshare hE
    go_wp2_with (first
      | (go_at_call 19; refine (hfs'.out _ hA15).mono ?_; rintro e w15 ⟨rfl, k15⟩; have hA16 := hA15.same k15)
      | (go_at_call 23; refine (hsums'.out _ hA16).mono ?_; rintro e w16 ⟨rfl, k16⟩))
    go_ret
    exact ⟨rfl, (q14.trans k15 (by simp)).trans k16 (by simp)⟩
theorem wf_u64p {a : Int} (h : (Lit.int .u64 a).wf = true) : ∃ n : Nat, a = n := by
  have z : 0 ≤ a ∧ a ≤ 18446744073709551615 := by simpa [Lit.wf, IntKind.min, IntKind.max, IntKind.signed, IntKind.bits] using h
  exact ⟨a.toNat, by omega⟩
theorem law20_BookFallsV (a b c : Int) (w : World) (h0 : (Lit.int .u64 a).wf = true) (h1 : (Lit.int .u64 b).wf = true) (h2 : (Lit.int .u64 c).wf = true) :
    Calls Tryz.prog 3 #[.int .u64 a, .int .u64 b, .int .u64 c] w fun e w' => e = .returned (.bool true) ∧ Chg [] w w' := by
  obtain ⟨n0, rfl⟩ := wf_u64p h0
  obtain ⟨n1, rfl⟩ := wf_u64p h1
  obtain ⟨n2, rfl⟩ := wf_u64p h2
  exact law20_BookFalls n0 n1 n2 w
end Go.Proofs.YtackdgbcmeafhaaGreat

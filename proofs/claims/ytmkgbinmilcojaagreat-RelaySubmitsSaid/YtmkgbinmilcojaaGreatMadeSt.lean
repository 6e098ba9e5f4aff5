import Derived.Test.YtmkgbinmilcojaaGreatMadeAll
import Derived.Test.YtmkgbinmilcojaaGreatSubmitAll
import Derived.Test.YtmkgbinmilcojaaGreatRows0
import Derived.OpenShut

/- pontagelaw12.Made, of any step. -/
namespace Go.Proofs.YtmkgbinmilcojaaGreat
open Go.RowKit Go.Maps
attribute [-go_sem] loadCellsFrom Instr.build

def tmL (tm : Nat) (late : Int) : Nat := (((tm : Int) + late.tmod 2000) % 4294967296).toNat
def rootN (r : Nat) : List Nat := r :: List.replicate 31 0
def baseN (ah : List Nat) (t r b : Nat) : Hd := ⟨2, ah, rootN r, t, b, 0⟩
/-- the header ahead of the search for a nonce. -/
def madeB (ah : List Nat) (K : Int) (t r b : Nat) : Hd := if (K == 1) = true then baseN ah t r (b ^^^ 1) else if (K == 3) = true then baseN (ah.set 5 (ah.getD 5 0 ^^^ 1)) t r b else baseN ah t r b
def addN (h : Hd) (i : Nat) : Hd := { h with nc := (h.nc + i) % 4294967296 }
def spoilF (h : Hd) : Nat → Nat → Hd
  | 0, i => addN h i
  | k + 1, i => if (checkE (addN h (i + 1)) (TOP - 1) != 0) = true then addN h (i + 1) else spoilF h k (i + 1)
def madeM (h : Hd) : Hd := if (mineR h 400).isSome = true then (mineR h 400).getD hd0 else h
def madeN (ah : List Nat) (K : Int) (t r b : Nat) : Hd := if (K == 2) = true then spoilF (madeM (madeB ah K t r b)) 20 0 else madeM (madeB ah K t r b)
theorem tmL_lt (tm : Nat) (late : Int) : tmL tm late < 4294967296 := by unfold tmL; omega
theorem rootN_ok {r : Nat} (h : r < 256) : (rootN r).length = 32 ∧ ∀ x ∈ rootN r, x < 256 := by
  refine ⟨by simp [rootN], fun x hx => ?_⟩
  simp [rootN] at hx
  omega
theorem baseN_ok {ah : List Nat} (ha : HK ah) {t r b : Nat} (ht : t < 4294967296) (hr : r < 256) (hb : b < 4294967296) : HdOk (baseN ah t r b) :=
  ⟨by simp [baseN], ha.1, (rootN_ok hr).1, ha.2, (rootN_ok hr).2, ht, hb, by simp [baseN]⟩
theorem xor1_lt {a n : Nat} (h : a < 2 ^ n) (hn : 0 < n) : a ^^^ 1 < 2 ^ n := Nat.xor_lt_two_pow h (Nat.one_lt_two_pow (by omega))
theorem set5_ok {ah : List Nat} (ha : HK ah) : HK (ah.set 5 (ah.getD 5 0 ^^^ 1)) := by
  refine ⟨by rw [List.length_set]; exact ha.1, fun x hx => ?_⟩
  rcases List.mem_or_eq_of_mem_set hx with h | h
  · exact ha.2 x h
  · rw [h]
    have : ah.getD 5 0 < 256 := by
      have h5 : 5 < ah.length := by rw [ha.1]; decide
      rw [List.getD_eq_getElem?_getD, List.getElem?_eq_getElem h5]
      exact ha.2 _ (List.getElem_mem h5)
    exact xor1_lt (n := 8) this (by decide)
theorem madeB_ok {ah : List Nat} (ha : HK ah) (K : Int) {t r b : Nat} (ht : t < 4294967296) (hr : r < 256) (hb : b < 4294967296) : HdOk (madeB ah K t r b) := by
  unfold madeB
  split
  · exact baseN_ok ha ht hr (xor1_lt (n := 32) hb (by decide))
  · split
    · exact baseN_ok (set5_ok ha) ht hr hb
    · exact baseN_ok ha ht hr hb
theorem mineN_ok (n : Nat) : ∀ (h : Hd) (T : Nat) (m : Hd), HdOk h → mineN n h T = some m → HdOk m := by
  induction n with
  | zero =>
    intro h T m ok e
    unfold mineN at e
    split at e
    · cases e; exact ok
    · cases e
  | succ n ih =>
    intro h T m ok e
    unfold mineN at e
    split at e
    · cases e; exact ok
    · split at e
      · cases e
      · rename_i hne
        have h1 := ok.nc
        have h2 : h.nc + 1 < 4294967296 := by omega
        exact ih { h with nc := h.nc + 1 } T m ⟨ok.ver, ok.ah, ok.rt, ok.ahb, ok.rtb, ok.tm, ok.bt, h2⟩ e
theorem madeM_ok {h : Hd} (ok : HdOk h) : HdOk (madeM h) := by
  unfold madeM
  cases e : mineR h 400 with
  | none => exact ok
  | some m =>
    simp only [Option.isSome_some, if_true, Option.getD_some]
    unfold mineR at e
    split at e
    · cases e
    · exact mineN_ok _ _ _ _ ok e
theorem addN_ok {h : Hd} (ok : HdOk h) (i : Nat) : HdOk (addN h i) := ⟨ok.ver, ok.ah, ok.rt, ok.ahb, ok.rtb, ok.tm, ok.bt, Nat.mod_lt _ (by decide)⟩
theorem spoilF_ok {h : Hd} (ok : HdOk h) : ∀ (k i : Nat), HdOk (spoilF h k i)
  | 0, i => addN_ok ok i
  | k + 1, i => by
    unfold spoilF
    split
    · exact addN_ok ok _
    · exact spoilF_ok ok k _
theorem madeN_ok {ah : List Nat} (ha : HK ah) (K : Int) {t r b : Nat} (ht : t < 4294967296) (hr : r < 256) (hb : b < 4294967296) : HdOk (madeN ah K t r b) := by
  unfold madeN
  split
  · exact spoilF_ok (madeM_ok (madeB_ok ha K ht hr hb)) _ _
  · exact madeM_ok (madeB_ok ha K ht hr hb)
theorem hdl_set6 {kl r : List Value} {x v : Value} (h : kl.length = 32) : (x :: (kl ++ r)).toArray.setIfInBounds 6 v = (x :: (kl.set 5 v ++ r)).toArray := by
  apply Array.ext'
  simp only [Array.toList_setIfInBounds]
  rw [show 6 = 5 + 1 from rfl, List.set_cons_succ, List.set_append_left _ _ (by omega)]
theorem rootL_N (r : Nat) : rootL (r : Int) = bytesV (rootN r) := by simp [rootL, rootN, bytesV]
theorem buildW0 (_ : World) : ∃ wz, wv 0 = .agg wz ∧ ∀ w, (Instr.build 51 #[]).run Tryz.prog w = .ok (.agg wz) w := ⟨_, rfl, fun w => by kernel_rfl⟩
theorem law12_MadeA (x : Lt) (T : Tr) (I : TrInv T) (a B M : Hd) (R : Option Hd) (aok : HdOk a) (ah : List Nat) (ha : HK ah) (K an late : Int) (root b t : Nat) (_ : root < 256) (hb : b < 4294967296) (hbn : (T.bitsOf ah).1 = b) (ht : tmL a.tm late = t) (hB : B = madeB ah K t root b) (hbo : HdOk B) (hmo : HdOk M)
    (hM : M = if R.isSome = true then R.getD hd0 else B) (Ro : HdOk (R.getD hd0)) (w : World) (hT : TreeAt w x T)
    (hhash : ∀ w, Calls Tryz.prog 27 #[.agg a.cs] w fun e w' => e = .returned (hv ah) ∧ Chg [] w w')
    (hmd : ∀ w, Calls Tryz.prog 35 #[.agg B.cs, .int .u32 400] w fun e w' => e = .returned (.tuple #[.agg (R.getD hd0).cs, .bool R.isSome]) ∧ Chg [] w w') :
    Calls Tryz.prog 12 #[.pointer (some ⟨x.b, 0, none⟩), .agg a.cs, .agg #[.int .i64 K, .int .i64 an, .int .i32 late, .int .u8 (root : Int)]] w fun e w' => e = .returned (.agg (if (K == 2) = true then spoilF M 20 0 else M).cs) ∧ Chg [] w w' := by
  obtain ⟨wz, ewz, hbw⟩ := buildW0 w
  obtain ⟨L, hL⟩ : ∃ L, L = TOP - 1 := ⟨_, rfl⟩
  have hL2 : L < TOP := by rw [hL]; unfold TOP; omega
  obtain ⟨wn, ewn, swn, _⟩ := wvC L
  have hnot := fun w => wide_Not 0 (by unfold TOP; omega) w
  rw [Nat.sub_zero, ← hL, ewz, ewn] at hnot
  have hl5 : 5 < ah.length := by rw [ha.1]; decide
  have l1 := Int.tmod_lt_of_pos late (show (0 : Int) < 2000 by omega)
  have l2 := Int.lt_tmod_of_pos late (show (0 : Int) < 2000 by omega)
  have hbase : ∀ bb : Nat, (Value.int .u32 2 :: (bytesV ah ++ (rootL (root : Int) ++ [Value.int .u32 (t : Int), Value.int .u32 (bb : Int), Value.int .u32 0]))).toArray = (baseN ah t root bb).cs := fun bb => by rw [rootL_N]; rfl
  have hchk : ∀ i w, Calls Tryz.prog 39 #[.agg (addN M (i + 1)).cs, .agg wn] w fun e w' => e = .returned (.int .i64 (checkE (addN M (i + 1)) (TOP - 1))) ∧ Chg [] w w' := fun i w => by
    have := header_Check (addN M (i + 1)) (addN_ok hmo _) L hL2 w
    rw [ewn, hL] at this
    exact this
  obtain ⟨cc, hcc⟩ : ∃ cc : Nat → Int, ∀ i, checkE (addN M i) (TOP - 1) = cc i := ⟨_, fun _ => rfl⟩
  obtain ⟨sp, hsp⟩ : ∃ sp : Nat → Hd, ∀ i, spoilF M (20 - i) i = sp i := ⟨_, fun _ => rfl⟩
  obtain ⟨am, ham⟩ : ∃ am : Nat → Hd, ∀ i, addN M i = am i := ⟨_, fun _ => rfl⟩
  have hamo : ∀ i, HdOk (am i) := fun i => by rw [← ham]; exact addN_ok hmo i
  have s20 : sp 20 = am 20 := by rw [← hsp, ← ham]; rfl
  have sN : ∀ i, i < 20 → (cc (i + 1) != 0) = true → sp i = am (i + 1) := fun i hi hc => by
    obtain ⟨k, hk⟩ : ∃ k, 20 - i = k + 1 := ⟨20 - i - 1, by omega⟩
    rw [← hsp, hk, ← ham]
    unfold spoilF
    rw [hcc, if_pos hc]
  have sC : ∀ i, i < 20 → (cc (i + 1) != 0) = false → sp i = sp (i + 1) := fun i hi hc => by
    obtain ⟨k, hk⟩ : ∃ k, 20 - i = k + 1 := ⟨20 - i - 1, by omega⟩
    rw [← hsp, ← hsp, hk, show 20 - (i + 1) = k by omega]
    conv => lhs; unfold spoilF
    rw [hcc, if_neg (by rw [hc]; simp)]
  have a0 : am 0 = M := by
    have := hmo.nc
    rw [← ham]; unfold addN; rw [Nat.add_zero, Nat.mod_eq_of_lt this]
  have an1 : ∀ i, (am (i + 1)).cs = (am i).cs.setIfInBounds 67 (.int .u32 ((am (i + 1)).nc : Int)) := fun i => by
    rw [Hd.nonce (hamo i), ← ham, ← ham]; rfl
  have ann : ∀ i, IntKind.u32.wrap (((am i).nc : Int) + 1) = ((am (i + 1)).nc : Int) := fun i => by
    rw [IntKind.wrap_u32, ← ham, ← ham]
    simp only [addN]
    omega
  have sp0 : spoilF M 20 0 = sp 0 := hsp 0
  have hchk2 : ∀ i w, Calls Tryz.prog 39 #[.agg (am (i + 1)).cs, .agg wn] w fun e w' => e = .returned (.int .i64 (cc (i + 1))) ∧ Chg [] w w' := fun i w => by
    have := hchk i w
    rw [hcc, ham] at this
    exact this
  rw [sp0]
  clear sp0 hsp hcc ham hchk
  refine law12_MadeG x.b a.l (bytesV ah) K an late root a.tm t b (T.bitsOf ah).2 (b ^^^ 1 : Nat) (ah.getD 5 0 : Nat) (ah.getD 5 0 ^^^ 1 : Nat) B.cs (R.getD hd0).cs M.cs
    (if (K == 2) = true then sp 0 else M).cs wz wn R.isSome (fun i => (am i).cs) (fun i => (sp i).cs) (fun i => ((am i).nc : Int)) cc
    (Hd.size aok) (by rw [bytesV_len]; exact ha.1) (fun v hv => bytesV_one _ v hv) (Hd.size Ro) (Hd.one _) (Hd.size hbo) (Hd.one _) (Hd.c65 aok) (by rw [IntKind.wrap_i32]; omega) (by rw [IntKind.wrap_u32, IntKind.wrap_u32, ← ht]; unfold tmL; omega) ?_ ?_ ?_ ?_ ?_ ?_ an1 ?_ ann (fun i => Hd.size (hamo i)) (fun i => Hd.one _) ?_ ?_ ?_ ?_ ?_
    hhash w (fun w1 k => ?_) hmd hbw hnot hchk2
  · simp only [bytesV, List.getElem?_map, List.getElem?_eq_getElem hl5, Option.map_some, List.getD_eq_getElem?_getD, Option.getD_some]
  · exact u32_xor_nat b 1 hb (by decide)
  · refine u8_xor_nat (ah.getD 5 0) 1 ?_ (by decide)
    rw [List.getD_eq_getElem?_getD, List.getElem?_eq_getElem hl5]
    exact ha.2 _ (List.getElem_mem hl5)
  · rw [hB]
    unfold madeB
    cases h1 : (K == 1) with
    | true => refine .inl (.inl ⟨rfl, ?_⟩); rw [if_pos rfl, hdl_set66 (by rw [bytesV_len]; exact ha.1) (by simp [rootL])]; exact (hbase _).symm
    | false =>
      rw [if_neg (by simp)]
      cases h3 : (K == 3) with
      | true =>
        refine .inl (.inr ⟨rfl, rfl, ?_⟩)
        rw [if_pos rfl, hdl_set6 (by rw [bytesV_len]; exact ha.1), rootL_N]
        simp only [baseN, Hd.cs, Hd.l, bytesV, List.map_set]
        rfl
      | false => refine .inr ⟨rfl, rfl, ?_⟩; rw [if_neg (by simp)]; exact (hbase _).symm
  · rw [hM]; split <;> rfl
  · show (am 0).cs = M.cs
    rw [a0]
  · exact fun i => Hd.c67 (hamo i)
  · show (sp 20).cs = (am 20).cs
    rw [s20]
  · intro i hi hc
    show (sp i).cs = (am (i + 1)).cs
    rw [sN i hi hc]
  · intro i hi hc
    show (sp i).cs = (sp (i + 1)).cs
    rw [sC i hi hc]
  · intro h2
    rw [if_pos h2]
  · intro h2
    rw [if_neg (by rw [h2]; simp)]
  · have := tree_BitsG x T I ah ha w1 (hT.chg I.ok k)
    rw [hbn] at this
    exact this
theorem law12_Made (x : Lt) (T : Tr) (I : TrInv T) (a : Hd) (aok : HdOk a) (K an late : Int) (root : Nat) (hr : root < 256) (hb : (T.bitsOf (hdH a)).1 < 4294967296) (w : World) (hT : TreeAt w x T) :
    Calls Tryz.prog 12 #[.pointer (some ⟨x.b, 0, none⟩), .agg a.cs, .agg #[.int .i64 K, .int .i64 an, .int .i32 late, .int .u8 (root : Int)]] w fun e w' => e = .returned (.agg (madeN (hdH a) K (tmL a.tm late) root (T.bitsOf (hdH a)).1).cs) ∧ Chg [] w w' := by
  have ha : HK (hdH a) := HK_hash a
  have hbo := madeB_ok ha K (tmL_lt a.tm late) hr hb
  have hmo := madeM_ok hbo
  have hmd := header_Mine _ hbo 400 (by omega)
  have hh := fun w => header_Hash a aok w
  obtain ⟨b, hbn⟩ : ∃ b, (T.bitsOf (hdH a)).1 = b := ⟨_, rfl⟩
  obtain ⟨t, ht⟩ : ∃ t, tmL a.tm late = t := ⟨_, rfl⟩
  unfold madeN
  rw [hbn, ht] at hbo hmo hmd ⊢
  rw [hbn] at hb
  obtain ⟨B, hB⟩ : ∃ B, B = madeB (hdH a) K t root b := ⟨_, rfl⟩
  rw [← hB] at hbo hmo hmd ⊢
  obtain ⟨R, hR⟩ : ∃ R, R = mineR B 400 := ⟨_, rfl⟩
  rw [← hR] at hmd
  obtain ⟨M, hM⟩ : ∃ M, M = madeM B := ⟨_, rfl⟩
  rw [← hM] at hmo ⊢
  have hM2 : M = if R.isSome = true then R.getD hd0 else B := by rw [hM, hR]; unfold madeM; rfl
  have hRo : HdOk (R.getD hd0) := by
    cases R with
    | none => exact hd0_ok
    | some m =>
      simp only [Option.isSome_some, if_true, Option.getD_some] at hM2 ⊢
      rw [← hM2]; exact hmo
  exact law12_MadeA x T I a B M R aok (hdH a) ha K an late root b t hr hb hbn ht hB hbo hmo hM2 hRo w hT hh hmd
end Go.Proofs.YtmkgbinmilcojaaGreat

/- pontagelaw12.Step's slices among the arguments; bounds of the bits that must come. -/
namespace Go.Proofs.YtmkgbinmilcojaaGreat
open Go.RowKit Go.Maps Go.Shelf

/-- the slice value v holds n steps. -/
def Steps12 (w : World) (v : Value) (n : Nat) : Prop := ∃ V, RowsAt w v n 4 V ∧ ∀ i, i < n → ∃ (K an late : Int) (root : Nat), root < 256 ∧ V i 0 = .int .i64 K ∧ V i 1 = .int .i64 an ∧ V i 2 = .int .i32 late ∧ V i 3 = .int .u8 (root : Int)
theorem Steps12.chg {w w' : World} {v : Value} {n : Nat} (h : Steps12 w v n) (c : Chg [] w w') : Steps12 w' v n := by obtain ⟨V, h, k⟩ := h; exact ⟨V, h.chg c, k⟩
theorem Steps12.len {w : World} {v : Value} {n : Nat} (h : Steps12 w v n) : ∃ a cap, v = .slice a n cap := by obtain ⟨V, ⟨a, cap, e, _⟩, _⟩ := h; exact ⟨a, cap, e⟩
theorem Steps12.at {w : World} {a : Option Addr} {n cap : Nat} (h : Steps12 w (.slice a n cap) n) {i : Nat} (hi : i < n) : ∃ (b off : Nat) (K an late : Int) (root : Nat), root < 256 ∧ a = some ⟨b, off, none⟩ ∧
    w.cell? ⟨b, off + i * 4, none⟩ = some (.int .i64 K) ∧ w.cell? ⟨b, off + i * 4 + 1, none⟩ = some (.int .i64 an) ∧ w.cell? ⟨b, off + i * 4 + 2, none⟩ = some (.int .i32 late) ∧ w.cell? ⟨b, off + i * 4 + 3, none⟩ = some (.int .u8 (root : Int)) := by
  obtain ⟨V, ⟨a2, cap2, e, hc⟩, k⟩ := h
  cases e
  obtain ⟨b, off, e, hb, hcells⟩ := hc i hi
  obtain ⟨K, an, late, root, hr, e0, e1, e2, e3⟩ := k i hi
  exact ⟨b, off, K, an, late, root, hr, e, by rw [← e0]; exact hcells 0 (by omega), by rw [← e1]; exact hcells 1 (by omega), by rw [← e2]; exact hcells 2 (by omega), by rw [← e3]; exact hcells 3 (by omega)⟩
theorem encN_lt {n : Nat} (h : n < TOP) : encN n < 4294967296 := by
  have h1 := manN_lt (n := n)
  have h2 := exN_le h
  unfold encN
  split <;> omega
theorem nextN_lt (s l b : Nat) (k : Int) : nextN s l b k < 4294967296 := by
  unfold nextN
  split
  · omega
  · split
    · omega
    · split
      · omega
      · rename_i h _
        have h8 : okD l = true := by simpa using h
        have h9 := decT_lt l
        exact encN_lt (scaleN_lt (by simpa [decT, h8] using h9))
theorem bitsOf_lt {T : Tr} (ok : TrOk T) (k : List Nat) : (T.bitsOf k).1 < 4294967296 := by
  unfold Tr.bitsOf
  cases hf : T.find k with
  | none => show (0 : Nat) < _; decide
  | some i =>
    obtain ⟨p, hp, _⟩ := Tr.find_some hf
    simp only [Option.bind_some, hp, Option.map_some]
    unfold Tr.nb
    split
    · exact nextN_lt _ _ _ _
    · exact (ok.hd p (List.mem_of_getElem? hp)).bt
section
open Go.ChangeShapes Go.WideShapes Go.Deep
variable {H : Type} {W : World} {base : Nat} {sp : Nat → Bool} {held : Bool}
set_option maxRecDepth 100000 in
theorem open_steps (enc : TypeId × Value → H) (W : World) (v : Value) (d : DataW H) (ps : List MemPlace) {r : Reach} {b0 : Nat} (h : DataW.Trod enc Tryz.prog W base sp held 23 v d ps) (hval : Value.okWide Tryz.prog W r b0 23 v) :
    ∃ n, n ≤ maxLen ∧ Steps12 W v n := by
  obtain ⟨n, N, V, hN, hR, hV⟩ := open_rows Tryz.underlying23 Tryz.underlying46 (hone_of (by kernel_rfl)) (by kernel_rfl) (by decide) h hval
  refine ⟨N, hN, V, hR, fun i hi => ?_⟩
  obtain ⟨Y0, h0⟩ := hV i hi 0 _ rfl
  obtain ⟨Y1, h1⟩ := hV i hi 1 _ rfl
  obtain ⟨Y2, h2⟩ := hV i hi 2 _ rfl
  obtain ⟨Y3, h3⟩ := hV i hi 3 _ rfl
  obtain ⟨a0, e0, _, w0⟩ := DataW.trod_int Tryz.underlying3 h0
  obtain ⟨a1, e1, _, w1⟩ := DataW.trod_int Tryz.underlying3 h1
  obtain ⟨a2, e2, _, w2⟩ := DataW.trod_int Tryz.underlying21 h2
  obtain ⟨a3, e3, _, w3⟩ := DataW.trod_int Tryz.underlying5 h3
  simp only [List.cons.injEq, and_true] at e0 e1 e2 e3
  obtain ⟨b1, b2⟩ := wf_u8.1 w3
  exact ⟨a0, a1, a2, a3.toNat, by omega, e0, e1, e2, by rw [e3]; congr 1; omega⟩
end
end Go.Proofs.YtmkgbinmilcojaaGreat

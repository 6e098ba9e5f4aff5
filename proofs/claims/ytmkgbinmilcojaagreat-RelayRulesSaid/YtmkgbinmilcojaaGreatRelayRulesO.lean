import Derived.Test.YtmkgbinmilcojaaGreatLives13
import Derived.Test.YtmkgbinmilcojaaGreatOpenRules
import Derived.OpenShut

/- pontagelaw13.RelayRules. -/
namespace Go.Proofs.YtmkgbinmilcojaaGreat
open Go.RowKit Go.Maps
attribute [-go_sem] loadCellsFrom Instr.build

set_option maxRecDepth 100000 in
set_option maxHeartbeats 4000000 in
theorem law13_RelayRules (r : Rl) (ok : RlOk r) (w : World) :
    Calls Tryz.prog 4 #[.agg r.cs] w fun e w' => e = .returned (.bool true) ∧ Chg [] w w' := by
  have hnew := relay_New r ok
  have hck := rules_Check r ok
  have hlives := law13_lives
  have hrs : r.cs.size = 72 := Rl.size ok
  have bR := Blk.new w r.cs 30
  have ldR := load_blkC bR 72 hrs
  have k0 : Chg [] w (w.alloc (.cells r.cs 30)) := (Chg.refl _ _).alloc _
  generalize r.cs = cr at *
  obtain ⟨ce, hce⟩ : ∃ ce, ce = checkR r := ⟨_, rfl⟩
  simp only [← hce] at hnew hck
  clear hce ok
  go_enter Tryz.func4, Tryz.ntmps4
  go_upto_region 1 with fail
  generalize w.alloc (.cells cr 30) = w0 at *
  generalize w.heap.size = gR at *
  go_wp2_with fail
  refine (hnew _).mono ?_
  rintro e w1 ⟨k1, h⟩
  have bR := bR.chg k1 (by simp)
  have k01 := k0.trans k1 (by simp)
  rcases h with ⟨hne, rfl⟩ | ⟨h0, rb, x, rfl, -, -, -, -⟩
  · have hb : (ce == 0) = false := by simp [hne]
    have hb2 : (ce != 0) = true := by simp [hne]
    clear hne
    dsimp only
    go_wp2_with fail
    refine (hlives _).mono ?_
    rintro e w2 ⟨rfl, k2⟩
    dsimp only
    have bR := bR.chg k2 (by simp)
    have ldR := load_blkC bR 72 hrs
    have k02 := k01.trans k2 (by simp)
    go_wp2_with fail
    refine (hck _).mono ?_
    rintro e w3 ⟨rfl, k3⟩
    dsimp only
    have k03 := k02.trans k3 (by simp)
    go_wp2
    go_ret
    exact ⟨rfl, k03⟩
  · subst h0
    dsimp only
    go_wp2_with fail
    refine (hlives _).mono ?_
    rintro e w2 ⟨rfl, k2⟩
    dsimp only
    have bR := bR.chg k2 (by simp)
    have ldR := load_blkC bR 72 hrs
    have k02 := k01.trans k2 (by simp)
    go_wp2_with fail
    refine (hck _).mono ?_
    rintro e w3 ⟨rfl, k3⟩
    dsimp only
    have k03 := k02.trans k3 (by simp)
    go_wp2
    go_ret
    exact ⟨rfl, k03⟩
end Go.Proofs.YtmkgbinmilcojaaGreat

/- An argument that is adjust.Rules, opened whole. -/
namespace Go.Proofs.YtmkgbinmilcojaaGreat
open Go.RowKit Go.Maps Go.Shelf Go.ChangeShapes Go.WideShapes Go.Deep
variable {H : Type} {base : Nat} {sp : Nat → Bool} {held : Bool}

theorem bytes_of : ∀ (cs : List Value), (∀ i, i < cs.length → ∃ a : Nat, a < 256 ∧ cs[i]? = some (.int .u8 (a : Int))) → ∃ l : List Nat, l.length = cs.length ∧ (∀ x ∈ l, x < 256) ∧ cs = bytesV l
  | [], _ => ⟨[], rfl, by simp, rfl⟩
  | v :: cs, h => by
    obtain ⟨l, h1, h2, h3⟩ := bytes_of cs (fun i hi => by simpa using h (i + 1) (by simp; omega))
    obtain ⟨a, ha, hv⟩ := h 0 (by simp)
    simp at hv
    exact ⟨a :: l, by simp [h1], fun x hx => (List.mem_cons.1 hx).elim (fun e => e ▸ ha) (h2 x), by rw [hv, h3]; rfl⟩
theorem take_of {L : List Value} {i n j : Nat} {v : Value} (h : ((L.drop i).take n)[j]? = some v) : L[i + j]? = some v := by
  rw [List.getElem?_take] at h
  split at h
  · simpa using h
  · cases h
set_option maxRecDepth 100000 in
theorem open_hash (enc : TypeId × Value → H) (W : World) (cs : List Value) {x : DataW H × List MemPlace} {fuel : Nat} (h : DataW.trod enc Tryz.prog W base sp held fuel 26 cs = some x) :
    ∃ l : List Nat, l.length = 32 ∧ (∀ x ∈ l, x < 256) ∧ cs = bytesV l := by
  obtain ⟨xs, m, _, _, hl, hlen, hf⟩ := DataW.trod_array Tryz.underlying26 h
  have e32 : Tryz.prog.cellsOf 26 = 32 := by kernel_rfl
  rw [e32] at hl
  obtain ⟨l, h1, h2, h3⟩ := bytes_of cs (fun i hi => by
    have h1 := hf i (by omega)
    rw [List.getElem?_eq_getElem (by omega)] at h1
    obtain ⟨a, e, _, wf⟩ := DataW.trod_int Tryz.underlying5 h1
    have z : 0 ≤ a ∧ a ≤ 255 := by simpa [Lit.wf, IntKind.min, IntKind.max, IntKind.signed, IntKind.bits] using wf
    have e1 : Tryz.prog.cellsOf 5 = 1 := by kernel_rfl
    rw [e1, Nat.mul_one] at e
    exact ⟨a.toNat, by omega, by rw [Int.toNat_of_nonneg z.1]; exact take1_of e⟩)
  exact ⟨l, by omega, h2, h3⟩
theorem u32_nat {a : Int} (wf : (Lit.int .u32 a).wf = true) : ∃ n : Nat, n < 4294967296 ∧ a = n := by
  have z : 0 ≤ a ∧ a ≤ 4294967295 := by simpa [Lit.wf, IntKind.min, IntKind.max, IntKind.signed, IntKind.bits] using wf
  exact ⟨a.toNat, by omega, by omega⟩
theorem hd_split (L : List Value) (hL : L.length = 68) {a b c d : Value} {A B : List Value} (h0 : L[0]? = some a) (hA : (L.drop 1).take 32 = A) (hB : (L.drop 33).take 32 = B) (h65 : L[65]? = some b) (h66 : L[66]? = some c) (h67 : L[67]? = some d) : L = a :: (A ++ (B ++ [b, c, d])) := by
  subst hA hB
  apply List.ext_getElem?
  intro i
  by_cases h : i < 68
  · rcases Nat.lt_or_ge i 1 with h1 | h1
    · rw [show i = 0 by omega]; exact h0
    · rw [show i = (i - 1) + 1 by omega, List.getElem?_cons_succ]
      rcases Nat.lt_or_ge i 33 with h2 | h2
      · rw [List.getElem?_append_left (by simp; omega), List.getElem?_take, if_pos (by omega), List.getElem?_drop, Nat.add_comm 1]
      · rw [List.getElem?_append_right (by simp; omega)]
        have l1 : ((L.drop 1).take 32).length = 32 := by simp; omega
        rw [l1]
        rcases Nat.lt_or_ge i 65 with h3 | h3
        · rw [List.getElem?_append_left (by simp; omega), List.getElem?_take, if_pos (by omega), List.getElem?_drop]
          congr 1; omega
        · have l2 : ((L.drop 33).take 32).length = 32 := by simp; omega
          rw [List.getElem?_append_right (by rw [l2]; omega), l2]
          have : i = 65 ∨ i = 66 ∨ i = 67 := by omega
          rcases this with rfl | rfl | rfl
          · exact h65
          · exact h66
          · exact h67
  · rw [List.getElem?_eq_none (by omega), List.getElem?_eq_none (by simp; omega)]
set_option maxRecDepth 100000 in
theorem open_hd (enc : TypeId × Value → H) (W : World) (L : List Value) {x : DataW H × List MemPlace} {fuel : Nat} (h : DataW.trod enc Tryz.prog W base sp held fuel 28 L = some x) :
    ∃ h : Hd, HdOk h ∧ L = h.l := by
  obtain ⟨xs, n, _, _, hl, hlen, hf⟩ := DataW.trod_struct Tryz.underlying28 h
  have hlen' : xs.length = 6 := hlen
  have e68 : Tryz.prog.cellsOf 28 = 68 := by kernel_rfl
  have e32 : Tryz.prog.cellsOf 26 = 32 := by kernel_rfl
  rw [e68] at hl
  have f0 := hf 0 _ rfl
  have f1 := hf 1 _ rfl
  have f2 := hf 2 _ rfl
  have f3 := hf 3 _ rfl
  have f4 := hf 4 _ rfl
  have f5 := hf 5 _ rfl
  rw [List.getElem?_eq_getElem (by omega)] at f0 f1 f2 f3 f4 f5
  obtain ⟨a0, e0, _, w0⟩ := DataW.trod_int Tryz.underlying22 f0
  obtain ⟨a3, e3, _, w3⟩ := DataW.trod_int Tryz.underlying22 f3
  obtain ⟨a4, e4, _, w4⟩ := DataW.trod_int Tryz.underlying22 f4
  obtain ⟨a5, e5, _, w5⟩ := DataW.trod_int Tryz.underlying22 f5
  obtain ⟨A, A1, A2, A3⟩ := open_hash enc W _ f1
  obtain ⟨B, B1, B2, B3⟩ := open_hash enc W _ f2
  have o0 := take1_of e0
  have o3 := take1_of e3
  have o4 := take1_of e4
  have o5 := take1_of e5
  obtain ⟨n0, z0, rfl⟩ := u32_nat w0
  obtain ⟨n3, z3, rfl⟩ := u32_nat w3
  obtain ⟨n4, z4, rfl⟩ := u32_nat w4
  obtain ⟨n5, z5, rfl⟩ := u32_nat w5
  refine ⟨⟨n0, A, B, n3, n4, n5⟩, ⟨z0, A1, B1, A2, B2, z3, z4, z5⟩, ?_⟩
  exact hd_split L hl o0 A3 B3 o3 o4 o5
theorem rl_split (L : List Value) (hL : L.length = 72) {a b c d : Value} {A : List Value} (h0 : L[0]? = some a) (h1 : L[1]? = some b) (h2 : L[2]? = some c) (h3 : L[3]? = some d) (hA : (L.drop 4).take 68 = A) : L = a :: b :: c :: d :: A := by
  rw [List.take_of_length_le (by simp; omega)] at hA
  subst hA
  match L, hL with
  | x0 :: x1 :: x2 :: x3 :: L, _ =>
    simp at h0 h1 h2 h3
    subst h0 h1 h2 h3
    rfl
set_option maxRecDepth 100000 in
theorem open_rl (enc : TypeId × Value → H) (W : World) (v : Value) (d : DataW H) (ps : List MemPlace) {r : Reach} {b0 : Nat} (h : DataW.Trod enc Tryz.prog W base sp held 30 v d ps) (hval : Value.okWide Tryz.prog W r b0 30 v) :
    ∃ r : Rl, RlOk r ∧ v = .agg r.cs := by
  obtain ⟨cs, rfl, hsz⟩ := okWide_struct Tryz.underlying30 hval
  obtain ⟨fuel, hf⟩ := h
  obtain ⟨xs, n, _, _, hl, hlen, hfield⟩ := DataW.trod_struct Tryz.underlying30 hf
  have hlen' : xs.length = 5 := hlen
  have f0 := hfield 0 _ rfl
  have f1 := hfield 1 _ rfl
  have f2 := hfield 2 _ rfl
  have f3 := hfield 3 _ rfl
  have f4 := hfield 4 _ rfl
  rw [List.getElem?_eq_getElem (by omega)] at f0 f1 f2 f3 f4
  obtain ⟨a0, e0, _, w0⟩ := DataW.trod_int Tryz.underlying3 f0
  obtain ⟨a1, e1, _, w1⟩ := DataW.trod_int Tryz.underlying22 f1
  obtain ⟨a2, e2, _, w2⟩ := DataW.trod_int Tryz.underlying22 f2
  obtain ⟨a3, e3, _, w3⟩ := DataW.trod_int Tryz.underlying3 f3
  obtain ⟨h, hok, hh⟩ := open_hd enc W _ f4
  have o0 := take1_of e0
  have o1 := take1_of e1
  have o2 := take1_of e2
  have o3 := take1_of e3
  obtain ⟨n1, z1, rfl⟩ := u32_nat w1
  obtain ⟨n2, z2, rfl⟩ := u32_nat w2
  have hl72 : cs.size = 72 := by rw [hsz]; kernel_rfl
  have := rl_split cs.toList (by simpa using hl72) o0 o1 o2 o3 hh
  refine ⟨⟨a0, n1, n2, a3, h⟩, ⟨wf_i64n w0, z1, z2, wf_i64n w3, hok⟩, ?_⟩
  obtain ⟨l⟩ := cs
  simp only at this
  rw [this]
  rfl
theorem law13_RelayRules_ (v : Value) (w : World) (hv : ∃ r : Rl, RlOk r ∧ v = .agg r.cs) : Calls Tryz.prog 4 #[v] w fun e w' => e = .returned (.bool true) ∧ Chg [] w w' := by
  obtain ⟨r, ok, rfl⟩ := hv
  exact law13_RelayRules r ok w
end Go.Proofs.YtmkgbinmilcojaaGreat

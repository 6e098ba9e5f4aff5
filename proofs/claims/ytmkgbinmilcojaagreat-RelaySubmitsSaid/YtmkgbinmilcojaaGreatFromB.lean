/- Package wide: FromBytes. Printed by fromgen.py. -/
import Derived.Test.YtmkgbinmilcojaaGreatDblHead
import Derived.Test.YtmkgbinmilcojaaGreatWideAB
import Derived.Test.YtmkgbinmilcojaaGreatWideGH
namespace Go.Proofs.YtmkgbinmilcojaaGreat
open Go.RowKit Go.Maps
attribute [-go_sem] loadCellsFrom

/-- bytes' number, the lowest first. -/
def numB (l : List Nat) : Nat := l.foldr (fun b n => b + 256 * n) 0
theorem numB_append : ∀ (x y : List Nat), numB (x ++ y) = numB x + 256 ^ x.length * numB y
  | [], y => by simp [numB]
  | b :: x, y => by
    have h := numB_append x y
    simp only [numB, List.cons_append, List.foldr_cons, List.length_cons] at h ⊢
    rw [h, Nat.pow_succ, Nat.mul_add, Nat.mul_comm (256 ^ x.length) 256, Nat.mul_assoc, Nat.add_assoc]
theorem numB_lt : ∀ {l : List Nat}, (∀ x ∈ l, x < 256) → numB l < 256 ^ l.length
  | [], _ => by simp [numB]
  | b :: x, h => by
    have h1 := numB_lt (l := x) (fun y hy => h y (by simp [hy]))
    have h2 := h b (by simp)
    simp only [numB, List.foldr_cons, List.length_cons, Nat.pow_succ] at h1 ⊢
    omega
def pw (l : List Nat) (i a : Nat) : Nat := numB ((l.drop (8 * a)).take (min (i - 8 * a) 8))
theorem pw_other (l : List Nat) {i a r b : Nat} (hi : i = 8 * a + r) (hr : r < 8) (hb : b ≠ a) : pw l (i + 1) b = pw l i b := by
  unfold pw
  rw [show min (i + 1 - 8 * b) 8 = min (i - 8 * b) 8 by omega]
theorem pw_step {l : List Nat} {i a r : Nat} (hi : i = 8 * a + r) (hr : r < 8) (hl : i < l.length) : pw l (i + 1) a = pw l i a + l[i] * 256 ^ r := by
  unfold pw
  rw [show min (i + 1 - 8 * a) 8 = r + 1 by omega, show min (i - 8 * a) 8 = r by omega, List.take_succ_eq_append_getElem (by simp; omega), numB_append]
  have e : (List.take r (List.drop (8 * a) l)).length = r := by simp; omega
  rw [e]
  simp [numB, hi, Nat.mul_comm]
theorem pw_lt {l : List Nat} (h : ∀ x ∈ l, x < 256) {i a r : Nat} (hi : i = 8 * a + r) (hr : r < 8) : pw l i a < 256 ^ r := by
  unfold pw
  rw [show min (i - 8 * a) 8 = r by omega]
  exact Nat.lt_of_lt_of_le (numB_lt (fun x hx => h x (List.mem_of_mem_drop (List.mem_of_mem_take hx)))) (Nat.pow_le_pow_right (by decide) (by simp; omega))
theorem pw_all {l : List Nat} (hl : l.length = 32) : num4 (pw l 32 0) (pw l 32 1) (pw l 32 2) (pw l 32 3) = numB l := by
  have e : ∀ k, k < 4 → pw l 32 k = numB ((l.drop (8 * k)).take 8) := fun k hk => by unfold pw; rw [show min (32 - 8 * k) 8 = 8 by omega]
  have h1 : numB l = numB (l.take 8) + 256 ^ 8 * numB (l.drop 8) := by
    have := numB_append (l.take 8) (l.drop 8); rw [List.take_append_drop] at this; rw [this]; simp [hl]
  have h2 : numB (l.drop 8) = numB ((l.drop 8).take 8) + 256 ^ 8 * numB (l.drop 16) := by
    have := numB_append ((l.drop 8).take 8) ((l.drop 8).drop 8); rw [List.take_append_drop, List.drop_drop] at this; rw [this]; simp [hl]
  have h3 : numB (l.drop 16) = numB ((l.drop 16).take 8) + 256 ^ 8 * numB (l.drop 24) := by
    have := numB_append ((l.drop 16).take 8) ((l.drop 16).drop 8); rw [List.take_append_drop, List.drop_drop] at this; rw [this]; simp [hl]
  have h4 : (l.drop 24).take 8 = l.drop 24 := List.take_of_length_le (by simp; omega)
  rw [e 0 (by omega), e 1 (by omega), e 2 (by omega), e 3 (by omega), h1, h2, h3]
  simp only [Nat.mul_zero, List.drop_zero, Nat.mul_one, Nat.reduceMul, h4]
  unfold num4
  omega
theorem numB_top {l : List Nat} (hl : l.length = 32) (h : ∀ x ∈ l, x < 256) : numB l < TOP := by
  have := numB_lt h
  rw [hl] at this
  unfold TOP; omega
def awC (l : List Nat) (i : Nat) : Array Value := #[.int .u64 (pw l i 0 : Nat), .int .u64 (pw l i 1 : Nat), .int .u64 (pw l i 2 : Nat), .int .u64 (pw l i 3 : Nat)]
theorem awC_get (l : List Nat) (i : Nat) {a : Nat} (h : a < 4) : (awC l i)[a]? = some (.int .u64 (pw l i a : Nat)) := by
  rcases (by omega : a = 0 ∨ a = 1 ∨ a = 2 ∨ a = 3) with rfl | rfl | rfl | rfl <;> rfl
theorem awC_set (l : List Nat) {i a r : Nat} (hi : i = 8 * a + r) (hr : r < 8) (ha : a < 4) : (awC l i).setIfInBounds a (.int .u64 (pw l (i + 1) a : Nat)) = awC l (i + 1) := by
  have h := fun b (hb : b ≠ a) => pw_other l hi hr hb
  rcases (by omega : a = 0 ∨ a = 1 ∨ a = 2 ∨ a = 3) with rfl | rfl | rfl | rfl <;> simp [awC, h]
theorem idx32 {l : List Nat} (hl : l.length = 32) {i : Nat} (hi : i < l.length) (w : World) : (Instr.index 25 (.agg (bytesV l).toArray) (.int .i64 i)).run Tryz.prog w = .ok (.int .u8 (l[i] : Nat)) w := by
  have hu : Tryz.prog.underlying 25 = some (.array 32 5) := by kernel_rfl
  have hi8 : (Tryz.prog.info? 5).map (fun i => (i.zero, i.size, i.bytes)) = some (some (.int .u8 0), 1, 1) := infoByte
  have hlt : (i : Int) < 32 := by omega
  have hg : (bytesV l).toArray[i]? = some (.int .u8 (l[i] : Nat)) := by simp [bytesV, hi]
  simp [Instr.index, go_sem]
  have hg2 : (bytesV l)[i]? = some (.int .u8 (l[i] : Nat)) := by simp [bytesV, hi]
  rw [if_pos (by omega), hg2]
  rfl
theorem wrap_u64_id {x : Int} (h0 : 0 ≤ x) (h1 : x < 18446744073709551616) : IntKind.u64.wrap x = x := by
  have : IntKind.u64.wrap x = x % 18446744073709551616 := rfl
  omega
theorem or_w {p x r y : Nat} (hr : r < 8) (hp : p < 256 ^ r) (hx : x < 256) (hy : y = p + x * 256 ^ r) : bits .or .u64 (p : Int) ((x : Int) * (256 ^ r : Nat)) = (y : Int) := by
  have e : (2 : Int) ^ (8 * r) = ((256 ^ r : Nat) : Int) := by
    rw [Int.pow_mul]; simp
  have h256 : x * 256 ^ r < 18446744073709551616 := by
    rcases (by omega : r = 0 ∨ r = 1 ∨ r = 2 ∨ r = 3 ∨ r = 4 ∨ r = 5 ∨ r = 6 ∨ r = 7) with rfl | rfl | rfl | rfl | rfl | rfl | rfl | rfl <;> omega
  generalize 256 ^ r = P at *
  have hm : (P : Int) * (x : Int) = ((x * P : Nat) : Int) := by rw [Int.natCast_mul, Int.mul_comm]
  have h := (or_disj (q := (x : Int)) (y := (p : Int)) (R := 8 * r) (by omega) (by omega) (by rw [e]; omega) (by rw [e, hm]; omega) (by omega)).2
  rw [e, hm] at h
  rw [Int.mul_comm, hm, h]
  omega
set_option maxRecDepth 100000 in
set_option maxHeartbeats 8000000 in
theorem wide_FromBytes (l : List Nat) (hl : l.length = 32) (hb : ∀ x ∈ l, x < 256) (w : World) :
    Calls Tryz.prog 97 #[.agg (bytesV l).toArray] w fun e w' => e = .returned (wv (numB l)) ∧ Chg [] w w' := by
  have hB := Blk.new w (bytesV l).toArray 25
  have hix := Lib.hid (show ∀ i (hi : i < l.length) (w : World), (Instr.index 25 (.agg (bytesV l).toArray) (.int .i64 i)).run Tryz.prog w = .ok (.int .u8 (l[i] : Nat)) w from fun i hi => idx32 hl hi)
  have hsz : (bytesV l).toArray.size = 32 := by simp [bytesV, hl]
  generalize (bytesV l).toArray = cs at *
  have hO := (Blk.at (w.alloc (.cells cs 25)) #[.int .u64 0, .int .u64 0, .int .u64 0, .int .u64 0] 51 (w.heap.size + 1) (by simp)).alloc (.cells #[.int .u64 0, .int .u64 0, .int .u64 0, .int .u64 0] 51)
  have hA := Blk.at ((w.alloc (.cells cs 25)).alloc (.cells #[.int .u64 0, .int .u64 0, .int .u64 0, .int .u64 0] 51)) #[.int .u64 0, .int .u64 0, .int .u64 0, .int .u64 0] 51 (w.heap.size + 1 + 1) (by simp)
  have hB2 := (hB.alloc (.cells #[.int .u64 0, .int .u64 0, .int .u64 0, .int .u64 0] 51)).alloc (.cells #[.int .u64 0, .int .u64 0, .int .u64 0, .int .u64 0] 51)
  have hld := load_blkC hB2 32 hsz
  have k0 : Chg [] w (((w.alloc (.cells cs 25)).alloc (.cells #[.int .u64 0, .int .u64 0, .int .u64 0, .int .u64 0] 51)).alloc (.cells #[.int .u64 0, .int .u64 0, .int .u64 0, .int .u64 0] 51)) := (((Chg.refl _ _).alloc _).alloc _).alloc _
  have hz0 : #[Value.int .u64 0, .int .u64 0, .int .u64 0, .int .u64 0] = awC l 0 := by simp [awC, pw, numB]
  have hz0' := Lib.hid hz0
  clear hz0
  go_enter Tryz.func97, Tryz.ntmps97
  go_wp2
  generalize ((w.alloc (.cells cs 25)).alloc (.cells #[.int .u64 0, .int .u64 0, .int .u64 0, .int .u64 0] 51)).alloc (.cells #[.int .u64 0, .int .u64 0, .int .u64 0, .int .u64 0] 51) = W0 at *
  clear hB hB2
  rw [hz0'.out] at hA
  go_loopw [7] (fun s7 wr => ∃ i : Nat, i ≤ 32 ∧ s7 = .int .i64 i ∧ Blk wr (w.heap.size + 1 + 1) (awC l i) 51 ∧ Chg [w.heap.size + 1 + 1] W0 wr) (fun s7 _ => 32 - (intOf s7).toNat)
  case atStart => exact ⟨0, by omega, rfl, hA, Chg.refl _ _⟩
  case round =>
    obtain ⟨i, hi32, rfl, hA, k⟩ := hrel
    by_cases hlt : i < 32
    · obtain ⟨a, r, hia, hr⟩ : ∃ a r, i = 8 * a + r ∧ r < 8 := ⟨i / 8, i % 8, by omega, by omega⟩
      have ha : a < 4 := by omega
      have hx := hix.out i (by omega)
      have hxl : l[i] < 256 := hb _ (List.getElem_mem _)
      have hps := pw_step (l := l) hia hr (by omega)
      have hpl := pw_lt hb hia hr
      have hset := awC_set l hia hr ha
      have c1 := hA.cell a (awC_get l i ha)
      have hA2 := hA.drew.set a (.int .u64 (pw l (i + 1) a : Nat))
      rw [hset] at hA2
      have d1 : (i : Int) / 8 = (a : Int) := by omega
      have d2 : (i : Int) % 8 = (r : Int) := by omega
      have f1 := hA.drew.free a
      have e1 := hA.drew.cell a (awC_get l i ha)
      generalize l[i] = x at *
      generalize pw l (i + 1) a = y at *
      generalize pw l i a = p at *
      have hor := or_w hr hpl hxl hps
      clear hps hset hia
      rcases (by omega : r = 0 ∨ r = 1 ∨ r = 2 ∨ r = 3 ∨ r = 4 ∨ r = 5 ∨ r = 6 ∨ r = 7) with rfl | rfl | rfl | rfl | rfl | rfl | rfl | rfl
      · have hor2 : bits .or .u64 (p : Int) ((x : Int)) = (y : Int) := by simpa using hor
        clear hor
        have d3 : (i : Int).tmod 8 = 0 := by rw [Int.tmod_eq_emod_of_nonneg (by omega)]; omega
        have v4 : IntKind.i64.wrap 0 = 0 := rfl
        have z1 : (a : Int) < 4 := by omega
        have z2 : (0 : Int) ≤ a := by omega
        have v1 : IntKind.i64.wrap (a : Int) = a := by rw [IntKind.wrap_i64]; omega
        have v2 : IntKind.u64.wrap (x : Int) = x := wrap_u64_id (by omega) (by omega)
        have v3 : IntKind.u64.wrap ((x : Int)) = (x : Int) := wrap_u64_id (by omega) (by omega)
        go_wp2
        go_still_tail 12, (by kernel_rfl)
        go_wp2
        go_roundw
        case rel => exact ⟨i + 1, by omega, by simp, hA2, k.drew.setCell (.inl (by simp)) _⟩
        case measure => simp [intOf]; omega
      · have hor2 : bits .or .u64 (p : Int) ((x : Int) * 256) = (y : Int) := by simpa using hor
        clear hor
        have d3 : (i : Int).tmod 8 = 1 := by rw [Int.tmod_eq_emod_of_nonneg (by omega)]; omega
        have v4 : IntKind.i64.wrap 8 = 8 := rfl
        have z1 : (a : Int) < 4 := by omega
        have z2 : (0 : Int) ≤ a := by omega
        have v1 : IntKind.i64.wrap (a : Int) = a := by rw [IntKind.wrap_i64]; omega
        have v2 : IntKind.u64.wrap (x : Int) = x := wrap_u64_id (by omega) (by omega)
        have v3 : IntKind.u64.wrap ((x : Int) * 256) = (x : Int) * 256 := wrap_u64_id (by omega) (by omega)
        go_wp2
        go_still_tail 12, (by kernel_rfl)
        go_wp2
        go_roundw
        case rel => exact ⟨i + 1, by omega, by simp, hA2, k.drew.setCell (.inl (by simp)) _⟩
        case measure => simp [intOf]; omega
      · have hor2 : bits .or .u64 (p : Int) ((x : Int) * 65536) = (y : Int) := by simpa using hor
        clear hor
        have d3 : (i : Int).tmod 8 = 2 := by rw [Int.tmod_eq_emod_of_nonneg (by omega)]; omega
        have v4 : IntKind.i64.wrap 16 = 16 := rfl
        have z1 : (a : Int) < 4 := by omega
        have z2 : (0 : Int) ≤ a := by omega
        have v1 : IntKind.i64.wrap (a : Int) = a := by rw [IntKind.wrap_i64]; omega
        have v2 : IntKind.u64.wrap (x : Int) = x := wrap_u64_id (by omega) (by omega)
        have v3 : IntKind.u64.wrap ((x : Int) * 65536) = (x : Int) * 65536 := wrap_u64_id (by omega) (by omega)
        go_wp2
        go_still_tail 12, (by kernel_rfl)
        go_wp2
        go_roundw
        case rel => exact ⟨i + 1, by omega, by simp, hA2, k.drew.setCell (.inl (by simp)) _⟩
        case measure => simp [intOf]; omega
      · have hor2 : bits .or .u64 (p : Int) ((x : Int) * 16777216) = (y : Int) := by simpa using hor
        clear hor
        have d3 : (i : Int).tmod 8 = 3 := by rw [Int.tmod_eq_emod_of_nonneg (by omega)]; omega
        have v4 : IntKind.i64.wrap 24 = 24 := rfl
        have z1 : (a : Int) < 4 := by omega
        have z2 : (0 : Int) ≤ a := by omega
        have v1 : IntKind.i64.wrap (a : Int) = a := by rw [IntKind.wrap_i64]; omega
        have v2 : IntKind.u64.wrap (x : Int) = x := wrap_u64_id (by omega) (by omega)
        have v3 : IntKind.u64.wrap ((x : Int) * 16777216) = (x : Int) * 16777216 := wrap_u64_id (by omega) (by omega)
        go_wp2
        go_still_tail 12, (by kernel_rfl)
        go_wp2
        go_roundw
        case rel => exact ⟨i + 1, by omega, by simp, hA2, k.drew.setCell (.inl (by simp)) _⟩
        case measure => simp [intOf]; omega
      · have hor2 : bits .or .u64 (p : Int) ((x : Int) * 4294967296) = (y : Int) := by simpa using hor
        clear hor
        have d3 : (i : Int).tmod 8 = 4 := by rw [Int.tmod_eq_emod_of_nonneg (by omega)]; omega
        have v4 : IntKind.i64.wrap 32 = 32 := rfl
        have z1 : (a : Int) < 4 := by omega
        have z2 : (0 : Int) ≤ a := by omega
        have v1 : IntKind.i64.wrap (a : Int) = a := by rw [IntKind.wrap_i64]; omega
        have v2 : IntKind.u64.wrap (x : Int) = x := wrap_u64_id (by omega) (by omega)
        have v3 : IntKind.u64.wrap ((x : Int) * 4294967296) = (x : Int) * 4294967296 := wrap_u64_id (by omega) (by omega)
        go_wp2
        go_still_tail 12, (by kernel_rfl)
        go_wp2
        go_roundw
        case rel => exact ⟨i + 1, by omega, by simp, hA2, k.drew.setCell (.inl (by simp)) _⟩
        case measure => simp [intOf]; omega
      · have hor2 : bits .or .u64 (p : Int) ((x : Int) * 1099511627776) = (y : Int) := by simpa using hor
        clear hor
        have d3 : (i : Int).tmod 8 = 5 := by rw [Int.tmod_eq_emod_of_nonneg (by omega)]; omega
        have v4 : IntKind.i64.wrap 40 = 40 := rfl
        have z1 : (a : Int) < 4 := by omega
        have z2 : (0 : Int) ≤ a := by omega
        have v1 : IntKind.i64.wrap (a : Int) = a := by rw [IntKind.wrap_i64]; omega
        have v2 : IntKind.u64.wrap (x : Int) = x := wrap_u64_id (by omega) (by omega)
        have v3 : IntKind.u64.wrap ((x : Int) * 1099511627776) = (x : Int) * 1099511627776 := wrap_u64_id (by omega) (by omega)
        go_wp2
        go_still_tail 12, (by kernel_rfl)
        go_wp2
        go_roundw
        case rel => exact ⟨i + 1, by omega, by simp, hA2, k.drew.setCell (.inl (by simp)) _⟩
        case measure => simp [intOf]; omega
      · have hor2 : bits .or .u64 (p : Int) ((x : Int) * 281474976710656) = (y : Int) := by simpa using hor
        clear hor
        have d3 : (i : Int).tmod 8 = 6 := by rw [Int.tmod_eq_emod_of_nonneg (by omega)]; omega
        have v4 : IntKind.i64.wrap 48 = 48 := rfl
        have z1 : (a : Int) < 4 := by omega
        have z2 : (0 : Int) ≤ a := by omega
        have v1 : IntKind.i64.wrap (a : Int) = a := by rw [IntKind.wrap_i64]; omega
        have v2 : IntKind.u64.wrap (x : Int) = x := wrap_u64_id (by omega) (by omega)
        have v3 : IntKind.u64.wrap ((x : Int) * 281474976710656) = (x : Int) * 281474976710656 := wrap_u64_id (by omega) (by omega)
        go_wp2
        go_still_tail 12, (by kernel_rfl)
        go_wp2
        go_roundw
        case rel => exact ⟨i + 1, by omega, by simp, hA2, k.drew.setCell (.inl (by simp)) _⟩
        case measure => simp [intOf]; omega
      · have hor2 : bits .or .u64 (p : Int) ((x : Int) * 72057594037927936) = (y : Int) := by simpa using hor
        clear hor
        have d3 : (i : Int).tmod 8 = 7 := by rw [Int.tmod_eq_emod_of_nonneg (by omega)]; omega
        have v4 : IntKind.i64.wrap 56 = 56 := rfl
        have z1 : (a : Int) < 4 := by omega
        have z2 : (0 : Int) ≤ a := by omega
        have v1 : IntKind.i64.wrap (a : Int) = a := by rw [IntKind.wrap_i64]; omega
        have v2 : IntKind.u64.wrap (x : Int) = x := wrap_u64_id (by omega) (by omega)
        have v3 : IntKind.u64.wrap ((x : Int) * 72057594037927936) = (x : Int) * 72057594037927936 := wrap_u64_id (by omega) (by omega)
        go_wp2
        go_still_tail 12, (by kernel_rfl)
        go_wp2
        go_roundw
        case rel => exact ⟨i + 1, by omega, by simp, hA2, k.drew.setCell (.inl (by simp)) _⟩
        case measure => simp [intOf]; omega
    · obtain rfl : i = 32 := by omega
      have hO2 := hO.chg k (by simp)
      have hlA := load_blkC hA 4 rfl
      obtain ⟨W2, hst, b2, k2⟩ := store_cells hO2 (cs := awC l 32) rfl (by simp [awC, Value.oneCell'])
      have hld2 := load_blkC b2 4 rfl
      have hfin := Lib.hid (show Value.agg (awC l 32) = wv (numB l) by
        have hp : ∀ a, a < 4 → pw l 32 a < 18446744073709551616 := fun a ha => by
          unfold pw
          rw [show min (32 - 8 * a) 8 = 8 by omega]
          exact Nat.lt_of_lt_of_le (numB_lt (fun x hx => hb x (List.mem_of_mem_drop (List.mem_of_mem_take hx)))) (Nat.le_trans (Nat.pow_le_pow_right (n := 256) (by decide) (show (List.take 8 (List.drop (8 * a) l)).length ≤ 8 by rw [List.length_take]; omega)) (by decide))
        rw [← pw_all hl, wv_num (hp 0 (by omega)) (hp 1 (by omega)) (hp 2 (by omega)) (hp 3 (by omega))]
        rfl)
      have hac : (awC l 32).size = 4 := rfl
      generalize awC l 32 = ac at *
      have kf := (k0.trans k (by simp; omega)).trans k2 (by simp)
      go_wp2
      exact bodyPost_ret (v := .agg ac) (by simp [results, Tryz.results97, go_sem, hld2]) rfl ⟨by rw [hfin.out], kf⟩
end Go.Proofs.YtmkgbinmilcojaaGreat

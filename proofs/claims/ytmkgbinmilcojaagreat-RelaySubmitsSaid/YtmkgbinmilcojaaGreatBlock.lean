/- Package digest: block. -/
import Derived.Test.YtmkgbinmilcojaaGreatDigest0
import Derived.Test.YtmkgbinmilcojaaGreatRegInv
namespace Go.Proofs.YtmkgbinmilcojaaGreat
open Go.RowKit Go.Maps
attribute [-go_sem] loadCellsFrom

theorem zeroW8 (w : World) : (zeroValue 185).run Tryz.prog w = .ok (.agg #[.int .u32 0, .int .u32 0, .int .u32 0, .int .u32 0, .int .u32 0, .int .u32 0, .int .u32 0, .int .u32 0]) w := by kernel_rfl
def KCl : List Value := KS.map (fun k : Nat => Value.int .u32 (k : Int))
theorem KCl_len : KCl.length = 64 := by kernel_rfl
theorem KCl_one : ∀ v ∈ KCl, v.oneCell' = true := by
  intro v hv
  obtain ⟨k, _, rfl⟩ := List.mem_map.1 hv
  rfl
theorem infoKC : (Tryz.prog.info? 197).map (·.size) = some KCl.length := by kernel_rfl
theorem infoSt : (Tryz.prog.info? 185).map (·.size) = some 8 := by kernel_rfl
theorem cellsW_zero (f : Nat → Nat) : zero64 = cellsW f 0 := by
  unfold zero64 cellsW; simp
def stCells (s : Sst) : Array Value := #[.int .u32 s.a, .int .u32 s.b, .int .u32 s.c, .int .u32 s.d, .int .u32 s.e, .int .u32 s.f, .int .u32 s.g, .int .u32 s.h]
theorem stCells_one (s : Sst) : ∀ v ∈ (stCells s).toList, v.oneCell' = true := by
  intro v hv
  simp [stCells] at hv
  rcases hv with rfl | rfl | rfl | rfl | rfl | rfl | rfl | rfl <;> rfl
theorem KS_lt (n : Nat) : KS.getD n 0 < 4294967296 := by
  refine getD_lt (fun x hx => ?_) n
  have : KS.all (fun x => decide (x < 4294967296)) = true := by kernel_rfl
  simpa using List.all_eq_true.1 this x hx
theorem stCells_all (s : Sst) (v0 v1 v2 v3 v4 v5 v6 v7 : Value) : ((((((((stCells s).setIfInBounds 0 v0).setIfInBounds 1 v1).setIfInBounds 2 v2).setIfInBounds 3 v3).setIfInBounds 4 v4).setIfInBounds 5 v5).setIfInBounds 6 v6).setIfInBounds 7 v7 = #[v0, v1, v2, v3, v4, v5, v6, v7] := by
  simp [stCells]
def addP (s t : Sst) (m : Nat) : Sst := ⟨if 0 < m then (s.a + t.a) % 4294967296 else s.a, if 1 < m then (s.b + t.b) % 4294967296 else s.b, if 2 < m then (s.c + t.c) % 4294967296 else s.c, if 3 < m then (s.d + t.d) % 4294967296 else s.d,
  if 4 < m then (s.e + t.e) % 4294967296 else s.e, if 5 < m then (s.f + t.f) % 4294967296 else s.f, if 6 < m then (s.g + t.g) % 4294967296 else s.g, if 7 < m then (s.h + t.h) % 4294967296 else s.h⟩
theorem addP_8 (s t : Sst) : addP s t 8 = addSt s t := rfl
theorem idx_0 (t : Sst) (w : World) : (Instr.index 185 (.agg (stCells t)) (.int .i64 0)).run Tryz.prog w = .ok (.int .u32 (t.a : Int)) w := by kernel_rfl
theorem addP_set0 (s t : Sst) : (stCells (addP s t 0)).setIfInBounds 0 (.int .u32 ((s.a + t.a) % 4294967296 : Nat)) = stCells (addP s t 1) := by rfl
theorem idx_1 (t : Sst) (w : World) : (Instr.index 185 (.agg (stCells t)) (.int .i64 1)).run Tryz.prog w = .ok (.int .u32 (t.b : Int)) w := by kernel_rfl
theorem addP_set1 (s t : Sst) : (stCells (addP s t 1)).setIfInBounds 1 (.int .u32 ((s.b + t.b) % 4294967296 : Nat)) = stCells (addP s t 2) := by rfl
theorem idx_2 (t : Sst) (w : World) : (Instr.index 185 (.agg (stCells t)) (.int .i64 2)).run Tryz.prog w = .ok (.int .u32 (t.c : Int)) w := by kernel_rfl
theorem addP_set2 (s t : Sst) : (stCells (addP s t 2)).setIfInBounds 2 (.int .u32 ((s.c + t.c) % 4294967296 : Nat)) = stCells (addP s t 3) := by rfl
theorem idx_3 (t : Sst) (w : World) : (Instr.index 185 (.agg (stCells t)) (.int .i64 3)).run Tryz.prog w = .ok (.int .u32 (t.d : Int)) w := by kernel_rfl
theorem addP_set3 (s t : Sst) : (stCells (addP s t 3)).setIfInBounds 3 (.int .u32 ((s.d + t.d) % 4294967296 : Nat)) = stCells (addP s t 4) := by rfl
theorem idx_4 (t : Sst) (w : World) : (Instr.index 185 (.agg (stCells t)) (.int .i64 4)).run Tryz.prog w = .ok (.int .u32 (t.e : Int)) w := by kernel_rfl
theorem addP_set4 (s t : Sst) : (stCells (addP s t 4)).setIfInBounds 4 (.int .u32 ((s.e + t.e) % 4294967296 : Nat)) = stCells (addP s t 5) := by rfl
theorem idx_5 (t : Sst) (w : World) : (Instr.index 185 (.agg (stCells t)) (.int .i64 5)).run Tryz.prog w = .ok (.int .u32 (t.f : Int)) w := by kernel_rfl
theorem addP_set5 (s t : Sst) : (stCells (addP s t 5)).setIfInBounds 5 (.int .u32 ((s.f + t.f) % 4294967296 : Nat)) = stCells (addP s t 6) := by rfl
theorem idx_6 (t : Sst) (w : World) : (Instr.index 185 (.agg (stCells t)) (.int .i64 6)).run Tryz.prog w = .ok (.int .u32 (t.g : Int)) w := by kernel_rfl
theorem addP_set6 (s t : Sst) : (stCells (addP s t 6)).setIfInBounds 6 (.int .u32 ((s.g + t.g) % 4294967296 : Nat)) = stCells (addP s t 7) := by rfl
theorem idx_7 (t : Sst) (w : World) : (Instr.index 185 (.agg (stCells t)) (.int .i64 7)).run Tryz.prog w = .ok (.int .u32 (t.h : Int)) w := by kernel_rfl
theorem addP_set7 (s t : Sst) : (stCells (addP s t 7)).setIfInBounds 7 (.int .u32 ((s.h + t.h) % 4294967296 : Nat)) = stCells (addP s t 8) := by rfl
theorem rnds_next {s : Sst} (c : List Nat) {f : Nat → Nat} (hf : f = wAt (chunkW c)) {n : Nat} (hn : n < 64) : rnds s (chunkW c) (n + 1) = rnd (rnds s (chunkW c) n) (KS.getD n 0) (f n) := by
  have hl : (chunkW c).length = 16 := by simp [chunkW]
  have hw : (wl (chunkW c) n).getD 15 0 = f n := by
    rw [hf]
    by_cases h : n ≤ 48
    · exact rnds_word hl h
    · obtain ⟨q, h1, h2⟩ := wl_suffix (chunkW c) 48 (n - 48)
      rw [show 48 + (n - 48) = n by omega] at h2
      unfold wAt
      rw [h2, List.getD_eq_getElem?_getD, List.getD_eq_getElem?_getD, List.getElem?_append_right (by omega), h1, show 15 - (n - 48) = 63 - n by omega]
  rw [rnds, hw]
theorem pick_lt {e f g : Nat} (_ : e < 4294967296) (hf : f < 4294967296) (hg : g < 4294967296) : ((e &&& f) ^^^ ((e ^^^ 4294967295) &&& g)) < 4294967296 :=
  Nat.xor_lt_two_pow (n := 32) (Nat.and_lt_two_pow _ hf) (Nat.and_lt_two_pow _ hg)
theorem pick_eq {e f g : Nat} (he : e < 4294967296) (hf : f < 4294967296) (hg : g < 4294967296) : bits .xor .u32 (bits .and .u32 (e : Int) (f : Int)) (bits .and .u32 (bits .xor .u32 IntKind.u32.max (e : Int)) (g : Int)) = (((e &&& f) ^^^ ((e ^^^ 4294967295) &&& g) : Nat) : Int) := by
  have hx : (e ^^^ 4294967295) < 4294967296 := Nat.xor_lt_two_pow (n := 32) he (by decide)
  have e1 : bits .xor .u32 IntKind.u32.max (e : Int) = ((e ^^^ 4294967295 : Nat) : Int) := by
    rw [show IntKind.u32.max = ((4294967295 : Nat) : Int) by rfl, u32_xor_nat _ _ (by decide) he, Nat.xor_comm]
  rw [e1, u32_and_nat _ _ he hf, u32_and_nat _ _ hx hg, u32_xor_nat _ _ (Nat.and_lt_two_pow (n := 32) _ hf) (Nat.and_lt_two_pow (n := 32) _ hg)]
theorem most_lt {a b c : Nat} (_ : a < 4294967296) (hb : b < 4294967296) (hc : c < 4294967296) : (((a &&& b) ^^^ (a &&& c)) ^^^ (b &&& c)) < 4294967296 :=
  Nat.xor_lt_two_pow (n := 32) (Nat.xor_lt_two_pow (Nat.and_lt_two_pow _ hb) (Nat.and_lt_two_pow _ hc)) (Nat.and_lt_two_pow _ hc)
theorem most_eq {a b c : Nat} (ha : a < 4294967296) (hb : b < 4294967296) (hc : c < 4294967296) : bits .xor .u32 (bits .xor .u32 (bits .and .u32 (a : Int) (b : Int)) (bits .and .u32 (a : Int) (c : Int))) (bits .and .u32 (b : Int) (c : Int)) = ((((a &&& b) ^^^ (a &&& c)) ^^^ (b &&& c) : Nat) : Int) := by
  rw [u32_and_nat _ _ ha hb, u32_and_nat _ _ ha hc, u32_and_nat _ _ hb hc, u32_xor_nat _ _ (Nat.and_lt_two_pow (n := 32) _ hb) (Nat.and_lt_two_pow (n := 32) _ hc), u32_xor_nat _ _ (Nat.xor_lt_two_pow (n := 32) (Nat.and_lt_two_pow _ hb) (Nat.and_lt_two_pow _ hc)) (Nat.and_lt_two_pow (n := 32) _ hc)]
theorem wrap_add {x y z : Nat} (h : z = (x + y) % 4294967296) : IntKind.u32.wrap ((x : Int) + y) = (z : Int) := by
  have : IntKind.u32.wrap ((x : Int) + y) = ((x : Int) + y) % 4294967296 := rfl
  omega
/-- 64 bytes, from an address on. -/
def BytesAt (w : World) (g off : Nat) (l : List Nat) : Prop := (∀ x ∈ l, x < 256) ∧ ∀ (j : Nat) (v : Nat), l[j]? = some v → w.cell? ⟨g, off + j, none⟩ = some (.int .u8 (v : Int))
def part4 (c : List Nat) (i : Nat) : Nat → Nat
  | 0 => 0
  | m + 1 => part4 c i m * 256 + c.getD (4 * i + m) 0
theorem BytesAt.chg {w W : World} {g off : Nat} {l : List Nat} {S : List Nat} (h : BytesAt w g off l) (k : Chg S w W) (hg : g < w.heap.size) (hS : g ∉ S) : BytesAt W g off l :=
  ⟨h.1, fun j v hj => (World.cell?_of_block (w := w) (k.block g hg hS)).trans (h.2 j v hj)⟩
theorem part4_lt {c : List Nat} (hc : ∀ x ∈ c, x < 256) (i : Nat) : part4 c i 1 < 256 ∧ part4 c i 2 < 65536 ∧ part4 c i 3 < 16777216 := by
  have h0 : part4 c i 0 = 0 := rfl
  have h1 : part4 c i 1 = part4 c i 0 * 256 + c.getD (4 * i + 0) 0 := rfl
  have h2 : part4 c i 2 = part4 c i 1 * 256 + c.getD (4 * i + 1) 0 := rfl
  have h3 : part4 c i 3 = part4 c i 2 * 256 + c.getD (4 * i + 2) 0 := rfl
  have hb : ∀ j, c.getD j 0 < 256 := fun j => by
    rw [List.getD_eq_getElem?_getD]
    cases hx : c[j]? with
    | none => simp
    | some v => exact hc v (List.mem_of_getElem? hx)
  have := hb (4 * i + 0); have := hb (4 * i + 1); have := hb (4 * i + 2)
  omega
theorem part4_word (c : List Nat) (i : Nat) : part4 c i 4 = word4 c i := by
  unfold word4
  simp only [part4, Nat.add_zero]
  omega
theorem chunkW_len (c : List Nat) : (chunkW c).length = 16 := by simp [chunkW]
theorem chunkW_get (c : List Nat) {i : Nat} (h : i < 16) : (chunkW c).getD i 0 = word4 c i := by
  simp [chunkW, h]
theorem word4_lt {c : List Nat} (hc : ∀ x ∈ c, x < 256) (i : Nat) : word4 c i < 4294967296 := by
  have hb : ∀ j, c.getD j 0 < 256 := fun j => by
    rw [List.getD_eq_getElem?_getD]
    cases hx : c[j]? with
    | none => simp
    | some v => exact hc v (List.mem_of_getElem? hx)
  unfold word4
  have := hb (4 * i); have := hb (4 * i + 1); have := hb (4 * i + 2); have := hb (4 * i + 3)
  omega
theorem chunkW_lt {c : List Nat} (hc : ∀ x ∈ c, x < 256) : ∀ x ∈ chunkW c, x < 4294967296 := by
  intro x hx
  obtain ⟨i, _, rfl⟩ := List.mem_map.1 hx
  exact word4_lt hc i
theorem set_set {a : Array Value} (i : Nat) (u v : Value) : (a.setIfInBounds i u).setIfInBounds i v = a.setIfInBounds i v := by
  apply Array.ext_getElem?
  intro j
  simp only [Array.getElem?_setIfInBounds]
  split <;> simp_all
theorem set_same (a : Array Value) {i : Nat} {v u : Value} (h : a[i]? = some v) (e : u = v) : a.setIfInBounds i u = a := by
  subst e
  apply Array.ext_getElem?
  intro j
  rw [Array.getElem?_setIfInBounds]
  by_cases e : i = j
  · subst e
    obtain ⟨hi, _⟩ := Array.getElem?_eq_some_iff.1 h
    rw [if_pos rfl, if_pos hi, h]
  · rw [if_neg e]
set_option maxRecDepth 100000 in
set_option maxHeartbeats 4000000 in
theorem digest_block (sb g off cap : Nat) (s : Sst) (hs : SstOk s) (c : List Nat) (hc : c.length = 64) (hcap : 64 ≤ cap) (w : World) (hb : Blk w sb (stCells s) 185) (hp : BytesAt w g off c) (_ : g ≠ sb) (hg : g < w.heap.size) :
    Calls Tryz.prog 118 #[.pointer (some ⟨sb, 0, none⟩), .slice (some ⟨g, off, none⟩) 64 cap] w fun e w' => e = .returned (.tuple #[]) ∧ Blk w' sb (stCells (blkS s (chunkW c))) 185 ∧ Chg [sb] w w' := by
  have hz := zeroW64
  have hbA := Blk.new w zero64 197
  have hlen := chunkW_len c
  have hwlt := chunkW_lt hp.1
  have hcl := hp.1
  obtain ⟨f, hf⟩ : ∃ f, f = wAt (chunkW c) := ⟨_, rfl⟩
  have hflt : ∀ j, f j < 4294967296 := fun j => by rw [hf]; exact wAt_lt hwlt j
  have hf16 : ∀ j, j < 16 → f j = part4 c j 4 := fun j hj => by rw [hf, wAt_first hlen hj, chunkW_get c hj, part4_word]
  have hfn : ∀ j, 16 ≤ j → j < 64 → f j = (f (j - 16) + lowS (f (j - 15)) + f (j - 7) + highS (f (j - 2))) % 4294967296 := fun j h1 h2 => by rw [hf]; exact wAt_next hlen h1 h2
  rw [cellsW_zero f] at hz hbA
  have k0 : Chg [] w (w.alloc (.cells (cellsW f 0) 197)) := (Chg.refl _ _).alloc _
  have hp0 := hp.chg k0 hg (by simp)
  have hb0 := hb.chg k0 (by simp)
  have nA : w.heap.size ≠ g := by omega
  have nB : w.heap.size ≠ sb := by have := hb.lt; omega
  have hf' := Lib.hid hf
  have hf16' := Lib.hid hf16
  have hfn' := Lib.hid hfn
  have hflt' := Lib.hid hflt
  clear hf hf16 hfn hlen hwlt hflt
  go_enter Tryz.func118, Tryz.ntmps118
  go_wp2
  have hgW : g < (w.alloc (.cells (cellsW f 0) 197)).heap.size := by simp; omega
  have hkf : ∀ w1, Chg [w.heap.size] (w.alloc (.cells (cellsW f 0) 197)) w1 → Chg [] w w1 := fun w1 k => k0.trans k (fun t ht => .inr (by simp at ht; omega))
  generalize w.alloc (.cells (cellsW f 0) 197) = W0 at hbA k0 hp0 hb0 hgW hkf ⊢
  have hkf' := Lib.hid hkf
  clear hkf
  generalize w.heap.size = A at *
  go_loopw [21] (fun s21 wr => ∃ k : Nat, k ≤ 64 ∧ s21 = .int .i64 k ∧ Blk wr A (cellsW f k) 197 ∧ Chg [A] W0 wr) (fun s21 _ => 64 - (intOf s21).toNat)
  case atStart => exact ⟨0, by omega, rfl, hbA, Chg.refl _ _⟩
  case round =>
    obtain ⟨k, hk, rfl, hA, k1⟩ := hrel
    by_cases hlt : k < 64
    · by_cases h16 : k < 16
      · have e44 : 4 * k + 4 - 4 * k = 4 := by omega
        go_wp2
        clear e44
        go_loopw [34] (fun s34 wr2 => ∃ m : Nat, m ≤ 4 ∧ s34 = .int .i64 m ∧ Blk wr2 A ((cellsW f k).setIfInBounds k (.int .u32 (part4 c k m : Nat))) 197 ∧ Chg [A] wr wr2) (fun s34 _ => 4 - (intOf s34).toNat)
        case atStart => exact ⟨0, by omega, rfl, by rw [set_same _ (cellsW_get f k hlt) (by rw [if_neg (by omega)]; rfl)]; exact hA, Chg.refl _ _⟩
        case round =>
          obtain ⟨m, hm, rfl, hA2, k2⟩ := hrel
          by_cases hlm : m < 4
          · have hpp := (hp0.chg k1 hgW (by simp [Ne.symm nA])).chg k2 (Nat.lt_of_lt_of_le hgW k1.size) (by simp [Ne.symm nA])
            have hj : 4 * k + m < c.length := by omega
            have cp := hpp.2 (4 * k + m) c[4 * k + m] (by simp [hj])
            rw [← Nat.add_assoc] at cp
            have hcb : c[4 * k + m] < 256 := hcl _ (List.getElem_mem hj)
            have hcd : c.getD (4 * k + m) 0 = c[4 * k + m] := by simp [List.getD_eq_getElem?_getD, hj]
            have hP : part4 c k (m + 1) = part4 c k m * 256 + c[4 * k + m] := by rw [part4, hcd]
            have hPl : part4 c k m < 16777216 := by
              have := part4_lt hcl k
              have h0 : part4 c k 0 = 0 := rfl
              rcases (show m = 0 ∨ m = 1 ∨ m = 2 ∨ m = 3 by omega) with rfl | rfl | rfl | rfl <;> omega
            have hor : bits .or .u32 ((part4 c k m : Int) * 256) (c[4 * k + m] : Int) = ((part4 c k (m + 1) : Nat) : Int) := by
              have ho := or_byte hPl hcb
              rw [Nat.mod_eq_of_lt (by omega)] at ho
              rw [show (part4 c k m : Int) * 256 = ((part4 c k m * 256 : Nat) : Int) by omega, u32_or_nat _ _ (by omega) (by omega), ho, hP]
            generalize c[4 * k + m] = b at *
            have hP' := Lib.hid hP
            have hor' := Lib.hid hor
            clear hP hor hcd hpp
            have cA := hA2.cell k (v := .int .u32 (part4 c k m : Nat)) (by rw [Array.getElem?_setIfInBounds]; simp [cellsW_size, hlt])
            have fA := hA2.free k
            go_wp2
            rw [hor'.out]
            go_roundw
            case rel => exact ⟨m + 1, by omega, by simp, by rw [← set_set]; exact hA2.set k _, k2.setCell (.inl (by simp)) _⟩
            case measure => simp [intOf]; omega
          · obtain rfl : m = 4 := by omega
            have eP := hf16'.out k h16
            rw [← eP, cellsW_set f hlt] at hA2
            clear eP
            go_wp2
            go_roundw
            case rel => exact ⟨k + 1, by omega, by simp, hA2, k1.trans k2 (fun t ht => .inl ht)⟩
            case measure => simp [intOf]; omega
      · have q1 := hA.cell (k - 15) (v := .int .u32 (f (k - 15) : Nat)) (by rw [cellsW_get f k (by omega), if_pos (by omega)])
        have q2 := hA.cell (k - 2) (v := .int .u32 (f (k - 2) : Nat)) (by rw [cellsW_get f k (by omega), if_pos (by omega)])
        have q3 := hA.cell (k - 16) (v := .int .u32 (f (k - 16) : Nat)) (by rw [cellsW_get f k (by omega), if_pos (by omega)])
        have q4 := hA.cell (k - 7) (v := .int .u32 (f (k - 7) : Nat)) (by rw [cellsW_get f k (by omega), if_pos (by omega)])
        have hfk := hfn'.out k (by omega) hlt
        have l1 := hflt'.out (k - 15)
        have l2 := hflt'.out (k - 2)
        have l3 := hflt'.out (k - 16)
        have l4 := hflt'.out (k - 7)
        obtain ⟨F, hF⟩ : ∃ F, F = f k := ⟨_, rfl⟩
        rw [← hF] at hfk
        have hset := cellsW_set f hlt
        rw [← hF] at hset
        generalize f (k - 15) = a at *
        generalize f (k - 2) = b at *
        generalize f (k - 16) = u at *
        generalize f (k - 7) = v at *
        have hfk' := Lib.hid hfk
        have hset' := Lib.hid hset
        clear hfk hset hF
        have x1 : bits .xor .u32 ((rotr a 7 : Nat) : Int) ((rotr a 18 : Nat) : Int) = ((rotr a 7 ^^^ rotr a 18 : Nat) : Int) := u32_xor_nat _ _ (rotr_lt l1) (rotr_lt l1)
        have x2 : bits .xor .u32 ((rotr a 7 ^^^ rotr a 18 : Nat) : Int) ((a : Int) / 8) = ((lowS a : Nat) : Int) := by
          rw [show (a : Int) / 8 = ((a / 8 : Nat) : Int) by omega]
          exact u32_xor_nat _ _ (Nat.xor_lt_two_pow (n := 32) (rotr_lt l1) (rotr_lt l1)) (by omega)
        have x3 : bits .xor .u32 ((rotr b 17 : Nat) : Int) ((rotr b 19 : Nat) : Int) = ((rotr b 17 ^^^ rotr b 19 : Nat) : Int) := u32_xor_nat _ _ (rotr_lt l2) (rotr_lt l2)
        have x4 : bits .xor .u32 ((rotr b 17 ^^^ rotr b 19 : Nat) : Int) ((b : Int) / 1024) = ((highS b : Nat) : Int) := by
          rw [show (b : Int) / 1024 = ((b / 1024 : Nat) : Int) by omega]
          exact u32_xor_nat _ _ (Nat.xor_lt_two_pow (n := 32) (rotr_lt l2) (rotr_lt l2)) (by omega)
        have l5 := lowS_lt l1
        have l6 := highS_lt l2
        have t1 := turn_7 a l1
        have t2 := turn_18 a l1
        have t3 := turn_17 b l2
        have t4 := turn_19 b l2
        go_wp2
        go_quiet (fail)
        have kq := k1.drewN nq
        have hAq := hA.drewN nq
        have q3' : (wr.drewN nq).cell? ⟨A, k - 16, none⟩ = some (.int .u32 u) := q3
        have q4' : (wr.drewN nq).cell? ⟨A, k - 7, none⟩ = some (.int .u32 v) := q4
        clear q1 q2 q3 q4 hA k1
        generalize wr.drewN nq = wq at kq hAq q3' q4' ⊢
        go_wp2_with fail
        refine (t1 _).mono ?_
        rintro e w' ⟨rfl, rfl⟩
        go_wp2_with fail
        refine (t2 _).mono ?_
        rintro e w' ⟨rfl, rfl⟩
        go_wp2_with fail
        refine (t3 _).mono ?_
        rintro e w' ⟨rfl, rfl⟩
        go_wp2_with fail
        refine (t4 _).mono ?_
        rintro e w' ⟨rfl, rfl⟩
        go_wp2_with fail
        have hL := Lib.hid (show F = (u + lowS a + v + highS b) % 4294967296 from hfk'.out)
        generalize lowS a = la at *
        generalize highS b = hb' at *
        clear x1 x2 x3 x4 t1 t2 t3 t4 hfk'
        obtain ⟨m, rfl⟩ : ∃ m, k = m + 16 := ⟨k - 16, by omega⟩
        rw [show m + 16 - 16 = m by omega] at q3'
        rw [show m + 16 - 7 = m + 9 by omega] at q4'
        have b1 : m < 64 := by omega
        have b2 : m + 9 < 64 := by omega
        have j1 : ((m + 16 : Nat) : Int) - 16 = (m : Int) := by omega
        have j2 : ((m + 16 : Nat) : Int) - 7 = ((m + 9 : Nat) : Int) := by omega
        have q5 := hAq.free (m + 16)
        clear j1 j2 b1 b2
        have z1 : (m : Int) < 64 := by omega
        have z2 : (m : Int) + 9 < 64 := by omega
        have z3 : (m : Int) + 16 < 64 := by omega
        have z4 : (0 : Int) ≤ m := by omega
        have z5 : (0 : Int) ≤ (m : Int) + 9 := by omega
        have z6 : (0 : Int) ≤ (m : Int) + 16 := by omega
        have v1 : IntKind.i64.wrap (m : Int) = m := by rw [IntKind.wrap_i64]; omega
        have v2 : IntKind.i64.wrap ((m : Int) + 9) = (m : Int) + 9 := by rw [IntKind.wrap_i64]; omega
        have v5 : IntKind.i64.wrap ((m : Int) + 16 - 7) = (m : Int) + 9 := by rw [IntKind.wrap_i64]; omega
        have v3 : ((m : Int) + 9).toNat = m + 9 := by omega
        have v4 : ((m : Int) + 16).toNat = m + 16 := by omega
        obtain ⟨s1, e1⟩ : ∃ s1, s1 = (u + la) % 4294967296 := ⟨_, rfl⟩
        obtain ⟨s2, e2⟩ : ∃ s2, s2 = (s1 + v) % 4294967296 := ⟨_, rfl⟩
        have hFF := hL.out
        have w1 : IntKind.u32.wrap ((u : Int) + la) = (s1 : Int) := by have : IntKind.u32.wrap ((u : Int) + la) = ((u : Int) + la) % 4294967296 := rfl; omega
        have w2 : IntKind.u32.wrap ((s1 : Int) + v) = (s2 : Int) := by have : IntKind.u32.wrap ((s1 : Int) + v) = ((s1 : Int) + v) % 4294967296 := rfl; omega
        have w3 : IntKind.u32.wrap ((s2 : Int) + hb') = (F : Int) := by have : IntKind.u32.wrap ((s2 : Int) + hb') = ((s2 : Int) + hb') % 4294967296 := rfl; omega
        clear e1 e2 hFF
        go_still_tail 15, (by kernel_rfl)
        have dA := hAq.drew
        have dC := dA.cell (m + 16) (v := .int .u32 (0 : Nat)) (by rw [cellsW_get f _ (by omega), if_neg (by omega)])
        have dF := dA.free (m + 16)
        have hB := dA.set (m + 16) (.int .u32 (F : Int))
        rw [hset'.out] at hB
        clear q3' q4' q5
        go_wp2
        go_roundw
        case rel => exact ⟨m + 16 + 1, by omega, by simp, hB, kq.drew.setCell (.inl (by simp)) _⟩
        case measure => simp [intOf]; omega
    --REST
    · have hk64 : k = 64 := by omega
      rw [hk64] at hA
      have hkge : ¬ (k : Int) < 64 := by omega
      clear hk64 hk hlt
      have hcon := digest_constants
      have hbS := hb0.chg k1 (by simp [Ne.symm nB])
      go_upto_region 15 with fail
      generalize wr = W1 at hA k1 hbS ⊢
      go_cut [12, 13] (fun s12 s13 wx => ∃ gK gT : Nat, s12 = .pointer (some ⟨gK, 0, none⟩) ∧ s13 = .pointer (some ⟨gT, 0, none⟩) ∧ Blk wx gK KC 197 ∧ Blk wx gT (stCells s) 185 ∧ gK ≠ gT ∧ W1.heap.size ≤ gK ∧ W1.heap.size ≤ gT ∧ Chg [] W1 wx)
      case first =>
        refine wp_region_held_drew (S := fun w' => Chg [] W1 w') (by kernel_rfl) ((Chg.refl _ _).drew) (fun hH => ?_)
        refine TK 1 (.pointer (some ⟨sb, 0, none⟩)) rfl hH (fun w' hw' => ?_) ?_
        · go_simp
        try simp only [Act.put, Sa, Sb, Sc, Sd, Se, Sf]
        refine TK 2 (.pointer (some ⟨sb, 0, none⟩)) rfl hH (fun w' hw' => ?_) ?_
        · go_simp
        try simp only [Act.put, Sa, Sb, Sc, Sd, Se, Sf]
        refine TK 3 (.agg (stCells s)) rfl hH (fun w' hw' => ?_) ?_
        · (have hz8 := load_blkC (hbS.chg hw' (by simp)) 8 rfl; go_simp)
        try simp only [Act.put, Sa, Sb, Sc, Sd, Se, Sf]
        refine wpAnyH_ready (rs := [0, 4, 5]) (by kernel_rfl) (by simp) (AllReadyH.cons rfl (fun K hK => ?_) (AllReadyH.cons rfl (fun K hK => ?_) (AllReadyH.cons rfl (fun K hK => ?_) AllReadyH.nil)))
        · try rw [if_pos (by rfl)]
          go_simp
          go_at_call 131
          refine (hcon _).mono ?_
          rintro e1 w1 ⟨rfl, hc1⟩
          dsimp only
          have hH1 := hH.trans hc1 (by simp)
          refine hK.out _ _ hH1 (fun _ => ?_)
          try simp only [Act.put, Sa, Sb, Sc, Sd, Se, Sf]
          refine RD2 4 5 rfl rfl (fun K hK => ?_) (fun K hK => ?_)
          · rw [if_pos (by rfl)]
            refine op_alloc 197 12 (by kernel_rfl) (by kernel_rfl) zeroW64 ?_
            have kbK2 := Blk.new (w1) zero64 197
            have hH2 := hH1.alloc (.cells zero64 197)
            have hgeK2 := hH1.size
            obtain ⟨gK2, hgg2⟩ : ∃ g, g = (w1).heap.size := ⟨_, rfl⟩
            rw [← hgg2] at kbK2 hgeK2 ⊢
            generalize (w1).alloc (.cells zero64 197) = w2 at hH2 kbK2 ⊢
            clear hgg2
            refine hK.out _ _ hH2 (fun _ => ?_)
            try simp only [Act.put, Sa, Sb, Sc]
            refine RD 5 rfl (fun K hK => ?_)
            rw [if_pos (by rfl)]
            refine op_alloc 185 13 (by kernel_rfl) (by kernel_rfl) zeroW8 ?_
            have kbT3 := Blk.new (w2) (#[.int .u32 0, .int .u32 0, .int .u32 0, .int .u32 0, .int .u32 0, .int .u32 0, .int .u32 0, .int .u32 0] : Array Value) 185
            have hH3 := hH2.alloc (.cells (#[.int .u32 0, .int .u32 0, .int .u32 0, .int .u32 0, .int .u32 0, .int .u32 0, .int .u32 0, .int .u32 0] : Array Value) 185)
            have hgeT3 := hH2.size
            have kbK3 := kbK2.alloc (.cells (#[.int .u32 0, .int .u32 0, .int .u32 0, .int .u32 0, .int .u32 0, .int .u32 0, .int .u32 0, .int .u32 0] : Array Value) 185)
            have hneKT3 := kbK2.lt
            obtain ⟨gT3, hgg3⟩ : ∃ g, g = (w2).heap.size := ⟨_, rfl⟩
            rw [← hgg3] at kbT3 hgeT3 hneKT3 ⊢
            generalize (w2).alloc (.cells (#[.int .u32 0, .int .u32 0, .int .u32 0, .int .u32 0, .int .u32 0, .int .u32 0, .int .u32 0, .int .u32 0] : Array Value) 185) = w3 at hH3 kbK3 kbT3 ⊢
            clear hgg3
            refine hK.out _ _ hH3 (fun _ => ?_)
            try simp only [Act.put, Sa, Sb, Sc]
            refine RD 6 rfl (fun K hK => ?_)
            rw [if_pos (by rfl)]
            refine op_store 197 (.tmp 12) (.tmp 88) (by kernel_rfl) (by kernel_rfl) rfl (cs := KCl) rfl kbK3 (by rw [KCl_len]; rfl) infoKC (by exact KCl_one) ?_
            intro w4 kbK4 hc4
            have hH4 : Chg [] W1 w4 := hH3.trans hc4 (by simp; omega)
            have kbT4 := kbT3.chg hc4 (by simp; omega)
            refine hK.out _ _ hH4 (fun _ => ?_)
            try simp only [Act.put, Sa, Sb, Sc, Sd, Se, Sf]
            refine RD 7 rfl (fun K hK => ?_)
            rw [if_pos (by rfl)]
            refine op_store 185 (.tmp 13) (.tmp 91) (by kernel_rfl) (by kernel_rfl) rfl (cs := (stCells s).toList) rfl kbT4 (by rfl) infoSt (by exact stCells_one s) ?_
            intro w5 kbT5 hc5
            have hH5 : Chg [] W1 w5 := hH4.trans hc5 (by simp; omega)
            have kbK5 := kbK4.chg hc5 (by simp; omega)
            refine hK.out _ _ hH5 (fun _ => ?_)
            try simp only [Act.put, Sa, Sb, Sc, Sd, Se, Sf]
            refine wpAnyH_done (by kernel_rfl) ?_ _
            go_wp2_with fail
            go_meet
            exact ⟨gK2, gT3, rfl, rfl, kbK5, kbT5, by omega, by omega, by omega, hH5⟩
          · rw [if_pos (by rfl)]
            refine op_alloc 185 13 (by kernel_rfl) (by kernel_rfl) zeroW8 ?_
            have kbT6 := Blk.new (w1) (#[.int .u32 0, .int .u32 0, .int .u32 0, .int .u32 0, .int .u32 0, .int .u32 0, .int .u32 0, .int .u32 0] : Array Value) 185
            have hH6 := hH1.alloc (.cells (#[.int .u32 0, .int .u32 0, .int .u32 0, .int .u32 0, .int .u32 0, .int .u32 0, .int .u32 0, .int .u32 0] : Array Value) 185)
            have hgeT6 := hH1.size
            obtain ⟨gT6, hgg6⟩ : ∃ g, g = (w1).heap.size := ⟨_, rfl⟩
            rw [← hgg6] at kbT6 hgeT6 ⊢
            generalize (w1).alloc (.cells (#[.int .u32 0, .int .u32 0, .int .u32 0, .int .u32 0, .int .u32 0, .int .u32 0, .int .u32 0, .int .u32 0] : Array Value) 185) = w6 at hH6 kbT6 ⊢
            clear hgg6
            refine hK.out _ _ hH6 (fun _ => ?_)
            try simp only [Act.put, Sa, Sb, Sc]
            refine RD 4 rfl (fun K hK => ?_)
            rw [if_pos (by rfl)]
            refine op_alloc 197 12 (by kernel_rfl) (by kernel_rfl) zeroW64 ?_
            have kbK7 := Blk.new (w6) zero64 197
            have hH7 := hH6.alloc (.cells zero64 197)
            have hgeK7 := hH6.size
            have kbT7 := kbT6.alloc (.cells zero64 197)
            have hneTK7 := kbT6.lt
            obtain ⟨gK7, hgg7⟩ : ∃ g, g = (w6).heap.size := ⟨_, rfl⟩
            rw [← hgg7] at kbK7 hgeK7 hneTK7 ⊢
            generalize (w6).alloc (.cells zero64 197) = w7 at hH7 kbT7 kbK7 ⊢
            clear hgg7
            refine hK.out _ _ hH7 (fun _ => ?_)
            try simp only [Act.put, Sa, Sb, Sc]
            refine RD 6 rfl (fun K hK => ?_)
            rw [if_pos (by rfl)]
            refine op_store 197 (.tmp 12) (.tmp 88) (by kernel_rfl) (by kernel_rfl) rfl (cs := KCl) rfl kbK7 (by rw [KCl_len]; rfl) infoKC (by exact KCl_one) ?_
            intro w8 kbK8 hc8
            have hH8 : Chg [] W1 w8 := hH7.trans hc8 (by simp; omega)
            have kbT8 := kbT7.chg hc8 (by simp; omega)
            refine hK.out _ _ hH8 (fun _ => ?_)
            try simp only [Act.put, Sa, Sb, Sc, Sd, Se, Sf]
            refine RD 7 rfl (fun K hK => ?_)
            rw [if_pos (by rfl)]
            refine op_store 185 (.tmp 13) (.tmp 91) (by kernel_rfl) (by kernel_rfl) rfl (cs := (stCells s).toList) rfl kbT8 (by rfl) infoSt (by exact stCells_one s) ?_
            intro w9 kbT9 hc9
            have hH9 : Chg [] W1 w9 := hH8.trans hc9 (by simp; omega)
            have kbK9 := kbK8.chg hc9 (by simp; omega)
            refine hK.out _ _ hH9 (fun _ => ?_)
            try simp only [Act.put, Sa, Sb, Sc, Sd, Se, Sf]
            refine wpAnyH_done (by kernel_rfl) ?_ _
            go_wp2_with fail
            go_meet
            exact ⟨gK7, gT6, rfl, rfl, kbK9, kbT9, by omega, by omega, by omega, hH9⟩
        · rw [if_pos (by rfl)]
          refine op_alloc 197 12 (by kernel_rfl) (by kernel_rfl) zeroW64 ?_
          have kbK10 := Blk.new ((W1).drew) zero64 197
          have hH10 := hH.alloc (.cells zero64 197)
          have hgeK10 := hH.size
          obtain ⟨gK10, hgg10⟩ : ∃ g, g = ((W1).drew).heap.size := ⟨_, rfl⟩
          rw [← hgg10] at kbK10 hgeK10 ⊢
          generalize ((W1).drew).alloc (.cells zero64 197) = w10 at hH10 kbK10 ⊢
          clear hgg10
          refine hK.out _ _ hH10 (fun _ => ?_)
          try simp only [Act.put, Sa, Sb, Sc]
          refine RD2 0 5 rfl rfl (fun K hK => ?_) (fun K hK => ?_)
          · try rw [if_pos (by rfl)]
            go_simp
            go_at_call 131
            refine (hcon _).mono ?_
            rintro e11 w11 ⟨rfl, hc11⟩
            dsimp only
            have hH11 := hH10.trans hc11 (by simp)
            have kbK11 := kbK10.chg hc11 (by simp)
            refine hK.out _ _ hH11 (fun _ => ?_)
            try simp only [Act.put, Sa, Sb, Sc, Sd, Se, Sf]
            refine RD 5 rfl (fun K hK => ?_)
            rw [if_pos (by rfl)]
            refine op_alloc 185 13 (by kernel_rfl) (by kernel_rfl) zeroW8 ?_
            have kbT12 := Blk.new (w11) (#[.int .u32 0, .int .u32 0, .int .u32 0, .int .u32 0, .int .u32 0, .int .u32 0, .int .u32 0, .int .u32 0] : Array Value) 185
            have hH12 := hH11.alloc (.cells (#[.int .u32 0, .int .u32 0, .int .u32 0, .int .u32 0, .int .u32 0, .int .u32 0, .int .u32 0, .int .u32 0] : Array Value) 185)
            have hgeT12 := hH11.size
            have kbK12 := kbK11.alloc (.cells (#[.int .u32 0, .int .u32 0, .int .u32 0, .int .u32 0, .int .u32 0, .int .u32 0, .int .u32 0, .int .u32 0] : Array Value) 185)
            have hneKT12 := kbK11.lt
            obtain ⟨gT12, hgg12⟩ : ∃ g, g = (w11).heap.size := ⟨_, rfl⟩
            rw [← hgg12] at kbT12 hgeT12 hneKT12 ⊢
            generalize (w11).alloc (.cells (#[.int .u32 0, .int .u32 0, .int .u32 0, .int .u32 0, .int .u32 0, .int .u32 0, .int .u32 0, .int .u32 0] : Array Value) 185) = w12 at hH12 kbK12 kbT12 ⊢
            clear hgg12
            refine hK.out _ _ hH12 (fun _ => ?_)
            try simp only [Act.put, Sa, Sb, Sc]
            refine RD 6 rfl (fun K hK => ?_)
            rw [if_pos (by rfl)]
            refine op_store 197 (.tmp 12) (.tmp 88) (by kernel_rfl) (by kernel_rfl) rfl (cs := KCl) rfl kbK12 (by rw [KCl_len]; rfl) infoKC (by exact KCl_one) ?_
            intro w13 kbK13 hc13
            have hH13 : Chg [] W1 w13 := hH12.trans hc13 (by simp; omega)
            have kbT13 := kbT12.chg hc13 (by simp; omega)
            refine hK.out _ _ hH13 (fun _ => ?_)
            try simp only [Act.put, Sa, Sb, Sc, Sd, Se, Sf]
            refine RD 7 rfl (fun K hK => ?_)
            rw [if_pos (by rfl)]
            refine op_store 185 (.tmp 13) (.tmp 91) (by kernel_rfl) (by kernel_rfl) rfl (cs := (stCells s).toList) rfl kbT13 (by rfl) infoSt (by exact stCells_one s) ?_
            intro w14 kbT14 hc14
            have hH14 : Chg [] W1 w14 := hH13.trans hc14 (by simp; omega)
            have kbK14 := kbK13.chg hc14 (by simp; omega)
            refine hK.out _ _ hH14 (fun _ => ?_)
            try simp only [Act.put, Sa, Sb, Sc, Sd, Se, Sf]
            refine wpAnyH_done (by kernel_rfl) ?_ _
            go_wp2_with fail
            go_meet
            exact ⟨gK10, gT12, rfl, rfl, kbK14, kbT14, by omega, by omega, by omega, hH14⟩
          · rw [if_pos (by rfl)]
            refine op_alloc 185 13 (by kernel_rfl) (by kernel_rfl) zeroW8 ?_
            have kbT15 := Blk.new (w10) (#[.int .u32 0, .int .u32 0, .int .u32 0, .int .u32 0, .int .u32 0, .int .u32 0, .int .u32 0, .int .u32 0] : Array Value) 185
            have hH15 := hH10.alloc (.cells (#[.int .u32 0, .int .u32 0, .int .u32 0, .int .u32 0, .int .u32 0, .int .u32 0, .int .u32 0, .int .u32 0] : Array Value) 185)
            have hgeT15 := hH10.size
            have kbK15 := kbK10.alloc (.cells (#[.int .u32 0, .int .u32 0, .int .u32 0, .int .u32 0, .int .u32 0, .int .u32 0, .int .u32 0, .int .u32 0] : Array Value) 185)
            have hneKT15 := kbK10.lt
            obtain ⟨gT15, hgg15⟩ : ∃ g, g = (w10).heap.size := ⟨_, rfl⟩
            rw [← hgg15] at kbT15 hgeT15 hneKT15 ⊢
            generalize (w10).alloc (.cells (#[.int .u32 0, .int .u32 0, .int .u32 0, .int .u32 0, .int .u32 0, .int .u32 0, .int .u32 0, .int .u32 0] : Array Value) 185) = w15 at hH15 kbK15 kbT15 ⊢
            clear hgg15
            refine hK.out _ _ hH15 (fun _ => ?_)
            try simp only [Act.put, Sa, Sb, Sc]
            refine RD 0 rfl (fun K hK => ?_)
            try rw [if_pos (by rfl)]
            go_simp
            go_at_call 131
            refine (hcon _).mono ?_
            rintro e16 w16 ⟨rfl, hc16⟩
            dsimp only
            have hH16 := hH15.trans hc16 (by simp)
            have kbK16 := kbK15.chg hc16 (by simp)
            have kbT16 := kbT15.chg hc16 (by simp)
            refine hK.out _ _ hH16 (fun _ => ?_)
            try simp only [Act.put, Sa, Sb, Sc, Sd, Se, Sf]
            refine RD 6 rfl (fun K hK => ?_)
            rw [if_pos (by rfl)]
            refine op_store 197 (.tmp 12) (.tmp 88) (by kernel_rfl) (by kernel_rfl) rfl (cs := KCl) rfl kbK16 (by rw [KCl_len]; rfl) infoKC (by exact KCl_one) ?_
            intro w17 kbK17 hc17
            have hH17 : Chg [] W1 w17 := hH16.trans hc17 (by simp; omega)
            have kbT17 := kbT16.chg hc17 (by simp; omega)
            refine hK.out _ _ hH17 (fun _ => ?_)
            try simp only [Act.put, Sa, Sb, Sc, Sd, Se, Sf]
            refine RD 7 rfl (fun K hK => ?_)
            rw [if_pos (by rfl)]
            refine op_store 185 (.tmp 13) (.tmp 91) (by kernel_rfl) (by kernel_rfl) rfl (cs := (stCells s).toList) rfl kbT17 (by rfl) infoSt (by exact stCells_one s) ?_
            intro w18 kbT18 hc18
            have hH18 : Chg [] W1 w18 := hH17.trans hc18 (by simp; omega)
            have kbK18 := kbK17.chg hc18 (by simp; omega)
            refine hK.out _ _ hH18 (fun _ => ?_)
            try simp only [Act.put, Sa, Sb, Sc, Sd, Se, Sf]
            refine wpAnyH_done (by kernel_rfl) ?_ _
            go_wp2_with fail
            go_meet
            exact ⟨gK10, gT15, rfl, rfl, kbK18, kbT18, by omega, by omega, by omega, hH18⟩
        · rw [if_pos (by rfl)]
          refine op_alloc 185 13 (by kernel_rfl) (by kernel_rfl) zeroW8 ?_
          have kbT19 := Blk.new ((W1).drew) (#[.int .u32 0, .int .u32 0, .int .u32 0, .int .u32 0, .int .u32 0, .int .u32 0, .int .u32 0, .int .u32 0] : Array Value) 185
          have hH19 := hH.alloc (.cells (#[.int .u32 0, .int .u32 0, .int .u32 0, .int .u32 0, .int .u32 0, .int .u32 0, .int .u32 0, .int .u32 0] : Array Value) 185)
          have hgeT19 := hH.size
          obtain ⟨gT19, hgg19⟩ : ∃ g, g = ((W1).drew).heap.size := ⟨_, rfl⟩
          rw [← hgg19] at kbT19 hgeT19 ⊢
          generalize ((W1).drew).alloc (.cells (#[.int .u32 0, .int .u32 0, .int .u32 0, .int .u32 0, .int .u32 0, .int .u32 0, .int .u32 0, .int .u32 0] : Array Value) 185) = w19 at hH19 kbT19 ⊢
          clear hgg19
          refine hK.out _ _ hH19 (fun _ => ?_)
          try simp only [Act.put, Sa, Sb, Sc]
          refine RD2 0 4 rfl rfl (fun K hK => ?_) (fun K hK => ?_)
          · try rw [if_pos (by rfl)]
            go_simp
            go_at_call 131
            refine (hcon _).mono ?_
            rintro e20 w20 ⟨rfl, hc20⟩
            dsimp only
            have hH20 := hH19.trans hc20 (by simp)
            have kbT20 := kbT19.chg hc20 (by simp)
            refine hK.out _ _ hH20 (fun _ => ?_)
            try simp only [Act.put, Sa, Sb, Sc, Sd, Se, Sf]
            refine RD 4 rfl (fun K hK => ?_)
            rw [if_pos (by rfl)]
            refine op_alloc 197 12 (by kernel_rfl) (by kernel_rfl) zeroW64 ?_
            have kbK21 := Blk.new (w20) zero64 197
            have hH21 := hH20.alloc (.cells zero64 197)
            have hgeK21 := hH20.size
            have kbT21 := kbT20.alloc (.cells zero64 197)
            have hneTK21 := kbT20.lt
            obtain ⟨gK21, hgg21⟩ : ∃ g, g = (w20).heap.size := ⟨_, rfl⟩
            rw [← hgg21] at kbK21 hgeK21 hneTK21 ⊢
            generalize (w20).alloc (.cells zero64 197) = w21 at hH21 kbT21 kbK21 ⊢
            clear hgg21
            refine hK.out _ _ hH21 (fun _ => ?_)
            try simp only [Act.put, Sa, Sb, Sc]
            refine RD 6 rfl (fun K hK => ?_)
            rw [if_pos (by rfl)]
            refine op_store 197 (.tmp 12) (.tmp 88) (by kernel_rfl) (by kernel_rfl) rfl (cs := KCl) rfl kbK21 (by rw [KCl_len]; rfl) infoKC (by exact KCl_one) ?_
            intro w22 kbK22 hc22
            have hH22 : Chg [] W1 w22 := hH21.trans hc22 (by simp; omega)
            have kbT22 := kbT21.chg hc22 (by simp; omega)
            refine hK.out _ _ hH22 (fun _ => ?_)
            try simp only [Act.put, Sa, Sb, Sc, Sd, Se, Sf]
            refine RD 7 rfl (fun K hK => ?_)
            rw [if_pos (by rfl)]
            refine op_store 185 (.tmp 13) (.tmp 91) (by kernel_rfl) (by kernel_rfl) rfl (cs := (stCells s).toList) rfl kbT22 (by rfl) infoSt (by exact stCells_one s) ?_
            intro w23 kbT23 hc23
            have hH23 : Chg [] W1 w23 := hH22.trans hc23 (by simp; omega)
            have kbK23 := kbK22.chg hc23 (by simp; omega)
            refine hK.out _ _ hH23 (fun _ => ?_)
            try simp only [Act.put, Sa, Sb, Sc, Sd, Se, Sf]
            refine wpAnyH_done (by kernel_rfl) ?_ _
            go_wp2_with fail
            go_meet
            exact ⟨gK21, gT19, rfl, rfl, kbK23, kbT23, by omega, by omega, by omega, hH23⟩
          · rw [if_pos (by rfl)]
            refine op_alloc 197 12 (by kernel_rfl) (by kernel_rfl) zeroW64 ?_
            have kbK24 := Blk.new (w19) zero64 197
            have hH24 := hH19.alloc (.cells zero64 197)
            have hgeK24 := hH19.size
            have kbT24 := kbT19.alloc (.cells zero64 197)
            have hneTK24 := kbT19.lt
            obtain ⟨gK24, hgg24⟩ : ∃ g, g = (w19).heap.size := ⟨_, rfl⟩
            rw [← hgg24] at kbK24 hgeK24 hneTK24 ⊢
            generalize (w19).alloc (.cells zero64 197) = w24 at hH24 kbT24 kbK24 ⊢
            clear hgg24
            refine hK.out _ _ hH24 (fun _ => ?_)
            try simp only [Act.put, Sa, Sb, Sc]
            refine RD 0 rfl (fun K hK => ?_)
            try rw [if_pos (by rfl)]
            go_simp
            go_at_call 131
            refine (hcon _).mono ?_
            rintro e25 w25 ⟨rfl, hc25⟩
            dsimp only
            have hH25 := hH24.trans hc25 (by simp)
            have kbT25 := kbT24.chg hc25 (by simp)
            have kbK25 := kbK24.chg hc25 (by simp)
            refine hK.out _ _ hH25 (fun _ => ?_)
            try simp only [Act.put, Sa, Sb, Sc, Sd, Se, Sf]
            refine RD 6 rfl (fun K hK => ?_)
            rw [if_pos (by rfl)]
            refine op_store 197 (.tmp 12) (.tmp 88) (by kernel_rfl) (by kernel_rfl) rfl (cs := KCl) rfl kbK25 (by rw [KCl_len]; rfl) infoKC (by exact KCl_one) ?_
            intro w26 kbK26 hc26
            have hH26 : Chg [] W1 w26 := hH25.trans hc26 (by simp; omega)
            have kbT26 := kbT25.chg hc26 (by simp; omega)
            refine hK.out _ _ hH26 (fun _ => ?_)
            try simp only [Act.put, Sa, Sb, Sc, Sd, Se, Sf]
            refine RD 7 rfl (fun K hK => ?_)
            rw [if_pos (by rfl)]
            refine op_store 185 (.tmp 13) (.tmp 91) (by kernel_rfl) (by kernel_rfl) rfl (cs := (stCells s).toList) rfl kbT26 (by rfl) infoSt (by exact stCells_one s) ?_
            intro w27 kbT27 hc27
            have hH27 : Chg [] W1 w27 := hH26.trans hc27 (by simp; omega)
            have kbK27 := kbK26.chg hc27 (by simp; omega)
            refine hK.out _ _ hH27 (fun _ => ?_)
            try simp only [Act.put, Sa, Sb, Sc, Sd, Se, Sf]
            refine wpAnyH_done (by kernel_rfl) ?_ _
            go_wp2_with fail
            go_meet
            exact ⟨gK24, gT19, rfl, rfl, kbK27, kbT27, by omega, by omega, by omega, hH27⟩
      case rest =>
        obtain ⟨gK, gT, rfl, rfl, hK, hT, hKT, hgK, hgT, kc⟩ := hcut
        have hA2 := hA.chg kc (by simp)
        have hS2 := hbS.chg kc (by simp)
        have lA := hA.lt
        have lS := hbS.lt
        have nTA : gT ≠ A := by omega
        have nTS : gT ≠ sb := by omega
        have nKT : gK ≠ gT := hKT
        clear hA hbS hcon hp0 hbA hb0 hb hp hkge
        go_wp2
        go_loopw [92] (fun s92 wr => ∃ n : Nat, n ≤ 64 ∧ s92 = .int .i64 n ∧ Blk wr gT (stCells (rnds s (chunkW c) n)) 185 ∧ Chg [gT] wc wr) (fun s92 _ => 64 - (intOf s92).toNat)
        case atStart => exact ⟨0, by omega, rfl, hT, Chg.refl _ _⟩
        case round =>
          obtain ⟨n, hn, rfl, hT3, k3⟩ := hrel
          by_cases hlt : n < 64
          · have hso := hs.rnds (chunkW c) n
            have hw := hflt'.out n
            have hkn : KS.getD n 0 < 4294967296 := KS_lt n
            have hcK := (hK.chg k3 (by simp [nKT])).cell n (KC_get hlt)
            have hcA := (hA2.chg k3 (by simp [Ne.symm nTA])).cell n (v := .int .u32 (f n : Nat)) (by rw [cellsW_get f 64 hlt, if_pos hlt])
            have hnext : rnds s (chunkW c) (n + 1) = rnd (rnds s (chunkW c) n) (KS.getD n 0) (f n) := rnds_next c hf'.out hlt
            generalize rnds s (chunkW c) n = st at *
            generalize KS.getD n 0 = kn at *
            generalize f n = wn at *
            have hnext' := Lib.hid hnext
            clear hnext hflt' hf16' hfn'
            obtain ⟨a, b, cc, d, ee, ff, gg, hh⟩ := st
            obtain ⟨la, lb, lc, ld, le, lf, lg, lh⟩ := hso
            dsimp only at la lb lc ld le lf lg lh
            have p0 := hT3.cell 0 (v := .int .u32 a) rfl
            have p1 := hT3.cell 1 (v := .int .u32 b) rfl
            have p2 := hT3.cell 2 (v := .int .u32 cc) rfl
            have p3 := hT3.cell 3 (v := .int .u32 d) rfl
            have p4 := hT3.cell 4 (v := .int .u32 ee) rfl
            have p5 := hT3.cell 5 (v := .int .u32 ff) rfl
            have p6 := hT3.cell 6 (v := .int .u32 gg) rfl
            have p7 := hT3.cell 7 (v := .int .u32 hh) rfl
            go_wp2_with fail
            rw [pick_eq le lf lg, most_eq la lb lc]
            have lp : ((ee &&& ff) ^^^ ((ee ^^^ 4294967295) &&& gg)) < 4294967296 := pick_lt le lf lg
            have lm : (((a &&& b) ^^^ (a &&& cc)) ^^^ (b &&& cc)) < 4294967296 := most_lt la lb lc
            obtain ⟨pk, hpk⟩ : ∃ x, x = ((ee &&& ff) ^^^ ((ee ^^^ 4294967295) &&& gg)) := ⟨_, rfl⟩
            obtain ⟨mo, hmo⟩ : ∃ x, x = (((a &&& b) ^^^ (a &&& cc)) ^^^ (b &&& cc)) := ⟨_, rfl⟩
            rw [← hpk] at lp ⊢
            rw [← hmo] at lm ⊢
            obtain ⟨sg, hsg⟩ : ∃ x, x = ((rotr ee 6 ^^^ rotr ee 11) ^^^ rotr ee 25) := ⟨_, rfl⟩
            obtain ⟨sz, hsz⟩ : ∃ x, x = ((rotr a 2 ^^^ rotr a 13) ^^^ rotr a 22) := ⟨_, rfl⟩
            have lsg : sg < 4294967296 := by rw [hsg]; exact Nat.xor_lt_two_pow (n := 32) (Nat.xor_lt_two_pow (rotr_lt le) (rotr_lt le)) (rotr_lt le)
            have lsz : sz < 4294967296 := by rw [hsz]; exact Nat.xor_lt_two_pow (n := 32) (Nat.xor_lt_two_pow (rotr_lt la) (rotr_lt la)) (rotr_lt la)
            have x1 : bits .xor .u32 ((rotr ee 6 : Nat) : Int) ((rotr ee 11 : Nat) : Int) = ((rotr ee 6 ^^^ rotr ee 11 : Nat) : Int) := u32_xor_nat _ _ (rotr_lt le) (rotr_lt le)
            have x2 : bits .xor .u32 ((rotr ee 6 ^^^ rotr ee 11 : Nat) : Int) ((rotr ee 25 : Nat) : Int) = (sg : Int) := by
              rw [hsg]; exact u32_xor_nat _ _ (Nat.xor_lt_two_pow (n := 32) (rotr_lt le) (rotr_lt le)) (rotr_lt le)
            have x3 : bits .xor .u32 ((rotr a 2 : Nat) : Int) ((rotr a 13 : Nat) : Int) = ((rotr a 2 ^^^ rotr a 13 : Nat) : Int) := u32_xor_nat _ _ (rotr_lt la) (rotr_lt la)
            have x4 : bits .xor .u32 ((rotr a 2 ^^^ rotr a 13 : Nat) : Int) ((rotr a 22 : Nat) : Int) = (sz : Int) := by
              rw [hsz]; exact u32_xor_nat _ _ (Nat.xor_lt_two_pow (n := 32) (rotr_lt la) (rotr_lt la)) (rotr_lt la)
            obtain ⟨a1, ha1⟩ : ∃ x, x = (hh + sg) % 4294967296 := ⟨_, rfl⟩
            obtain ⟨a2, ha2⟩ : ∃ x, x = (a1 + pk) % 4294967296 := ⟨_, rfl⟩
            obtain ⟨a3, ha3⟩ : ∃ x, x = (a2 + kn) % 4294967296 := ⟨_, rfl⟩
            obtain ⟨on, hon⟩ : ∃ x, x = (a3 + wn) % 4294967296 := ⟨_, rfl⟩
            obtain ⟨tw, htw⟩ : ∃ x, x = (sz + mo) % 4294967296 := ⟨_, rfl⟩
            obtain ⟨na, hna⟩ : ∃ x, x = (on + tw) % 4294967296 := ⟨_, rfl⟩
            obtain ⟨ne, hne⟩ : ∃ x, x = (d + on) % 4294967296 := ⟨_, rfl⟩
            have w1 := wrap_add (x := hh) (y := sg) ha1
            have w2 := wrap_add (x := a1) (y := pk) ha2
            have w3 := wrap_add (x := a2) (y := kn) ha3
            have w4 := wrap_add (x := a3) (y := wn) hon
            have w5 := wrap_add (x := sz) (y := mo) htw
            have w6 := wrap_add (x := on) (y := tw) hna
            have w7 := wrap_add (x := d) (y := on) hne
            have hst : rnd ⟨a, b, cc, d, ee, ff, gg, hh⟩ kn wn = ⟨na, a, b, cc, ne, ee, ff, gg⟩ := by
              have e1 : oneS ⟨a, b, cc, d, ee, ff, gg, hh⟩ kn wn = on := by
                rw [hon, ha3, ha2, ha1, hsg, hpk]; unfold oneS; dsimp only; omega
              have e2 : twoS ⟨a, b, cc, d, ee, ff, gg, hh⟩ = tw := by rw [htw, hsz, hmo]; rfl
              rw [rnd, e1, e2, ← hna, ← hne]
            have hst' := Lib.hid hst
            have hmn : (0 : Int) ≤ n := by omega
            have hmn2 : (n : Int) < 64 := by omega
            clear hst hpk hmo hsg hsz ha1 ha2 ha3 hon htw hna hne
            have t1 := turn_6 ee le
            have t2 := turn_11 ee le
            have t3 := turn_25 ee le
            have t4 := turn_2 a la
            have t5 := turn_13 a la
            have t6 := turn_22 a la
            go_quiet (first
              | (go_at_call_of 130 (Value.int IntKind.i64 6); exact quiet (t1 _))
              | (go_at_call_of 130 (Value.int IntKind.i64 11); exact quiet (t2 _))
              | (go_at_call_of 130 (Value.int IntKind.i64 25); exact quiet (t3 _)))
            have hTq := hT3.drewN nq
            have kTq := k3.drewN nq
            clear p0 p1 p2 p3 p4 p5 p6 p7 hcK hcA t1 t2 t3 x1 x2 w1 w2 w3 w4 hT3 k3
            generalize wr.drewN nq = wq at hTq kTq ⊢
            have p0 := hTq.cell 0 (v := .int .u32 a) rfl
            go_wp2
            go_quiet (first
              | (go_at_call_of 130 (Value.int IntKind.i64 2); exact quiet (t4 _))
              | (go_at_call_of 130 (Value.int IntKind.i64 13); exact quiet (t5 _))
              | (go_at_call_of 130 (Value.int IntKind.i64 22); exact quiet (t6 _)))
            have hTr := hTq.drewN nq
            have kTr := kTq.drewN nq
            clear p0 t4 t5 t6 x3 x4 w5 hTq kTq
            generalize wq.drewN nq = wz at hTr kTr ⊢
            have p0 := hTr.cell 0 (v := .int .u32 a) rfl
            have p1 := hTr.cell 1 (v := .int .u32 b) rfl
            have p2 := hTr.cell 2 (v := .int .u32 cc) rfl
            have p3 := hTr.cell 3 (v := .int .u32 d) rfl
            have p4 := hTr.cell 4 (v := .int .u32 ee) rfl
            have p5 := hTr.cell 5 (v := .int .u32 ff) rfl
            have p6 := hTr.cell 6 (v := .int .u32 gg) rfl
            have f0 := hTr.free 0
            have f1 := hTr.free 1
            have f2 := hTr.free 2
            have f3 := hTr.free 3
            have f4 := hTr.free 4
            have f5 := hTr.free 5
            have f6 := hTr.free 6
            have f7 := hTr.free 7
            have p7 := hTr.cell 7 (v := .int .u32 hh) rfl
            have hTs := (((((((hTr.set 0 (.int .u32 na)).set 1 (.int .u32 a)).set 2 (.int .u32 b)).set 3 (.int .u32 cc)).set 4 (.int .u32 ne)).set 5 (.int .u32 ee)).set 6 (.int .u32 ff)).set 7 (.int .u32 gg)
            rw [stCells_all] at hTs
            go_wp2
            go_roundw
            case rel => exact ⟨n + 1, by omega, by simp, by rw [hnext'.out, hst'.out]; exact hTs, ((((((((kTr.setCell (.inl (by simp)) _).setCell (.inl (by simp)) _).setCell (.inl (by simp)) _).setCell (.inl (by simp)) _).setCell (.inl (by simp)) _).setCell (.inl (by simp)) _).setCell (.inl (by simp)) _).setCell (.inl (by simp)) _)⟩
            case measure => simp [intOf]; omega
          · have hn64 : n = 64 := by omega
            rw [hn64] at hT3
            have hnge : ¬ (n : Int) < 64 := by omega
            clear hn64 hlt hn
            have hS3 := hS2.chg k3 (by simp [Ne.symm nTS])
            obtain ⟨tt, htt⟩ : ∃ t, t = rnds s (chunkW c) 64 := ⟨_, rfl⟩
            rw [← htt] at hT3
            have hto : SstOk tt := by rw [htt]; exact hs.rnds _ _
            have htt' := Lib.hid htt
            clear htt
            have hld := load_blkC hT3 8 rfl
            have kB : Chg [sb] W1 wr := ((kc.mono (by simp)).trans k3 (fun t ht => .inr (by simp at ht; omega)))
            go_wp2
            have hB := hS3
            rw [show s = addP s tt 0 by rfl] at hB
            clear hld hT3 hS3 hS2 hA2 hK hT
            go_loopw [183] (fun s183 wr2 => ∃ m : Nat, m ≤ 8 ∧ s183 = .int .i64 m ∧ Blk wr2 sb (stCells (addP s tt m)) 185 ∧ Chg [sb] wr wr2) (fun s183 _ => 8 - (intOf s183).toNat)
            case atStart => exact ⟨0, by omega, rfl, hB, Chg.refl _ _⟩
            case round =>
              obtain ⟨m, hm, rfl, hB2, k4⟩ := hrel
              by_cases hlt : m < 8
              · clear hcl
                rcases (show m = 0 ∨ m = 1 ∨ m = 2 ∨ m = 3 ∨ m = 4 ∨ m = 5 ∨ m = 6 ∨ m = 7 by omega) with rfl | rfl | rfl | rfl | rfl | rfl | rfl | rfl
                · have ix := idx_0 tt
                  have wq := wrap_add (x := s.a) (y := tt.a) rfl
                  have e1 := hB2.cell 0 (v := .int .u32 s.a) rfl
                  have hB3 := (hB2.drew).set 0 (.int .u32 ((s.a + tt.a) % 4294967296 : Nat))
                  rw [addP_set0] at hB3
                  have f1 := (hB2.drew).free 0
                  have e2 := (hB2.drew).cell 0 (v := .int .u32 s.a) rfl
                  go_wp2
                  go_still_tail 9, (by kernel_rfl)
                  go_wp2
                  go_roundw
                  case rel => exact ⟨1, by omega, by rfl, hB3, k4.drew.setCell (.inl (by simp)) _⟩
                  case measure => simp [intOf]
                · have ix := idx_1 tt
                  have wq := wrap_add (x := s.b) (y := tt.b) rfl
                  have e1 := hB2.cell 1 (v := .int .u32 s.b) rfl
                  have hB3 := (hB2.drew).set 1 (.int .u32 ((s.b + tt.b) % 4294967296 : Nat))
                  rw [addP_set1] at hB3
                  have f1 := (hB2.drew).free 1
                  have e2 := (hB2.drew).cell 1 (v := .int .u32 s.b) rfl
                  go_wp2
                  go_still_tail 9, (by kernel_rfl)
                  go_wp2
                  go_roundw
                  case rel => exact ⟨2, by omega, by rfl, hB3, k4.drew.setCell (.inl (by simp)) _⟩
                  case measure => simp [intOf]
                · have ix := idx_2 tt
                  have wq := wrap_add (x := s.c) (y := tt.c) rfl
                  have e1 := hB2.cell 2 (v := .int .u32 s.c) rfl
                  have hB3 := (hB2.drew).set 2 (.int .u32 ((s.c + tt.c) % 4294967296 : Nat))
                  rw [addP_set2] at hB3
                  have f1 := (hB2.drew).free 2
                  have e2 := (hB2.drew).cell 2 (v := .int .u32 s.c) rfl
                  go_wp2
                  go_still_tail 9, (by kernel_rfl)
                  go_wp2
                  go_roundw
                  case rel => exact ⟨3, by omega, by rfl, hB3, k4.drew.setCell (.inl (by simp)) _⟩
                  case measure => simp [intOf]
                · have ix := idx_3 tt
                  have wq := wrap_add (x := s.d) (y := tt.d) rfl
                  have e1 := hB2.cell 3 (v := .int .u32 s.d) rfl
                  have hB3 := (hB2.drew).set 3 (.int .u32 ((s.d + tt.d) % 4294967296 : Nat))
                  rw [addP_set3] at hB3
                  have f1 := (hB2.drew).free 3
                  have e2 := (hB2.drew).cell 3 (v := .int .u32 s.d) rfl
                  go_wp2
                  go_still_tail 9, (by kernel_rfl)
                  go_wp2
                  go_roundw
                  case rel => exact ⟨4, by omega, by rfl, hB3, k4.drew.setCell (.inl (by simp)) _⟩
                  case measure => simp [intOf]
                · have ix := idx_4 tt
                  have wq := wrap_add (x := s.e) (y := tt.e) rfl
                  have e1 := hB2.cell 4 (v := .int .u32 s.e) rfl
                  have hB3 := (hB2.drew).set 4 (.int .u32 ((s.e + tt.e) % 4294967296 : Nat))
                  rw [addP_set4] at hB3
                  have f1 := (hB2.drew).free 4
                  have e2 := (hB2.drew).cell 4 (v := .int .u32 s.e) rfl
                  go_wp2
                  go_still_tail 9, (by kernel_rfl)
                  go_wp2
                  go_roundw
                  case rel => exact ⟨5, by omega, by rfl, hB3, k4.drew.setCell (.inl (by simp)) _⟩
                  case measure => simp [intOf]
                · have ix := idx_5 tt
                  have wq := wrap_add (x := s.f) (y := tt.f) rfl
                  have e1 := hB2.cell 5 (v := .int .u32 s.f) rfl
                  have hB3 := (hB2.drew).set 5 (.int .u32 ((s.f + tt.f) % 4294967296 : Nat))
                  rw [addP_set5] at hB3
                  have f1 := (hB2.drew).free 5
                  have e2 := (hB2.drew).cell 5 (v := .int .u32 s.f) rfl
                  go_wp2
                  go_still_tail 9, (by kernel_rfl)
                  go_wp2
                  go_roundw
                  case rel => exact ⟨6, by omega, by rfl, hB3, k4.drew.setCell (.inl (by simp)) _⟩
                  case measure => simp [intOf]
                · have ix := idx_6 tt
                  have wq := wrap_add (x := s.g) (y := tt.g) rfl
                  have e1 := hB2.cell 6 (v := .int .u32 s.g) rfl
                  have hB3 := (hB2.drew).set 6 (.int .u32 ((s.g + tt.g) % 4294967296 : Nat))
                  rw [addP_set6] at hB3
                  have f1 := (hB2.drew).free 6
                  have e2 := (hB2.drew).cell 6 (v := .int .u32 s.g) rfl
                  go_wp2
                  go_still_tail 9, (by kernel_rfl)
                  go_wp2
                  go_roundw
                  case rel => exact ⟨7, by omega, by rfl, hB3, k4.drew.setCell (.inl (by simp)) _⟩
                  case measure => simp [intOf]
                · have ix := idx_7 tt
                  have wq := wrap_add (x := s.h) (y := tt.h) rfl
                  have e1 := hB2.cell 7 (v := .int .u32 s.h) rfl
                  have hB3 := (hB2.drew).set 7 (.int .u32 ((s.h + tt.h) % 4294967296 : Nat))
                  rw [addP_set7] at hB3
                  have f1 := (hB2.drew).free 7
                  have e2 := (hB2.drew).cell 7 (v := .int .u32 s.h) rfl
                  go_wp2
                  go_still_tail 9, (by kernel_rfl)
                  go_wp2
                  go_roundw
                  case rel => exact ⟨8, by omega, by rfl, hB3, k4.drew.setCell (.inl (by simp)) _⟩
                  case measure => simp [intOf]
              · have hm8 : m = 8 := by omega
                have hmge : ¬ (m : Int) < 8 := by omega
                rw [hm8, addP_8, htt'.out] at hB2
                clear hm8 hlt hm
                have kF := hkf'.out _ k1
                go_wp2
                exact bodyPost_end (results_none rfl _ _ _) rfl ⟨rfl, hB2, ((kF.mono (by simp)).trans kB (fun t ht => .inl ht)).trans k4 (fun t ht => .inl ht)⟩
end Go.Proofs.YtmkgbinmilcojaaGreat

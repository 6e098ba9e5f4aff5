/- Package digest: Sum (begun). -/
import Derived.Test.YtmkgbinmilcojaaGreatCloneChunk
import Derived.Test.YtmkgbinmilcojaaGreatOctCells
namespace Go.Proofs.YtmkgbinmilcojaaGreat
open Go.RowKit Go.Maps Go.Shelf
attribute [-go_sem] loadCellsFrom
attribute [local go_sem] Oper.semAt_some

def z32 : Array Value := (List.replicate 32 (Value.int .u8 0)).toArray
theorem zeroHash (w : World) : (zeroValue 26).run Tryz.prog w = .ok (.agg z32) w := by kernel_rfl
theorem row_low8 {n₀ : Nat} {W : World} {e : TypeId} {s n : Nat} {v : Value} {xs : List Value} (h : W.ownsRow n₀ e s v n xs) {g : Nat} (hg : v.ownBlock = some g) : n₀ ≤ g := by
  rcases h.2 with ⟨rfl, _⟩ | ⟨g', cap, cur, rfl, hb, _⟩
  · cases hg
  · cases hg; exact hb
theorem wrap_u8 (x : Int) : IntKind.u8.wrap x = x % 256 := by
  have e : (2 : Int) ^ IntKind.u8.bits = 256 := by decide
  simp [IntKind.wrap, IntKind.signed, IntKind.bits]
theorem padS_lt {l : List Nat} (h : ∀ x ∈ l, x < 256) : ∀ x ∈ padS l, x < 256 := by
  intro x hx
  simp only [padS, lenBytes, List.mem_append, List.mem_cons, List.not_mem_nil, or_false] at hx
  rcases hx with hx | rfl | hx | hx
  · exact h x hx
  · omega
  · have := List.eq_of_mem_replicate hx; omega
  · omega
/-- the state behind some of the blocks. -/
def stepS (P : List Nat) (s : Sst) (k : Nat) : Sst := blkS s (chunkW ((P.drop (64 * k)).take 64))
theorem foldS_range : ∀ (M : Nat) (P : List Nat) (s : Sst), (List.range M).foldl (stepS P) s = foldS M s P
  | 0, P, s => rfl
  | M + 1, P, s => by
    rw [List.range_succ_eq_map, List.foldl_cons, List.foldl_map]
    show _ = foldS M (blkS s (chunkW (P.take 64))) (P.drop 64)
    rw [← foldS_range M (P.drop 64)]
    have e : (fun (x : Sst) (y : Nat) => stepS P x y.succ) = stepS (P.drop 64) := by
      funext x y
      simp only [stepS, List.drop_drop, Nat.succ_eq_add_one]
      rw [show 64 * (y + 1) = 64 + 64 * y by omega]
    rw [e]
    simp [stepS]
theorem fin_fold {M : Nat} (P : List Nat) (s : Sst) : (List.finRange M).foldl (fun s (k : Fin M) => stepS P s k.1) s = foldS M s P := by
  have e : (List.finRange M).map Fin.val = List.range M := by apply List.ext_getElem <;> simp
  rw [← foldS_range, ← e, List.foldl_map]
theorem SstOk.step {P : List Nat} {M : Nat} : ∀ (ks : List (Fin M)) {s : Sst}, SstOk s → SstOk (ks.foldl (fun s (k : Fin M) => stepS P s k.1) s)
  | [], _, h => h
  | _ :: ks, _, _ => SstOk.step ks (SstOk.blk _ _)
theorem IV_ok : SstOk IV := by constructor <;> decide
/-- the sum's first i bytes. -/
def outV (s : Sst) (i : Nat) : Array Value := ((List.range i).map (fun j => Value.int .u8 (byteS s j : Nat)) ++ List.replicate (32 - i) (Value.int .u8 0)).toArray
theorem outV_zero (s : Sst) : outV s 0 = z32 := rfl
theorem outV_size (s : Sst) {i : Nat} (h : i ≤ 32) : (outV s i).size = 32 := by simp [outV]; omega
theorem outV_set (s : Sst) {i : Nat} (h : i < 32) : (outV s i).setIfInBounds i (.int .u8 (byteS s i : Nat)) = outV s (i + 1) := by
  apply Array.ext_getElem?
  intro j
  rw [Array.getElem?_setIfInBounds]
  have hs := outV_size s (i := i) (by omega)
  split
  · subst_vars
    rw [if_pos (by omega)]
    simp [outV, List.range_succ]
  · simp only [outV, List.getElem?_toArray, List.range_succ, List.map_append, List.map_cons, List.map_nil]
    by_cases hj : j < i
    · rw [List.getElem?_append_left (by simpa using hj), List.append_assoc, List.getElem?_append_left (by simpa using hj)]
    · rw [List.getElem?_append_right (by simp; omega), List.getElem?_append_right (by simp; omega)]
      simp only [List.length_map, List.length_range, List.length_append, List.length_cons, List.length_nil, List.getElem?_replicate]
      by_cases h3 : j < 32
      · rw [if_pos (by omega), if_pos (by omega)]
      · rw [if_neg (by omega), if_neg (by omega)]
theorem outV_all (s : Sst) : outV s 32 = (bytesV ((List.range 32).map (byteS s))).toArray := by
  simp [outV, bytesV]
theorem stCells_get (s : Sst) {a : Nat} (h : a < 8) : (stCells s)[a]? = some (.int .u32 (s.l.getD a 0 : Nat)) := by
  rcases (by omega : a = 0 ∨ a = 1 ∨ a = 2 ∨ a = 3 ∨ a = 4 ∨ a = 5 ∨ a = 6 ∨ a = 7) with rfl | rfl | rfl | rfl | rfl | rfl | rfl | rfl <;> rfl
theorem BytesAt.part {w : World} {g off : Nat} {l : List Nat} (h : BytesAt w g off l) (a n : Nat) : BytesAt w g (off + a) ((l.drop a).take n) :=
  ⟨fun x hx => h.1 x (List.mem_of_mem_drop (List.mem_of_mem_take hx)), fun j v hj => by
    rw [List.getElem?_take] at hj
    split at hj
    · have := h.2 (a + j) v (by simpa using hj)
      rw [Nat.add_assoc]; exact this
    · cases hj⟩
theorem Chg.keeps {W W' : World} {b : Nat} {c : Array Value} {t : TypeId} (k : Chg [b] W W') (hb : Blk W b c t) : KeepsOthers W W' :=
  ⟨k.size, fun i o hi ho => by
    have hne : i ≠ b := fun e => by subst e; rw [show W.heap[i]? = _ from hb] at hi; cases hi; cases ho
    exact (k.block i (Array.getElem?_eq_some_iff.1 hi).1 (by simpa using hne)).trans hi⟩
theorem Chg.kp {W W' : World} {Fx : List Nat} (k : Chg Fx W W') : Kp Fx [] W W' :=
  ⟨k.size, fun i _ hi _ hn => (k.block i (Array.getElem?_eq_some_iff.1 hi).1 (fun e => hn (tch_fx.2 e))).trans hi, fun _ _ t => tch_fx.2 (tch_fx.1 t), fun h i t => Nat.lt_of_lt_of_le (h i (tch_fx.2 (tch_fx.1 t))) k.size⟩
theorem padZ_step {n m : Nat} (hm : m ≤ padZ n) : ((n + 1 + m) % 64 = 56) ↔ m = padZ n := by unfold padZ at *; omega
set_option maxRecDepth 100000 in
set_option maxHeartbeats 4000000 in
theorem digest_Sum (g off cap : Nat) (l : List Nat) (hn : l.length ≤ 100000) (w : World) (hp : BytesAt w g off l) (hg : g < w.heap.size) :
    Calls Tryz.prog 96 #[.slice (some ⟨g, off, none⟩) l.length cap] w fun e w' => e = .returned (.agg (bytesV (shaS l)).toArray) ∧ Chg [] w w' := by
  obtain ⟨i0, hi, hz0, hz1, hz2⟩ := info_partsB infoByte
  have hz := zeroHash
  have hbO := (Blk.new w z32 26).alloc (.cells (stCells IV) 185)
  have hbS := Blk.new (w.alloc (.cells z32 26)) (stCells IV) 185
  have k0 : Chg [] w ((w.alloc (.cells z32 26)).alloc (.cells (stCells IV) 185)) := ((Chg.refl _ _).alloc _).alloc _
  have hp0 := hp.chg k0 hg (by simp)
  have hg0 : g < ((w.alloc (.cells z32 26)).alloc (.cells (stCells IV) 185)).heap.size := by simp; omega
  have s1 : (w.alloc (.cells z32 26)).heap.size = w.heap.size + 1 := by simp
  rw [s1] at hbS
  generalize hzz0 : z32 = zz at *
  have hzz := Lib.hid hzz0
  clear hzz0
  simp only [stCells, IV] at hbO hbS k0 hp0 hg0
  refine (callsIn_wide (n := 3)).1 ?_
  refine callsIn_of_wp_marks Tryz.func96 rfl trivial ?_ rfl
  simp only [Tryz.ntmps96, List.size_toArray, List.length_cons, List.length_nil, Nat.reduceAdd, Nat.reduceSub, Array.replicate_succ, Array.replicate_zero, List.push_toArray, List.append_toArray, List.nil_append, List.cons_append]
  gi_wp2
  generalize (w.alloc (.cells zz 26)).alloc (.cells #[.int .u32 1779033703, .int .u32 3144134277, .int .u32 1013904242, .int .u32 2773480762, .int .u32 1359893119, .int .u32 2600822924, .int .u32 528734635, .int .u32 1541459225] 185) = W0 at *
  have hOs : w.heap.size < w.heap.size + 1 := by omega
  generalize w.heap.size + 1 = sb at *
  refine And.intro trivial ?_
  refine (callsIn_wd (clone_bytes g off cap l (by omega) W0 hp0 hg0)).mono ?_
  rintro e w1 ⟨v, rfl, hv, k1⟩
  have hsz1 := k1.size
  have hone : ∀ (b : Int) (j : Nat) u, [Value.int .u8 b][j]? = some u → (w1.alloc (.cells #[.int .u8 b] 5)).cell? ((⟨w1.heap.size, 0, none⟩ : Addr).add j) = some u := fun b j u hj => by
    match j, hj with
    | 0, hj => exact (Blk.new w1 #[.int .u8 b] 5).cell 0 (by simpa using hj)
    | k + 1, hj => simp at hj
  gi_wp2_with (gi_at_builtin; go_loud (refine wpListIn_append_own_at _ rfl _ _ 36 rfl W0.heap.size 5 i0 (.int .u8 0) 1 1 Tryz.underlying36 hi hz0 hz1 hz2 rfl (by decide) v l.length (bytesV l) rfl (hv.alloc _) ⟨w1.heap.size, 0, none⟩ 1 1 [.int .u8 128] rfl rfl (hone 128) (by simp [Value.oneCell']) (by unfold maxLen; omega) (by omega) (by simp; omega) ?_); intro v2 w2 hv2 hg2 hn2 hl2)
  have k2 : Chg [] W0 w2 := (k1.alloc (.cells #[.int .u8 128] 5)).grown hg2 (fun k e => .inr (row_low8 hv e))
  clear hone hv hg2 hn2 hl2 hsz1 k1
  have hlz : l.length + 1 + padZ l.length ≤ 100064 := by unfold padZ; omega
  obtain ⟨Z, hZ⟩ : ∃ Z, Z = padZ l.length := ⟨_, rfl⟩
  have hZ' := Lib.hid hZ
  rw [← hZ] at hlz
  clear hZ
  gi_loopw [4] (fun s4 wr => ∃ (m : Nat) (v : Value), m ≤ Z ∧ v = s4 ∧ wr.ownsRow W0.heap.size 5 1 v (l.length + 1 + m) (bytesV (l ++ 128 :: List.replicate m 0)) ∧ Chg [] W0 wr) (fun s4 _ => l.length + 1 + Z - (match s4 with | .slice _ n _ => n | _ => 0))
  case atStart => exact ⟨0, v2, Nat.zero_le _, rfl, by simpa [bytesV] using hv2, k2⟩
  case round =>
    obtain ⟨m, v, hm, rfl, hv, k3⟩ := hrel
    obtain ⟨va, vcap, rfl⟩ : ∃ a cap, v = .slice a (l.length + 1 + m) cap := by
      rcases hv.2 with ⟨_, h0⟩ | ⟨g, cap, cur, rfl, _⟩
      · omega
      · exact ⟨_, cap, rfl⟩
    have hsz3 := k3.size
    by_cases hlt : m < Z
    · have hne : ¬ (l.length + 1 + m) % 64 = 56 := fun h => by
        have := (padZ_step (by rw [← hZ'.out]; exact hm)).1 h
        rw [← hZ'.out] at this; omega
      obtain ⟨N, hN⟩ : ∃ N, N = l.length + 1 + m := ⟨_, rfl⟩
      rw [← hN] at hv hne ⊢
      have hN' := Lib.hid hN
      have hNb : N ≤ 100064 := by omega
      clear hN
      have hb : ((N : Int) % 64 == 56) = false := by simp; omega
      have hone : ∀ (b : Int) (j : Nat) u, [Value.int .u8 b][j]? = some u → (wr.alloc (.cells #[.int .u8 b] 5)).cell? ((⟨wr.heap.size, 0, none⟩ : Addr).add j) = some u := fun b j u hj => by
        match j, hj with
        | 0, hj => exact (Blk.new wr #[.int .u8 b] 5).cell 0 (by simpa using hj)
        | k + 1, hj => simp at hj
      gi_wp2_with (gi_at_builtin; go_loud (refine wpListIn_append_own_at _ rfl _ _ 36 rfl W0.heap.size 5 i0 (.int .u8 0) 1 1 Tryz.underlying36 hi hz0 hz1 hz2 rfl (by decide) _ N _ rfl (hv.alloc _) ⟨wr.heap.size, 0, none⟩ 1 1 [.int .u8 0] rfl rfl (hone 0) (by simp [Value.oneCell']) (by unfold maxLen; omega) (by omega) (by simp; omega) ?_); intro v2 w2 hv2 hg2 hn2 hl2)
      have hNe := hN'.out
      have e1 : bytesV (l ++ 128 :: List.replicate (m + 1) 0) = bytesV (l ++ 128 :: List.replicate m 0) ++ [.int .u8 0] := by simp [bytesV, List.replicate_succ']
      obtain ⟨va2, vcap2, rfl⟩ : ∃ a cap, v2 = .slice a (N + 1) cap := by
        rcases hv2.2 with ⟨_, h0⟩ | ⟨g, cap, cur, rfl, _⟩
        · omega
        · exact ⟨_, cap, rfl⟩
      refine ⟨⟨m + 1, _, by omega, rfl, ?_, (k3.alloc (.cells #[.int .u8 0] 5)).grown hg2 (fun k e => .inr (row_low8 hv e))⟩, ?_⟩
      · rw [e1, show l.length + 1 + (m + 1) = N + 1 by omega]; exact hv2
      · show l.length + 1 + Z - (N + 1) < l.length + 1 + Z - N
        omega
    · have hmZ : m = Z := by omega
      rw [hmZ] at hv ⊢
      have hq : (l.length + 1 + Z) % 64 = 56 := by rw [hZ'.out]; exact (padZ_step (Nat.le_refl _)).2 rfl
      clear hmZ hm hlt
      obtain ⟨N, hN⟩ : ∃ N, N = l.length + 1 + Z := ⟨_, rfl⟩
      rw [← hN] at hv hq ⊢
      have hN' := Lib.hid hN
      have hNb : N ≤ 100064 := by omega
      clear hN
      have hb : ((N : Int) % 64 == 56) = true := by simp; omega
      gi_wp2
      clear hb hq
      generalize ((N : Int) % 64 != 56) = bb
      gi_loopw [4, 5] (fun s4 s5 wr2 => ∃ (q : Nat) (v : Value), q ≤ 8 ∧ v = s4 ∧ s5 = .int .i64 (56 - 8 * (q : Int)) ∧ wr2.ownsRow W0.heap.size 5 1 v (N + q) (bytesV ((l ++ 128 :: List.replicate Z 0) ++ (lenBytes l.length).take q)) ∧ Chg [] W0 wr2) (fun _ s5 _ => (intOf s5 + 8).toNat)
      case atStart => exact ⟨0, _, by omega, rfl, rfl, by simpa using hv, k3⟩
      case round =>
        obtain ⟨q, v, hq8, rfl, rfl, hv4, k4⟩ := hrel
        have hNe1 := hN'.out
        have hN1 : 1 ≤ N := by omega
        clear hNe1
        obtain ⟨va4, vcap4, rfl⟩ : ∃ a cap, v = .slice a (N + q) cap := by
          rcases hv4.2 with ⟨_, h0⟩ | ⟨g, cap, cur, rfl, _⟩
          · omega
          · exact ⟨_, cap, rfl⟩
        have hsz4 := k4.size
        obtain ⟨ln, hln⟩ : ∃ ln, ln = l.length := ⟨_, rfl⟩
        have hnl := hn
        rw [← hln] at hv4 hnl ⊢
        have hln' := Lib.hid hln
        clear hln hn
        by_cases hq : q < 8
        · have hone : ∀ (b : Int) (j : Nat) u, [Value.int .u8 b][j]? = some u → (wr.alloc (.cells #[.int .u8 b] 5)).cell? ((⟨wr.heap.size, 0, none⟩ : Addr).add j) = some u := fun b j u hj => by
            match j, hj with
            | 0, hj => exact (Blk.new wr #[.int .u8 b] 5).cell 0 (by simpa using hj)
            | k + 1, hj => simp at hj
          rcases (by omega : q = 0 ∨ q = 1 ∨ q = 2 ∨ q = 3 ∨ q = 4 ∨ q = 5 ∨ q = 6 ∨ q = 7) with rfl | rfl | rfl | rfl | rfl | rfl | rfl | rfl
          -- ROUNDS
          · have hw := Lib.hid (show (ln : Int) * 8 / 72057594037927936 = ((ln * 8 / 72057594037927936 % 256 : Nat) : Int) by omega)
            gi_wp2_with (gi_at_builtin; go_loud (refine wpListIn_append_own_at _ rfl _ _ 36 rfl W0.heap.size 5 i0 (.int .u8 0) 1 1 Tryz.underlying36 hi hz0 hz1 hz2 rfl (by decide) _ (N + 0) _ rfl (hv4.alloc _) ⟨wr.heap.size, 0, none⟩ 1 1 [.int .u8 ((ln : Int) * 8 / 72057594037927936)] rfl rfl (hone _) (by simp [Value.oneCell']) (by unfold maxLen; omega) (by omega) (by simp; omega) ?_); intro v2 w2 hv2 hg2 hn2 hl2)
            obtain ⟨va2, vcap2, rfl⟩ : ∃ a cap, v2 = .slice a (N + 0 + 1) cap := by
              rcases hv2.2 with ⟨_, h0⟩ | ⟨g, cap, cur, rfl, _⟩
              · omega
              · exact ⟨_, cap, rfl⟩
            go_roundw
            case rel =>
              refine ⟨1, _, by omega, rfl, by simp, ?_, (k4.alloc (.cells #[.int .u8 ((ln : Int) * 8 / 72057594037927936)] 5)).grown hg2 (fun k e => .inr (row_low8 hv4 e))⟩
              have e1 : bytesV ((l ++ 128 :: List.replicate Z 0) ++ (lenBytes ln).take 1) = bytesV ((l ++ 128 :: List.replicate Z 0) ++ (lenBytes ln).take 0) ++ [.int .u8 ((ln : Int) * 8 / 72057594037927936)] := by
                rw [hw.out]; simp [bytesV, lenBytes]
              rw [e1]; exact hv2
            case measure => simp [intOf]
          · have hw := Lib.hid (show (ln : Int) * 8 / 281474976710656 = ((ln * 8 / 281474976710656 % 256 : Nat) : Int) by omega)
            gi_wp2_with (gi_at_builtin; go_loud (refine wpListIn_append_own_at _ rfl _ _ 36 rfl W0.heap.size 5 i0 (.int .u8 0) 1 1 Tryz.underlying36 hi hz0 hz1 hz2 rfl (by decide) _ (N + 1) _ rfl (hv4.alloc _) ⟨wr.heap.size, 0, none⟩ 1 1 [.int .u8 ((ln : Int) * 8 / 281474976710656)] rfl rfl (hone _) (by simp [Value.oneCell']) (by unfold maxLen; omega) (by omega) (by simp; omega) ?_); intro v2 w2 hv2 hg2 hn2 hl2)
            obtain ⟨va2, vcap2, rfl⟩ : ∃ a cap, v2 = .slice a (N + 1 + 1) cap := by
              rcases hv2.2 with ⟨_, h0⟩ | ⟨g, cap, cur, rfl, _⟩
              · omega
              · exact ⟨_, cap, rfl⟩
            go_roundw
            case rel =>
              refine ⟨2, _, by omega, rfl, by simp, ?_, (k4.alloc (.cells #[.int .u8 ((ln : Int) * 8 / 281474976710656)] 5)).grown hg2 (fun k e => .inr (row_low8 hv4 e))⟩
              have e1 : bytesV ((l ++ 128 :: List.replicate Z 0) ++ (lenBytes ln).take 2) = bytesV ((l ++ 128 :: List.replicate Z 0) ++ (lenBytes ln).take 1) ++ [.int .u8 ((ln : Int) * 8 / 281474976710656)] := by
                rw [hw.out]; simp [bytesV, lenBytes]
              rw [e1]; exact hv2
            case measure => simp [intOf]
          · have hw := Lib.hid (show (ln : Int) * 8 / 1099511627776 = ((ln * 8 / 1099511627776 % 256 : Nat) : Int) by omega)
            gi_wp2_with (gi_at_builtin; go_loud (refine wpListIn_append_own_at _ rfl _ _ 36 rfl W0.heap.size 5 i0 (.int .u8 0) 1 1 Tryz.underlying36 hi hz0 hz1 hz2 rfl (by decide) _ (N + 2) _ rfl (hv4.alloc _) ⟨wr.heap.size, 0, none⟩ 1 1 [.int .u8 ((ln : Int) * 8 / 1099511627776)] rfl rfl (hone _) (by simp [Value.oneCell']) (by unfold maxLen; omega) (by omega) (by simp; omega) ?_); intro v2 w2 hv2 hg2 hn2 hl2)
            obtain ⟨va2, vcap2, rfl⟩ : ∃ a cap, v2 = .slice a (N + 2 + 1) cap := by
              rcases hv2.2 with ⟨_, h0⟩ | ⟨g, cap, cur, rfl, _⟩
              · omega
              · exact ⟨_, cap, rfl⟩
            go_roundw
            case rel =>
              refine ⟨3, _, by omega, rfl, by simp, ?_, (k4.alloc (.cells #[.int .u8 ((ln : Int) * 8 / 1099511627776)] 5)).grown hg2 (fun k e => .inr (row_low8 hv4 e))⟩
              have e1 : bytesV ((l ++ 128 :: List.replicate Z 0) ++ (lenBytes ln).take 3) = bytesV ((l ++ 128 :: List.replicate Z 0) ++ (lenBytes ln).take 2) ++ [.int .u8 ((ln : Int) * 8 / 1099511627776)] := by
                rw [hw.out]; simp [bytesV, lenBytes]
              rw [e1]; exact hv2
            case measure => simp [intOf]
          · have hw := Lib.hid (show (ln : Int) * 8 / 4294967296 = ((ln * 8 / 4294967296 % 256 : Nat) : Int) by omega)
            gi_wp2_with (gi_at_builtin; go_loud (refine wpListIn_append_own_at _ rfl _ _ 36 rfl W0.heap.size 5 i0 (.int .u8 0) 1 1 Tryz.underlying36 hi hz0 hz1 hz2 rfl (by decide) _ (N + 3) _ rfl (hv4.alloc _) ⟨wr.heap.size, 0, none⟩ 1 1 [.int .u8 ((ln : Int) * 8 / 4294967296)] rfl rfl (hone _) (by simp [Value.oneCell']) (by unfold maxLen; omega) (by omega) (by simp; omega) ?_); intro v2 w2 hv2 hg2 hn2 hl2)
            obtain ⟨va2, vcap2, rfl⟩ : ∃ a cap, v2 = .slice a (N + 3 + 1) cap := by
              rcases hv2.2 with ⟨_, h0⟩ | ⟨g, cap, cur, rfl, _⟩
              · omega
              · exact ⟨_, cap, rfl⟩
            go_roundw
            case rel =>
              refine ⟨4, _, by omega, rfl, by simp, ?_, (k4.alloc (.cells #[.int .u8 ((ln : Int) * 8 / 4294967296)] 5)).grown hg2 (fun k e => .inr (row_low8 hv4 e))⟩
              have e1 : bytesV ((l ++ 128 :: List.replicate Z 0) ++ (lenBytes ln).take 4) = bytesV ((l ++ 128 :: List.replicate Z 0) ++ (lenBytes ln).take 3) ++ [.int .u8 ((ln : Int) * 8 / 4294967296)] := by
                rw [hw.out]; simp [bytesV, lenBytes]
              rw [e1]; exact hv2
            case measure => simp [intOf]
          · have hw := Lib.hid (show (ln : Int) * 8 / 16777216 = ((ln * 8 / 16777216 % 256 : Nat) : Int) by omega)
            gi_wp2_with (gi_at_builtin; go_loud (refine wpListIn_append_own_at _ rfl _ _ 36 rfl W0.heap.size 5 i0 (.int .u8 0) 1 1 Tryz.underlying36 hi hz0 hz1 hz2 rfl (by decide) _ (N + 4) _ rfl (hv4.alloc _) ⟨wr.heap.size, 0, none⟩ 1 1 [.int .u8 ((ln : Int) * 8 / 16777216)] rfl rfl (hone _) (by simp [Value.oneCell']) (by unfold maxLen; omega) (by omega) (by simp; omega) ?_); intro v2 w2 hv2 hg2 hn2 hl2)
            obtain ⟨va2, vcap2, rfl⟩ : ∃ a cap, v2 = .slice a (N + 4 + 1) cap := by
              rcases hv2.2 with ⟨_, h0⟩ | ⟨g, cap, cur, rfl, _⟩
              · omega
              · exact ⟨_, cap, rfl⟩
            go_roundw
            case rel =>
              refine ⟨5, _, by omega, rfl, by simp, ?_, (k4.alloc (.cells #[.int .u8 ((ln : Int) * 8 / 16777216)] 5)).grown hg2 (fun k e => .inr (row_low8 hv4 e))⟩
              have e1 : bytesV ((l ++ 128 :: List.replicate Z 0) ++ (lenBytes ln).take 5) = bytesV ((l ++ 128 :: List.replicate Z 0) ++ (lenBytes ln).take 4) ++ [.int .u8 ((ln : Int) * 8 / 16777216)] := by
                rw [hw.out]; simp [bytesV, lenBytes]
              rw [e1]; exact hv2
            case measure => simp [intOf]
          · have hw := Lib.hid (show (ln : Int) * 8 / 65536 = ((ln * 8 / 65536 % 256 : Nat) : Int) by omega)
            gi_wp2_with (gi_at_builtin; go_loud (refine wpListIn_append_own_at _ rfl _ _ 36 rfl W0.heap.size 5 i0 (.int .u8 0) 1 1 Tryz.underlying36 hi hz0 hz1 hz2 rfl (by decide) _ (N + 5) _ rfl (hv4.alloc _) ⟨wr.heap.size, 0, none⟩ 1 1 [.int .u8 ((ln : Int) * 8 / 65536)] rfl rfl (hone _) (by simp [Value.oneCell']) (by unfold maxLen; omega) (by omega) (by simp; omega) ?_); intro v2 w2 hv2 hg2 hn2 hl2)
            obtain ⟨va2, vcap2, rfl⟩ : ∃ a cap, v2 = .slice a (N + 5 + 1) cap := by
              rcases hv2.2 with ⟨_, h0⟩ | ⟨g, cap, cur, rfl, _⟩
              · omega
              · exact ⟨_, cap, rfl⟩
            go_roundw
            case rel =>
              refine ⟨6, _, by omega, rfl, by simp, ?_, (k4.alloc (.cells #[.int .u8 ((ln : Int) * 8 / 65536)] 5)).grown hg2 (fun k e => .inr (row_low8 hv4 e))⟩
              have e1 : bytesV ((l ++ 128 :: List.replicate Z 0) ++ (lenBytes ln).take 6) = bytesV ((l ++ 128 :: List.replicate Z 0) ++ (lenBytes ln).take 5) ++ [.int .u8 ((ln : Int) * 8 / 65536)] := by
                rw [hw.out]; simp [bytesV, lenBytes]
              rw [e1]; exact hv2
            case measure => simp [intOf]
          · have hw : IntKind.u8.wrap ((ln : Int) * 8 / 256) = ((ln * 8 / 256 % 256 : Nat) : Int) := by rw [wrap_u8]; omega
            gi_wp2_with (gi_at_builtin; go_loud (refine wpListIn_append_own_at _ rfl _ _ 36 rfl W0.heap.size 5 i0 (.int .u8 0) 1 1 Tryz.underlying36 hi hz0 hz1 hz2 rfl (by decide) _ (N + 6) _ rfl (hv4.alloc _) ⟨wr.heap.size, 0, none⟩ 1 1 [.int .u8 ((ln * 8 / 256 % 256 : Nat) : Int)] rfl rfl (hone _) (by simp [Value.oneCell']) (by unfold maxLen; omega) (by omega) (by simp; omega) ?_); intro v2 w2 hv2 hg2 hn2 hl2)
            obtain ⟨va2, vcap2, rfl⟩ : ∃ a cap, v2 = .slice a (N + 6 + 1) cap := by
              rcases hv2.2 with ⟨_, h0⟩ | ⟨g, cap, cur, rfl, _⟩
              · omega
              · exact ⟨_, cap, rfl⟩
            go_roundw
            case rel =>
              refine ⟨7, _, by omega, rfl, by simp, ?_, (k4.alloc (.cells #[.int .u8 ((ln * 8 / 256 % 256 : Nat) : Int)] 5)).grown hg2 (fun k e => .inr (row_low8 hv4 e))⟩
              have e1 : bytesV ((l ++ 128 :: List.replicate Z 0) ++ (lenBytes ln).take 7) = bytesV ((l ++ 128 :: List.replicate Z 0) ++ (lenBytes ln).take 6) ++ [.int .u8 ((ln * 8 / 256 % 256 : Nat) : Int)] := by
                simp [bytesV, lenBytes]
              rw [e1]; exact hv2
            case measure => simp [intOf]
          · have hw : IntKind.u8.wrap ((ln : Int) * 8) = ((ln * 8 % 256 : Nat) : Int) := by rw [wrap_u8]; omega
            gi_wp2_with (gi_at_builtin; go_loud (refine wpListIn_append_own_at _ rfl _ _ 36 rfl W0.heap.size 5 i0 (.int .u8 0) 1 1 Tryz.underlying36 hi hz0 hz1 hz2 rfl (by decide) _ (N + 7) _ rfl (hv4.alloc _) ⟨wr.heap.size, 0, none⟩ 1 1 [.int .u8 ((ln * 8 % 256 : Nat) : Int)] rfl rfl (hone _) (by simp [Value.oneCell']) (by unfold maxLen; omega) (by omega) (by simp; omega) ?_); intro v2 w2 hv2 hg2 hn2 hl2)
            obtain ⟨va2, vcap2, rfl⟩ : ∃ a cap, v2 = .slice a (N + 7 + 1) cap := by
              rcases hv2.2 with ⟨_, h0⟩ | ⟨g, cap, cur, rfl, _⟩
              · omega
              · exact ⟨_, cap, rfl⟩
            go_roundw
            case rel =>
              refine ⟨8, _, by omega, rfl, by simp, ?_, (k4.alloc (.cells #[.int .u8 ((ln * 8 % 256 : Nat) : Int)] 5)).grown hg2 (fun k e => .inr (row_low8 hv4 e))⟩
              have e1 : bytesV ((l ++ 128 :: List.replicate Z 0) ++ (lenBytes ln).take 8) = bytesV ((l ++ 128 :: List.replicate Z 0) ++ (lenBytes ln).take 7) ++ [.int .u8 ((ln * 8 % 256 : Nat) : Int)] := by
                simp [bytesV, lenBytes]
              rw [e1]; exact hv2
            case measure => simp [intOf]
        · obtain rfl : q = 8 := by omega
          have hPlt := padS_lt hp.1
          have e8 : (l ++ 128 :: List.replicate Z 0) ++ (lenBytes ln).take 8 = padS l := by
            rw [hln'.out, hZ'.out]; simp [padS, lenBytes]
          have hPlen : N + 8 = (padS l).length := by
            have a1 := hN'.out; have a2 := hZ'.out
            rw [padS_len]; omega
          have hPm := padS_mod l
          rw [e8] at hv4
          obtain ⟨P, hP⟩ : ∃ P, P = padS l := ⟨_, rfl⟩
          rw [← hP] at hv4 hPlen hPlt hPm
          obtain ⟨M, hM⟩ : ∃ M, P.length = 64 * M := ⟨P.length / 64, by omega⟩
          have hP' := Lib.hid hP
          clear hP e8
          rw [hPlen] at hv4
          obtain ⟨rg, rcap, erg, hrg0, hrg1, hrgB, hrc⟩ := bytesAt_row hv4 (by omega) hPlt
          have hbO4 := hbO.chg k4 (by simp)
          have hbS4 := hbS.chg k4 (by simp)
          have hsbl := hbS.lt
          obtain ⟨rfl, rfl⟩ : va4 = some ⟨rg, 0, none⟩ ∧ vcap4 = rcap := by
            cases erg; exact ⟨rfl, rfl⟩
          clear erg hv4
          gi_wp2
          refine And.intro trivial ?_
          refine (callsIn_wd (slices_Chunk _ _ _ wr)).mono ?_
          rintro e w5 ⟨rfl, hw5⟩
          have hM2 : M ≤ 2000 := by omega
          have hb1 := (Blk.new wr #[.slice (some ⟨rg, 0, none⟩) (64 * M) vcap4] 36).alloc (.cells #[.int .i64 64] 3)
          have hb2 := Blk.at (wr.alloc (.cells #[.slice (some ⟨rg, 0, none⟩) (64 * M) vcap4] 36)) #[.int .i64 64] 3 (wr.heap.size + 1) (by simp)
          have k5 : Chg [] wr w5 := by rw [hw5]; exact ((Chg.refl _ _).alloc _).alloc _
          rw [← hw5] at hb1 hb2
          have hsz5 := k5.size
          clear hw5
          have hbO5 := hbO4.chg k5 (by simp)
          have hbS5 := hbS4.chg k5 (by simp)
          have hrgB5 := hrgB.chg k5 hrg1 (by simp)
          have k05 := k4.trans k5 (by simp)
          have hsz4' := k4.size
          have hit := chunk1 2 (by omega) [sb] wr.heap.size (wr.heap.size + 1) rg M vcap4 (by omega) (by omega) w5 hb1 hb2 (by simp; omega) (by simp; omega)
          have hrg5 : rg < w5.heap.size := by omega
          have hrs : rg ≠ sb := by omega
          clear hb1 hb2 hbO4 hbS4 hrgB k4 k5
          generalize wr.heap.size + 1 = bn at *
          generalize wr.heap.size = bs at *
          gi_wp2
          refine wpIn_rangeFunc_ex rfl (by omega) (gf := 129) (lb := #[.pointer (some ⟨bs, 0, none⟩), .pointer (some ⟨bn, 0, none⟩)]) rfl trivial (enters_of Tryz.func129 (by kernel_rfl) rfl) hit Kp.trans' (kp_b (by simp)) (Below.refl _ _) (fun _ => rfl)
            (fun pre W => Blk W sb (stCells (pre.foldl (fun s (k : Fin M) => stepS P s k.1) IV)) 185 ∧ Chg [sb] w5 W)
            (fun _ _ _ => False) ?hI ?hIx ?h0 ?hab ?done ?stop
          case hI =>
            exact fun s A B row hs hg hr => ⟨hs.1.grown hg (fun e => by obtain ⟨o, ho, hc⟩ := (hr sb e.symm).2; rw [show A.heap[sb]? = _ from hs.1] at ho; cases ho; cases hc), hs.2.grown hg (fun k e => .inr (hr k e).1)⟩
          case hIx => exact fun _ _ _ _ _ hs _ _ => hs
          case h0 => exact ⟨hbS5, Chg.refl _ _⟩
          case stop => exact fun _ _ _ _ _ _ h => h.elim
          case hab =>
            apply Exists.intro
            constructor
            · intro l x W K hK
              gi_wp2
              exact hK
            · rintro l pre x W ⟨hS, kW⟩ hlen
              have hx := x.2
              have hW := kW.size
              gi_wp2
              refine And.intro trivial (show CallsIn Fence.wide 0 _ _ _ _ _ from ?_)
              refine (callsIn_wd (digest_block sb rg (64 * x.1) 64 _ (SstOk.step pre IV_ok) ((P.drop (64 * x.1)).take 64) (by simp; omega) (by omega) W hS (by have := (hrgB5.chg kW hrg5 (by simpa using hrs)).part (64 * x.1) 64; rwa [Nat.zero_add] at this) hrs (by omega))).mono ?_
              rintro e W2 ⟨rfl, hS2, kb⟩
              gi_wp2
              exact ⟨kb.keeps hS, kb.kp, by rw [List.foldl_append]; exact hS2, kW.trans kb (by simp)⟩
          case done =>
            rintro D xs W hD rfl ⟨hS, kW⟩ hK
            rw [fin_fold] at hS
            have hsum : foldS M IV P = sumS l := by unfold sumS; rw [← hP'.out, hM]; simp
            rw [hsum] at hS
            have hok : SstOk (sumS l) := SstOk.fold _ _ _ IV_ok
            have hkW := kW.size
            have hbO6 := hbO5.chg kW (by simp; omega)
            have hO := Blk.new W zz 26
            have k6 := (k0.trans k05 (by simp)).trans kW (by simp; omega)
            obtain ⟨S, hSS0⟩ : ∃ S, S = sumS l := ⟨_, rfl⟩
            rw [← hSS0] at hS hok
            have hSS := Lib.hid hSS0
            clear hSS0 hsum
            have hD2 : (W.alloc (.cells zz 26)).heap[D]? = some (.deferred (some [])) := (Below.heap_alloc _ _ _ (Array.getElem?_eq_some_iff.1 hK).1).trans hK
            have hDl := (Array.getElem?_eq_some_iff.1 hK).1
            have hDl2 := (Array.getElem?_eq_some_iff.1 hD2).1
            have hbO7 := hbO6.alloc (.cells zz 26)
            have hS7 := hS.alloc (.cells zz 26)
            have k7 := k6.alloc (.cells zz 26)
            have e0' := Lib.hid (show zz = outV S 0 by rw [outV_zero]; exact hzz.out.symm)
            clear hbO6 hS k6 kW hK hbO5 hbS5 hrgB5 k05 hit k0 hbO hbS hp0
            have hOl := hO.lt
            gi_wp2
            generalize W.alloc (.cells zz 26) = Wa at *
            obtain ⟨ob, hob⟩ : ∃ ob, ob = W.heap.size := ⟨_, rfl⟩
            rw [← hob] at hO hDl hOl ⊢
            have hobs : sb < ob := by omega
            have hobw : w.heap.size < ob := by omega
            clear hob
            rw [e0'.out] at hO
            gi_loopw [40] (fun s40 wr => ∃ i : Nat, i ≤ 32 ∧ s40 = .int .i64 i ∧ Blk wr ob (outV S i) 26 ∧ Chg [ob] Wa wr) (fun s40 _ => 32 - (intOf s40).toNat)
            case atStart => exact ⟨0, by omega, rfl, hO, Chg.refl _ _⟩
            case round =>
              obtain ⟨i, hi32, rfl, hOi, ki⟩ := hrel
              by_cases hlt : i < 32
              · obtain ⟨a, r, hia, hr⟩ : ∃ a r, i = 4 * a + r ∧ r < 4 := ⟨i / 4, i % 4, by omega, by omega⟩
                have ha : a < 8 := by omega
                have c1 := (hS7.chg ki (by simp; omega)).cell a (stCells_get S ha)
                have hx : S.l.getD a 0 < 4294967296 := by
                  obtain ⟨h0, h1, h2, h3, h4, h5, h6, h7⟩ := hok
                  rcases (by omega : a = 0 ∨ a = 1 ∨ a = 2 ∨ a = 3 ∨ a = 4 ∨ a = 5 ∨ a = 6 ∨ a = 7) with rfl | rfl | rfl | rfl | rfl | rfl | rfl | rfl <;> assumption
                have hby : byteS S i = S.l.getD a 0 / 2 ^ (24 - 8 * r) % 256 := by
                  unfold byteS; rw [show i / 4 = a by omega, show i % 4 = r by omega]
                have c2 := hOi.cell i (v := (outV S i)[i]'(by rw [outV_size S hi32]; exact hlt)) (by simp)
                have f2 := hOi.free i
                have hset := hOi.set i (.int .u8 (byteS S i : Nat))
                rw [outV_set S hlt, hby] at hset
                have d1 : (i : Int) / 4 = (a : Int) := by omega
                have d2 : (i : Int) % 4 = (r : Int) := by omega
                generalize S.l.getD a 0 = x at *
                clear hia hby
                rcases (by omega : r = 0 ∨ r = 1 ∨ r = 2 ∨ r = 3) with rfl | rfl | rfl | rfl
                · have hw : IntKind.u8.wrap ((x : Int) / 16777216) = ((x / 2 ^ (24 - 8 * 0) % 256 : Nat) : Int) := by rw [wrap_u8]; simp; try omega
                  gi_wp2
                  go_roundw
                  case rel => exact ⟨i + 1, by omega, by simp, hset, ki.setCell (.inl (by simp)) _⟩
                  case measure => simp [intOf]; omega
                · have hw : IntKind.u8.wrap ((x : Int) / 65536) = ((x / 2 ^ (24 - 8 * 1) % 256 : Nat) : Int) := by rw [wrap_u8]; simp; try omega
                  gi_wp2
                  go_roundw
                  case rel => exact ⟨i + 1, by omega, by simp, hset, ki.setCell (.inl (by simp)) _⟩
                  case measure => simp [intOf]; omega
                · have hw : IntKind.u8.wrap ((x : Int) / 256) = ((x / 2 ^ (24 - 8 * 2) % 256 : Nat) : Int) := by rw [wrap_u8]; simp; try omega
                  gi_wp2
                  go_roundw
                  case rel => exact ⟨i + 1, by omega, by simp, hset, ki.setCell (.inl (by simp)) _⟩
                  case measure => simp [intOf]; omega
                · have hw : IntKind.u8.wrap ((x : Int)) = ((x / 2 ^ (24 - 8 * 3) % 256 : Nat) : Int) := by rw [wrap_u8]; simp; try omega
                  rw [show ((x / 2 ^ (24 - 8 * 3) % 256 : Nat) : Int) = (x : Int) % 256 by simp] at hset
                  gi_wp2
                  go_roundw
                  case rel => exact ⟨i + 1, by omega, by simp, hset, ki.setCell (.inl (by simp)) _⟩
                  case measure => simp [intOf]; omega
              · obtain rfl : i = 32 := by omega
                have hcs1 : (outV S 32).all (·.oneCell') = true := by rw [outV_all]; exact bytesV_all _
                have hcs2 := outV_size S hi32
                have hcs3 := Lib.hid (show outV S 32 = (bytesV (shaS l)).toArray by rw [outV_all, hSS.out]; rfl)
                have hld := load_blkC hOi 32 hcs2
                have hD3 := (ki.block D hDl2 (by simp; omega)).trans hD2
                have b7 := hbO7.chg ki (by simp; omega)
                obtain ⟨W2, hst, b2, k2⟩ := store_cells b7 (cs := outV S 32) (by rw [hcs2, e0'.out, outV_size S (by omega)]) hcs1
                have hld2 := load_blkC b2 32 hcs2
                have hD4 := (k2.block D (by have := ki.size; omega) (by simp; omega)).trans hD3
                have kf := (k7.trans ki (by simp; omega)).trans k2 (by simp)
                generalize outV S 32 = cs at *
                have hDw : D ≠ w.heap.size := fun e => by rw [e, show W2.heap[w.heap.size]? = _ from b2] at hD4; cases hD4
                have b3 : Blk (W2.putObj D (.deferred none)) w.heap.size cs 26 := b2.grown (grownBy_putObj' W2 D _) (by simp; exact fun e => hDw e.symm)
                have hld3 := load_blkC b3 32 hcs2
                gi_wp2
                refine ⟨by simp, .inl ⟨_, _, rfl, run_takeDeferred hD4, ?_⟩⟩
                refine ⟨.agg cs, by simp [results, Tryz.results96, go_sem, hld3], by rw [hcs3.out], kf.grown (grownBy_putObj' _ D _) (fun k e => .inr (by cases e; omega))⟩
end Go.Proofs.YtmkgbinmilcojaaGreat

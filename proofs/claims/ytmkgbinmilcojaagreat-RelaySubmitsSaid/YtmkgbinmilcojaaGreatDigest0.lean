import Derived.Test.YtmkgbinmilcojaaGreatLib
import Derived.Laws.BitsAllLaws
import Derived.Deep.WholeRow
import Derived.Test.YtmkgbinmilcojaaGreatRegInv

/- SHA-256, by definition, on natural numbers. -/
namespace Go.Proofs.YtmkgbinmilcojaaGreat
open Go.RowKit Go.Maps

def rotr (x n : Nat) : Nat := (x * 2 ^ (32 - n) % 4294967296) ||| (x / 2 ^ n)
def lowS (a : Nat) : Nat := (rotr a 7 ^^^ rotr a 18) ^^^ (a / 8)
def highS (a : Nat) : Nat := (rotr a 17 ^^^ rotr a 19) ^^^ (a / 1024)
/-- the next word of the schedule; the newest word stands first. -/
def wnew (l : List Nat) : Nat := (l.getD 15 0 + lowS (l.getD 14 0) + l.getD 6 0 + highS (l.getD 1 0)) % 4294967296
def wl (p : List Nat) : Nat → List Nat
  | 0 => p.reverse
  | n + 1 => wnew (wl p n) :: wl p n
def KS : List Nat := [1116352408, 1899447441, 3049323471, 3921009573, 961987163, 1508970993, 2453635748, 2870763221, 3624381080, 310598401, 607225278, 1426881987, 1925078388, 2162078206, 2614888103, 3248222580, 3835390401, 4022224774, 264347078, 604807628, 770255983, 1249150122, 1555081692, 1996064986, 2554220882, 2821834349, 2952996808, 3210313671, 3336571891, 3584528711, 113926993, 338241895, 666307205, 773529912, 1294757372, 1396182291, 1695183700, 1986661051, 2177026350, 2456956037, 2730485921, 2820302411, 3259730800, 3345764771, 3516065817, 3600352804, 4094571909, 275423344, 430227734, 506948616, 659060556, 883997877, 958139571, 1322822218, 1537002063, 1747873779, 1955562222, 2024104815, 2227730452, 2361852424, 2428436474, 2756734187, 3204031479, 3329325298]
structure Sst where
  a : Nat
  b : Nat
  c : Nat
  d : Nat
  e : Nat
  f : Nat
  g : Nat
  h : Nat
def oneS (s : Sst) (k w : Nat) : Nat := (s.h + ((rotr s.e 6 ^^^ rotr s.e 11) ^^^ rotr s.e 25) + ((s.e &&& s.f) ^^^ ((s.e ^^^ 4294967295) &&& s.g)) + k + w) % 4294967296
def twoS (s : Sst) : Nat := (((rotr s.a 2 ^^^ rotr s.a 13) ^^^ rotr s.a 22) + (((s.a &&& s.b) ^^^ (s.a &&& s.c)) ^^^ (s.b &&& s.c))) % 4294967296
def rnd (s : Sst) (k w : Nat) : Sst := ⟨(oneS s k w + twoS s) % 4294967296, s.a, s.b, s.c, (s.d + oneS s k w) % 4294967296, s.e, s.f, s.g⟩
def rnds (s : Sst) (p : List Nat) : Nat → Sst
  | 0 => s
  | n + 1 => rnd (rnds s p n) (KS.getD n 0) ((wl p n).getD 15 0)
def addSt (s t : Sst) : Sst := ⟨(s.a + t.a) % 4294967296, (s.b + t.b) % 4294967296, (s.c + t.c) % 4294967296, (s.d + t.d) % 4294967296, (s.e + t.e) % 4294967296, (s.f + t.f) % 4294967296, (s.g + t.g) % 4294967296, (s.h + t.h) % 4294967296⟩
def blkS (s : Sst) (p : List Nat) : Sst := addSt s (rnds s p 64)
def IV : Sst := ⟨1779033703, 3144134277, 1013904242, 2773480762, 1359893119, 2600822924, 528734635, 1541459225⟩

structure SstOk (s : Sst) : Prop where
  a : s.a < 4294967296
  b : s.b < 4294967296
  c : s.c < 4294967296
  d : s.d < 4294967296
  e : s.e < 4294967296
  f : s.f < 4294967296
  g : s.g < 4294967296
  h : s.h < 4294967296
theorem SstOk.rnd {s : Sst} (h : SstOk s) (k w : Nat) : SstOk (rnd s k w) :=
  ⟨Nat.mod_lt _ (by decide), h.a, h.b, h.c, Nat.mod_lt _ (by decide), h.e, h.f, h.g⟩
theorem SstOk.rnds {s : Sst} (h : SstOk s) (p : List Nat) : ∀ n, SstOk (rnds s p n)
  | 0 => h
  | n + 1 => (SstOk.rnds h p n).rnd _ _
theorem SstOk.blk (s : Sst) (p : List Nat) : SstOk (blkS s p) :=
  ⟨Nat.mod_lt _ (by decide), Nat.mod_lt _ (by decide), Nat.mod_lt _ (by decide), Nat.mod_lt _ (by decide), Nat.mod_lt _ (by decide), Nat.mod_lt _ (by decide), Nat.mod_lt _ (by decide), Nat.mod_lt _ (by decide)⟩
theorem wnew_lt (l : List Nat) : wnew l < 4294967296 := Nat.mod_lt _ (by decide)
theorem rotr_lt {x n : Nat} (h : x < 4294967296) : rotr x n < 4294967296 := by
  unfold rotr
  exact Nat.or_lt_two_pow (n := 32) (Nat.mod_lt _ (by decide)) (Nat.lt_of_le_of_lt (Nat.div_le_self _ _) h)
theorem lowS_lt {x : Nat} (h : x < 4294967296) : lowS x < 4294967296 :=
  Nat.xor_lt_two_pow (n := 32) (Nat.xor_lt_two_pow (rotr_lt h) (rotr_lt h)) (Nat.lt_of_le_of_lt (Nat.div_le_self _ _) h)
theorem highS_lt {x : Nat} (h : x < 4294967296) : highS x < 4294967296 :=
  Nat.xor_lt_two_pow (n := 32) (Nat.xor_lt_two_pow (rotr_lt h) (rotr_lt h)) (Nat.lt_of_le_of_lt (Nat.div_le_self _ _) h)
theorem wl_len (p : List Nat) : ∀ n, (wl p n).length = p.length + n
  | 0 => by simp [wl]
  | n + 1 => by rw [wl, List.length_cons, wl_len p n]; omega
theorem wl_lt {p : List Nat} (h : ∀ x ∈ p, x < 4294967296) : ∀ n, ∀ x ∈ wl p n, x < 4294967296
  | 0, x, hx => h x (by simpa [wl] using hx)
  | n + 1, x, hx => by
    rw [wl] at hx
    rcases List.mem_cons.1 hx with rfl | hx
    · exact wnew_lt _
    · exact wl_lt h n x hx
theorem getD_lt {l : List Nat} (h : ∀ x ∈ l, x < 4294967296) (i : Nat) : l.getD i 0 < 4294967296 := by
  rw [List.getD_eq_getElem?_getD]
  cases hx : l[i]? with
  | none => simp
  | some v => exact h v (List.mem_of_getElem? hx)
/-- how many zeros stand behind the first byte of the padding. -/
def padZ (n : Nat) : Nat := (119 - n % 64) % 64
def lenBytes (n : Nat) : List Nat := [n * 8 / 72057594037927936 % 256, n * 8 / 281474976710656 % 256, n * 8 / 1099511627776 % 256, n * 8 / 4294967296 % 256, n * 8 / 16777216 % 256, n * 8 / 65536 % 256, n * 8 / 256 % 256, n * 8 % 256]
def padS (b : List Nat) : List Nat := b ++ (128 :: (List.replicate (padZ b.length) 0 ++ lenBytes b.length))
theorem padS_len (b : List Nat) : (padS b).length = b.length + 9 + padZ b.length := by simp [padS, lenBytes]; omega
theorem padS_mod (b : List Nat) : (padS b).length % 64 = 0 := by rw [padS_len]; unfold padZ; omega
def word4 (c : List Nat) (i : Nat) : Nat := c.getD (4 * i) 0 * 16777216 + c.getD (4 * i + 1) 0 * 65536 + c.getD (4 * i + 2) 0 * 256 + c.getD (4 * i + 3) 0
def chunkW (c : List Nat) : List Nat := (List.range 16).map (word4 c)
def foldS : Nat → Sst → List Nat → Sst
  | 0, s, _ => s
  | n + 1, s, l => foldS n (blkS s (chunkW (l.take 64))) (l.drop 64)
def sumS (b : List Nat) : Sst := foldS ((padS b).length / 64) IV (padS b)
def Sst.l (s : Sst) : List Nat := [s.a, s.b, s.c, s.d, s.e, s.f, s.g, s.h]
def byteS (s : Sst) (i : Nat) : Nat := s.l.getD (i / 4) 0 / 2 ^ (24 - 8 * (i % 4)) % 256
def shaS (b : List Nat) : List Nat := (List.range 32).map (byteS (sumS b))
def dblS (b : List Nat) : List Nat := shaS (shaS b)
theorem shaS_len (b : List Nat) : (shaS b).length = 32 := by simp [shaS]
theorem shaS_lt (b : List Nat) : ∀ x ∈ shaS b, x < 256 := by
  intro x hx
  obtain ⟨i, _, rfl⟩ := List.mem_map.1 hx
  exact Nat.mod_lt _ (by decide)
theorem SstOk.fold : ∀ (n : Nat) (s : Sst) (l : List Nat), SstOk s → SstOk (foldS n s l)
  | 0, _, _, h => h
  | n + 1, _, l, _ => SstOk.fold n _ (l.drop 64) (SstOk.blk _ _)
end Go.Proofs.YtmkgbinmilcojaaGreat

/- Package digest: turn. Printed by turngen.py. -/
namespace Go.Proofs.YtmkgbinmilcojaaGreat
open Go.RowKit Go.Maps

theorem turn_2 (x : Nat) (hx : x < 4294967296) (w : World) : Calls Tryz.prog 130 #[.int .u32 x, .int .i64 2] w fun e w' => e = .returned (.int .u32 (rotr x 2 : Nat)) ∧ w = w' := by
  have hr : ∀ w, Calls Tryz.prog 140 #[.int .u32 x, .int .i64 (-2)] w fun e w' => e = .returned (.int .u32 (rotr x 2 : Nat)) ∧ w = w' := fun w => by
    have e7 : bits BinOp.and IntKind.u64 (IntKind.u64.wrap (-2)) 31 = 30 := by kernel_rfl
    go_enter Tryz.func140, Tryz.ntmps140
    go_wp2
    refine bodyPost_ret (results_tmp rfl _ _ _) rfl ⟨?_, rfl⟩
    show Ending.returned (Value.int .u32 (bits .or .u32 ((x : Int) * 1073741824 % 4294967296) ((x : Int) / 4))) = _
    have c1 : (x : Int) * 1073741824 % 4294967296 = ((x * 1073741824 % 4294967296 : Nat) : Int) := by omega
    have c2 : (x : Int) / 4 = ((x / 4 : Nat) : Int) := by omega
    rw [c1, c2, u32_or_nat _ _ (Nat.mod_lt _ (by decide)) (Nat.lt_of_le_of_lt (Nat.div_le_self _ _) hx)]
    rfl
  go_enter Tryz.func130, Tryz.ntmps130
  go_wp2_with (go_at_call 140; refine (hr _).mono ?_; rintro e w' ⟨rfl, rfl⟩)
  go_ret
  exact ⟨rfl, rfl⟩
theorem turn_6 (x : Nat) (hx : x < 4294967296) (w : World) : Calls Tryz.prog 130 #[.int .u32 x, .int .i64 6] w fun e w' => e = .returned (.int .u32 (rotr x 6 : Nat)) ∧ w = w' := by
  have hr : ∀ w, Calls Tryz.prog 140 #[.int .u32 x, .int .i64 (-6)] w fun e w' => e = .returned (.int .u32 (rotr x 6 : Nat)) ∧ w = w' := fun w => by
    have e7 : bits BinOp.and IntKind.u64 (IntKind.u64.wrap (-6)) 31 = 26 := by kernel_rfl
    go_enter Tryz.func140, Tryz.ntmps140
    go_wp2
    refine bodyPost_ret (results_tmp rfl _ _ _) rfl ⟨?_, rfl⟩
    show Ending.returned (Value.int .u32 (bits .or .u32 ((x : Int) * 67108864 % 4294967296) ((x : Int) / 64))) = _
    have c1 : (x : Int) * 67108864 % 4294967296 = ((x * 67108864 % 4294967296 : Nat) : Int) := by omega
    have c2 : (x : Int) / 64 = ((x / 64 : Nat) : Int) := by omega
    rw [c1, c2, u32_or_nat _ _ (Nat.mod_lt _ (by decide)) (Nat.lt_of_le_of_lt (Nat.div_le_self _ _) hx)]
    rfl
  go_enter Tryz.func130, Tryz.ntmps130
  go_wp2_with (go_at_call 140; refine (hr _).mono ?_; rintro e w' ⟨rfl, rfl⟩)
  go_ret
  exact ⟨rfl, rfl⟩
theorem turn_7 (x : Nat) (hx : x < 4294967296) (w : World) : Calls Tryz.prog 130 #[.int .u32 x, .int .i64 7] w fun e w' => e = .returned (.int .u32 (rotr x 7 : Nat)) ∧ w = w' := by
  have hr : ∀ w, Calls Tryz.prog 140 #[.int .u32 x, .int .i64 (-7)] w fun e w' => e = .returned (.int .u32 (rotr x 7 : Nat)) ∧ w = w' := fun w => by
    have e7 : bits BinOp.and IntKind.u64 (IntKind.u64.wrap (-7)) 31 = 25 := by kernel_rfl
    go_enter Tryz.func140, Tryz.ntmps140
    go_wp2
    refine bodyPost_ret (results_tmp rfl _ _ _) rfl ⟨?_, rfl⟩
    show Ending.returned (Value.int .u32 (bits .or .u32 ((x : Int) * 33554432 % 4294967296) ((x : Int) / 128))) = _
    have c1 : (x : Int) * 33554432 % 4294967296 = ((x * 33554432 % 4294967296 : Nat) : Int) := by omega
    have c2 : (x : Int) / 128 = ((x / 128 : Nat) : Int) := by omega
    rw [c1, c2, u32_or_nat _ _ (Nat.mod_lt _ (by decide)) (Nat.lt_of_le_of_lt (Nat.div_le_self _ _) hx)]
    rfl
  go_enter Tryz.func130, Tryz.ntmps130
  go_wp2_with (go_at_call 140; refine (hr _).mono ?_; rintro e w' ⟨rfl, rfl⟩)
  go_ret
  exact ⟨rfl, rfl⟩
theorem turn_11 (x : Nat) (hx : x < 4294967296) (w : World) : Calls Tryz.prog 130 #[.int .u32 x, .int .i64 11] w fun e w' => e = .returned (.int .u32 (rotr x 11 : Nat)) ∧ w = w' := by
  have hr : ∀ w, Calls Tryz.prog 140 #[.int .u32 x, .int .i64 (-11)] w fun e w' => e = .returned (.int .u32 (rotr x 11 : Nat)) ∧ w = w' := fun w => by
    have e7 : bits BinOp.and IntKind.u64 (IntKind.u64.wrap (-11)) 31 = 21 := by kernel_rfl
    go_enter Tryz.func140, Tryz.ntmps140
    go_wp2
    refine bodyPost_ret (results_tmp rfl _ _ _) rfl ⟨?_, rfl⟩
    show Ending.returned (Value.int .u32 (bits .or .u32 ((x : Int) * 2097152 % 4294967296) ((x : Int) / 2048))) = _
    have c1 : (x : Int) * 2097152 % 4294967296 = ((x * 2097152 % 4294967296 : Nat) : Int) := by omega
    have c2 : (x : Int) / 2048 = ((x / 2048 : Nat) : Int) := by omega
    rw [c1, c2, u32_or_nat _ _ (Nat.mod_lt _ (by decide)) (Nat.lt_of_le_of_lt (Nat.div_le_self _ _) hx)]
    rfl
  go_enter Tryz.func130, Tryz.ntmps130
  go_wp2_with (go_at_call 140; refine (hr _).mono ?_; rintro e w' ⟨rfl, rfl⟩)
  go_ret
  exact ⟨rfl, rfl⟩
theorem turn_13 (x : Nat) (hx : x < 4294967296) (w : World) : Calls Tryz.prog 130 #[.int .u32 x, .int .i64 13] w fun e w' => e = .returned (.int .u32 (rotr x 13 : Nat)) ∧ w = w' := by
  have hr : ∀ w, Calls Tryz.prog 140 #[.int .u32 x, .int .i64 (-13)] w fun e w' => e = .returned (.int .u32 (rotr x 13 : Nat)) ∧ w = w' := fun w => by
    have e7 : bits BinOp.and IntKind.u64 (IntKind.u64.wrap (-13)) 31 = 19 := by kernel_rfl
    go_enter Tryz.func140, Tryz.ntmps140
    go_wp2
    refine bodyPost_ret (results_tmp rfl _ _ _) rfl ⟨?_, rfl⟩
    show Ending.returned (Value.int .u32 (bits .or .u32 ((x : Int) * 524288 % 4294967296) ((x : Int) / 8192))) = _
    have c1 : (x : Int) * 524288 % 4294967296 = ((x * 524288 % 4294967296 : Nat) : Int) := by omega
    have c2 : (x : Int) / 8192 = ((x / 8192 : Nat) : Int) := by omega
    rw [c1, c2, u32_or_nat _ _ (Nat.mod_lt _ (by decide)) (Nat.lt_of_le_of_lt (Nat.div_le_self _ _) hx)]
    rfl
  go_enter Tryz.func130, Tryz.ntmps130
  go_wp2_with (go_at_call 140; refine (hr _).mono ?_; rintro e w' ⟨rfl, rfl⟩)
  go_ret
  exact ⟨rfl, rfl⟩
theorem turn_17 (x : Nat) (hx : x < 4294967296) (w : World) : Calls Tryz.prog 130 #[.int .u32 x, .int .i64 17] w fun e w' => e = .returned (.int .u32 (rotr x 17 : Nat)) ∧ w = w' := by
  have hr : ∀ w, Calls Tryz.prog 140 #[.int .u32 x, .int .i64 (-17)] w fun e w' => e = .returned (.int .u32 (rotr x 17 : Nat)) ∧ w = w' := fun w => by
    have e7 : bits BinOp.and IntKind.u64 (IntKind.u64.wrap (-17)) 31 = 15 := by kernel_rfl
    go_enter Tryz.func140, Tryz.ntmps140
    go_wp2
    refine bodyPost_ret (results_tmp rfl _ _ _) rfl ⟨?_, rfl⟩
    show Ending.returned (Value.int .u32 (bits .or .u32 ((x : Int) * 32768 % 4294967296) ((x : Int) / 131072))) = _
    have c1 : (x : Int) * 32768 % 4294967296 = ((x * 32768 % 4294967296 : Nat) : Int) := by omega
    have c2 : (x : Int) / 131072 = ((x / 131072 : Nat) : Int) := by omega
    rw [c1, c2, u32_or_nat _ _ (Nat.mod_lt _ (by decide)) (Nat.lt_of_le_of_lt (Nat.div_le_self _ _) hx)]
    rfl
  go_enter Tryz.func130, Tryz.ntmps130
  go_wp2_with (go_at_call 140; refine (hr _).mono ?_; rintro e w' ⟨rfl, rfl⟩)
  go_ret
  exact ⟨rfl, rfl⟩
theorem turn_18 (x : Nat) (hx : x < 4294967296) (w : World) : Calls Tryz.prog 130 #[.int .u32 x, .int .i64 18] w fun e w' => e = .returned (.int .u32 (rotr x 18 : Nat)) ∧ w = w' := by
  have hr : ∀ w, Calls Tryz.prog 140 #[.int .u32 x, .int .i64 (-18)] w fun e w' => e = .returned (.int .u32 (rotr x 18 : Nat)) ∧ w = w' := fun w => by
    have e7 : bits BinOp.and IntKind.u64 (IntKind.u64.wrap (-18)) 31 = 14 := by kernel_rfl
    go_enter Tryz.func140, Tryz.ntmps140
    go_wp2
    refine bodyPost_ret (results_tmp rfl _ _ _) rfl ⟨?_, rfl⟩
    show Ending.returned (Value.int .u32 (bits .or .u32 ((x : Int) * 16384 % 4294967296) ((x : Int) / 262144))) = _
    have c1 : (x : Int) * 16384 % 4294967296 = ((x * 16384 % 4294967296 : Nat) : Int) := by omega
    have c2 : (x : Int) / 262144 = ((x / 262144 : Nat) : Int) := by omega
    rw [c1, c2, u32_or_nat _ _ (Nat.mod_lt _ (by decide)) (Nat.lt_of_le_of_lt (Nat.div_le_self _ _) hx)]
    rfl
  go_enter Tryz.func130, Tryz.ntmps130
  go_wp2_with (go_at_call 140; refine (hr _).mono ?_; rintro e w' ⟨rfl, rfl⟩)
  go_ret
  exact ⟨rfl, rfl⟩
theorem turn_19 (x : Nat) (hx : x < 4294967296) (w : World) : Calls Tryz.prog 130 #[.int .u32 x, .int .i64 19] w fun e w' => e = .returned (.int .u32 (rotr x 19 : Nat)) ∧ w = w' := by
  have hr : ∀ w, Calls Tryz.prog 140 #[.int .u32 x, .int .i64 (-19)] w fun e w' => e = .returned (.int .u32 (rotr x 19 : Nat)) ∧ w = w' := fun w => by
    have e7 : bits BinOp.and IntKind.u64 (IntKind.u64.wrap (-19)) 31 = 13 := by kernel_rfl
    go_enter Tryz.func140, Tryz.ntmps140
    go_wp2
    refine bodyPost_ret (results_tmp rfl _ _ _) rfl ⟨?_, rfl⟩
    show Ending.returned (Value.int .u32 (bits .or .u32 ((x : Int) * 8192 % 4294967296) ((x : Int) / 524288))) = _
    have c1 : (x : Int) * 8192 % 4294967296 = ((x * 8192 % 4294967296 : Nat) : Int) := by omega
    have c2 : (x : Int) / 524288 = ((x / 524288 : Nat) : Int) := by omega
    rw [c1, c2, u32_or_nat _ _ (Nat.mod_lt _ (by decide)) (Nat.lt_of_le_of_lt (Nat.div_le_self _ _) hx)]
    rfl
  go_enter Tryz.func130, Tryz.ntmps130
  go_wp2_with (go_at_call 140; refine (hr _).mono ?_; rintro e w' ⟨rfl, rfl⟩)
  go_ret
  exact ⟨rfl, rfl⟩
theorem turn_22 (x : Nat) (hx : x < 4294967296) (w : World) : Calls Tryz.prog 130 #[.int .u32 x, .int .i64 22] w fun e w' => e = .returned (.int .u32 (rotr x 22 : Nat)) ∧ w = w' := by
  have hr : ∀ w, Calls Tryz.prog 140 #[.int .u32 x, .int .i64 (-22)] w fun e w' => e = .returned (.int .u32 (rotr x 22 : Nat)) ∧ w = w' := fun w => by
    have e7 : bits BinOp.and IntKind.u64 (IntKind.u64.wrap (-22)) 31 = 10 := by kernel_rfl
    go_enter Tryz.func140, Tryz.ntmps140
    go_wp2
    refine bodyPost_ret (results_tmp rfl _ _ _) rfl ⟨?_, rfl⟩
    show Ending.returned (Value.int .u32 (bits .or .u32 ((x : Int) * 1024 % 4294967296) ((x : Int) / 4194304))) = _
    have c1 : (x : Int) * 1024 % 4294967296 = ((x * 1024 % 4294967296 : Nat) : Int) := by omega
    have c2 : (x : Int) / 4194304 = ((x / 4194304 : Nat) : Int) := by omega
    rw [c1, c2, u32_or_nat _ _ (Nat.mod_lt _ (by decide)) (Nat.lt_of_le_of_lt (Nat.div_le_self _ _) hx)]
    rfl
  go_enter Tryz.func130, Tryz.ntmps130
  go_wp2_with (go_at_call 140; refine (hr _).mono ?_; rintro e w' ⟨rfl, rfl⟩)
  go_ret
  exact ⟨rfl, rfl⟩
theorem turn_25 (x : Nat) (hx : x < 4294967296) (w : World) : Calls Tryz.prog 130 #[.int .u32 x, .int .i64 25] w fun e w' => e = .returned (.int .u32 (rotr x 25 : Nat)) ∧ w = w' := by
  have hr : ∀ w, Calls Tryz.prog 140 #[.int .u32 x, .int .i64 (-25)] w fun e w' => e = .returned (.int .u32 (rotr x 25 : Nat)) ∧ w = w' := fun w => by
    have e7 : bits BinOp.and IntKind.u64 (IntKind.u64.wrap (-25)) 31 = 7 := by kernel_rfl
    go_enter Tryz.func140, Tryz.ntmps140
    go_wp2
    refine bodyPost_ret (results_tmp rfl _ _ _) rfl ⟨?_, rfl⟩
    show Ending.returned (Value.int .u32 (bits .or .u32 ((x : Int) * 128 % 4294967296) ((x : Int) / 33554432))) = _
    have c1 : (x : Int) * 128 % 4294967296 = ((x * 128 % 4294967296 : Nat) : Int) := by omega
    have c2 : (x : Int) / 33554432 = ((x / 33554432 : Nat) : Int) := by omega
    rw [c1, c2, u32_or_nat _ _ (Nat.mod_lt _ (by decide)) (Nat.lt_of_le_of_lt (Nat.div_le_self _ _) hx)]
    rfl
  go_enter Tryz.func130, Tryz.ntmps130
  go_wp2_with (go_at_call 140; refine (hr _).mono ?_; rintro e w' ⟨rfl, rfl⟩)
  go_ret
  exact ⟨rfl, rfl⟩
end Go.Proofs.YtmkgbinmilcojaaGreat

/- Package digest: block: what stands in its arrays. -/
namespace Go.Proofs.YtmkgbinmilcojaaGreat
open Go.RowKit Go.Maps

/-- the schedule's word number j. -/
def wAt (p : List Nat) (j : Nat) : Nat := (wl p 48).getD (63 - j) 0
theorem wl_suffix (p : List Nat) (n : Nat) : ∀ m, ∃ q : List Nat, q.length = m ∧ wl p (n + m) = q ++ wl p n
  | 0 => ⟨[], rfl, rfl⟩
  | m + 1 => by
    obtain ⟨q, h1, h2⟩ := wl_suffix p n m
    exact ⟨wnew (wl p (n + m)) :: q, by simp [h1], by rw [show n + (m + 1) = (n + m) + 1 by omega, wl, h2]; rfl⟩
theorem wl_at {p : List Nat} (_ : p.length = 16) {n k : Nat} (hn : n ≤ 48) (hk : k < 16 + n) : (wl p n).getD k 0 = wAt p (15 + n - k) := by
  obtain ⟨q, h1, h2⟩ := wl_suffix p n (48 - n)
  rw [show n + (48 - n) = 48 by omega] at h2
  unfold wAt
  rw [h2, List.getD_eq_getElem?_getD, List.getD_eq_getElem?_getD, List.getElem?_append_right (by omega), h1]
  congr 2
  omega
theorem wAt_lt {p : List Nat} (h : ∀ x ∈ p, x < 4294967296) (j : Nat) : wAt p j < 4294967296 := getD_lt (wl_lt h 48) _
theorem wAt_first {p : List Nat} (hp : p.length = 16) {j : Nat} (hj : j < 16) : wAt p j = p.getD j 0 := by
  have := wl_at hp (n := 0) (k := 15 - j) (by omega) (by omega)
  rw [show 15 + 0 - (15 - j) = j by omega] at this
  rw [← this]
  unfold wl
  rw [List.getD_eq_getElem?_getD, List.getD_eq_getElem?_getD, List.getElem?_reverse (by omega), hp, show 16 - 1 - (15 - j) = j by omega]
theorem wnew_eq (l : List Nat) : wnew l = (l.getD 15 0 + lowS (l.getD 14 0) + l.getD 6 0 + highS (l.getD 1 0)) % 4294967296 := by rw [wnew]
theorem wAt_next {p : List Nat} (hp : p.length = 16) {j : Nat} (h1 : 16 ≤ j) (h2 : j < 64) :
    wAt p j = (wAt p (j - 16) + lowS (wAt p (j - 15)) + wAt p (j - 7) + highS (wAt p (j - 2))) % 4294967296 := by
  have h0 := wl_at hp (n := j - 15) (k := 0) (by omega) (by omega)
  rw [show 15 + (j - 15) - 0 = j by omega] at h0
  have e1 : (wl p (j - 16)).getD 15 0 = wAt p (j - 16) := by rw [wl_at hp (by omega) (by omega)]; congr 1; omega
  have e2 : (wl p (j - 16)).getD 14 0 = wAt p (j - 15) := by rw [wl_at hp (by omega) (by omega)]; congr 1; omega
  have e3 : (wl p (j - 16)).getD 6 0 = wAt p (j - 7) := by rw [wl_at hp (by omega) (by omega)]; congr 1; omega
  have e4 : (wl p (j - 16)).getD 1 0 = wAt p (j - 2) := by rw [wl_at hp (by omega) (by omega)]; congr 1; omega
  have e5 : (wl p (j - 15)).getD 0 0 = wnew (wl p (j - 16)) := by
    rw [show j - 15 = (j - 16) + 1 by omega, wl, List.getD_cons_zero]
  rw [← h0, e5, wnew_eq, e1, e2, e3, e4]
theorem rnds_word {p : List Nat} (hp : p.length = 16) {n : Nat} (hn : n ≤ 48) : (wl p n).getD 15 0 = wAt p n := by
  rw [wl_at hp hn (by omega)]; congr 1; omega

/-- 64 words, of which the first k are f's, the others 0. -/
def cellsW (f : Nat → Nat) (k : Nat) : Array Value := ((List.range 64).map (fun j => Value.int .u32 (if j < k then f j else 0 : Nat))).toArray
theorem cellsW_size (f : Nat → Nat) (k : Nat) : (cellsW f k).size = 64 := by simp [cellsW]
theorem cellsW_get (f : Nat → Nat) (k : Nat) {j : Nat} (hj : j < 64) : (cellsW f k)[j]? = some (.int .u32 (if j < k then f j else 0 : Nat)) := by
  simp [cellsW, hj]
theorem cellsW_set (f : Nat → Nat) {k : Nat} (hk : k < 64) : (cellsW f k).setIfInBounds k (.int .u32 (f k : Nat)) = cellsW f (k + 1) := by
  apply Array.ext_getElem?
  intro i
  rw [Array.getElem?_setIfInBounds]
  by_cases hi : i < 64
  · rw [cellsW_get f (k + 1) hi]
    by_cases e : k = i
    · subst e; rw [if_pos rfl, if_pos (by rw [cellsW_size]; exact hi), if_pos (by omega)]
    · rw [if_neg e, cellsW_get f k hi]
      by_cases h : i < k
      · rw [if_pos h, if_pos (by omega)]
      · rw [if_neg h, if_neg (by omega)]
  · rw [Array.getElem?_eq_none (by rw [cellsW_size]; omega), if_neg (by omega), Array.getElem?_eq_none (by rw [cellsW_size]; omega)]
theorem or_byte {v b : Nat} (hv : v < 16777216) (hb : b < 256) : (v * 256 % 4294967296) ||| b = v * 256 + b := by
  rw [Nat.mod_eq_of_lt (by omega), Nat.mul_comm, show (256 : Nat) = 2 ^ 8 by rfl, ← Nat.two_pow_add_eq_or_of_lt (by omega)]
end Go.Proofs.YtmkgbinmilcojaaGreat

/- Package digest: constants. Printed by constgen.py. -/
namespace Go.Proofs.YtmkgbinmilcojaaGreat
open Go.RowKit Go.Maps
attribute [-go_sem] loadCellsFrom Instr.build

def zero64 : Array Value := cellsW (fun _ => 0) 0
theorem zeroW64 (w : World) : (zeroValue 197).run Tryz.prog w = .ok (.agg zero64) w := by kernel_rfl
theorem info64 : (Tryz.prog.info? 197).map (·.size) = some 64 := by kernel_rfl
def KC : Array Value := (KS.map (fun k : Nat => Value.int .u32 (k : Int))).toArray
theorem KC_size : KC.size = 64 := by kernel_rfl
theorem KC_one : KC.all (·.oneCell') = true := by kernel_rfl
theorem KC_get {j : Nat} (h : j < 64) : KC[j]? = some (.int .u32 (KS.getD j 0 : Nat)) := by
  have hl : KS.length = 64 := by kernel_rfl
  have hj : j < KS.length := by omega
  simp [KC, List.getD_eq_getElem?_getD, hj]
set_option maxRecDepth 100000 in
theorem build64 (w : World) : (Instr.build 197 #[(0, Value.int IntKind.u32 1116352408), (1, Value.int IntKind.u32 1899447441), (2, Value.int IntKind.u32 3049323471), (3, Value.int IntKind.u32 3921009573), (4, Value.int IntKind.u32 961987163), (5, Value.int IntKind.u32 1508970993), (6, Value.int IntKind.u32 2453635748), (7, Value.int IntKind.u32 2870763221), (8, Value.int IntKind.u32 3624381080), (9, Value.int IntKind.u32 310598401), (10, Value.int IntKind.u32 607225278), (11, Value.int IntKind.u32 1426881987), (12, Value.int IntKind.u32 1925078388), (13, Value.int IntKind.u32 2162078206), (14, Value.int IntKind.u32 2614888103), (15, Value.int IntKind.u32 3248222580), (16, Value.int IntKind.u32 3835390401), (17, Value.int IntKind.u32 4022224774), (18, Value.int IntKind.u32 264347078), (19, Value.int IntKind.u32 604807628), (20, Value.int IntKind.u32 770255983), (21, Value.int IntKind.u32 1249150122), (22, Value.int IntKind.u32 1555081692), (23, Value.int IntKind.u32 1996064986), (24, Value.int IntKind.u32 2554220882), (25, Value.int IntKind.u32 2821834349), (26, Value.int IntKind.u32 2952996808), (27, Value.int IntKind.u32 3210313671), (28, Value.int IntKind.u32 3336571891), (29, Value.int IntKind.u32 3584528711), (30, Value.int IntKind.u32 113926993), (31, Value.int IntKind.u32 338241895), (32, Value.int IntKind.u32 666307205), (33, Value.int IntKind.u32 773529912), (34, Value.int IntKind.u32 1294757372), (35, Value.int IntKind.u32 1396182291), (36, Value.int IntKind.u32 1695183700), (37, Value.int IntKind.u32 1986661051), (38, Value.int IntKind.u32 2177026350), (39, Value.int IntKind.u32 2456956037), (40, Value.int IntKind.u32 2730485921), (41, Value.int IntKind.u32 2820302411), (42, Value.int IntKind.u32 3259730800), (43, Value.int IntKind.u32 3345764771), (44, Value.int IntKind.u32 3516065817), (45, Value.int IntKind.u32 3600352804), (46, Value.int IntKind.u32 4094571909), (47, Value.int IntKind.u32 275423344), (48, Value.int IntKind.u32 430227734), (49, Value.int IntKind.u32 506948616), (50, Value.int IntKind.u32 659060556), (51, Value.int IntKind.u32 883997877), (52, Value.int IntKind.u32 958139571), (53, Value.int IntKind.u32 1322822218), (54, Value.int IntKind.u32 1537002063), (55, Value.int IntKind.u32 1747873779), (56, Value.int IntKind.u32 1955562222), (57, Value.int IntKind.u32 2024104815), (58, Value.int IntKind.u32 2227730452), (59, Value.int IntKind.u32 2361852424), (60, Value.int IntKind.u32 2428436474), (61, Value.int IntKind.u32 2756734187), (62, Value.int IntKind.u32 3204031479), (63, Value.int IntKind.u32 3329325298)]).run Tryz.prog w = .ok (.agg KC) w := by kernel_rfl
theorem load_blkC {W : World} {g : Nat} {cs : Array Value} {T : TypeId} (h : Blk W g cs T) (n : Nat) (hn : cs.size = n) : (loadCellsFrom ⟨g, 0, none⟩ 0 n #[]).run Tryz.prog W = .ok cs W := by
  have := run_loadCells_list (P := Tryz.prog) W ⟨g, 0, none⟩ cs.toList (fun j v hv => by
    have hadd : (⟨g, 0, none⟩ : Addr).add j = ⟨g, j, none⟩ := by unfold Addr.add; split <;> simp_all
    rw [hadd]
    exact h.cell j (by simpa using hv))
  rw [show cs.toList.length = n by simpa using hn] at this
  simpa [loadCells] using this
set_option maxRecDepth 100000 in
set_option maxHeartbeats 2000000 in
theorem digest_constants (w : World) : Calls Tryz.prog 131 #[] w fun e w' => e = .returned (.agg KC) ∧ Chg [] w w' := by
  have hz := zeroW64
  have hbu := build64
  have hst := run_storeCells_new (P := Tryz.prog) w 197 zero64 KC (by rw [KC_size]; exact info64) (by rw [KC_size]; kernel_rfl) KC_one
  have hb := Blk.new w KC 197
  have hld := load_blkC hb 64 KC_size
  have hsz := KC_size
  generalize KC = cs at *
  go_enter Tryz.func131, Tryz.ntmps131
  go_wp2
  exact bodyPost_ret (v := .agg cs) (by simp [results, Tryz.results131, go_sem, hld]) rfl ⟨rfl, (by repeat (first | exact Chg.refl _ _ | refine Chg.alloc ?_ _ | refine Chg.drew ?_ | refine Chg.drewN ?_ _ | refine Chg.setCell ?_ (.inr (by simp)) _))⟩
end Go.Proofs.YtmkgbinmilcojaaGreat

import Derived.Test.YtmkgbinmilcojaaGreatCloneChunk
import Derived.RangeFuncBox
import Derived.Laws.Tables

/- octet.Writer: Put, Raw, Bytes. -/
namespace Go.Proofs.YtmkgbinmilcojaaGreat
open Go.RowKit Go.Maps

/-- so many bytes of a number, the lowest first. -/
def leB (x : Nat) (n : Nat) : List Nat := (List.range n).map (fun i => x / 256 ^ i % 256)
theorem leB_succ (x n : Nat) : leB x (n + 1) = leB x n ++ [x / 256 ^ n % 256] := by simp [leB, List.range_succ]
theorem leB_len (x n : Nat) : (leB x n).length = n := by simp [leB]
theorem leB_lt (x n : Nat) : ∀ y ∈ leB x n, y < 256 := by
  intro y hy
  obtain ⟨i, _, rfl⟩ := List.mem_map.1 hy
  exact Nat.mod_lt _ (by decide)
theorem row_low {n₀ : Nat} {W : World} {e : TypeId} {s n : Nat} {v : Value} {xs : List Value} (h : W.ownsRow n₀ e s v n xs) {g : Nat} (hg : v.ownBlock = some g) : n₀ ≤ g := by
  rcases h.2 with ⟨rfl, _⟩ | ⟨g', cap, cur, rfl, hb, _⟩
  · cases hg
  · cases hg; exact hb
theorem row_lt {n₀ : Nat} {W : World} {e : TypeId} {s n : Nat} {v : Value} {xs : List Value} (h : W.ownsRow n₀ e s v n xs) {g : Nat} (hg : v.ownBlock = some g) : g < W.heap.size := by
  rcases h.2 with ⟨rfl, _⟩ | ⟨g', cap, cur, rfl, hb, hc, _⟩
  · cases hg
  · cases hg; exact (Array.getElem?_eq_some_iff.1 hc).1
/-- a row of bytes, read. -/
theorem bytesAt_row {n₀ : Nat} {W : World} {v : Value} {l : List Nat} (h : W.ownsRow n₀ 5 1 v l.length (bytesV l)) (h0 : 0 < l.length) (hl : ∀ x ∈ l, x < 256) :
    ∃ g cap, v = .slice (some ⟨g, 0, none⟩) l.length cap ∧ n₀ ≤ g ∧ g < W.heap.size ∧ BytesAt W g 0 l ∧ l.length ≤ cap := by
  have hc := fun g hg => World.ownsRow.cells h (g := g) hg
  rcases h.2 with ⟨e, h1⟩ | ⟨g, cap, cur, rfl, hb, hg, hle, hle2, hle3, hx⟩
  · omega
  · refine ⟨g, cap, rfl, hb, (Array.getElem?_eq_some_iff.1 hg).1, ⟨hl, fun j b hj => ?_⟩, by omega⟩
    have := hc g rfl j (.int .u8 (b : Int)) (by simp [bytesV, hj])
    rwa [show (⟨g, 0, none⟩ : Addr).add j = ⟨g, 0 + j, none⟩ by unfold Addr.add; split <;> simp_all] at this
/-- the writer at block B holds l; all of it is younger than w0. -/
structure WrAt (w0 W : World) (B : Nat) (l : List Nat) : Prop where
  v : ∃ v, Blk W B #[v] 130 ∧ W.ownsRow w0.heap.size 5 1 v l.length (bytesV l)
  low : w0.heap.size ≤ B
  chg : Chg [] w0 W
theorem WrAt.ne {n₀ : Nat} {W : World} {B : Nat} {v : Value} {n : Nat} {xs : List Value} (h : Blk W B #[v] 130) (hr : W.ownsRow n₀ 5 1 v n xs) : some B ≠ v.ownBlock :=
  Boxed.not_row (t := 130) h (by decide) hr
theorem WrAt.store {w0 W w1 : World} {B : Nat} {v v' : Value} {n m : Nat} {xs ys : List Value} {tmp : Obj} (hB : w0.heap.size ≤ B) (k : Chg [] w0 W) (h : Blk W B #[v] 130) (hr : W.ownsRow w0.heap.size 5 1 v n xs)
    (hg : (W.alloc tmp).grownBy w1 v.ownBlock) (hr' : w1.ownsRow w0.heap.size 5 1 v' m ys) :
    Blk w1 B #[v] 130 ∧ Chg [] w0 (w1.setCell ⟨B, 0, none⟩ v') ∧ Blk (w1.setCell ⟨B, 0, none⟩ v') B #[v'] 130 ∧ (w1.setCell ⟨B, 0, none⟩ v').ownsRow w0.heap.size 5 1 v' m ys := by
  have h1 : Blk w1 B #[v] 130 := (h.alloc tmp).grown hg (WrAt.ne h hr)
  refine ⟨h1, Chg.setCell ((k.alloc tmp).grown hg (fun k e => .inr (row_low hr e))) (.inr hB) _, h1.set 0 _, hr'.kept (grownBy_setCell' w1 B v') (.inr ?_)⟩
  exact (Boxed.not_row (t := 130) (u := v) h1 (by decide) hr').symm

theorem WrAt.store' {w0 W w1 : World} {B : Nat} {v v' : Value} {n m : Nat} {xs ys : List Value} (hB : w0.heap.size ≤ B) (k : Chg [] w0 W) (h : Blk W B #[v] 130) (hr : W.ownsRow w0.heap.size 5 1 v n xs)
    (hg : W.grownBy w1 v.ownBlock) (hr' : w1.ownsRow w0.heap.size 5 1 v' m ys) :
    Blk w1 B #[v] 130 ∧ Chg [] w0 (w1.setCell ⟨B, 0, none⟩ v') ∧ Blk (w1.setCell ⟨B, 0, none⟩ v') B #[v'] 130 ∧ (w1.setCell ⟨B, 0, none⟩ v').ownsRow w0.heap.size 5 1 v' m ys ∧ ∃ a c, v' = .slice a m c := by
  have h1 : Blk w1 B #[v] 130 := h.grown hg (WrAt.ne h hr)
  refine ⟨h1, Chg.setCell (k.grown hg (fun k e => .inr (row_low hr e))) (.inr hB) _, h1.set 0 _, hr'.kept (grownBy_setCell' w1 B v') (.inr ?_), ?_⟩
  · exact (Boxed.not_row (t := 130) (u := v) h1 (by decide) hr').symm
  · rcases hr'.2 with ⟨rfl, rfl⟩ | ⟨g, cap, cur, rfl, _⟩
    · exact ⟨_, _, rfl⟩
    · exact ⟨_, _, rfl⟩
set_option maxRecDepth 100000 in
set_option maxHeartbeats 2000000 in
theorem writer_Put (w0 : World) (B : Nat) (l : List Nat) (x size : Nat) (hx : x < 18446744073709551616) (hs : size = 1 ∨ size = 2 ∨ size = 4 ∨ size = 8) (hl : l.length ≤ 1000000) (w : World) (h : WrAt w0 w B l) :
    Calls Tryz.prog 64 #[.pointer (some ⟨B, 0, none⟩), .int .u64 x, .int .i64 size] w fun e w' => e = .returned (.tuple #[]) ∧ WrAt w0 w' B (l ++ leB x size) := by
  obtain ⟨i0, hi, hz0, hz1, hz2⟩ := info_partsB infoByte
  rcases hs with rfl | rfl | rfl | rfl
  · show Calls _ _ #[_, _, .int .i64 1] _ _
    go_enter Tryz.func64, Tryz.ntmps64
    go_wp2_with fail
    go_loopw [1, 15] (fun s1 s15 wr => ∃ k : Nat, k ≤ 1 ∧ s15 = .int .i64 k ∧ s1 = .int .u64 ((x / 256 ^ k : Nat) : Int) ∧ WrAt w0 wr B (l ++ leB x k)) (fun _ s15 _ => 1 - (intOf s15).toNat)
    case atStart => exact ⟨0, by omega, rfl, by simp, by simpa [leB] using h⟩
    case round =>
      obtain ⟨k, hk, rfl, rfl, hw⟩ := hrel
      by_cases hlt : k < 1
      · have hle := Lib.hid (leB_succ x k)
        have hy : x / 256 ^ k < 18446744073709551616 := Nat.lt_of_le_of_lt (Nat.div_le_self _ _) hx
        have hdiv := Lib.hid (show x / 256 ^ (k + 1) = x / 256 ^ k / 256 by rw [Nat.pow_succ, Nat.div_div_eq_div_mul])
        obtain ⟨m, hm⟩ : ∃ m, m = l ++ leB x k := ⟨_, rfl⟩
        have hml : m.length ≤ 1000008 := by rw [hm]; simp [leB_len]; omega
        have hm' := Lib.hid hm
        rw [← hm] at hw
        clear hm
        generalize x / 256 ^ k = y at *
        obtain ⟨⟨v, hb, hr⟩, hlow, hch⟩ := hw
        have c0 := hb.cell 0 (v := v) rfl
        have f0 := hb.free 0
        have hws := hch.size
        have hone : ∀ (b : Int) (j : Nat) u, [Value.int .u8 b][j]? = some u → (wr.alloc (.cells #[.int .u8 b] 5)).cell? ((⟨wr.heap.size, 0, none⟩ : Addr).add j) = some u := fun b j u hj => by
          match j, hj with
          | 0, hj => exact (Blk.new wr #[.int .u8 b] 5).cell 0 (by simpa using hj)
          | k + 1, hj => simp at hj
        have hA := h
        clear h
        go_wp2_with (at_builtin; go_loud (refine wpList_append_own_at _ rfl _ _ 36 rfl w0.heap.size 5 i0 (.int .u8 0) 1 1 Tryz.underlying36 hi hz0 hz1 hz2 rfl (by decide) v m.length _ rfl (hr.alloc _) ⟨wr.heap.size, 0, none⟩ 1 1 [.int .u8 ((y : Int) % 256)] rfl rfl (hone _) (by simp [Value.oneCell']) (by unfold maxLen; omega) (by omega) (by simp; omega) ?_); intro v2 w2 hv2 hg2 hn2 hl2; obtain ⟨g2, cap2, rfl⟩ := ownsRow_succ hv2; obtain ⟨b1, k3, b2, r2⟩ := WrAt.store hlow hch hb hr hg2 hv2; have c1 := b1.cell 0 (v := v) rfl; have f1 := b1.free 0)
        go_roundw
        case rel => exact ⟨k + 1, by omega, by simp, by rw [hdiv.out]; simp, ⟨⟨_, b2, by rw [show (l ++ leB x (k + 1)) = m ++ [y % 256] by rw [hle.out, hm'.out, List.append_assoc]]; simpa [bytesV] using r2⟩, hlow, k3⟩⟩
        case measure => simp [intOf]; omega
      · obtain rfl : k = 1 := by omega
        go_wp2
        go_end0
        exact ⟨rfl, hw⟩
  · show Calls _ _ #[_, _, .int .i64 2] _ _
    go_enter Tryz.func64, Tryz.ntmps64
    go_wp2_with fail
    go_loopw [1, 15] (fun s1 s15 wr => ∃ k : Nat, k ≤ 2 ∧ s15 = .int .i64 k ∧ s1 = .int .u64 ((x / 256 ^ k : Nat) : Int) ∧ WrAt w0 wr B (l ++ leB x k)) (fun _ s15 _ => 2 - (intOf s15).toNat)
    case atStart => exact ⟨0, by omega, rfl, by simp, by simpa [leB] using h⟩
    case round =>
      obtain ⟨k, hk, rfl, rfl, hw⟩ := hrel
      by_cases hlt : k < 2
      · have hle := Lib.hid (leB_succ x k)
        have hy : x / 256 ^ k < 18446744073709551616 := Nat.lt_of_le_of_lt (Nat.div_le_self _ _) hx
        have hdiv := Lib.hid (show x / 256 ^ (k + 1) = x / 256 ^ k / 256 by rw [Nat.pow_succ, Nat.div_div_eq_div_mul])
        obtain ⟨m, hm⟩ : ∃ m, m = l ++ leB x k := ⟨_, rfl⟩
        have hml : m.length ≤ 1000008 := by rw [hm]; simp [leB_len]; omega
        have hm' := Lib.hid hm
        rw [← hm] at hw
        clear hm
        generalize x / 256 ^ k = y at *
        obtain ⟨⟨v, hb, hr⟩, hlow, hch⟩ := hw
        have c0 := hb.cell 0 (v := v) rfl
        have f0 := hb.free 0
        have hws := hch.size
        have hone : ∀ (b : Int) (j : Nat) u, [Value.int .u8 b][j]? = some u → (wr.alloc (.cells #[.int .u8 b] 5)).cell? ((⟨wr.heap.size, 0, none⟩ : Addr).add j) = some u := fun b j u hj => by
          match j, hj with
          | 0, hj => exact (Blk.new wr #[.int .u8 b] 5).cell 0 (by simpa using hj)
          | k + 1, hj => simp at hj
        have hA := h
        clear h
        go_wp2_with (at_builtin; go_loud (refine wpList_append_own_at _ rfl _ _ 36 rfl w0.heap.size 5 i0 (.int .u8 0) 1 1 Tryz.underlying36 hi hz0 hz1 hz2 rfl (by decide) v m.length _ rfl (hr.alloc _) ⟨wr.heap.size, 0, none⟩ 1 1 [.int .u8 ((y : Int) % 256)] rfl rfl (hone _) (by simp [Value.oneCell']) (by unfold maxLen; omega) (by omega) (by simp; omega) ?_); intro v2 w2 hv2 hg2 hn2 hl2; obtain ⟨g2, cap2, rfl⟩ := ownsRow_succ hv2; obtain ⟨b1, k3, b2, r2⟩ := WrAt.store hlow hch hb hr hg2 hv2; have c1 := b1.cell 0 (v := v) rfl; have f1 := b1.free 0)
        go_roundw
        case rel => exact ⟨k + 1, by omega, by simp, by rw [hdiv.out]; simp, ⟨⟨_, b2, by rw [show (l ++ leB x (k + 1)) = m ++ [y % 256] by rw [hle.out, hm'.out, List.append_assoc]]; simpa [bytesV] using r2⟩, hlow, k3⟩⟩
        case measure => simp [intOf]; omega
      · obtain rfl : k = 2 := by omega
        go_wp2
        go_end0
        exact ⟨rfl, hw⟩
  · show Calls _ _ #[_, _, .int .i64 4] _ _
    go_enter Tryz.func64, Tryz.ntmps64
    go_wp2_with fail
    go_loopw [1, 15] (fun s1 s15 wr => ∃ k : Nat, k ≤ 4 ∧ s15 = .int .i64 k ∧ s1 = .int .u64 ((x / 256 ^ k : Nat) : Int) ∧ WrAt w0 wr B (l ++ leB x k)) (fun _ s15 _ => 4 - (intOf s15).toNat)
    case atStart => exact ⟨0, by omega, rfl, by simp, by simpa [leB] using h⟩
    case round =>
      obtain ⟨k, hk, rfl, rfl, hw⟩ := hrel
      by_cases hlt : k < 4
      · have hle := Lib.hid (leB_succ x k)
        have hy : x / 256 ^ k < 18446744073709551616 := Nat.lt_of_le_of_lt (Nat.div_le_self _ _) hx
        have hdiv := Lib.hid (show x / 256 ^ (k + 1) = x / 256 ^ k / 256 by rw [Nat.pow_succ, Nat.div_div_eq_div_mul])
        obtain ⟨m, hm⟩ : ∃ m, m = l ++ leB x k := ⟨_, rfl⟩
        have hml : m.length ≤ 1000008 := by rw [hm]; simp [leB_len]; omega
        have hm' := Lib.hid hm
        rw [← hm] at hw
        clear hm
        generalize x / 256 ^ k = y at *
        obtain ⟨⟨v, hb, hr⟩, hlow, hch⟩ := hw
        have c0 := hb.cell 0 (v := v) rfl
        have f0 := hb.free 0
        have hws := hch.size
        have hone : ∀ (b : Int) (j : Nat) u, [Value.int .u8 b][j]? = some u → (wr.alloc (.cells #[.int .u8 b] 5)).cell? ((⟨wr.heap.size, 0, none⟩ : Addr).add j) = some u := fun b j u hj => by
          match j, hj with
          | 0, hj => exact (Blk.new wr #[.int .u8 b] 5).cell 0 (by simpa using hj)
          | k + 1, hj => simp at hj
        have hA := h
        clear h
        go_wp2_with (at_builtin; go_loud (refine wpList_append_own_at _ rfl _ _ 36 rfl w0.heap.size 5 i0 (.int .u8 0) 1 1 Tryz.underlying36 hi hz0 hz1 hz2 rfl (by decide) v m.length _ rfl (hr.alloc _) ⟨wr.heap.size, 0, none⟩ 1 1 [.int .u8 ((y : Int) % 256)] rfl rfl (hone _) (by simp [Value.oneCell']) (by unfold maxLen; omega) (by omega) (by simp; omega) ?_); intro v2 w2 hv2 hg2 hn2 hl2; obtain ⟨g2, cap2, rfl⟩ := ownsRow_succ hv2; obtain ⟨b1, k3, b2, r2⟩ := WrAt.store hlow hch hb hr hg2 hv2; have c1 := b1.cell 0 (v := v) rfl; have f1 := b1.free 0)
        go_roundw
        case rel => exact ⟨k + 1, by omega, by simp, by rw [hdiv.out]; simp, ⟨⟨_, b2, by rw [show (l ++ leB x (k + 1)) = m ++ [y % 256] by rw [hle.out, hm'.out, List.append_assoc]]; simpa [bytesV] using r2⟩, hlow, k3⟩⟩
        case measure => simp [intOf]; omega
      · obtain rfl : k = 4 := by omega
        go_wp2
        go_end0
        exact ⟨rfl, hw⟩
  · show Calls _ _ #[_, _, .int .i64 8] _ _
    go_enter Tryz.func64, Tryz.ntmps64
    go_wp2_with fail
    go_loopw [1, 15] (fun s1 s15 wr => ∃ k : Nat, k ≤ 8 ∧ s15 = .int .i64 k ∧ s1 = .int .u64 ((x / 256 ^ k : Nat) : Int) ∧ WrAt w0 wr B (l ++ leB x k)) (fun _ s15 _ => 8 - (intOf s15).toNat)
    case atStart => exact ⟨0, by omega, rfl, by simp, by simpa [leB] using h⟩
    case round =>
      obtain ⟨k, hk, rfl, rfl, hw⟩ := hrel
      by_cases hlt : k < 8
      · have hle := Lib.hid (leB_succ x k)
        have hy : x / 256 ^ k < 18446744073709551616 := Nat.lt_of_le_of_lt (Nat.div_le_self _ _) hx
        have hdiv := Lib.hid (show x / 256 ^ (k + 1) = x / 256 ^ k / 256 by rw [Nat.pow_succ, Nat.div_div_eq_div_mul])
        obtain ⟨m, hm⟩ : ∃ m, m = l ++ leB x k := ⟨_, rfl⟩
        have hml : m.length ≤ 1000008 := by rw [hm]; simp [leB_len]; omega
        have hm' := Lib.hid hm
        rw [← hm] at hw
        clear hm
        generalize x / 256 ^ k = y at *
        obtain ⟨⟨v, hb, hr⟩, hlow, hch⟩ := hw
        have c0 := hb.cell 0 (v := v) rfl
        have f0 := hb.free 0
        have hws := hch.size
        have hone : ∀ (b : Int) (j : Nat) u, [Value.int .u8 b][j]? = some u → (wr.alloc (.cells #[.int .u8 b] 5)).cell? ((⟨wr.heap.size, 0, none⟩ : Addr).add j) = some u := fun b j u hj => by
          match j, hj with
          | 0, hj => exact (Blk.new wr #[.int .u8 b] 5).cell 0 (by simpa using hj)
          | k + 1, hj => simp at hj
        have hA := h
        clear h
        go_wp2_with (at_builtin; go_loud (refine wpList_append_own_at _ rfl _ _ 36 rfl w0.heap.size 5 i0 (.int .u8 0) 1 1 Tryz.underlying36 hi hz0 hz1 hz2 rfl (by decide) v m.length _ rfl (hr.alloc _) ⟨wr.heap.size, 0, none⟩ 1 1 [.int .u8 ((y : Int) % 256)] rfl rfl (hone _) (by simp [Value.oneCell']) (by unfold maxLen; omega) (by omega) (by simp; omega) ?_); intro v2 w2 hv2 hg2 hn2 hl2; obtain ⟨g2, cap2, rfl⟩ := ownsRow_succ hv2; obtain ⟨b1, k3, b2, r2⟩ := WrAt.store hlow hch hb hr hg2 hv2; have c1 := b1.cell 0 (v := v) rfl; have f1 := b1.free 0)
        go_roundw
        case rel => exact ⟨k + 1, by omega, by simp, by rw [hdiv.out]; simp, ⟨⟨_, b2, by rw [show (l ++ leB x (k + 1)) = m ++ [y % 256] by rw [hle.out, hm'.out, List.append_assoc]]; simpa [bytesV] using r2⟩, hlow, k3⟩⟩
        case measure => simp [intOf]; omega
      · obtain rfl : k = 8 := by omega
        go_wp2
        go_end0
        exact ⟨rfl, hw⟩

set_option maxRecDepth 100000 in
set_option maxHeartbeats 2000000 in
theorem writer_Raw (w0 : World) (B : Nat) (l bs : List Nat) (g off cap : Nat) (hl : l.length + bs.length ≤ 1000000) (w : World) (h : WrAt w0 w B l) (hp : BytesAt w g off bs) (_ : g < w.heap.size) :
    Calls Tryz.prog 65 #[.pointer (some ⟨B, 0, none⟩), .slice (some ⟨g, off, none⟩) bs.length cap] w fun e w' => e = .returned (.tuple #[]) ∧ WrAt w0 w' B (l ++ bs) := by
  obtain ⟨i0, hi, hz0, hz1, hz2⟩ := info_partsB infoByte
  obtain ⟨⟨v, hb, hr⟩, hlow, hch⟩ := h
  have c0 := hb.cell 0 (v := v) rfl
  have f0 := hb.free 0
  have hws := hch.size
  have hcell : ∀ (j : Nat) u, (bytesV bs)[j]? = some u → w.cell? ((⟨g, off, none⟩ : Addr).add j) = some u := fun j u hu => by
    rw [show (⟨g, off, none⟩ : Addr).add j = ⟨g, off + j, none⟩ by unfold Addr.add; split <;> simp_all]
    simp only [bytesV, List.getElem?_map, Option.map_eq_some_iff] at hu
    obtain ⟨b, hb, rfl⟩ := hu
    exact hp.2 j b hb
  go_enter Tryz.func65, Tryz.ntmps65
  go_wp2_with (at_builtin; go_loud (refine wpList_append_own_at _ rfl _ _ 36 rfl w0.heap.size 5 i0 (.int .u8 0) 1 1 Tryz.underlying36 hi hz0 hz1 hz2 rfl (by decide) v l.length _ rfl hr ⟨g, off, none⟩ bs.length cap (bytesV bs) rfl (by rw [bytesV_len]; omega) hcell (bytesV_one bs) (by unfold maxLen; omega) (by omega) (by omega) ?_); intro v2 w2 hv2 hg2 hn2 hl2; obtain ⟨b1, k3, b2, r2, hsome⟩ := WrAt.store' hlow hch hb hr hg2 hv2; have c1 := b1.cell 0 (v := v) rfl; have f1 := b1.free 0; obtain ⟨a2, cap2, rfl⟩ := hsome)
  go_end0
  exact ⟨rfl, ⟨⟨_, b2, by simpa [bytesV] using r2⟩, hlow, k3⟩⟩

set_option maxRecDepth 100000 in
set_option maxHeartbeats 2000000 in
theorem writer_Bytes (w0 : World) (B : Nat) (l : List Nat) (hl : l.length ≤ 1000000) (h0 : 0 < l.length) (hb256 : ∀ x ∈ l, x < 256) (w : World) (h : WrAt w0 w B l) :
    Calls Tryz.prog 66 #[.pointer (some ⟨B, 0, none⟩)] w fun e w' => ∃ v, e = .returned v ∧ w'.ownsRow w.heap.size 5 1 v l.length (bytesV l) ∧ Chg [] w w' := by
  obtain ⟨⟨v, hb, hr⟩, hlow, hch⟩ := h
  obtain ⟨g, cap, rfl, hg0, hg1, hB, hcap⟩ := bytesAt_row hr h0 hb256
  have c0 := hb.cell 0 (v := .slice (some ⟨g, 0, none⟩) l.length cap) rfl
  go_enter Tryz.func66, Tryz.ntmps66
  go_wp2_with fail
  refine (clone_bytes g 0 cap l hl w hB hg1).mono ?_
  rintro e w2 ⟨v, rfl, hv, k⟩
  obtain ⟨g2, cap2, rfl, _⟩ := bytesAt_row hv h0 hb256
  go_wp2
  go_ret
  exact ⟨_, rfl, hv, k⟩
end Go.Proofs.YtmkgbinmilcojaaGreat

/- Whole blocks of cells: loaded, stored. -/
namespace Go.Proofs.YtmkgbinmilcojaaGreat
open Go.RowKit Go.Maps

theorem store_cells {W : World} {b : Nat} {old cs : Array Value} {T : TypeId} (hb : Blk W b old T) (hs : old.size = cs.size) (h1 : cs.all (·.oneCell') = true) :
    ∃ W2, (storeCells ⟨b, 0, none⟩ cs.toList 0).run Tryz.prog W = .ok () W2 ∧ Blk W2 b cs T ∧ Chg [b] W W2 := by
  have hr := run_storeCells_from (P := Tryz.prog) b T cs.toList 0 old W hb (by simp; omega) (fun v hv => (Array.all_eq_true_iff_forall_mem.1 h1) v (by simpa using hv))
  simp only [List.take_zero, List.nil_append, Array.toArray_toList] at hr
  refine ⟨_, hr, setRow_heap W b old cs T _ hb, ⟨rfl, rfl, rfl, by simp [World.setRow], fun k _ hk => setRow_other W b k cs (by simpa using hk)⟩⟩
theorem bytesV_all (l : List Nat) : (bytesV l).toArray.all (·.oneCell') = true := by
  rw [Array.all_eq_true_iff_forall_mem]
  intro v hv
  exact bytesV_one l v (by simpa using hv)
end Go.Proofs.YtmkgbinmilcojaaGreat

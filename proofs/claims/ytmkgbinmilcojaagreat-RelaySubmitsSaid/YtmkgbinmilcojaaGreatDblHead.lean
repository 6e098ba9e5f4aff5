import Derived.Test.YtmkgbinmilcojaaGreatSum
import Derived.Deep.WholeRow

/- Package digest: Double. -/
namespace Go.Proofs.YtmkgbinmilcojaaGreat
open Go.RowKit Go.Maps
attribute [-go_sem] loadCellsFrom

theorem bytesAt_blk {W : World} {g : Nat} {l : List Nat} {T : TypeId} (h : Blk W g (bytesV l).toArray T) (hl : ∀ x ∈ l, x < 256) : BytesAt W g 0 l :=
  ⟨hl, fun j v hj => h.cell (0 + j) (by simp [bytesV, hj])⟩
theorem infoHash : (Tryz.prog.info? 26).map (·.size) = some 32 := by kernel_rfl
set_option maxRecDepth 100000 in
set_option maxHeartbeats 4000000 in
theorem digest_Double (g off cap : Nat) (l : List Nat) (hn : l.length ≤ 100000) (w : World) (hp : BytesAt w g off l) (hg : g < w.heap.size) :
    Calls Tryz.prog 67 #[.slice (some ⟨g, off, none⟩) l.length cap] w fun e w' => e = .returned (.agg (bytesV (dblS l)).toArray) ∧ Chg [] w w' := by
  have hz := zeroHash
  have hbO := Blk.new w z32 26
  have k0 : Chg [] w (w.alloc (.cells z32 26)) := (Chg.refl _ _).alloc _
  have hp0 := hp.chg k0 hg (by simp)
  have hg0 : g < (w.alloc (.cells z32 26)).heap.size := by simp; omega
  have hzs : z32.size = 32 := rfl
  generalize z32 = zz at *
  go_enter Tryz.func67, Tryz.ntmps67
  go_wp2_with fail
  generalize w.alloc (.cells zz 26) = W0 at *
  refine (digest_Sum g off cap l hn W0 hp0 hg0).mono ?_
  rintro e w1 ⟨rfl, k1⟩
  have hbO1 := hbO.chg k1 (by simp)
  have k01 := k0.trans k1 (by simp)
  have hs1 := shaS_lt l
  have hs2 := shaS_len l
  have hs3 := Lib.hid (show dblS l = shaS (shaS l) from rfl)
  generalize shaS l = m at *
  have hcs1 := bytesV_all m
  have hcs2 : (bytesV m).toArray.size = 32 := by simp [bytesV, hs2]
  have hb3 := Blk.new w1 (bytesV m).toArray 26
  have hst := run_storeCells_new (P := Tryz.prog) w1 26 zz (bytesV m).toArray (by rw [hcs2]; exact infoHash) (by rw [hcs2, hzs]) hcs1
  have hB3 := bytesAt_blk hb3 hs1
  have hg3 := hb3.lt
  have k2 := k01.alloc (.cells (bytesV m).toArray 26)
  have hbO2 := hbO1.alloc (.cells (bytesV m).toArray 26)
  generalize (bytesV m).toArray = cs at *
  go_wp2_with fail
  generalize w1.alloc (.cells cs 26) = W1 at *
  refine (Calls.mono (by have := digest_Sum w1.heap.size 0 32 m (by omega) W1 hB3 hg3; rw [hs2] at this; exact this) ?_)
  rintro e w2 ⟨rfl, k3⟩
  have hbO3 := hbO2.chg k3 (by simp)
  have k4 := k2.trans k3 (by simp)
  have hs4 := Lib.hid (show (bytesV (shaS m)).toArray = (bytesV (dblS l)).toArray by rw [hs3.out])
  have ht1 := bytesV_all (shaS m)
  have ht2 : (bytesV (shaS m)).toArray.size = 32 := by simp [bytesV, shaS_len]
  generalize (bytesV (shaS m)).toArray = ds at *
  obtain ⟨W2, hst2, b2, kk⟩ := store_cells hbO3 (cs := ds) (by rw [ht2, hzs]) ht1
  have hld2 := load_blkC b2 32 ht2
  go_wp2
  exact bodyPost_ret (v := .agg ds) (by simp [results, Tryz.results67, go_sem, hld2]) rfl ⟨by rw [hs4.out], k4.trans kk (by simp)⟩
end Go.Proofs.YtmkgbinmilcojaaGreat

/- Package header: Bytes, Hash. -/
namespace Go.Proofs.YtmkgbinmilcojaaGreat
open Go.RowKit Go.Maps
attribute [-go_sem] loadCellsFrom

structure Hd where
  ver : Nat
  ah : List Nat
  rt : List Nat
  tm : Nat
  bt : Nat
  nc : Nat
structure HdOk (h : Hd) : Prop where
  ver : h.ver < 4294967296
  ah : h.ah.length = 32
  rt : h.rt.length = 32
  ahb : ∀ x ∈ h.ah, x < 256
  rtb : ∀ x ∈ h.rt, x < 256
  tm : h.tm < 4294967296
  bt : h.bt < 4294967296
  nc : h.nc < 4294967296
def Hd.l (h : Hd) : List Value := .int .u32 h.ver :: (bytesV h.ah ++ (bytesV h.rt ++ [.int .u32 h.tm, .int .u32 h.bt, .int .u32 h.nc]))
def Hd.cs (h : Hd) : Array Value := h.l.toArray
def hdB (h : Hd) : List Nat := leB h.ver 4 ++ h.ah ++ h.rt ++ leB h.tm 4 ++ leB h.bt 4 ++ leB h.nc 4
theorem hdB_len {h : Hd} (ok : HdOk h) : (hdB h).length = 80 := by simp [hdB, leB_len, ok.ah, ok.rt]
theorem hdB_lt {h : Hd} (ok : HdOk h) : ∀ x ∈ hdB h, x < 256 := by
  intro x hx
  simp only [hdB, List.mem_append] at hx
  rcases hx with ((((hx | hx) | hx) | hx) | hx) | hx
  · exact leB_lt _ _ x hx
  · exact ok.ahb x hx
  · exact ok.rtb x hx
  · exact leB_lt _ _ x hx
  · exact leB_lt _ _ x hx
  · exact leB_lt _ _ x hx
theorem Hd.size {h : Hd} (ok : HdOk h) : h.cs.size = 68 := by simp [Hd.cs, Hd.l, bytesV_len, ok.ah, ok.rt]
theorem Hd.one (h : Hd) : h.cs.all (·.oneCell') = true := by
  rw [Array.all_eq_true_iff_forall_mem]
  intro v hv
  simp only [Hd.cs, Hd.l, List.mem_toArray, List.mem_cons, List.mem_append, List.not_mem_nil, or_false] at hv
  rcases hv with rfl | hv | hv | rfl | rfl | rfl
  · rfl
  · exact bytesV_one _ _ hv
  · exact bytesV_one _ _ hv
  · rfl
  · rfl
  · rfl
theorem Hd.c0 (h : Hd) : h.cs[0]? = some (.int .u32 h.ver) := rfl
theorem Hd.c65 {h : Hd} (ok : HdOk h) : h.cs[65]? = some (.int .u32 h.tm) := by
  have e : (bytesV h.ah).length = 32 := by rw [bytesV_len, ok.ah]
  have e2 : (bytesV h.rt).length = 32 := by rw [bytesV_len, ok.rt]
  simp [Hd.cs, Hd.l, e, e2]
theorem Hd.c66 {h : Hd} (ok : HdOk h) : h.cs[66]? = some (.int .u32 h.bt) := by
  have e : (bytesV h.ah).length = 32 := by rw [bytesV_len, ok.ah]
  have e2 : (bytesV h.rt).length = 32 := by rw [bytesV_len, ok.rt]
  simp [Hd.cs, Hd.l, e, e2]
theorem Hd.c67 {h : Hd} (ok : HdOk h) : h.cs[67]? = some (.int .u32 h.nc) := by
  have e : (bytesV h.ah).length = 32 := by rw [bytesV_len, ok.ah]
  have e2 : (bytesV h.rt).length = 32 := by rw [bytesV_len, ok.rt]
  simp [Hd.cs, Hd.l, e, e2]
theorem Hd.atAh {h : Hd} (ok : HdOk h) {W : World} {g : Nat} {T : TypeId} (hb : Blk W g h.cs T) : BytesAt W g 1 h.ah :=
  ⟨ok.ahb, fun j v hj => hb.cell (1 + j) (by
    have hl := (List.getElem?_eq_some_iff.1 hj).1
    simp only [Hd.cs, Hd.l, List.getElem?_toArray]
    rw [Nat.add_comm, List.getElem?_cons_succ, List.getElem?_append_left (by rw [bytesV_len]; exact hl)]
    simp [bytesV, hj])⟩
theorem Hd.atRt {h : Hd} (ok : HdOk h) {W : World} {g : Nat} {T : TypeId} (hb : Blk W g h.cs T) : BytesAt W g 33 h.rt :=
  ⟨ok.rtb, fun j v hj => hb.cell (33 + j) (by
    have hl := (List.getElem?_eq_some_iff.1 hj).1
    have e : (bytesV h.ah).length = 32 := by rw [bytesV_len, ok.ah]
    simp only [Hd.cs, Hd.l, List.getElem?_toArray]
    rw [show 33 + j = (32 + j) + 1 by omega, List.getElem?_cons_succ, List.getElem?_append_right (by omega), e, show 32 + j - 32 = j by omega, List.getElem?_append_left (by rw [bytesV_len]; exact hl)]
    simp [bytesV, hj])⟩
/-- the header's bytes, but for its last numbers. -/
def hdP (h : Hd) : Nat → List Nat
  | 0 => leB h.ver 4 ++ h.ah ++ h.rt
  | 1 => leB h.ver 4 ++ h.ah ++ h.rt ++ leB h.tm 4
  | 2 => leB h.ver 4 ++ h.ah ++ h.rt ++ leB h.tm 4 ++ leB h.bt 4
  | _ => leB h.ver 4 ++ h.ah ++ h.rt ++ leB h.tm 4 ++ leB h.bt 4 ++ leB h.nc 4
theorem row_down {n₀ n₁ : Nat} {W : World} {e : TypeId} {s n : Nat} {v : Value} {xs : List Value} (h : W.ownsRow n₀ e s v n xs) (hn : n₁ ≤ n₀) : W.ownsRow n₁ e s v n xs := by
  refine ⟨h.1, ?_⟩
  rcases h.2 with h0 | ⟨g, cap, cur, rfl, hb, r⟩
  · exact .inl h0
  · exact .inr ⟨g, cap, cur, rfl, by omega, r⟩
theorem idx3_0 (a b c : Int) (w : World) : (Instr.index 133 (.agg #[.int .u32 a, .int .u32 b, .int .u32 c]) (.int .i64 0)).run Tryz.prog w = .ok (.int .u32 a) w := by kernel_rfl
theorem idx3_1 (a b c : Int) (w : World) : (Instr.index 133 (.agg #[.int .u32 a, .int .u32 b, .int .u32 c]) (.int .i64 1)).run Tryz.prog w = .ok (.int .u32 b) w := by kernel_rfl
theorem idx3_2 (a b c : Int) (w : World) : (Instr.index 133 (.agg #[.int .u32 a, .int .u32 b, .int .u32 c]) (.int .i64 2)).run Tryz.prog w = .ok (.int .u32 c) w := by kernel_rfl
theorem infoHd : (Tryz.prog.info? 28).map (·.size) = some 68 := by kernel_rfl

set_option maxRecDepth 100000 in
set_option maxHeartbeats 4000000 in
theorem header_Bytes (h : Hd) (ok : HdOk h) (w : World) :
    Calls Tryz.prog 24 #[.agg h.cs] w fun e w' => ∃ v, e = .returned v ∧ w'.ownsRow w.heap.size 5 1 v 80 (bytesV (hdB h)) ∧ Chg [] w w' := by
  have hsz := Hd.size ok
  have hbH := Blk.new w h.cs 28
  have e0 := Hd.c0 h
  have e65 := Hd.c65 ok
  have e66 := Hd.c66 ok
  have e67 := Hd.c67 ok
  have hAh := fun W (hb : Blk W w.heap.size h.cs 28) => Hd.atAh ok hb
  have hRt := fun W (hb : Blk W w.heap.size h.cs 28) => Hd.atRt ok hb
  have hBl := Lib.hid (show hdB h = leB h.ver 4 ++ h.ah ++ h.rt ++ leB h.tm 4 ++ leB h.bt 4 ++ leB h.nc 4 from rfl)
  have hw0 : WrAt (w.alloc (.cells h.cs 28)) ((w.alloc (.cells h.cs 28)).alloc (.cells #[.slice none 0 0] 130)) (w.heap.size + 1) [] :=
    ⟨⟨_, Blk.at _ _ _ _ (by simp), by simpa [bytesV] using World.ownsRow_nil _ _ _ _⟩, by simp, (Chg.refl _ _).alloc _⟩
  have k1 : Chg [] w (w.alloc (.cells h.cs 28)) := (Chg.refl _ _).alloc _
  have hlb := hdB_len ok
  have hlt' := hdB_lt ok
  obtain ⟨o1, o2, o3, o4, o5, o6, o7, o8⟩ := ok
  generalize h.cs = cs at *
  go_enter Tryz.func24, Tryz.ntmps24
  have c0 := (hbH.alloc (.cells #[.slice none 0 0] 130)).cell 0 e0
  go_wp2_with fail
  refine (writer_Put _ _ [] h.ver 4 (by omega) (by omega) (by simp) _ hw0).mono ?_
  rintro e w1 ⟨rfl, hw1⟩
  have b1 := hbH.chg hw1.chg (by simp)
  have a1 := hAh w1 b1
  go_wp2_with fail
  refine (Calls.mono (by have := writer_Raw _ _ _ h.ah w.heap.size 1 32 (by simp [leB_len, o2]) w1 hw1 a1 b1.lt; rw [o2] at this; exact this) ?_)
  rintro e w2 ⟨rfl, hw2⟩
  have b2 := hbH.chg hw2.chg (by simp)
  have a2 := hRt w2 b2
  go_wp2_with fail
  refine (Calls.mono (by have := writer_Raw _ _ _ h.rt w.heap.size 33 32 (by simp [leB_len, o2, o3]) w2 hw2 a2 b2.lt; rw [o3] at this; exact this) ?_)
  rintro e w3 ⟨rfl, hw3⟩
  have b3 := hbH.chg hw3.chg (by simp)
  have c65 := b3.cell 65 e65
  have c66 := b3.cell 66 e66
  have c67 := b3.cell 67 e67
  go_wp2_with fail
  have x0 := idx3_0 h.tm h.bt h.nc
  have x1 := idx3_1 h.tm h.bt h.nc
  have x2 := idx3_2 h.tm h.bt h.nc
  go_loopw [5, 23] (fun s5 s23 wr => ∃ k : Nat, k ≤ 3 ∧ s23 = .int .i64 k ∧ WrAt (w.alloc (.cells cs 28)) wr (w.heap.size + 1) (hdP h k)) (fun _ s23 _ => 3 - (intOf s23).toNat)
  case atStart => exact ⟨0, by omega, rfl, by simpa [hdP] using hw3⟩
  case round =>
    obtain ⟨k, hk, rfl, hwr⟩ := hrel
    by_cases hlt : k < 3
    · rcases (by omega : k = 0 ∨ k = 1 ∨ k = 2) with rfl | rfl | rfl
      · go_wp2_with fail
        refine (writer_Put _ _ _ h.tm 4 (by omega) (by omega) (by simp [hdP, leB_len, o2, o3]) _ hwr).mono ?_
        rintro e w4 ⟨rfl, hw4⟩
        go_wp2
        go_roundw
        case rel => exact ⟨1, by omega, rfl, hw4⟩
        case measure => simp [intOf]
      · go_wp2_with fail
        refine (writer_Put _ _ _ h.bt 4 (by omega) (by omega) (by simp [hdP, leB_len, o2, o3]) _ hwr).mono ?_
        rintro e w4 ⟨rfl, hw4⟩
        go_wp2
        go_roundw
        case rel => exact ⟨2, by omega, rfl, hw4⟩
        case measure => simp [intOf]
      · go_wp2_with fail
        refine (writer_Put _ _ _ h.nc 4 (by omega) (by omega) (by simp [hdP, leB_len, o2, o3]) _ hwr).mono ?_
        rintro e w4 ⟨rfl, hw4⟩
        go_wp2
        go_roundw
        case rel => exact ⟨3, by omega, rfl, hw4⟩
        case measure => simp [intOf]
    · obtain rfl : k = 3 := by omega
      rw [show hdP h 3 = hdB h by rw [hBl.out]; rfl] at hwr
      go_wp2_with fail
      refine (writer_Bytes _ _ _ (by omega) (by omega) hlt' _ hwr).mono ?_
      rintro e w5 ⟨v, rfl, hv, k5⟩
      rw [hlb] at hv
      have hn : w.heap.size + 1 ≤ wr.heap.size := by have := hwr.chg.size; simpa using this
      obtain ⟨a5, n5, rfl⟩ : ∃ a c, v = .slice a 80 c := by
        rcases hv.2 with ⟨_, h0⟩ | ⟨g, cap, cur, rfl, _⟩
        · omega
        · exact ⟨_, _, rfl⟩
      go_wp2
      go_ret
      exact ⟨_, rfl, row_down hv (by omega), (k1.trans hwr.chg (by simp)).trans k5 (by simp)⟩

/-- a header's hash. -/
def hdH (h : Hd) : List Nat := dblS (hdB h)
theorem hdH_len (h : Hd) : (hdH h).length = 32 := shaS_len _
theorem hdH_lt (h : Hd) : ∀ x ∈ hdH h, x < 256 := shaS_lt _
set_option maxRecDepth 100000 in
set_option maxHeartbeats 4000000 in
theorem header_Hash (h : Hd) (ok : HdOk h) (w : World) :
    Calls Tryz.prog 27 #[.agg h.cs] w fun e w' => e = .returned (.agg (bytesV (hdH h)).toArray) ∧ Chg [] w w' := by
  have hz := zeroHash
  have hsz := Hd.size ok
  have hbH := (Blk.new w h.cs 28).alloc (.cells z32 26)
  have hbO := Blk.at (w.alloc (.cells h.cs 28)) z32 26 (w.heap.size + 1) (by simp)
  have hld := load_blkC hbH 68 hsz
  have hby := header_Bytes h ok
  have hlb := hdB_len ok
  have hlt := hdB_lt ok
  have k1 : Chg [] w ((w.alloc (.cells h.cs 28)).alloc (.cells z32 26)) := ((Chg.refl _ _).alloc _).alloc _
  have hzs : z32.size = 32 := rfl
  have hH := Lib.hid (show hdH h = dblS (hdB h) from rfl)
  clear ok
  generalize h.cs = cs at *
  generalize z32 = zz at *
  generalize hdB h = m at *
  go_enter Tryz.func27, Tryz.ntmps27
  go_wp2_with fail
  generalize (w.alloc (.cells cs 28)).alloc (.cells zz 26) = W0 at *
  refine (hby W0).mono ?_
  rintro e w1 ⟨v, rfl, hv, k2⟩
  obtain ⟨g, cap, rfl, hg0, hg1, hB, hcap⟩ := bytesAt_row (l := m) (by rw [hlb]; exact hv) (by omega) hlt
  have b1 := hbO.chg k2 (by simp)
  go_wp2_with fail
  refine (Calls.mono (by have := digest_Double g 0 cap m (by omega) w1 hB hg1; rw [hlb] at this; exact this) ?_)
  rintro e w2 ⟨rfl, k3⟩
  have b2 := b1.chg k3 (by simp)
  rw [← hH.out]
  have ht1 := bytesV_all (hdH h)
  have ht2 : (bytesV (hdH h)).toArray.size = 32 := by simp [bytesV, hdH_len]
  obtain ⟨ds, hds⟩ : ∃ ds, ds = (bytesV (hdH h)).toArray := ⟨_, rfl⟩
  rw [← hds] at ht1 ht2 ⊢
  have hds' := Lib.hid hds
  clear hds
  obtain ⟨W2, hst2, b3, kk⟩ := store_cells b2 (cs := ds) (by rw [ht2, hzs]) ht1
  have hld2 := load_blkC b3 32 ht2
  go_wp2
  exact bodyPost_ret (v := .agg ds) (by simp [results, Tryz.results27, go_sem, hld2]) rfl ⟨by rw [hds'.out], ((k1.trans k2 (by simp)).trans k3 (by simp)).trans kk (by simp)⟩
end Go.Proofs.YtmkgbinmilcojaaGreat

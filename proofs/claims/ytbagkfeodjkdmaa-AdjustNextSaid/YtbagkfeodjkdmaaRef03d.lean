/- pontageref03: Half, Bits. -/
import Derived.Test.YtbagkfeodjkdmaaRef03c
import Derived.Test.YtbagkfeodjkdmaaBlen
import Derived.Deep.OwnRows
namespace Go.Proofs.Ytbagkfeodjkdmaa
open Go.RowKit Go.Maps Go.Shelf

/-! ### a row that the call itself has made -/
def arrU (l : List Int) : Array Value := (l.map (Value.int .u64)).toArray
theorem arrU_get {l : List Int} {i : Nat} (h : i < l.length) : (arrU l)[i]? = some (.int .u64 l[i]) := by simp [arrU, h]
theorem Blk.outNew (w : World) (n : Nat) : Blk (w.alloc (.cells (madeCells #[.int .u64 0] n) 23)) w.heap.size (arrU (List.replicate n 0)) 23 := by
  have e : madeCells #[Value.int .u64 0] n = arrU (List.replicate n 0) := by
    apply Array.ext'
    rw [toList_madeCells_one]; simp [arrU]
  rw [e]; exact Blk.new _ _ _
theorem Blk.outSet {w : World} {g : Nat} {l : List Int} {T : TypeId} (h : Blk w g (arrU l) T) (i : Nat) (x : Int) : Blk (w.setCell ⟨g, i, none⟩ (.int .u64 x)) g (arrU (l.set i x)) T := by
  have := h.set i (.int .u64 x)
  have e : (arrU l).setIfInBounds i (.int .u64 x) = arrU (l.set i x) := by
    apply Array.ext'
    simp [arrU, List.map_set]
  rwa [e] at this
theorem SlI.ofOut {w : World} {g cap : Nat} {l : List Int} {T : TypeId} (h : Blk w g (arrU l) T) : SlI w .u64 (.slice (some ⟨g, 0, none⟩) l.length cap) l :=
  .inr ⟨g, 0, cap, arrU l, T, rfl, h, fun i hi => by simpa using arrU_get hi⟩
theorem DgAt.ofOut {w : World} {g cap : Nat} {l : List Int} {T : TypeId} (h : Blk w g (arrU l) T) (hd : Dg l) (hl : l.length ≤ 100000) (hc : l.length ≤ cap) : DgAt w (.slice (some ⟨g, 0, none⟩) l.length cap) l :=
  ⟨SlI.ofOut h, fun a n c e => by cases e; exact hc, hd, hl⟩
theorem Dg.set {l : List Int} (h : Dg l) {i : Nat} {x : Int} (h0 : 0 ≤ x) (h1 : x < 65536) : Dg (l.set i x) := fun d hd => by
  rcases List.mem_or_eq_of_mem_set hd with hd | rfl
  · exact h d hd
  · exact ⟨h0, h1⟩
theorem Dg.replicate (n : Nat) : Dg (List.replicate n 0) := fun d hd => by rw [(List.mem_replicate.1 hd).2]; omega
theorem drop_set_cons {l : List Int} {i : Nat} (x : Int) (h : i < l.length) : (l.set i x).drop i = x :: l.drop (i + 1) := by
  rw [List.drop_eq_getElem_cons (by simpa using h)]
  simp [List.drop_set_of_lt]
theorem drop_cons {l : List Int} {i : Nat} (h : i < l.length) : l.drop i = l[i] :: l.drop (i + 1) := List.drop_eq_getElem_cons h

theorem infoU' : (Try.prog.info? 23).map (fun i => (i.zero, i.size, i.bytes)) = some (some (.int .u64 0), 1, 8) := by kernel_rfl

set_option maxRecDepth 100000 in
set_option maxHeartbeats 2000000 in
theorem ref_Half (va : Value) (a : List Int) (w : World) (ha : DgAt w va a) :
    Calls Try.prog 147 #[va] w fun e w' => ∃ v, e = .returned (.tuple #[v, .int .u64 (val a % 2)]) ∧ NAt w' v (val a / 2).toNat ∧ (∀ k, inBlk v k → w.heap.size ≤ k) ∧ Chg [] w w' := by
  obtain ⟨aa, ac, rfl⟩ := ha.sl.len
  have hlen := ha.len
  have hmk := run_make_row' (P := Try.prog) 86 23 (.int .u64 0) 8 Try.underlying86 infoU' rfl .i64 .i64 a.length (by omega) (by omega)
  have hout := Blk.outNew w a.length
  have hc0 : Chg [] w (w.alloc (.cells (madeCells #[.int .u64 0] a.length) 23)) := (Chg.refl _ _).alloc _
  go_enter Try.func147, Try.ntmps147
  go_wp2
  generalize w.alloc (.cells (madeCells #[.int .u64 0] a.length) 23) = w0 at hout hc0 ⊢
  obtain ⟨s, hs⟩ : ∃ s, s = w.heap.size := ⟨_, rfl⟩
  have hs' := Lib.hid hs
  simp only [← hs] at hout ⊢
  clear hs hmk
  have hLw : wrap64 ((a.length : Int) - 1) = (a.length : Int) - 1 := by unfold wrap64; omega
  try simp only [hLw]
  clear hLw
  go_loopw [5, 6] (fun s5 s6 wr => ∃ (o : List Int) (k : Nat) (r : Int), s5 = .int .u64 r ∧ s6 = .int .i64 ((k : Int) - 1) ∧ k ≤ a.length ∧ o.length = a.length ∧ Dg o ∧ 0 ≤ r ∧ r ≤ 1 ∧ 2 * val (o.drop k) + r = val (a.drop k) ∧
    Blk wr s (arrU o) 23 ∧ Chg [] w wr) (fun _ s6 _ => (intOf s6 + 1).toNat)
  case atStart => exact ⟨List.replicate a.length 0, a.length, 0, rfl, rfl, Nat.le_refl _, by simp, Dg.replicate _, by omega, by omega, by simp [val], hout, hc0⟩
  case round =>
    obtain ⟨o, k, r, rfl, rfl, hk, hol, hdo, hr0, hr1, hval, hblk, hch⟩ := hrel
    have HV := Lib.hid hval
    have HOL := Lib.hid hol
    clear hval hol
    by_cases hk0 : k = 0
    · have hv := HV.out
      subst hk0
      simp only [List.drop_zero] at hv
      have hD := DgAt.ofOut (cap := a.length) hblk hdo (by have := HOL.out; omega) (by have := HOL.out; omega)
      rw [HOL.out] at hD
      have htr := ref_trim _ o wr hD
      have e1 : val o = val a / 2 := by omega
      have e2 : r = val a % 2 := by omega
      rw [e1] at htr
      have E2 := Lib.hid e2
      clear hv e1 e2 HV
      go_wp2_with (go_at_call 143; refine htr.mono ?_; rintro e w9 ⟨u, rfl, hu, huv, rfl⟩)
      go_ret2
      exact ⟨u, by rw [E2.out]; rfl, hu, fun k hk => by obtain ⟨o', n', c', e⟩ := huv k hk; cases e; have := hs'.out; omega, hch⟩
    · obtain ⟨j, rfl⟩ : ∃ j, k = j + 1 := ⟨k - 1, by omega⟩
      have hm1 : ((j + 1 : Nat) : Int) - 1 = (j : Int) := by omega
      simp only [hm1]
      clear hm1 hk0
      have ha2 := ha.same hch
      obtain ⟨b, off, rfl, hc⟩ := ha2.sl.cell (i := j) (by omega)
      have hd := ha.dg a[j] (List.getElem_mem _)
      have hdr := Lib.hid (drop_cons (l := a) (i := j) (by omega))
      have hjo : j < o.length := by have := HOL.out; omega
      have c0 := hblk.cell j (arrU_get hjo)
      have f0 := hblk.free j
      generalize a[j] = x at hc hd hdr
      generalize o[j] = y at c0
      have hq0 : 0 ≤ r * 65536 + x := by omega
      have hq1 : r * 65536 + x ≤ 131071 := by omega
      have hj2 : (j : Int) < a.length := by omega
      have hjl : j < a.length := by omega
      have hj3 : (j : Int) ≤ 100000 := by omega
      clear hk hlen
      go_wp2
      have hb2 := hblk.outSet j ((r * 65536 + x) / 2)
      have hch2 : Chg [] w (wr.setCell ⟨s, j, none⟩ (.int .u64 ((r * 65536 + x) / 2))) := hch.setCell (.inr (by have := hs'.out; simp; omega)) _
      go_roundw
      case rel =>
        refine ⟨_, j, (r * 65536 + x) % 2, rfl, rfl, by omega, by rw [List.length_set]; exact HOL.out, hdo.set (by omega) (by omega), by omega, by omega, ?_, hb2, hch2⟩
        rw [drop_set_cons _ hjo, hdr.out, val, val]
        have := HV.out
        omega
      case measure => simp [intOf]

/-- a number's bits, the lowest first. -/
def bitsOf (n : Nat) : List Int := if n = 0 then [] else ((n % 2 : Nat) : Int) :: bitsOf (n / 2)
termination_by n
decreasing_by omega
theorem bitsOf_zero : bitsOf 0 = [] := by rw [bitsOf, if_pos rfl]
theorem bitsOf_pos {n : Nat} (h : n ≠ 0) : bitsOf n = ((n % 2 : Nat) : Int) :: bitsOf (n / 2) := by rw [bitsOf, if_neg h]
theorem blen_half {n : Nat} (h : n ≠ 0) : blen n = blen (n / 2) + 1 := by
  have h1 : n / 2 < 2 ^ blen (n / 2) := lt_blen _
  have h2 : blen n ≤ blen (n / 2) + 1 := blen_le.2 (by rw [Nat.pow_succ]; omega)
  have h3 : ¬ blen n ≤ blen (n / 2) := by
    rw [blen_le]
    by_cases h0 : n / 2 = 0
    · rw [h0, blen_zero]; omega
    · have h4 := blen_ge h0
      have h5 := blen_pos h0
      have h6 : 2 ^ blen (n / 2) = 2 ^ (blen (n / 2) - 1) * 2 := by rw [← Nat.pow_succ]; congr 1; omega
      omega
  omega
theorem bitsOf_length (n : Nat) : (bitsOf n).length = blen n := by
  induction n using Nat.strongRecOn with
  | _ n ih =>
    by_cases h : n = 0
    · subst h; rw [bitsOf_zero]; rfl
    · rw [bitsOf_pos h, List.length_cons, ih (n / 2) (by omega), blen_half h]
theorem bitsOf_get (n : Nat) : ∀ (j : Nat) (h : j < (bitsOf n).length), (bitsOf n)[j] = ((n / 2 ^ j % 2 : Nat) : Int) := by
  induction n using Nat.strongRecOn with
  | _ n ih =>
    intro j h
    by_cases h0 : n = 0
    · subst h0; simp [bitsOf_zero] at h
    · simp only [bitsOf_pos h0] at h ⊢
      cases j with
      | zero => simp
      | succ j =>
        simp only [List.getElem_cons_succ]
        rw [ih (n / 2) (by omega) j (by simpa using h), Nat.div_div_eq_div_mul, Nat.pow_succ, Nat.mul_comm 2]

theorem ref_HalfN (va : Value) (n : Nat) (w : World) (ha : NAt w va n) :
    Calls Try.prog 147 #[va] w fun e w' => ∃ v, e = .returned (.tuple #[v, .int .u64 ((n % 2 : Nat) : Int)]) ∧ NAt w' v (n / 2) ∧ (∀ k, inBlk v k → w.heap.size ≤ k) ∧ Chg [] w w' :=
  (ref_Half va (digs n) w ha).mono fun e w' ⟨v, he, hv, hf, hc⟩ => by
    rw [val_digs] at he hv
    refine ⟨v, he, ?_, hf, hc⟩
    rwa [show ((n : Int) / 2).toNat = n / 2 by omega] at hv
theorem digs_ne {n : Nat} (h : n ≠ 0) : 0 < (digs n).length := by rw [digs_pos h]; simp
theorem NAt.grown {w w' : World} {v : Value} {m : Nat} {row : Option Nat} (h : NAt w v m) (hg : w.grownBy w' row) (hr : ∀ b, inBlk v b → row ≠ some b) : NAt w' v m :=
  DgAt.chg h (S := row.toList) ((Chg.refl _ _).grown hg (fun k e => .inl (by simp [e]))) (fun b hb hi => hr b hi (by simpa using hb))
theorem ownsRow_lt {w : World} {n₀ : Nat} {e : TypeId} {sz : Nat} {v : Value} {k : Nat} {xs : List Value} (h : w.ownsRow n₀ e sz v k xs) {g : Nat} (hg : v.ownBlock = some g) : g < w.heap.size := by
  rcases h.2 with ⟨rfl, _⟩ | ⟨g', cap, cur, rfl, hb, hgb, _⟩
  · cases hg
  · simp [Value.ownBlock] at hg; subst hg; exact (Array.getElem?_eq_some_iff.1 hgb).1
def lenOf : Value → Nat
  | .slice _ k _ => k
  | _ => 0
theorem ownsRow_len {w : World} {n₀ : Nat} {e : TypeId} {sz : Nat} {v : Value} {k : Nat} {xs : List Value} (h : w.ownsRow n₀ e sz v k xs) : lenOf v = k := by
  rcases h.2 with ⟨rfl, h0⟩ | ⟨g, cap, cur, rfl, _⟩
  · exact h0.symm
  · rfl

set_option maxRecDepth 100000 in
set_option maxHeartbeats 2000000 in
theorem ref_Bits (va : Value) (n : Nat) (w : World) (ha : NAt w va n) (hb : blen n ≤ 20000) :
    Calls Try.prog 106 #[va] w fun e w' => ∃ v, e = .returned v ∧ SlI w' .u64 v (bitsOf n) ∧ (∀ k, inBlk v k → w.heap.size ≤ k) ∧ Chg [] w w' := by
  obtain ⟨i0, hi, hz0, hz1, hz2⟩ := info_parts infoU
  have hbl := bitsOf_length n
  have hrow0 := ownsRow_empty w w.heap.size 23 (Nat.le_refl _)
  have hc0 : Chg [] w (w.alloc (.cells #[] 23)) := (Chg.refl [] w).alloc _
  have hsp : ∃ done : List Int, bitsOf n = done ++ bitsOf n := ⟨[], rfl⟩
  go_enter Try.func106, Try.ntmps106
  go_wp2
  have hN : NAt (w.alloc (.cells #[] 23)) va n := ha.same hc0
  generalize w.alloc (.cells #[] 23) = w0 at hrow0 hc0 hN ⊢
  obtain ⟨s, hs⟩ : ∃ s, s = w.heap.size := ⟨_, rfl⟩
  have hs' := Lib.hid hs
  have HB := Lib.hid hbl
  simp only [← hs] at hrow0 ⊢
  clear hs hbl ha hsp
  go_loopw [0, 3] (fun s0 s3 wr => ∃ (m : Nat) (done : List Int), bitsOf n = done ++ bitsOf m ∧ NAt wr s0 m ∧ wr.ownsRow s 23 1 s3 done.length (done.map (Value.int .u64)) ∧ Chg [] w wr) (fun _ s3 _ => blen n - lenOf s3)
  case atStart => exact ⟨n, [], rfl, hN, hrow0, hc0⟩
  case round =>
    clear hN hrow0
    obtain ⟨m, done, hsp, hN, hrow, hch⟩ := hrel
    have HSP := Lib.hid hsp
    have hdl : done.length + blen m = blen n := by rw [← HB.out, hsp, List.length_append, bitsOf_length]
    obtain ⟨aa, ac, rfl⟩ := hN.sl.len
    have hol := Lib.hid (ownsRow_len hrow)
    by_cases hm : m = 0
    · subst hm
      have hv := HSP.out
      rw [bitsOf_zero, List.append_nil] at hv
      rw [← hv] at hrow
      obtain ⟨h1, h2⟩ := SlI.of_own (kq := .u64) (l := bitsOf n) hrow
      simp only [digs_zero, List.length_nil] at *
      clear hsp hv HB hdl
      go_wp2
      go_ret
      exact ⟨_, rfl, h1, fun k hk => by have := h2 k hk; have := hs'.out; omega, hch⟩
    · have hpos := digs_ne hm
      have hb2 := bitsOf_pos hm
      have hbm := blen_pos hm
      have hhalf := ref_HalfN _ m wr hN
      have hnew : bitsOf n = (done ++ [((m % 2 : Nat) : Int)]) ++ bitsOf (m / 2) := by rw [hsp, hb2]; simp
      have HNEW := Lib.hid hnew
      have hdl2 : done.length < 20000 := by omega
      have HDL := Lib.hid hdl
      have HBM := Lib.hid hbm
      clear hsp hb2 hnew hm hdl hbm
      generalize (digs m).length = L at hpos hhalf
      go_wp2_with fail
      refine hhalf.mono ?_
      rintro e w5 ⟨v5, rfl, hN5, hf5, hc5⟩
      have hch5 := hch.trans hc5 (by simp)
      have hrow5 := ownsRow_chg' hrow hc5 (by simp)
      generalize m % 2 = β at HNEW
      go_wp2_with (first
        | (at_builtin; refine wpList_append_own_at _ rfl _ _ 22 rfl s 23 i0 (.int .u64 0) 1 8 Try.underlying22 hi hz0 hz1 hz2 rfl (by decide) _ _ _ rfl (hrow5.alloc _) ⟨w5.heap.size, 0, none⟩ 1 1 [.int .u64 (β : Int)] rfl rfl (cell_one_new _ _ _) (by simp [Value.oneCell']) (by unfold maxLen; omega) (by omega) (by have := hch5.size; have := hs'.out; simp; omega) ?_; intro v' w10 hown' hgrow hnil' hloc)
        | go_in)
      have hc10 := chg_app hch5 (by rw [hs'.out]; exact Nat.le_refl _) hrow5 hgrow
      have hol2 := ownsRow_len hown'
      go_roundw
      case rel =>
        refine ⟨m / 2, done ++ [(β : Int)], HNEW.out, ?_, by simpa using hown', hc10⟩
        refine NAt.grown (NAt.same hN5 ((Chg.refl [] w5).alloc _)) hgrow (fun b hb e => ?_)
        have h1 := hf5 b hb
        have h2 := ownsRow_lt hrow e
        omega
      case measure => rw [hol.out, hol2]; have := HDL.out; have := HBM.out; omega
end Go.Proofs.Ytbagkfeodjkdmaa

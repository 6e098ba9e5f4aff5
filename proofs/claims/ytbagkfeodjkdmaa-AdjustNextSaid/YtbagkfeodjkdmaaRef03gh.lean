import Derived.Test.YtbagkfeodjkdmaaRef03e
import Derived.IntWalk
import Derived.Test.YtbagkfeodjkdmaaWideB

/- pontageref03: Mul. -/
namespace Go.Proofs.Ytbagkfeodjkdmaa
open Go.RowKit Go.Maps Go.Shelf

theorem val_set : ∀ (o : List Int) (j : Nat) (z : Int), j < o.length → val (o.set j z) = val o + pw j * (z - dig o j)
  | [], j, z, h => by simp at h
  | d :: t, 0, z, h => by simp [val, dig, pw]; omega
  | d :: t, j + 1, z, h => by
    have := val_set t j z (by simpa using h)
    have e : dig (d :: t) (j + 1) = dig t j := by simp [dig]
    rw [List.set_cons_succ, val, val, this, e, pw, Int.mul_add, Int.mul_assoc]; omega
theorem dig_set {o : List Int} {j : Nat} {z : Int} {i : Nat} (h : i ≠ j) : dig (o.set j z) i = dig o i := by
  unfold dig; rw [List.getD_eq_getElem?_getD, List.getD_eq_getElem?_getD, List.getElem?_set_ne (Ne.symm h)]
theorem pw_mono {m n : Nat} (h : m ≤ n) : pw m ≤ pw n := by
  induction n with
  | zero => rw [show m = 0 by omega]; exact Int.le_refl _
  | succ n ih =>
    by_cases e : m = n + 1
    · rw [e]; exact Int.le_refl _
    · have := ih (by omega); have := pw_pos n; rw [pw]; omega
theorem dig_zero {o : List Int} (hd : Dg o) {j : Nat} (h : val o < pw j) {i : Nat} (hi : j ≤ i) : dig o i = 0 := by
  by_cases hl : i < o.length
  · have h1 := val_drop o i
    have h2 := val_nonneg (hd.take i)
    have h3 : val (o.drop i) = o[i] + 65536 * val (o.drop (i + 1)) := by rw [List.drop_eq_getElem_cons hl, val]
    have h4 : 0 ≤ val (o.drop (i + 1)) := val_nonneg (fun x hx => hd x (List.mem_of_mem_drop hx))
    have h5 := hd o[i] (List.getElem_mem _)
    rw [dig_lt hl]
    rcases Int.lt_or_le 0 o[i] with h6 | h6
    · exfalso
      have h7 : pw i * 1 ≤ pw i * val (o.drop i) := Int.mul_le_mul_of_nonneg_left (by omega) (Int.le_of_lt (pw_pos i))
      have h8 := pw_mono hi
      omega
    · omega
  · exact dig_ge (by omega)
theorem mul_step {vo2 P y c x d vo Pi vb z q P1 : Int} (h : vo2 + P * c = vo + Pi * (x * vb)) (hP : P * (x * d) = Pi * (x * (P1 * d))) (hz : c + y + x * d = z + 65536 * q) :
    vo2 + P * (z - y) + 65536 * P * q = vo + Pi * (x * (vb + P1 * d)) := by
  have e1 : P * (z - y) + 65536 * P * q = P * (c + x * d) := by
    rw [show c + x * d = (z - y) + 65536 * q by omega, Int.mul_add P, ← Int.mul_assoc P 65536 q, Int.mul_comm P 65536]
  have e2 : x * (vb + P1 * d) = x * vb + x * (P1 * d) := Int.mul_add _ _ _
  rw [e2, Int.mul_add Pi, ← hP, Int.add_assoc, e1, Int.mul_add]
  omega

set_option maxRecDepth 100000 in
set_option maxHeartbeats 8000000 in
theorem ref_Mul (va vb : Value) (a b : List Int) (w : World) (ha : DgAt w va a) (hb : DgAt w vb b) (h1 : a.length ≤ 1000) (h2 : b.length ≤ 1000) :
    Calls Try.prog 104 #[va, vb] w fun e w' => ∃ v, e = .returned v ∧ NAt w' v (val a * val b).toNat ∧ (∀ k, inBlk v k → w.heap.size ≤ k) ∧ Chg [] w w' := by
  obtain ⟨aa, ac, rfl⟩ := ha.sl.len
  obtain ⟨ba, bc, rfl⟩ := hb.sl.len
  obtain ⟨L, hL⟩ : ∃ L, L = a.length + b.length + 1 := ⟨_, rfl⟩
  have hmk : ∀ w, (Instr.makeSlice 86 (.int .i64 ((a.length : Int) + (b.length : Int) + 1)) (.int .i64 ((a.length : Int) + (b.length : Int) + 1))).run Try.prog w = .ok (.slice (some ⟨w.heap.size, 0, none⟩) L L) (w.alloc (.cells (madeCells #[.int .u64 0] L) 23)) := fun w => by
    have h := run_make_row' (P := Try.prog) 86 23 (.int .u64 0) 8 Try.underlying86 infoU' rfl .i64 .i64 L (by omega) (by omega) w
    rwa [show (L : Int) = (a.length : Int) + (b.length : Int) + 1 by omega] at h
  have hout := Blk.outNew w L
  have hc0 : Chg [] w (w.alloc (.cells (madeCells #[.int .u64 0] L) 23)) := (Chg.refl _ _).alloc _
  have HL := Lib.hid hL
  clear hL
  go_enter Try.func104, Try.ntmps104
  go_wp2
  generalize w.alloc (.cells (madeCells #[.int .u64 0] L) 23) = w0 at hout hc0 ⊢
  obtain ⟨g, hg⟩ : ∃ g, g = w.heap.size := ⟨_, rfl⟩
  have hg' := Lib.hid hg
  simp only [← hg] at hout ⊢
  clear hg hmk
  have hL1 : L ≤ 2001 := by have := HL.out; omega
  go_loopw [19] (fun s19 wr => ∃ (i : Nat) (o : List Int), s19 = .int .i64 i ∧ i ≤ a.length ∧ Hid (o.length = L ∧ Dg o ∧ val o = val (a.take i) * val b) ∧ Blk wr g (arrU o) 23 ∧ Chg [] w wr) (fun s19 _ => a.length - (intOf s19).toNat)
  case atStart => exact ⟨0, List.replicate L 0, rfl, Nat.zero_le _, Lib.hid ⟨by simp, Dg.replicate _, by
    have : ∀ n, val (List.replicate n 0) = 0 := fun n => by
      induction n with
      | zero => rfl
      | succ n ih => rw [List.replicate_succ, val, ih]; rfl
    rw [this]; simp [val]⟩, hout, hc0⟩
  case round =>
    clear hout hc0
    obtain ⟨i, o, rfl, hi, HO, hblk, hch⟩ := hrel
    by_cases hlt : i < a.length
    · obtain ⟨ba', off, e', hca⟩ := (ha.same hch).sl.cell hlt
      subst e'
      have hx := ha.dg a[i] (List.getElem_mem _)
      have hxi := Lib.hid (show a[i] = dig a i from (dig_lt hlt).symm)
      generalize a[i] = x at hca hx hxi
      have hib : val o < pw (i + b.length) := by
        rw [HO.out.2.2, pw_add]
        have h3 := val_lt (ha.dg.take i)
        rw [List.length_take, Nat.min_eq_left (by omega)] at h3
        have h4 := val_lt hb.dg
        have h5 := val_nonneg (ha.dg.take i)
        have h6 := val_nonneg hb.dg
        have h7 : val (a.take i) * val b ≤ val (a.take i) * pw b.length := Int.mul_le_mul_of_nonneg_left (by omega) h5
        have h8 : val (a.take i) * pw b.length < pw i * pw b.length := Int.mul_lt_mul_of_pos_right h3 (pw_pos _)
        omega
      have HZ := Lib.hid (fun j (hj : i + b.length ≤ j) => dig_zero HO.out.2.1 hib hj)
      clear hib
      have hi2 : (i : Int) < a.length := by omega
      have hi3 : (i : Int) ≤ 1000 := by omega
      have HI := Lib.hid hi
      have HLT := Lib.hid hlt
      clear hi hlt
      go_wp2
      go_loopw [8, 9] (fun s8 s9 wr2 => ∃ (k : Nat) (c : Int) (p : List Int), s8 = .int .u64 c ∧ s9 = .int .i64 k ∧ 0 ≤ c ∧ c ≤ 65535 ∧ Hid ((k ≤ b.length ∨ (k = b.length + 1 ∧ c = 0)) ∧ p.length = L ∧ Dg p ∧ val p + pw (i + k) * c = val o + pw i * (x * val (b.take k)) ∧ ∀ j, i + k ≤ j → dig p j = dig o j) ∧ Blk wr2 g (arrU p) 23 ∧ Chg [] w wr2) (fun _ s9 _ => b.length + 2 - (intOf s9).toNat)
      case atStart => exact ⟨0, 0, o, rfl, rfl, by omega, by omega, Lib.hid ⟨.inl (Nat.zero_le _), HO.out.1, HO.out.2.1, by simp [val], fun _ _ => rfl⟩, hblk, hch⟩
      case round =>
        clear hblk hch
        obtain ⟨k, c, p, rfl, rfl, hc0, hc1, HP, hblk, hch⟩ := hrel
        by_cases hgo : k < b.length ∨ 0 < c
        · have hkb : k ≤ b.length := by rcases HP.out.1 with h | h <;> omega
          have hdg := ref_digit ba bc b k
          have hd := dig_bound hb.dg k
          have HD0 := Lib.hid (fun h : b.length ≤ k => dig_ge h)
          have HTK := Lib.hid (val_take_succ b k)
          generalize dig b k = d at hdg hd HD0 HTK
          have hjl : i + k < p.length := by have := HP.out.2.1; have := HL.out; have := HLT.out; omega
          have c0 := hblk.cell (i + k) (arrU_get hjl)
          have f0 := hblk.free (i + k)
          have hy := HP.out.2.2.1 p[i + k] (List.getElem_mem _)
          have HY := Lib.hid (show dig p (i + k) = p[i + k] from dig_lt hjl)
          generalize p[i + k] = y at c0 hy HY
          have hm1 : x * d ≤ 65535 * 65535 := by
            have h3 : x * d ≤ x * 65535 := Int.mul_le_mul_of_nonneg_left (by omega) hx.1
            omega
          have hm0 : 0 ≤ x * d := Int.mul_nonneg hx.1 hd.1
          obtain ⟨xd, hxd⟩ : ∃ xd, xd = x * d := ⟨_, rfl⟩
          rw [← hxd] at hm1 hm0
          have hw1 : IntKind.u64.wrap (x * d) = xd := by rw [← hxd, IntKind.wrap_u64]; omega
          have HXD := Lib.hid hxd
          clear hxd
          have hw2 : IntKind.u64.wrap (c + y) = c + y := by rw [IntKind.wrap_u64]; omega
          have hw3 : IntKind.u64.wrap (c + y + xd) = c + y + xd := by rw [IntKind.wrap_u64]; omega
          have hik2 : (i : Int) + (k : Int) < L := by have := HL.out; have := HLT.out; omega
          have hik0 : (0 : Int) ≤ (i : Int) + (k : Int) := by omega
          have hik3 : IntKind.i64.wrap ((i : Int) + (k : Int)) = (i : Int) + (k : Int) := IntWalk.i64_in _ (by omega)
          have hik4 : ((i : Int) + (k : Int)).toNat = i + k := by omega
          have hk3 : (k : Int) ≤ 1000 := by omega
          have q0 : 0 ≤ c + y + xd := by omega
          have q1 : c + y + xd ≤ 4294967295 := by omega
          have hbW := fun W (hW : Chg [] w W) => (hb.same hW).sl
          have hdq : ∀ n, Calls Try.prog 142 #[.slice ba b.length bc, .int .i64 k] (wr.drewN n) fun e w'' => e = .returned (.int .u64 d) ∧ ∃ m, w'' = wr.drewN m := fun n =>
            (hdg _ (hbW _ (hch.drewN n))).mono fun e w' ⟨he, hw⟩ => ⟨he, n, hw⟩
          have hcw := hch.drewN
          clear hbW hdg hkb
          by_cases hA : k < b.length
          · have HA := Lib.hid hA
            go_wp2
            go_quiet ((go_at_call 142; exact hdq _))
            go_wp2
            have hch2 : Chg [] w ((wr.drewN nq).setCell ⟨g, i + k, none⟩ (.int .u64 ((c + y + xd) % 65536))) := (hcw nq).setCell (.inr (by have := hg'.out; simp; omega)) _
            have hb2 := (hblk.drewN nq).outSet (i + k) ((c + y + xd) % 65536)
            go_roundw
            case rel =>
              refine ⟨k + 1, (c + y + xd) / 65536, p.set (i + k) ((c + y + xd) % 65536), rfl, by simp, by omega, by omega, Lib.hid ⟨.inl (by have := HA.out; omega), by rw [List.length_set]; exact HP.out.2.1, HP.out.2.2.1.set (by omega) (by omega), ?_, fun j hj => by rw [dig_set (by omega)]; exact HP.out.2.2.2.2 j (by omega)⟩, hb2, hch2⟩
              rw [val_set _ _ _ hjl, HY.out, show i + (k + 1) = (i + k) + 1 by omega, pw, HTK.out]
              exact mul_step HP.out.2.2.2.1 (by rw [pw_add, Int.mul_assoc]; congr 1; rw [← Int.mul_assoc, ← Int.mul_assoc, Int.mul_comm (pw k)]) (by rw [← HXD.out]; omega)
            case measure => simp [intOf]; omega
          · have h0c : 0 < c := by omega
            have HA := Lib.hid hA
            have hkl : k = b.length := by rcases HP.out.1 with h | h <;> omega
            have hz : (c + y + xd) / 65536 = 0 := by
              have e1 := HD0.out (by omega)
              have e2 := HP.out.2.2.2.2 (i + k) (by omega)
              rw [HY.out, HZ.out (i + k) (by omega)] at e2
              have e3 := HXD.out
              rw [e1, Int.mul_zero] at e3
              omega
            have HKL := Lib.hid hkl
            have HZZ := Lib.hid hz
            clear hkl hz
            go_wp2
            go_quiet ((go_at_call 142; exact hdq _))
            go_wp2
            have hch2 : Chg [] w ((wr.drewN nq).setCell ⟨g, i + k, none⟩ (.int .u64 ((c + y + xd) % 65536))) := (hcw nq).setCell (.inr (by have := hg'.out; simp; omega)) _
            have hb2 := (hblk.drewN nq).outSet (i + k) ((c + y + xd) % 65536)
            go_roundw
            case rel =>
              refine ⟨k + 1, (c + y + xd) / 65536, p.set (i + k) ((c + y + xd) % 65536), rfl, by simp, by omega, by omega, Lib.hid ⟨.inr ⟨by have := HKL.out; omega, HZZ.out⟩, by rw [List.length_set]; exact HP.out.2.1, HP.out.2.2.1.set (by omega) (by omega), ?_, fun j hj => by rw [dig_set (by omega)]; exact HP.out.2.2.2.2 j (by omega)⟩, hb2, hch2⟩
              rw [val_set _ _ _ hjl, HY.out, show i + (k + 1) = (i + k) + 1 by omega, pw, HTK.out]
              exact mul_step HP.out.2.2.2.1 (by rw [pw_add, Int.mul_assoc]; congr 1; rw [← Int.mul_assoc, ← Int.mul_assoc, Int.mul_comm (pw k)]) (by rw [← HXD.out]; omega)
            case measure => have := HKL.out; simp [intOf]; omega
        · obtain ⟨h3, h4⟩ : b.length ≤ k ∧ c = 0 := by omega
          subst h4
          have hv := HP.out.2.2.2.1
          rw [List.take_of_length_le h3, Int.mul_zero, Int.add_zero] at hv
          have hv2 : val p = val (a.take (i + 1)) * val b := by
            rw [hv, HO.out.2.2, val_take_succ, ← hxi.out, Int.add_mul, Int.mul_assoc]
          have HV2 := Lib.hid hv2
          clear hv hv2
          go_wp2
          go_roundw
          case rel => exact ⟨i + 1, p, by simp, by have := HLT.out; omega, Lib.hid ⟨HP.out.2.1, HP.out.2.2.1, HV2.out⟩, hblk, hch⟩
          case measure => simp [intOf]; omega
    · obtain rfl : i = a.length := by omega
      have hv := HO.out.2.2
      rw [List.take_length] at hv
      have hD := DgAt.ofOut (cap := L) hblk HO.out.2.1 (by have := HO.out.1; omega) (by have := HO.out.1; omega)
      rw [HO.out.1] at hD
      have htr := ref_trim _ o wr hD
      rw [hv] at htr
      clear hv hD
      go_wp2_with (go_at_call 143; refine htr.mono ?_; rintro e w9 ⟨u, rfl, hu, huv, rfl⟩)
      go_ret
      exact ⟨u, rfl, hu, fun k hk => by obtain ⟨o', n', c', e⟩ := huv k hk; cases e; have := hg'.out; omega, hch⟩
theorem ref_MulN (va vb : Value) (n m : Nat) (w : World) (ha : NAt w va n) (hb : NAt w vb m) (h1 : blen n ≤ 8000) (h2 : blen m ≤ 8000) :
    Calls Try.prog 104 #[va, vb] w fun e w' => ∃ v, e = .returned v ∧ NAt w' v (n * m) ∧ (∀ k, inBlk v k → w.heap.size ≤ k) ∧ Chg [] w w' :=
  (ref_Mul va vb _ _ w ha hb (by have := digs_blen n; omega) (by have := digs_blen m; omega)).mono fun e w' ⟨v, he, hv, hf, hc⟩ => by
    rw [val_digs, val_digs, ← Int.natCast_mul, Int.toNat_natCast] at hv
    exact ⟨v, he, hv, hf, hc⟩
end Go.Proofs.Ytbagkfeodjkdmaa

/- pontageref03: Words (its lowest word). -/
namespace Go.Proofs.Ytbagkfeodjkdmaa
open Go.RowKit Go.Maps Go.Shelf

def WordsPost (a : List Int) (w : World) (e : Ending) (w' : World) : Prop := ∃ (x0 x1 x2 x3 : Int) (f : Bool), e = .returned (.tuple #[V4 x0 x1 x2 x3, .bool f]) ∧ x0 = val (a.take 4) ∧ Chg [] w w'
set_option maxRecDepth 100000 in
set_option maxHeartbeats 8000000 in
theorem ref_Words (va : Value) (a : List Int) (w : World) (ha : DgAt w va a) :
    Calls Try.prog 107 #[va] w (WordsPost a w) := by
  obtain ⟨aa, ac, rfl⟩ := ha.sl.len
  have hlen := ha.len
  have hb2 := (Blk.new w #[.int .u64 0, .int .u64 0, .int .u64 0, .int .u64 0] 92).alloc (.cells #[.int .u64 0, .int .u64 0, .int .u64 0, .int .u64 0] 92)
  have hb4 := Blk.new (w.alloc (.cells #[.int .u64 0, .int .u64 0, .int .u64 0, .int .u64 0] 92)) #[.int .u64 0, .int .u64 0, .int .u64 0, .int .u64 0] 92
  have hc0 : Chg [] w ((w.alloc (.cells #[.int .u64 0, .int .u64 0, .int .u64 0, .int .u64 0] 92)).alloc (.cells #[.int .u64 0, .int .u64 0, .int .u64 0, .int .u64 0] 92)) := (by repeat (first | exact Chg.refl _ _ | refine Chg.alloc ?_ _ | refine Chg.drew ?_ | refine Chg.drewN ?_ _ | refine Chg.setCell ?_ (.inr (by simp)) _))
  simp only [World.size_alloc] at hb4
  go_enter Try.func107, Try.ntmps107
  go_wp2
  generalize (w.alloc (.cells #[.int .u64 0, .int .u64 0, .int .u64 0, .int .u64 0] 92)).alloc (.cells #[.int .u64 0, .int .u64 0, .int .u64 0, .int .u64 0] 92) = w0 at hb2 hb4 hc0 ⊢
  go_loopw [5] (fun s5 wr => ∃ (k : Nat) (x0 x1 x2 x3 : Int), s5 = .int .i64 k ∧ k ≤ 16 ∧ Hid (x0 = val (a.take (min k 4))) ∧ Blk wr (w.heap.size + 1) #[.int .u64 x0, .int .u64 x1, .int .u64 x2, .int .u64 x3] 92 ∧ Blk wr w.heap.size #[.int .u64 0, .int .u64 0, .int .u64 0, .int .u64 0] 92 ∧ Chg [] w wr) (fun s5 _ => 16 - (intOf s5).toNat)
  case atStart => exact ⟨0, 0, 0, 0, 0, rfl, by omega, Lib.hid (by simp [val]), hb4, hb2, hc0⟩
  case round =>
    clear hb2 hb4 hc0
    obtain ⟨k, x0, x1, x2, x3, rfl, hk, HX, hb4, hb2, hch⟩ := hrel
    by_cases hgo : k < 16 ∧ k < a.length
    · obtain ⟨hk1, hk2⟩ := hgo
      obtain ⟨b, off, rfl, hca⟩ := (ha.same hch).sl.cell hk2
      have hd := ha.dg a[k] (List.getElem_mem _)
      have HD := Lib.hid (show a[k] = dig a k from (dig_lt hk2).symm)
      generalize a[k] = d at hca hd HD
      have hts := Lib.hid (val_take_succ a k)
      have hx0 : 0 ≤ x0 ∧ x0 < pw (min k 4) := by
        rw [HX.out]
        have h3 := val_lt (ha.dg.take (min k 4))
        have h4 := val_nonneg (ha.dg.take (min k 4))
        have h5 : pw (a.take (min k 4)).length ≤ pw (min k 4) := by
          have : ∀ m n, m ≤ n → pw m ≤ pw n := by
            intro m n hmn
            induction n with
            | zero => rw [show m = 0 by omega]; exact Int.le_refl _
            | succ n ih =>
              by_cases e : m = n + 1
              · rw [e]; exact Int.le_refl _
              · have := ih (by omega); have := pw_pos n; rw [pw]; omega
          exact this _ _ (by rw [List.length_take]; omega)
        exact ⟨h4, by omega⟩
      have HK1 := Lib.hid hk1
      by_cases h4 : k < 4
      · have hcs : k = 0 ∨ k = 1 ∨ k = 2 ∨ k = 3 := by omega
        rcases hcs with rfl | rfl | rfl | rfl
        · have hx2 : x0 < 1 := by have := hx0.2; simp [pw] at this; omega
          rw [Nat.add_zero] at hca
          have hx1 := hx0.1
          have HNX := Lib.hid (show x0 + d = val (a.take (min (0 + 1) 4)) by rw [show min (0 + 1) 4 = 0 + 1 from rfl, hts.out, ← HD.out]; have := HX.out; rw [show min 0 4 = 0 from rfl] at this; rw [← this]; simp [pw])
          have c0 := hb4.cell 0 (v := .int .u64 x0) rfl
          have f0 := hb4.free 0
          clear hx0
          go_wp2
          go_region
          all_goals go_wp2
          have hbn := hb4.set 0 (.int .u64 (x0 + d))
          have hch2 : Chg [] w (wr.setCell ⟨w.heap.size + 1, 0, none⟩ (.int .u64 (x0 + d))) := hch.setCell (.inr (by simp)) _
          go_roundw
          case rel => exact ⟨1, x0 + d, x1, x2, x3, rfl, by omega, Lib.hid HNX.out, hbn.drew, (hb2.other (by simp) _).drew, hch2.drew⟩
          case measure => simp [intOf]
        · have hx2 : x0 < 65536 := by have := hx0.2; simp [pw] at this; omega
          have hx1 := hx0.1
          have HNX := Lib.hid (show x0 + d * 65536 = val (a.take (min (1 + 1) 4)) by rw [show min (1 + 1) 4 = 1 + 1 from rfl, hts.out, ← HD.out]; have := HX.out; rw [show min 1 4 = 1 from rfl] at this; rw [← this]; simp [pw]; omega)
          have c0 := hb4.cell 0 (v := .int .u64 x0) rfl
          have f0 := hb4.free 0
          clear hx0
          go_wp2
          go_region
          all_goals go_wp2
          have hbn := hb4.set 0 (.int .u64 (x0 + d * 65536))
          have hch2 : Chg [] w (wr.setCell ⟨w.heap.size + 1, 0, none⟩ (.int .u64 (x0 + d * 65536))) := hch.setCell (.inr (by simp)) _
          go_roundw
          case rel => exact ⟨2, x0 + d * 65536, x1, x2, x3, rfl, by omega, Lib.hid HNX.out, hbn.drew, (hb2.other (by simp) _).drew, hch2.drew⟩
          case measure => simp [intOf]
        · have hx2 : x0 < 4294967296 := by have := hx0.2; simp [pw] at this; omega
          have hx1 := hx0.1
          have HNX := Lib.hid (show x0 + d * 4294967296 = val (a.take (min (2 + 1) 4)) by rw [show min (2 + 1) 4 = 2 + 1 from rfl, hts.out, ← HD.out]; have := HX.out; rw [show min 2 4 = 2 from rfl] at this; rw [← this]; simp [pw]; omega)
          have c0 := hb4.cell 0 (v := .int .u64 x0) rfl
          have f0 := hb4.free 0
          clear hx0
          go_wp2
          go_region
          all_goals go_wp2
          have hbn := hb4.set 0 (.int .u64 (x0 + d * 4294967296))
          have hch2 : Chg [] w (wr.setCell ⟨w.heap.size + 1, 0, none⟩ (.int .u64 (x0 + d * 4294967296))) := hch.setCell (.inr (by simp)) _
          go_roundw
          case rel => exact ⟨3, x0 + d * 4294967296, x1, x2, x3, rfl, by omega, Lib.hid HNX.out, hbn.drew, (hb2.other (by simp) _).drew, hch2.drew⟩
          case measure => simp [intOf]
        · have hx2 : x0 < 281474976710656 := by have := hx0.2; simp [pw] at this; omega
          have hx1 := hx0.1
          have HNX := Lib.hid (show x0 + d * 281474976710656 = val (a.take (min (3 + 1) 4)) by rw [show min (3 + 1) 4 = 3 + 1 from rfl, hts.out, ← HD.out]; have := HX.out; rw [show min 3 4 = 3 from rfl] at this; rw [← this]; simp [pw]; omega)
          have c0 := hb4.cell 0 (v := .int .u64 x0) rfl
          have f0 := hb4.free 0
          clear hx0
          go_wp2
          go_region
          all_goals go_wp2
          have hbn := hb4.set 0 (.int .u64 (x0 + d * 281474976710656))
          have hch2 : Chg [] w (wr.setCell ⟨w.heap.size + 1, 0, none⟩ (.int .u64 (x0 + d * 281474976710656))) := hch.setCell (.inr (by simp)) _
          go_roundw
          case rel => exact ⟨4, x0 + d * 281474976710656, x1, x2, x3, rfl, by omega, Lib.hid HNX.out, hbn.drew, (hb2.other (by simp) _).drew, hch2.drew⟩
          case measure => simp [intOf]
      · have hq : (k : Int) / 4 = 1 ∨ (k : Int) / 4 = 2 ∨ (k : Int) / 4 = 3 := by omega
        have HNX := Lib.hid (show x0 = val (a.take (min (k + 1) 4)) by rw [HX.out, show min (k + 1) 4 = min k 4 by omega])
        have hk3 : (k : Int) < 16 := by omega
        have hm1 : 0 ≤ 16 * ((k : Int) % 4) ∧ 16 * ((k : Int) % 4) ≤ 48 := by omega
        clear hx0
        have hk4 : 4 ≤ (k : Int) := by omega
        rcases hq with hq | hq | hq
        · have c0 := hb4.cell 1 (v := .int .u64 x1) rfl
          have f0 := hb4.free 1
          go_wp2
          go_region
          all_goals go_wp2
          go_roundw
          case rel => exact ⟨k + 1, x0, _, x2, x3, by simp, by omega, Lib.hid HNX.out, (hb4.set 1 (.int .u64 (IntKind.u64.wrap (x1 + IntKind.u64.wrap (d * 2 ^ (16 * (k % 4))))))).drew, (hb2.other (by simp) _).drew, (hch.setCell (.inr (by simp)) _).drew⟩
          case measure => simp [intOf]; omega
        · have c0 := hb4.cell 2 (v := .int .u64 x2) rfl
          have f0 := hb4.free 2
          go_wp2
          go_region
          all_goals go_wp2
          go_roundw
          case rel => exact ⟨k + 1, x0, x1, _, x3, by simp, by omega, Lib.hid HNX.out, (hb4.set 2 (.int .u64 (IntKind.u64.wrap (x2 + IntKind.u64.wrap (d * 2 ^ (16 * (k % 4))))))).drew, (hb2.other (by simp) _).drew, (hch.setCell (.inr (by simp)) _).drew⟩
          case measure => simp [intOf]; omega
        · have c0 := hb4.cell 3 (v := .int .u64 x3) rfl
          have f0 := hb4.free 3
          go_wp2
          go_region
          all_goals go_wp2
          go_roundw
          case rel => exact ⟨k + 1, x0, x1, x2, _, by simp, by omega, Lib.hid HNX.out, (hb4.set 3 (.int .u64 (IntKind.u64.wrap (x3 + IntKind.u64.wrap (d * 2 ^ (16 * (k % 4))))))).drew, (hb2.other (by simp) _).drew, (hch.setCell (.inr (by simp)) _).drew⟩
          case measure => simp [intOf]; omega
    · have HE := Lib.hid (show x0 = val (a.take 4) by
        rw [HX.out]
        by_cases h : a.length ≤ k
        · by_cases h4 : k < 4
          · rw [show min k 4 = k by omega, List.take_of_length_le h, List.take_of_length_le (by omega)]
          · rw [show min k 4 = 4 by omega]
        · rw [show min k 4 = 4 by omega])
      have c0 := hb4.cell 0 (v := .int .u64 x0) rfl
      have c1 := hb4.cell 1 (v := .int .u64 x1) rfl
      have c2 := hb4.cell 2 (v := .int .u64 x2) rfl
      have c3 := hb4.cell 3 (v := .int .u64 x3) rfl
      have d0 := hb2.cell 0 (v := .int .u64 0) rfl
      have d1 := hb2.cell 1 (v := .int .u64 0) rfl
      have d2 := hb2.cell 2 (v := .int .u64 0) rfl
      have d3 := hb2.cell 3 (v := .int .u64 0) rfl
      have f0 := hb2.free 0
      have f1 := hb2.free 1
      have f2 := hb2.free 2
      have f3 := hb2.free 3
      have hbn := (((hb2.set 0 (.int .u64 x0)).set 1 (.int .u64 x1)).set 2 (.int .u64 x2)).set 3 (.int .u64 x3)
      have hcn : Chg [] w ((((wr.setCell ⟨w.heap.size, 0, none⟩ (.int .u64 x0)).setCell ⟨w.heap.size, 1, none⟩ (.int .u64 x1)).setCell ⟨w.heap.size, 2, none⟩ (.int .u64 x2)).setCell ⟨w.heap.size, 3, none⟩ (.int .u64 x3)) := (((hch.setCell (.inr (by simp)) _).setCell (.inr (by simp)) _).setCell (.inr (by simp)) _).setCell (.inr (by simp)) _
      by_cases hk16 : k < 16
      · have hkl : a.length ≤ k := by omega
        go_wp2
        generalize (((wr.setCell ⟨w.heap.size, 0, none⟩ (.int .u64 x0)).setCell ⟨w.heap.size, 1, none⟩ (.int .u64 x1)).setCell ⟨w.heap.size, 2, none⟩ (.int .u64 x2)).setCell ⟨w.heap.size, 3, none⟩ (.int .u64 x3) = W at hbn hcn ⊢
        clear c0 c1 c2 c3 d0 d1 d2 d3 f0 f1 f2 f3
        have d0 := hbn.cell 0 (v := .int .u64 x0) rfl
        have d1 := hbn.cell 1 (v := .int .u64 x1) rfl
        have d2 := hbn.cell 2 (v := .int .u64 x2) rfl
        have d3 := hbn.cell 3 (v := .int .u64 x3) rfl
        exact bodyPost_ret (v := .tuple #[V4 x0 x1 x2 x3, .bool (decide (16 < (a.length : Int)))]) (by simp [results, Try.results107, go_sem, V4, d0, d1, d2, d3]) rfl ⟨x0, x1, x2, x3, _, rfl, HE.out, hcn⟩
      · have hkl : 16 ≤ k := by omega
        go_wp2
        generalize (((wr.setCell ⟨w.heap.size, 0, none⟩ (.int .u64 x0)).setCell ⟨w.heap.size, 1, none⟩ (.int .u64 x1)).setCell ⟨w.heap.size, 2, none⟩ (.int .u64 x2)).setCell ⟨w.heap.size, 3, none⟩ (.int .u64 x3) = W at hbn hcn ⊢
        clear c0 c1 c2 c3 d0 d1 d2 d3 f0 f1 f2 f3
        have d0 := hbn.cell 0 (v := .int .u64 x0) rfl
        have d1 := hbn.cell 1 (v := .int .u64 x1) rfl
        have d2 := hbn.cell 2 (v := .int .u64 x2) rfl
        have d3 := hbn.cell 3 (v := .int .u64 x3) rfl
        exact bodyPost_ret (v := .tuple #[V4 x0 x1 x2 x3, .bool (decide (16 < (a.length : Int)))]) (by simp [results, Try.results107, go_sem, V4, d0, d1, d2, d3]) rfl ⟨x0, x1, x2, x3, _, rfl, HE.out, hcn⟩
end Go.Proofs.Ytbagkfeodjkdmaa

import Derived.Test.YtmkgbinmilcojaaGreatBlock
import Derived.Maps.OwnIn
import Derived.OwnWalk
import Derived.Test.YtmkgbinmilcojaaGreatIter
import Derived.RangeFuncBound
import Derived.Sort.QuietIn

/- slices.Clone, of bytes. -/
namespace Go.Proofs.YtmkgbinmilcojaaGreat
open Go.RowKit Go.Maps

def bytesV (l : List Nat) : List Value := l.map (fun b : Nat => Value.int .u8 (b : Int))
theorem bytesV_len (l : List Nat) : (bytesV l).length = l.length := by simp [bytesV]
theorem bytesV_one (l : List Nat) : ∀ u ∈ bytesV l, u.oneCell' = true := by
  intro u hu
  obtain ⟨b, _, rfl⟩ := List.mem_map.1 hu
  rfl
theorem info_partsB {t : TypeId} {z : Value} {n b : Nat} (h : (Tryz.prog.info? t).map (fun i => (i.zero, i.size, i.bytes)) = some (some z, n, b)) : ∃ i, Tryz.prog.info? t = some i ∧ i.zero = some z ∧ i.size = n ∧ i.bytes = b := by
  cases hq : Tryz.prog.info? t with
  | none => simp [hq] at h
  | some i => simp [hq] at h; exact ⟨i, rfl, h.1, h.2.1, h.2.2⟩
theorem bytes_ne (a : Addr) (n c : Nat) (w : World) : (binOp BinOp.eql 36 (.slice (some a) n c) (.slice none 0 0)).run Tryz.prog w = .ok (.bool false) w := by kernel_rfl
theorem infoByte : (Tryz.prog.info? 5).map (fun i => (i.zero, i.size, i.bytes)) = some (some (.int .u8 0), 1, 1) := by kernel_rfl
set_option maxRecDepth 100000 in
set_option maxHeartbeats 1000000 in
theorem clone_bytes (g off cap : Nat) (l : List Nat) (hn : l.length ≤ 1000000) (w : World) (hp : BytesAt w g off l) (hg : g < w.heap.size) :
    Calls Tryz.prog 95 #[.slice (some ⟨g, off, none⟩) l.length cap] w fun e w' => ∃ v, e = .returned v ∧ w'.ownsRow w.heap.size 5 1 v l.length (bytesV l) ∧ Chg [] w w' := by
  obtain ⟨i0, hi, hz0, hz1, hz2⟩ := info_partsB infoByte
  have hempty : (w.alloc (.cells #[] 5)).ownsRow w.heap.size 5 1 (.slice (some ⟨w.heap.size, 0, none⟩) 0 0) 0 [] :=
    ⟨rfl, .inr ⟨w.heap.size, 0, #[], rfl, Nat.le_refl _, Blk.new w #[] 5, Nat.le_refl _, Nat.zero_le _, rfl, rfl⟩⟩
  have hp2 := hp.chg ((Chg.refl [] w).alloc (.cells #[] 5)) hg (by simp)
  have hcell : ∀ (j : Nat) u, (bytesV l)[j]? = some u → (w.alloc (.cells #[] 5)).cell? ((⟨g, off, none⟩ : Addr).add j) = some u := fun j u hu => by
    rw [show (⟨g, off, none⟩ : Addr).add j = ⟨g, off + j, none⟩ by unfold Addr.add; split <;> simp_all]
    simp only [bytesV, List.getElem?_map, Option.map_eq_some_iff] at hu
    obtain ⟨b, hb, rfl⟩ := hu
    exact hp2.2 j b hb
  have hne := bytes_ne ⟨g, off, none⟩ l.length cap
  go_enter Tryz.func95, Tryz.ntmps95
  go_wp2_with (at_builtin; go_loud (refine wpList_append_own_at _ rfl _ _ 36 rfl w.heap.size 5 i0 (.int .u8 0) 1 1 Tryz.underlying36 hi hz0 hz1 hz2 rfl (by decide) _ 0 [] rfl hempty ⟨g, off, none⟩ l.length cap (bytesV l) rfl (by rw [bytesV_len]; omega) hcell (bytesV_one l) (by unfold maxLen; omega) (by omega) (by simp) ?_); intro v' w1 hown hgrow hnil hloc)
  go_ret
  exact ⟨v', rfl, by simpa using hown, (((Chg.refl [] w).alloc _).grown hgrow (fun k e => .inr (by cases e; exact Nat.le_refl _)))⟩
end Go.Proofs.YtmkgbinmilcojaaGreat

/- slices.Chunk of bytes, by 64. -/
namespace Go.Proofs.YtmkgbinmilcojaaGreat
open Go.RowKit Go.Maps Go.Shelf
attribute [local go_sem] Oper.semAt_some

theorem callsIn_wd {P : Program} {f : FuncId} {args : Array Value} {w : World} {n : Nat} {R : Ending → World → Prop} (h : Calls P f args w R) : CallsIn Fence.wide n P f args w R := callsIn_wide.2 h
/-- the law, with the loop's variables found by unification ('apply Exists.intro'). -/
theorem wpIn_rangeFunc_ex {F : Fence} {n : Nat} {P : Program} {α : Type} {g : Operand} {ps : Array Tmp} {assign body : Code} {Q : Exit → Act → World → Prop} {a : Act} {w : World}
    (hro : F.round = none) (h1 : 1 ≤ n) {gf : Nat} {lb : Array Value} (hg : a.eval g = .func (.func gf) #[] lb) (hFg : F.fn gf) (eg : ∀ args w, (callFunc gf args).run P w = .ok (.enter gf args) w)
    {encs : α → Array Value} {Kp : World → World → Prop} {S Sp : List α → Prop} {N : Nat} {w0 : World} (hseq : SeqStopsK F (n - 1) P gf lb encs Kp S Sp N w0)
    (hKt : ∀ {A B C : World}, Kp A B → Kp B C → Kp A C) (hKb : ∀ (W : World) (l : Nat) (o o' : Obj), w.heap.size ≤ l → W.heap[l]? = some o → o.isCells = false → o.isWalk = false → Kp W (W.putObj l o')) (hb0 : Below w0.heap.size w0 w) (hps : ∀ x, (encs x).size = ps.size)
    (I : List α → World → Prop) (Ix : Code → List α → World → Prop) (hI : OwnFrom w.heap.size I) (hIx : ∀ c, OwnFrom w.heap.size (Ix c)) (h0 : I [] w)
    (hab : ∃ a₁ : α → Act, (∀ (l : Nat) (x : α) (W : World) (K : Act → World → Prop), K (a₁ x) W →
      assign.wpIn (F.inRound l) (n - 1 - 1) P (Exit.then K (fun _ _ _ => False)) { tmps := (ps.zip (encs x)).foldl (fun t (p, v) => t.setIfInBounds p v) a.tmps, defers := [] } W) ∧
      ∀ (l : Nat) (pre : List α) (x : α) (W : World), I pre W → pre.length < N → body.wpIn (F.inRound l) (n - 1 - 1) P (ownPostK Kp I Ix (pre ++ [x]) W) (a₁ x) W)
    (hdone : ∀ (D : Nat) (xs : List α) (W : World), w.heap.size ≤ D → S xs → I xs W → W.heap[D]? = some (.deferred (some [])) → Q .normal { a with defers := { target := .collected D, args := #[] } :: a.defers } W)
    (hstop : ∀ (D : Nat) (c : Code) (pre : List α) (W : World), w.heap.size ≤ D → Sp pre → Ix c pre W → W.heap[D]? = some (.deferred (some [])) → c.wpIn F n P Q { a with defers := { target := .collected D, args := #[] } :: a.defers } W) :
    (Code.rangeFunc g ps assign body).wpIn F n P Q a w := by
  obtain ⟨a₁, h1', h2'⟩ := hab
  exact wpIn_rangeFunc_ownF hro h1 hg hFg eg hseq hKt hKb hb0 hps I Ix hI hIx h0 a₁ h1' h2' hdone hstop
theorem fin_take {M k : Nat} (h : k < M) : (List.finRange M).take (k + 1) = (List.finRange M).take k ++ [⟨k, h⟩] := by
  rw [List.take_succ_eq_append_getElem (by simpa using h)]
  simp
theorem fin_take_all (M : Nat) : (List.finRange M).take M = List.finRange M := List.take_of_length_le (by simp)
theorem addr_at (b o i : Nat) : (⟨b, o, none⟩ : Addr).add i = ⟨b, o + i, none⟩ := by unfold Addr.add; split <;> simp_all
theorem it_fx {Fx : List Nat} {w : World} (h : ∀ k ∈ Fx, k < w.heap.size) : ItPre Fx [] w :=
  ⟨by simp, fun k t => t.elim (h k) (fun t => t.elim (by simp) (fun ⟨B, hB, _⟩ => by cases hB))⟩
theorem tch_fx {Fx : List Nat} {w : World} {k : Nat} : Tch Fx [] w k ↔ k ∈ Fx :=
  ⟨fun t => t.elim id (fun t => t.elim (by simp) (fun ⟨B, hB, _⟩ => by cases hB)), .inl⟩

theorem drewN_grown (W : World) (n : Nat) : W.grownBy (W.drewN n) none := ⟨rfl, rfl, rfl, Nat.le_refl _, fun _ _ _ => rfl⟩
set_option maxRecDepth 100000 in
set_option maxHeartbeats 2000000 in
theorem chunk1 (n : Nat) (hn : 1 ≤ n) (Fx : List Nat) (bs bn g M cap : Nat) (hM : M ≤ 100000) (hcap : 64 * M ≤ cap) (w : World)
    (hb : Blk w bs #[.slice (some ⟨g, 0, none⟩) ((64 * M : Nat)) cap] 36) (hbn : Blk w bn #[.int .i64 64] 3) (t1 : bs ∉ Fx) (t2 : bn ∉ Fx) :
    SeqStopsK Fence.wide n Tryz.prog 129 #[.pointer (some ⟨bs, 0, none⟩), .pointer (some ⟨bn, 0, none⟩)] (fun k : Fin M => #[.slice (some ⟨g, 64 * k.1, none⟩) 64 64]) (Kp Fx []) (fun xs => xs = List.finRange M) (fun _ => True) M w := fun lp J Jx W hW hJ hJx hY h0 => by
  have hc : Chg [] w W := .of_below' hW (Nat.le_refl _)
  have hb' := hb.chg hc (by simp)
  have hbn' := hbn.chg hc (by simp)
  clear hb hbn hc
  refine callsIn_of_wp Tryz.func129 rfl trivial ?_ rfl
  simp only [Tryz.ntmps129, List.size_toArray, List.length_cons, List.length_nil, Nat.reduceAdd, Nat.reduceSub, Array.replicate_succ, Array.replicate_zero, List.push_toArray, List.append_toArray, List.nil_append, List.cons_append]
  gi_wp2
  gi_loopw [4] (fun i wr => ∃ k : Nat, k ≤ M ∧ i = .int .i64 ((64 * k : Nat) : Int) ∧ J ((List.finRange M).take k) wr ∧ Kp Fx [] W wr) (fun i _ => 64 * M - (intOf i).toNat)
  case atStart => exact ⟨0, Nat.zero_le _, rfl, by simpa using h0, Kp.refl _ _ _⟩
  case round =>
    obtain ⟨k, hk, rfl, hJs, hkp⟩ := hrel
    have c0 : wr.cell? ⟨bs, 0, none⟩ = some (.slice (some ⟨g, 0, none⟩) (64 * M) cap) := (hb'.kp hkp (fun t => t1 (tch_fx.1 t))).cell 0 rfl
    have c1 : wr.cell? ⟨bn, 0, none⟩ = some (.int .i64 64) := (hbn'.kp hkp (fun t => t2 (tch_fx.1 t))).cell 0 rfl
    by_cases hlt : k < M
    · gi_wp2
      gi_quiet (fail)
      have hJq := hJ _ wr (wr.drewN nq) none hJs (drewN_grown wr nq) (fun r e => by cases e)
      have hkq : Kp Fx [] W (wr.drewN nq) := ⟨hkp.size, hkp.same, hkp.old, hkp.low⟩
      have d0 : (wr.drewN nq).cell? ⟨bs, 0, none⟩ = some (.slice (some ⟨g, 0, none⟩) (64 * M) cap) := c0
      have d1 : (wr.drewN nq).cell? ⟨bn, 0, none⟩ = some (.int .i64 64) := c1
      clear hJs hkp c0 c1
      generalize wr.drewN nq = wq at *
      obtain ⟨fn, tmps, assign, body, hy, hR⟩ := hY _ ⟨k, hlt⟩ wq hJq (by simp; omega)
      gi_wp2
      refine hR.mono ?_
      rintro e W3 (⟨rfl, hJ3, hk3⟩ | ⟨rfl, hJx3⟩)
      · have d1' : W3.cell? ⟨bn, 0, none⟩ = some (.int .i64 64) := ((hbn'.kp (hkq.trans hk3) (fun t => t2 (tch_fx.1 t))).cell 0 rfl)
        gi_wp2
        go_roundw
        case rel => exact ⟨k + 1, by omega, by simp; omega, by rw [fin_take hlt]; exact hJ3, hkq.trans hk3⟩
        case measure => simp [intOf]; omega
      · gi_wp2
        refine bodyPost_ret (results_none rfl _ _ _) rfl ?_
        exact ⟨⟨_, rfl⟩, .inr ⟨_, trivial, hJx3⟩⟩
    · obtain rfl : k = M := by omega
      gi_wp2
      go_end0
      exact ⟨⟨_, rfl⟩, .inl ⟨_, rfl, by rw [fin_take_all] at hJs; exact hJs⟩⟩

set_option maxHeartbeats 400000 in
theorem slices_Chunk (a : Option Addr) (n c : Nat) (w : World) : Calls Tryz.prog 117 #[.slice a n c, .int .i64 64] w fun e w' => e = .returned (.func (.func 129) #[] #[.pointer (some ⟨w.heap.size, 0, none⟩), .pointer (some ⟨w.heap.size + 1, 0, none⟩)]) ∧ w' = (w.alloc (.cells #[.slice a n c] 36)).alloc (.cells #[.int .i64 64] 3) := by
  go_enter Tryz.func117, Tryz.ntmps117
  have c0 : ((w.alloc (.cells #[.slice a n c] 36)).alloc (.cells #[.int .i64 64] 3)).cell? ⟨w.heap.size + 1, 0, none⟩ = some (.int .i64 64) := (Blk.at (w.alloc (.cells #[.slice a n c] 36)) #[.int .i64 64] 3 _ (by simp)).cell 0 rfl
  go_wp2
  go_ret
  exact ⟨rfl, rfl⟩
end Go.Proofs.YtmkgbinmilcojaaGreat

import Derived.Test.YtmkgbinmilcojaaGreatLib
import Derived.BigRegionIn
import Derived.Deep.RegionHeld3
import Derived.Deep.MidRow
import Derived.Deep.DeepCutAuto

/- A region that draws its order, by one invariant for all orders: each operation is walked once. -/
namespace Go.Proofs.YtmkgbinmilcojaaGreat
open Go.RowKit Go.Maps

def acycOps (md : Region.Mode) (ops : Array Oper) : Bool := (List.range ops.size).all fun i => match ops[i]? with | some o => o.after.all (fun e => !Region.binds md e || decide (e.on < i)) | none => true

theorem acyc_spec {md : Region.Mode} {ops : Array Oper} (h : acycOps md ops = true) {i : Nat} {o : Oper} (ho : ops[i]? = some o) {e : Edge} (he : e ∈ o.after) (hb : Region.binds md e = true) : e.on < i := by
  have hlt : i < ops.size := (Array.getElem?_eq_some_iff.1 ho).1
  have h1 := List.all_eq_true.1 h i (List.mem_range.2 hlt)
  simp only [ho] at h1
  have h2 := (Array.all_eq_true_iff_forall_mem.1 h1) e he
  simpa [hb] using h2
theorem ready_nil {md : Region.Mode} {ops : Array Oper} (h : acycOps md ops = true) {listed : Array Bool} (hr : Region.ready md ops listed = []) : ∀ (n i : Nat), i < n → i < ops.size → listed.getD i true = true
  | 0, _, hn, _ => by omega
  | n + 1, i, hn, hi => by
    cases hl : listed.getD i true with
    | true => rfl
    | false =>
      exfalso
      have hm : i ∈ Region.ready md ops listed := mem_ready.2 ⟨hl, ops[i], Array.getElem?_eq_getElem hi, fun e he hb => by
        have h1 := acyc_spec h (Array.getElem?_eq_getElem hi) he hb
        have h2 := ready_nil h hr n e.on (by omega) (by omega)
        have h3 : e.on < listed.size := by
          by_cases h4 : e.on < listed.size
          · exact h4
          · exfalso
            have h5 : i < listed.size := by
              by_cases h6 : i < listed.size
              · exact h6
              · simp [Array.getD, h6] at hl
            omega
        simpa [Array.getD, h3] using h2⟩
      rw [hr] at hm; cases hm
theorem count_set {listed : Array Bool} {i : Nat} (h : listed.getD i true = false) : (listed.setIfInBounds i true).toList.count false + 1 = listed.toList.count false := by
  have hi : i < listed.size := by
    by_cases h6 : i < listed.size
    · exact h6
    · simp [Array.getD, h6] at h
  have hv : listed.toList[i]'(by simpa using hi) = false := by simpa [Array.getD, hi] using h
  have hpos : 0 < listed.toList.count false := List.count_pos_iff.2 (hv ▸ List.getElem_mem (by simpa using hi))
  rw [Array.toList_setIfInBounds, List.count_set (by simpa using hi)]
  rw [hv, if_pos (by rfl), if_neg (by decide)]
  omega

section
variable {F : Fence} {n : Nat} {P : Program} {ops : Array Oper} {Q : Exit → Act → World → Prop} {md : Region.Mode}
theorem wpAnyIn_inv (I : Array Bool → Act → World → Prop) (hac : acycOps md ops = true)
    (hstep : ∀ (listed : Array Bool) (a : Act) (w : World) (i : Nat) (o : Oper), I listed a w → ops[i]? = some o → listed.getD i true = false → (∀ e ∈ o.after, Region.binds md e = true → listed.getD e.on false = true) →
      ∀ K : Act → World → Prop, (∀ a' w', I (listed.setIfInBounds i true) a' w' → K a' w') → if Region.wanted o (yielded ops a.tmps) = true then Oper.wpIn F n P o a w K Q else (∀ f, o.about P w a.eval = some f → F.fn f) ∧ K (a.put o.dst undef) w)
    (hdone : ∀ listed a w, I listed a w → (∀ i, i < ops.size → listed.getD i true = true) → Q .normal a w) :
    ∀ (fuel : Nat) (listed : Array Bool) (a : Act) (w : World), listed.toList.count false ≤ fuel → I listed a w → wpAnyIn F n P md ops Q fuel listed a w
  | 0, listed, a, w, hc, hI => by
    have hr : Region.ready md ops listed = [] := by
      rw [List.eq_nil_iff_forall_not_mem]
      intro i hi
      have h1 := (mem_ready.1 hi).1
      have h2 := count_set h1
      omega
    exact ⟨hr, hdone _ _ _ hI fun i hi => ready_nil hac hr (i + 1) i (by omega) hi⟩
  | fuel + 1, listed, a, w, hc, hI => by
    refine ⟨fun hr => hdone _ _ _ hI fun i hi => ready_nil hac hr (i + 1) i (by omega) hi, fun i hi => ?_⟩
    obtain ⟨h1, o, ho, h2⟩ := mem_ready.1 hi
    refine wpOpIn_step ho fun K' hK' => ?_
    exact hstep listed a w i o hI ho h1 h2 K' fun a' w' hI' => hK' _ _ (wpAnyIn_inv I hac hstep hdone fuel _ a' w' (by have := count_set h1; omega) hI')
theorem wpAny_inv (I : Array Bool → Act → World → Prop) (hac : acycOps md ops = true)
    (hstep : ∀ (listed : Array Bool) (a : Act) (w : World) (i : Nat) (o : Oper), I listed a w → ops[i]? = some o → listed.getD i true = false → (∀ e ∈ o.after, Region.binds md e = true → listed.getD e.on false = true) →
      ∀ K : Act → World → Prop, (∀ a' w', I (listed.setIfInBounds i true) a' w' → K a' w') → if Region.wanted o (yielded ops a.tmps) = true then Oper.wp P o a w K Q else K (a.put o.dst undef) w)
    (hdone : ∀ listed a w, I listed a w → (∀ i, i < ops.size → listed.getD i true = true) → Q .normal a w) :
    ∀ (fuel : Nat) (listed : Array Bool) (a : Act) (w : World), listed.toList.count false ≤ fuel → I listed a w → wpAny P md ops Q fuel listed a w
  | 0, listed, a, w, hc, hI => by
    have hr : Region.ready md ops listed = [] := by
      rw [List.eq_nil_iff_forall_not_mem]
      intro i hi
      have h1 := (mem_ready.1 hi).1
      have h2 := count_set h1
      omega
    exact ⟨hr, hdone _ _ _ hI fun i hi => ready_nil hac hr (i + 1) i (by omega) hi⟩
  | fuel + 1, listed, a, w, hc, hI => by
    refine ⟨fun hr => hdone _ _ _ hI fun i hi => ready_nil hac hr (i + 1) i (by omega) hi, fun i hi => ?_⟩
    obtain ⟨h1, o, ho, h2⟩ := mem_ready.1 hi
    refine wpOp_step ho fun K' hK' => ?_
    exact hstep listed a w i o hI ho h1 h2 K' fun a' w' hI' => hK' _ _ (wpAny_inv I hac hstep hdone fuel _ a' w' (by have := count_set h1; omega) hI')
end
end Go.Proofs.YtmkgbinmilcojaaGreat

/- Laws for single operations of a drawn region: alloc, a whole store into a block that is known. -/
namespace Go.Proofs.YtmkgbinmilcojaaGreat
open Go.RowKit Go.Maps

section
variable {w : World} {o : Oper} {a : Act} {K : Act → World → Prop} {Q : Exit → Act → World → Prop}
theorem op_alloc (t : TypeId) (d : Nat) (hd : o.dst = some d) (ho : o.op = .alloc t) {z : Array Value} (hz : ∀ w, (zeroValue t).run Tryz.prog w = .ok (.agg z) w)
    (h : K (a.put (some d) (.pointer (some ⟨w.heap.size, 0, none⟩))) (w.alloc (.cells z t))) : o.wp Tryz.prog a w K Q := by
  unfold Oper.wp
  simp [execOp, ho, Instr.alloc, Sem.run_bind, hz, newVar, newRow, Value.cells, Result.andThen]
  show K (a.put o.dst _) _; rw [hd]; exact h
theorem setCells_blkR {b : Nat} {t : TypeId} : ∀ (vs : List Value) (o : Nat) (w : World) (c : Array Value), Blk w b c t → ∃ c', Blk (w.setCells b o vs) b c' t ∧ c'.size = c.size
  | [], _, _, c, h => ⟨c, h, rfl⟩
  | v :: vs, o, w, c, h => by
    obtain ⟨c', h', e⟩ := setCells_blkR vs (o + 1) (w.setCell ⟨b, o, none⟩ v) _ (h.set o v)
    exact ⟨c', h', by simpa using e⟩
theorem setCells_chgR {b : Nat} {S : List Nat} {a : World} (hb : b ∈ S ∨ a.heap.size ≤ b) : ∀ (vs : List Value) (o : Nat) (w : World), Chg S a w → Chg S a (w.setCells b o vs)
  | [], _, _, h => h
  | v :: vs, o, _, h => setCells_chgR hb vs (o + 1) _ (h.setCell hb v)
theorem op_store (t : TypeId) (x y : Operand) (hd : o.dst = none) (ho : o.op = .store t x y) {b : Nat} (hx : a.eval x = .pointer (some ⟨b, 0, none⟩)) {cs : List Value} (hy : a.eval y = .agg cs.toArray) {old : Array Value} {T : TypeId} (hb : Blk w b old T)
    (hs : old.size = cs.length) (hi : (Tryz.prog.info? t).map (·.size) = some cs.length) (h1 : ∀ v ∈ cs, v.oneCell' = true)
    (h : ∀ w2, Blk w2 b cs.toArray T → Chg [b] w w2 → K a w2) : o.wp Tryz.prog a w K Q := by
  refine wp_store_mid t x y ho b 0 cs.toArray hx hy (fun j hj => ⟨?_, hb.free _⟩) (by simpa using hi) (all_oneCell_toArray h1) ?_
  · rw [hb.cell (0 + j) (v := old.getD (0 + j) undef) (by simp [show j < old.size by simp at hj; omega])]; rfl
  · rw [hd]; refine h _ ?_ ?_
    · obtain ⟨c', h', e'⟩ := setCells_blkR cs.toArray.toList 0 w old hb
      have : c' = cs.toArray := by
        apply Array.ext_getElem?
        intro j
        by_cases hj : j < cs.length
        · have h1 := World.cell?_setCells_in b cs.toArray.toList 0 w (fun j hj => by
            rw [hb.cell (0 + j) (v := old.getD (0 + j) undef) (by simp [show j < old.size by simp at hj; omega])]; rfl) j (by simpa using hj)
          have h2 := h'.cell (0 + j) (v := c'.getD j undef) (by simp [show j < c'.size by omega])
          rw [h1] at h2
          simp [show j < c'.size by omega, hj] at h2 ⊢
          exact h2.symm
        · simp [show ¬ j < c'.size by omega, hj]
      rw [this] at h'; exact h'
    · exact setCells_chgR (.inl (by simp)) _ _ _ (Chg.refl _ _)
end
end Go.Proofs.YtmkgbinmilcojaaGreat

/- Shorter words for what a printed walk of a drawn region says often. -/
namespace Go.Proofs.YtmkgbinmilcojaaGreat
open Go.RowKit Go.Maps
theorem Sa {α : Type} (l : List α) (i : Nat) (a : α) : l.toArray.setIfInBounds i a = (l.set i a).toArray := List.setIfInBounds_toArray ..
theorem Sb {α : Type} (x a : α) (l : List α) : (x :: l).set 0 a = a :: l := rfl
theorem Sc {α : Type} (x a : α) (l : List α) (n : Nat) : (x :: l).set (n + 1) a = x :: l.set n a := rfl
theorem Sd {α : Type} (l : List α) (i : Nat) (h : i < l.toArray.size) : l.toArray[i] = l[i]'(by simpa using h) := rfl
theorem Se {α : Type} (x : α) (l : List α) (i : Nat) (h : i + 1 < (x :: l).length) : (x :: l)[i + 1] = l[i]'(by simpa using h) := rfl
theorem Sf {α : Type} (x : α) (l : List α) (h : 0 < (x :: l).length) : (x :: l)[0] = x := rfl
section
variable {P : Program} {md : Region.Mode} {ops : Array Oper} {Q : Exit → Act → World → Prop} {S : World → Prop} {fuel : Nat} {listed : Array Bool} {a : Act} {w : World}
theorem TK (i : Nat) (v : Value) {oi : Oper} (hi : ops[i]? = some oi) (hS : S w) (hy : ∀ w, S w → (execOp a.eval oi).run P w = .ok (.value v) w) (h : wpAnyH P md ops Q S fuel (listed.setIfInBounds i true) (a.put oi.dst v) w)
    (hs : Region.noSelect ops = true := by kernel_rfl) (hf : Region.free md ops listed i = true := by kernel_rfl) (hr : (Region.ready md ops listed).contains i = true := by kernel_rfl)
    (hQ : ∀ c a w, Q (.panic c) (a.put oi.dst v) w → Q (.panic c) a w := by exact fun _ _ _ h => h) (hw : Region.wanted oi (yielded ops a.tmps) = true := by rfl) : wpAnyH P md ops Q S (fuel + 1) listed a w :=
  wpAnyH_take hi hs hf hr hQ (.inl ⟨hw, hy⟩) hS h
theorem RD (i : Nat) {o : Oper} (ho : ops[i]? = some o)
    (h : ∀ K' : Act → World → Prop, Shut (∀ a w, S w → (S w → wpAnyH P md ops Q S fuel (listed.setIfInBounds i true) a w) → K' a w) → if Region.wanted o (yielded ops a.tmps) = true then Oper.wp P o a w K' Q else K' (a.put o.dst undef) w)
    (hr : Region.ready md ops listed = [i] := by kernel_rfl) : wpAnyH P md ops Q S (fuel + 1) listed a w := wpAnyH_ready hr (by simp) (.cons ho h .nil)
theorem RD2 (i j : Nat) {o o2 : Oper} (ho : ops[i]? = some o) (ho2 : ops[j]? = some o2)
    (h : ∀ K' : Act → World → Prop, Shut (∀ a w, S w → (S w → wpAnyH P md ops Q S fuel (listed.setIfInBounds i true) a w) → K' a w) → if Region.wanted o (yielded ops a.tmps) = true then Oper.wp P o a w K' Q else K' (a.put o.dst undef) w)
    (h2 : ∀ K' : Act → World → Prop, Shut (∀ a w, S w → (S w → wpAnyH P md ops Q S fuel (listed.setIfInBounds j true) a w) → K' a w) → if Region.wanted o2 (yielded ops a.tmps) = true then Oper.wp P o2 a w K' Q else K' (a.put o2.dst undef) w)
    (hr : Region.ready md ops listed = [i, j] := by kernel_rfl) : wpAnyH P md ops Q S (fuel + 1) listed a w := wpAnyH_ready hr (by simp) (.cons ho h (.cons ho2 h2 .nil))
end
end Go.Proofs.YtmkgbinmilcojaaGreat

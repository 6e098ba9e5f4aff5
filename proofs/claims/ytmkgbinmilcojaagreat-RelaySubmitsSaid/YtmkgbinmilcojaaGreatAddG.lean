/- Package tree: Add. -/
import Derived.Test.YtmkgbinmilcojaaGreatInvG
import Derived.Test.YtmkgbinmilcojaaGreatTreeAddT
import Derived.Test.YtmkgbinmilcojaaGreatRelayS
namespace Go.Proofs.YtmkgbinmilcojaaGreat
open Go.RowKit Go.Maps
attribute [-go_sem] loadCellsFrom Instr.build

def Tr.add1 (T : Tr) (h : Hd) (i : Nat) (p : Pn) : Int × Tr :=
  if T.chkE h i p ≠ 0 then (T.chkE h i p, T) else (0, if T.wkL < (newP h i p).wk then (T.grow h i p).turnTo T.ns.length else T.grow h i p)
/-- a header, added. -/
def Tr.add (T : Tr) (h : Hd) : Int × Tr :=
  if (T.find (hdH h)).isSome then (9, T) else match (T.find h.ah).bind (fun i => (T.ns[i]?).map (fun p => (i, p))) with
    | none => (8, T)
    | some (i, p) => T.add1 h i p
theorem chkE_len {T : Tr} {h : Hd} {i : Nat} {p : Pn} (e : T.chkE h i p = 0) : T.ns.length < 4096 := by
  unfold Tr.chkE at e
  split at e
  · cases e
  · split at e
    · rename_i h1; exact absurd e h1
    · split at e
      · cases e
      · split at e
        · cases e
        · omega
theorem TrInv.add1 {T : Tr} (I : TrInv T) {h : Hd} (hok : HdOk h) {i : Nat} {p : Pn} (hp : T.ns[i]? = some p) (hn : T.find (hdH h) = none) : TrInv (T.add1 h i p).2 := by
  unfold Tr.add1
  split
  · exact I
  · rename_i he
    have hg := I.grow hok hp hn (chkE_len (by simpa using he))
    simp only
    split
    · have hl : (T.grow h i p).ns[T.ns.length]? = some (newP h i p) := by simp [Tr.grow]
      exact hg.turn hl
    · exact hg
theorem TrInv.add {T : Tr} (I : TrInv T) {h : Hd} (hok : HdOk h) : TrInv (T.add h).2 := by
  unfold Tr.add
  split
  · exact I
  · rename_i hs
    have hn : T.find (hdH h) = none := by simpa using hs
    cases hf : T.find h.ah with
    | none => exact I
    | some i =>
      obtain ⟨p, hp, _⟩ := Tr.find_some hf
      simp only [Option.bind_some, hp, Option.map_some]
      exact I.add1 hok hp hn
theorem add1_r {T : Tr} {h : Hd} {i : Nat} {p : Pn} : (T.add1 h i p).2.r = T.r := by
  unfold Tr.add1
  split
  · rfl
  · simp only; split <;> rfl
theorem add_r (T : Tr) (h : Hd) : (T.add h).2.r = T.r := by
  unfold Tr.add
  split
  · rfl
  · cases (T.find h.ah).bind (fun i => (T.ns[i]?).map (fun p => (i, p))) with
    | none => rfl
    | some a => exact add1_r
set_option maxRecDepth 100000 in
set_option maxHeartbeats 4000000 in
theorem tree_Add_same (x : Lt) (T : Tr) (ok : TrOk T) (h : Hd) (hok : HdOk h) (i : Nat) (hs : T.find (hdH h) = some i) (w : World) (hT : TreeAt w x T) :
    Calls Tryz.prog 15 #[.pointer (some ⟨x.b, 0, none⟩), .agg h.cs] w fun e w' => e = .returned (.int .i64 9) ∧ Chg [] w w' := by
  have hhash := header_Hash h hok
  have hkey : HK (hdH h) := HK_hash h
  have hhs : h.cs.size = 68 := Hd.size hok
  have hks : (bytesV (hdH h)).toArray.size = 32 := by simp [bytesV_hash]
  have hone := bytesV_all (hdH h)
  have hz := zeroHash
  have bH := Blk.new w h.cs 28
  have k0 : Chg [] w (w.alloc (.cells h.cs 28)) := (Chg.refl _ _).alloc _
  have hldH := load_blkC bH 68 hhs
  have hai := Lib.hid (show adrB x.bl i = some ⟨x.bl.getD i 0, 0, none⟩ from rfl)
  have hlk0 := fun (W : World) (hW : TreeAt W x T) => hW.mp.look_ok Tryz.underlying88 (zeroNP _) hkey
  have hcc := fun (W : World) (hW : TreeAt W x T) => hW.slice ok
  unfold hv at hlk0
  simp only [hs, Option.map_some, Option.getD_some, Option.isSome_some, hai.out] at hlk0
  generalize x.bl.getD i 0 = gi at *
  generalize h.cs = hl at *
  generalize (bytesV (hdH h)).toArray = kl at *
  go_enter Tryz.func15, Tryz.ntmps15
  go_wp2_with fail
  refine (hhash _).mono ?_
  rintro e w1 ⟨rfl, k1⟩
  dsimp only
  have bK := Blk.new w1 kl 26
  have hst := run_storeCells_new (P := Tryz.prog) w1 26 z32 kl (by rw [hks]; exact infoHash) (by rw [hks]; rfl) hone
  have k2 := (k0.trans k1 (by simp)).alloc (.cells kl 26)
  clear hldH k0 k1 hhash
  have hT2 := hT.chg ok k2
  have hlk1 := fun n => hlk0 _ (hT2.chg ok ((Chg.refl [] _).drewN n))
  obtain ⟨gc, cc, c72, _, _, _, _⟩ := hcc _ hT2
  have hldK := fun n => load_blkC (bK.drewN n) 32 hks
  clear hlk0 hcc
  go_wp2
  go_quiet (fail)
  have kq := k2.drewN nq
  clear hlk1 hldK c72 hst hT2 k2
  generalize (w1.alloc (.cells kl 26)).drewN nq = wq at *
  go_wp2
  go_ret
  exact ⟨rfl, kq⟩
set_option maxRecDepth 100000 in
set_option maxHeartbeats 4000000 in
theorem tree_Add_orphan (x : Lt) (T : Tr) (ok : TrOk T) (h : Hd) (hok : HdOk h) (hs : T.find (hdH h) = none) (ha : T.find h.ah = none) (w : World) (hT : TreeAt w x T) :
    Calls Tryz.prog 15 #[.pointer (some ⟨x.b, 0, none⟩), .agg h.cs] w fun e w' => e = .returned (.int .i64 8) ∧ Chg [] w w' := by
  have hhash := header_Hash h hok
  have hk : HK h.ah := ⟨hok.ah, hok.ahb⟩
  have hkey : HK (hdH h) := HK_hash h
  have hhs : h.cs.size = 68 := Hd.size hok
  have hks : (bytesV (hdH h)).toArray.size = 32 := by simp [bytesV_hash]
  have hone := bytesV_all (hdH h)
  have hz := zeroHash
  have bH := Blk.new w h.cs 28
  have k0 : Chg [] w (w.alloc (.cells h.cs 28)) := (Chg.refl _ _).alloc _
  have hldH := load_blkC bH 68 hhs
  have hpa := hash_ah hok
  have hsa : (bytesV h.ah).toArray.size = 32 := by simp [bytesV_len, hok.ah]
  have hlk0 := fun (W : World) (hW : TreeAt W x T) => hW.mp.look_ok Tryz.underlying88 (zeroNP _) hkey
  have hlk9 := fun (W : World) (hW : TreeAt W x T) => hW.mp.look_ok Tryz.underlying88 (zeroNP _) hk
  have hcc := fun (W : World) (hW : TreeAt W x T) => hW.slice ok
  unfold hv at hlk0 hlk9
  simp only [hs, ha, Option.map_none, Option.getD_none, Option.isSome_none] at hlk0 hlk9
  generalize h.cs = hl at *
  generalize (bytesV (hdH h)).toArray = kl at *
  generalize (bytesV h.ah).toArray = al at *
  go_enter Tryz.func15, Tryz.ntmps15
  go_wp2_with fail
  refine (hhash _).mono ?_
  rintro e w1 ⟨rfl, k1⟩
  dsimp only
  have bK := Blk.new w1 kl 26
  have bH := (bH.chg k1 (by simp)).alloc (.cells kl 26)
  have hst := run_storeCells_new (P := Tryz.prog) w1 26 z32 kl (by rw [hks]; exact infoHash) (by rw [hks]; rfl) hone
  have k2 := (k0.trans k1 (by simp)).alloc (.cells kl 26)
  clear hldH k0 k1 hhash
  have hT2 := hT.chg ok k2
  have hlk1 := fun n => hlk0 _ (hT2.chg ok ((Chg.refl [] _).drewN n))
  obtain ⟨gc, cc, c72, _, _, _, _⟩ := hcc _ hT2
  have hldK := fun n => load_blkC (bK.drewN n) 32 hks
  clear hlk0
  go_wp2
  go_quiet (fail)
  have kq := k2.drewN nq
  have bH := bH.drewN nq
  have hTq := hT2.chg ok ((Chg.refl [] _).drewN nq)
  clear hlk1 hldK c72 hst hT2 k2
  generalize (w1.alloc (.cells kl 26)).drewN nq = wq at *
  have hlk2 := fun n => hlk9 _ (hTq.chg ok ((Chg.refl [] _).drewN n))
  obtain ⟨gc, cc, c72, _, _, _, _⟩ := hcc _ hTq
  have hldA := fun n => load_part (bH.drewN n) 1 32 hsa hpa
  clear hlk9 hcc
  go_wp2
  go_quiet (fail)
  have k2 := kq.drewN nq
  clear hlk2 hldA c72 hTq kq
  generalize wq.drewN nq = w2 at *
  go_wp2
  go_ret
  exact ⟨rfl, k2⟩
set_option maxRecDepth 100000 in
set_option maxHeartbeats 4000000 in
theorem tree_Add_err (x : Lt) (T : Tr) (ok : TrOk T) (h : Hd) (hok : HdOk h) (i : Nat) (ce : Int) (hce : ce ≠ 0) (hs : T.find (hdH h) = none) (ha : T.find h.ah = some i)
    (hck : ∀ w, TreeAt w x T → Calls Tryz.prog 42 #[.pointer (some ⟨x.b, 0, none⟩), .agg h.cs, .pointer (adrB x.bl i)] w fun e w' => e = .returned (.int .i64 ce) ∧ Chg [] w w') (w : World) (hT : TreeAt w x T) :
    Calls Tryz.prog 15 #[.pointer (some ⟨x.b, 0, none⟩), .agg h.cs] w fun e w' => e = .returned (.int .i64 ce) ∧ Chg [] w w' := by
  have hhash := header_Hash h hok
  have hk : HK h.ah := ⟨hok.ah, hok.ahb⟩
  have hkey : HK (hdH h) := HK_hash h
  have hhs : h.cs.size = 68 := Hd.size hok
  have hks : (bytesV (hdH h)).toArray.size = 32 := by simp [bytesV_hash]
  have hone := bytesV_all (hdH h)
  have hz := zeroHash
  have bH := Blk.new w h.cs 28
  have k0 : Chg [] w (w.alloc (.cells h.cs 28)) := (Chg.refl _ _).alloc _
  have hldH := load_blkC bH 68 hhs
  have hpa := hash_ah hok
  have hsa : (bytesV h.ah).toArray.size = 32 := by simp [bytesV_len, hok.ah]
  have hlk0 := fun (W : World) (hW : TreeAt W x T) => hW.mp.look_ok Tryz.underlying88 (zeroNP _) hkey
  have hlk9 := fun (W : World) (hW : TreeAt W x T) => hW.mp.look_ok Tryz.underlying88 (zeroNP _) hk
  have hcc := fun (W : World) (hW : TreeAt W x T) => hW.slice ok
  have hai := Lib.hid (show adrB x.bl i = some ⟨x.bl.getD i 0, 0, none⟩ from rfl)
  unfold hv at hlk0 hlk9
  simp only [hs, Option.map_none, Option.getD_none, Option.isSome_none] at hlk0
  simp only [ha, Option.map_some, Option.getD_some, Option.isSome_some, hai.out] at hlk9
  rw [hai.out] at hck
  have hb : (ce == 0) = false := by simp [hce]
  have hb2 : (ce != 0) = true := by simp [hce]
  clear hce
  generalize x.bl.getD i 0 = gi at *
  generalize h.cs = hl at *
  generalize (bytesV (hdH h)).toArray = kl at *
  generalize (bytesV h.ah).toArray = al at *
  go_enter Tryz.func15, Tryz.ntmps15
  go_wp2_with fail
  refine (hhash _).mono ?_
  rintro e w1 ⟨rfl, k1⟩
  dsimp only
  have bK := Blk.new w1 kl 26
  have bH := (bH.chg k1 (by simp)).alloc (.cells kl 26)
  have hst := run_storeCells_new (P := Tryz.prog) w1 26 z32 kl (by rw [hks]; exact infoHash) (by rw [hks]; rfl) hone
  have k2 := (k0.trans k1 (by simp)).alloc (.cells kl 26)
  clear hldH k0 k1 hhash
  have hT2 := hT.chg ok k2
  have hlk1 := fun n => hlk0 _ (hT2.chg ok ((Chg.refl [] _).drewN n))
  obtain ⟨gc, cc, c72, _, _, _, _⟩ := hcc _ hT2
  have hldK := fun n => load_blkC (bK.drewN n) 32 hks
  clear hlk0
  go_wp2
  go_quiet (fail)
  have kq := k2.drewN nq
  have bH := bH.drewN nq
  have hTq := hT2.chg ok ((Chg.refl [] _).drewN nq)
  clear hlk1 hldK c72 hst hT2 k2
  generalize (w1.alloc (.cells kl 26)).drewN nq = wq at *
  have hlk2 := fun n => hlk9 _ (hTq.chg ok ((Chg.refl [] _).drewN n))
  obtain ⟨gc, cc, c72, _, _, _, _⟩ := hcc _ hTq
  have hldA := fun n => load_part (bH.drewN n) 1 32 hsa hpa
  clear hlk9 hcc
  go_wp2
  go_quiet (fail)
  have k2 := kq.drewN nq
  have bH := bH.drewN nq
  have hT2 := hTq.chg ok ((Chg.refl [] _).drewN nq)
  clear hlk2 hldA c72 hTq kq
  generalize wq.drewN nq = w2 at *
  have hldH := load_blkC bH 68 hhs
  go_wp2_with fail
  refine (hck _ hT2).mono ?_
  rintro e w3 ⟨rfl, k3⟩
  dsimp only
  have k03 := k2.trans k3 (by simp)
  clear hldH hck hT2 k2 k3 bH
  go_wp2
  go_ret
  exact ⟨rfl, k03⟩
def TreeOn (w w' : World) (x : Lt) (T' : Tr) : Prop := ∃ y : Lt, y.b = x.b ∧ TreeAt w' y T' ∧ ∀ b ∈ y.all, b ∈ x.all ∨ w.heap.size ≤ b
theorem TreeOn.same {w w' : World} {x : Lt} {T : Tr} (h : TreeAt w' x T) : TreeOn w w' x T := ⟨x, rfl, h, fun _ hb => .inl hb⟩
theorem tree_Add (x : Lt) (T : Tr) (I : TrInv T) (h : Hd) (hok : HdOk h) (w : World) (hT : TreeAt w x T) :
    Calls Tryz.prog 15 #[.pointer (some ⟨x.b, 0, none⟩), .agg h.cs] w fun e w' => e = .returned (.int .i64 (T.add h).1) ∧ Chg x.all w w' ∧ TreeOn w w' x (T.add h).2 := by
  have ok := I.ok
  unfold Tr.add
  cases hs : T.find (hdH h) with
  | some i =>
    refine (tree_Add_same x T ok h hok i hs w hT).mono ?_
    rintro e w' ⟨rfl, k⟩
    exact ⟨rfl, k.mono (by simp), .same (hT.chg ok k)⟩
  | none =>
    rw [if_neg (by simp)]
    cases ha : T.find h.ah with
    | none =>
      refine (tree_Add_orphan x T ok h hok hs ha w hT).mono ?_
      rintro e w' ⟨rfl, k⟩
      exact ⟨rfl, k.mono (by simp), .same (hT.chg ok k)⟩
    | some i =>
      obtain ⟨p, hp, _⟩ := Tr.find_some ha
      simp only [Option.bind_some, hp, Option.map_some]
      have hck := fun w hT => tree_check x T I i p hp h hok w hT
      by_cases he : T.chkE h i p = 0
      · rw [he] at hck
        have hg := I.grow hok hp hs (chkE_len he)
        have hl : (T.grow h i p).ns[T.ns.length]? = some (newP h i p) := by simp [Tr.grow]
        unfold Tr.add1
        rw [if_neg (by simp [he])]
        simp only
        have hlow := TreeAt.all_lt hT
        refine (tree_Add_ok x T ok h hok i p hs ha hp hg.ok hck (if T.wkL < (newP h i p).wk then (T.grow h i p).turnTo T.ns.length else T.grow h i p) (fun hn => if_neg hn) (fun hw g w1 hT1 => ?_) w hT hlow).mono ?_
        · rw [if_pos hw]
          have hlb : x.bl.length = T.ns.length := hT.len
          have ht := tree_turn (x.grow g) (T.grow h i p) hg T.ns.length (newP h i p) hl w1 hT1
          rw [show adrB (x.grow g).bl T.ns.length = some ⟨g, 0, none⟩ from adrB_new x.bl g hlb] at ht
          refine ht.mono ?_
          rintro e w' ⟨rfl, k, c, h2, h3⟩
          exact ⟨rfl, k.mono (by simp [Lt.grow, Lt.all]), c, h2, h3⟩
        · rintro e w' ⟨rfl, k, g, c, h2, h3, h4⟩
          refine ⟨rfl, k, ⟨x.b, x.m, c, x.bl ++ [g]⟩, rfl, h2, fun b hb => ?_⟩
          simp only [Lt.all, List.mem_cons, List.mem_append, List.not_mem_nil, or_false] at hb ⊢
          rcases hb with rfl | rfl | rfl | hb | rfl
          · exact .inl (.inl rfl)
          · exact .inl (.inr (.inl rfl))
          · rcases h4 with rfl | h4
            · exact .inl (.inr (.inr (.inl rfl)))
            · exact .inr h4
          · exact .inl (.inr (.inr (.inr hb)))
          · exact .inr h3
      · unfold Tr.add1
        rw [if_pos he]
        refine (tree_Add_err x T ok h hok i _ he hs ha hck w hT).mono ?_
        rintro e w' ⟨rfl, k⟩
        exact ⟨rfl, k.mono (by simp), .same (hT.chg ok k)⟩
theorem tree_Add_bad (x : Lt) (T : Tr) (I : TrInv T) (h : Hd) (hok : HdOk h) (hne : (T.add h).1 ≠ 0) (w : World) (hT : TreeAt w x T) :
    Calls Tryz.prog 15 #[.pointer (some ⟨x.b, 0, none⟩), .agg h.cs] w fun e w' => e = .returned (.int .i64 (T.add h).1) ∧ Chg [] w w' := by
  have ok := I.ok
  unfold Tr.add at hne ⊢
  cases hs : T.find (hdH h) with
  | some i => exact tree_Add_same x T ok h hok i hs w hT
  | none =>
    rw [hs, if_neg (by simp)] at hne
    rw [if_neg (by simp)]
    cases ha : T.find h.ah with
    | none => exact tree_Add_orphan x T ok h hok hs ha w hT
    | some i =>
      obtain ⟨p, hp, _⟩ := Tr.find_some ha
      rw [ha] at hne
      simp only [Option.bind_some, hp, Option.map_some] at hne ⊢
      have hck := fun w hT => tree_check x T I i p hp h hok w hT
      unfold Tr.add1 at hne ⊢
      by_cases he : T.chkE h i p = 0
      · rw [if_neg (by simp [he])] at hne; exact absurd rfl hne
      · rw [if_pos he]
        exact tree_Add_err x T ok h hok i _ he hs ha hck w hT
end Go.Proofs.YtmkgbinmilcojaaGreat

import Derived.Test.YtmkgbinmilcojaaGreatTreeCheck0
import Derived.Test.YtmkgbinmilcojaaGreatMade
import Derived.Test.YtmkgbinmilcojaaGreatSubmit
import Derived.Test.YtmkgbinmilcojaaGreatDepth

/- The example's trees: the first block, and one behind it. -/
namespace Go.Proofs.YtmkgbinmilcojaaGreat
open Go.RowKit Go.Maps
attribute [-go_sem] loadCellsFrom Instr.build

theorem wkT : workN TT = 2 := by decide +kernel
theorem wk0 : hdW h0c = 2 := by
  unfold hdW; rw [show h0c.bt = 545259519 from rfl, kT]; exact wkT
theorem wk1 : hdW h1c = 2 := by
  unfold hdW; rw [show h1c.bt = 545259519 from rfl, kT]; exact wkT
def p0 (k : Nat) : Pn := ⟨h0c, none, 0, 2, k⟩
def p1 : Pn := ⟨h1c, some 0, 1, 4, 0⟩
def T0 : Tr := ⟨rC, [p0 0], [0], 1⟩
def T1 (ch : List Nat) : Tr := ⟨rC, [p0 1, p1], ch, 1⟩
theorem T0_eq : newT rC = T0 := by
  unfold newT T0 p0
  rw [show rC.fi = h0c from rfl, wk0]
theorem T1_eq : T0.grow h1c 0 (p0 0) = T1 [0] := by
  unfold Tr.grow T0 T1 newP p0 p1
  simp only [wk1]
  rfl
theorem h_p0 (k : Nat) : hdH (p0 k).h = H0 := hdH_h0
theorem h_p1 : hdH p1.h ≠ H0 := hne1
theorem top4 : (4 : Nat) < TOP ∧ (2 : Nat) < TOP := by decide +kernel
theorem get1 {α : Type} {a p : α} {i : Nat} (h : [a][i]? = some p) : i = 0 ∧ p = a := by
  match i, h with
  | 0, h => exact ⟨rfl, by simpa using h.symm⟩
  | i + 1, h => simp at h
theorem get2 {α : Type} {a b p : α} {i : Nat} (h : [a, b][i]? = some p) : (i = 0 ∧ p = a) ∨ (i = 1 ∧ p = b) := by
  match i, h with
  | 0, h => exact .inl ⟨rfl, by simpa using h.symm⟩
  | 1, h => exact .inr ⟨rfl, by simpa using h.symm⟩
  | i + 2, h => simp at h
theorem okT0 : TrOk T0 := by
  refine ⟨okR, ckR, ?_, by decide, by decide, ?_, ?_, ?_, by decide, ?_, ?_, ?_, by decide, by decide, ?_⟩
  · intro p hp; simp [T0] at hp; subst hp; exact ok0c
  · intro p hp; simp [T0] at hp; subst hp; decide
  · intro p hp; simp [T0] at hp; subst hp; exact top4.2
  · intro p hp; simp [T0] at hp; subst hp; decide
  · intro i j p q h1 h2 _; rw [(get1 h1).1, (get1 h2).1]
  · intro i p a h1 h2; rw [(get1 h1).2] at h2; cases h2
  · intro i p h1 _; rw [(get1 h1).2]; rfl
  · intro k i h
    obtain ⟨rfl, rfl⟩ := get1 h
    exact ⟨p0 0, rfl, rfl⟩
theorem okT1 (ch : List Nat) (h0 : 0 < ch.length) (hl : ch.length ≤ 4096) (hc : ∀ k i : Nat, ch[k]? = some i → ∃ p : Pn, (T1 ch).ns[i]? = some p ∧ p.ht = k) : TrOk (T1 ch) := by
  refine ⟨okR, ckR, ?_, by simp [T1], by simp [T1], ?_, ?_, ?_, by simp [T1], ?_, ?_, ?_, h0, hl, hc⟩
  · intro p hp; simp [T1] at hp; rcases hp with rfl | rfl
    · exact ok0c
    · exact ok1c
  · intro p hp; simp [T1] at hp; rcases hp with rfl | rfl <;> decide
  · intro p hp; simp [T1] at hp; rcases hp with rfl | rfl
    · exact top4.2
    · exact top4.1
  · intro p hp; simp [T1] at hp; rcases hp with rfl | rfl <;> decide
  · intro i j p q h1 h2 he
    rcases get2 h1 with ⟨rfl, rfl⟩ | ⟨rfl, rfl⟩ <;> rcases get2 h2 with ⟨rfl, rfl⟩ | ⟨rfl, rfl⟩
    · rfl
    · exact absurd (he.symm.trans (h_p0 1)) h_p1
    · exact absurd (he.trans (h_p0 1)) h_p1
    · rfl
  · intro i p a h1 h2
    rcases get2 h1 with ⟨rfl, rfl⟩ | ⟨rfl, rfl⟩
    · cases h2
    · cases h2
      exact ⟨by omega, p0 1, rfl, rfl⟩
  · intro i p h1 h2
    rcases get2 h1 with ⟨rfl, rfl⟩ | ⟨rfl, rfl⟩
    · rfl
    · cases h2
theorem okA1 : TrOk (T1 [0]) := okT1 _ (by decide) (by decide) (fun k i h => by
  obtain ⟨rfl, rfl⟩ := get1 h
  exact ⟨p0 1, rfl, rfl⟩)
theorem okA2 : TrOk (T1 [0, 1]) := okT1 _ (by decide) (by decide) (fun k i h => by
  rcases get2 h with ⟨rfl, rfl⟩ | ⟨rfl, rfl⟩
  · exact ⟨p0 1, rfl, rfl⟩
  · exact ⟨p1, rfl, rfl⟩)
theorem find0 : T0.find H0 = some 0 := by
  unfold Tr.find T0
  rw [List.findIdx?_cons, show hdH (p0 0).h = H0 from hdH_h0]
  simp
theorem find0n : T0.find (hdH h1c) = none := by
  unfold Tr.find T0
  rw [List.findIdx?_cons, show hdH (p0 0).h = H0 from hdH_h0]
  simp [Ne.symm hne1]
theorem find1 (ch : List Nat) : (T1 ch).find H0 = some 0 := by
  unfold Tr.find T1
  rw [List.findIdx?_cons, show hdH (p0 1).h = H0 from hdH_h0]
  simp
theorem find2 (ch : List Nat) : (T1 ch).find (hdH h1c) = some 1 := by
  unfold Tr.find T1
  rw [List.findIdx?_cons, List.findIdx?_cons, show hdH (p0 1).h = H0 from hdH_h0, show p1.h = h1c from rfl]
  simp [Ne.symm hne1]
theorem due0 : T0.due (p0 0) = false := by decide
theorem med0 : medT T0 0 = 1000 := by
  have h : timesN T0 11 (some 0) = [1000] := by decide
  unfold medT
  rw [h]
  simp [srt]
theorem chk0 : T0.chk h1c 0 (p0 0) = 0 := by
  unfold Tr.chk
  rw [if_neg (by decide), show T0.r.lm = 545259519 from rfl, kT, ck1, if_neg (by simp), med0, if_neg (by decide), if_neg (by decide)]
theorem HK0 : HK H0 := ⟨H0_len, H0_lt⟩
theorem best0 : T0.best = H0 := hdH_h0
theorem best2 : (T1 [0, 1]).best = hdH h1c := rfl
theorem add13 (x : Lt) (w : World) (hT : TreeAt w x T0) (hlow : ∀ b ∈ x.all, b < w.heap.size) :
    Calls Tryz.prog 15 #[.pointer (some ⟨x.b, 0, none⟩), .agg h1c.cs] w fun e w' => e = .returned (.int .i64 0) ∧ Chg x.all w w' ∧ ∃ g c, TreeAt w' ⟨x.b, x.m, c, x.bl ++ [g]⟩ (T1 [0, 1]) ∧ w.heap.size ≤ g ∧ (c = x.c ∨ w.heap.size ≤ c) := by
  refine tree_Add_ok x T0 okT0 h1c ok1c 0 (p0 0) find0n find0 rfl (by rw [T1_eq]; exact okA1) (fun w h => ?_) (T1 [0, 1]) (fun hn => ?_) (fun _ g w h => ?_) w hT hlow
  · have := tree_check0 x T0 okT0 0 (p0 0) rfl due0 h1c ok1c w h
    rw [chk0] at this; exact this
  · exfalso
    apply hn
    show (2 : Nat) < ((p0 0).wk + hdW h1c) % TOP
    rw [wk1]; decide +kernel
  · rw [T1_eq] at h
    have hlb : x.bl.length = 1 := by have := h.len; simp [Lt.grow, T1] at this; omega
    have ht := tree_turn1 (x.grow g) (T1 [0]) okA1 1 p1 rfl rfl rfl (by decide) w h
    rw [show adrB (x.grow g).bl 1 = some ⟨g, 0, none⟩ from adrB_new x.bl g hlb] at ht
    refine ht.mono ?_
    rintro e w' ⟨rfl, k, c, h2, h3⟩
    exact ⟨rfl, k.mono (by simp [Lt.grow, Lt.all]), c, h2, h3⟩
end Go.Proofs.YtmkgbinmilcojaaGreat

/- The example's relay: Submit, Tree, Depth, Confirmed. -/
namespace Go.Proofs.YtmkgbinmilcojaaGreat
open Go.RowKit Go.Maps
attribute [-go_sem] loadCellsFrom Instr.build

theorem submit13 (rb g off cap : Nat) (x : Lt) (w : World) (h : RelAt w rb x T0 0) (hrx : rb ∉ x.all) (hp : BytesAt w g off (hdB h1c)) (hg : g < w.heap.size) :
    Calls Tryz.prog 23 #[.pointer (some ⟨rb, 0, none⟩), .slice (some ⟨g, off, none⟩) 80 cap] w fun e w' => e = .returned (.tuple #[.agg (bytesV (hdH h1c) ++ [Value.int .i64 1, Value.bool true, Value.int .i64 0]).toArray, .int .i64 0]) ∧
      ∃ y, y.b = x.b ∧ RelAt w' rb y (T1 [0, 1]) 0 ∧ Chg (rb :: x.all) w w' := by
  have hlow := TreeAt.all_lt h.t
  have hgw : ∀ w', Chg [] w w' → BytesAt w' g off (hdB h1c) := fun w' k => hp.chg k hg (by simp)
  have k1 : HK (hdH h1c) := HK_hash h1c
  have hh := relay_SubmitW rb x.b g off cap 0 x x T0 (T1 [0, 1]) T0.r.l h1c.l (bytesV (hdH h1c)) (bytesV H0) 1 0 rfl (Rl.len okR) (Hd.size ok1c) (Hd.one h1c) (by simp [bytesV_len, hdH_len]) (bytesV_all _) (by simp [bytesV_len, H0_len]) (bytesV_all _) w h.blk hrx hlow (by omega)
    (fun w' k => by
      have := header_Parse g off cap (hdB h1c) (hdB_len ok1c) w' (hgw w' k) (Nat.lt_of_lt_of_le hg k.size)
      rw [hdOf_hdB ok1c] at this; exact this)
    (fun w' k => by
      have := tree_Best x T0 okT0 w' (h.t.chg okT0 k)
      rw [best0] at this; exact this)
    (fun w' k => by
      refine (add13 x w' (h.t.chg okT0 k) (fun b hb => Nat.lt_of_lt_of_le (hlow b hb) k.size)).mono ?_
      exact fun e w'' he => he)
    (fun w => header_Hash h1c ok1c w)
    (fun w => by have := hash_eq k1 k1 w; rw [decide_eq_true rfl] at this; exact this)
    (fun y w hy ht => by
      have := tree_Height y (T1 [0, 1]) okA2 (hdH h1c) k1 w ht
      rw [hy, show (T1 [0, 1]).node (hdH h1c) = some p1 by unfold Tr.node; rw [find2]; rfl] at this; exact this)
    (fun y w hy ht => by
      have := tree_Best y (T1 [0, 1]) okA2 w ht
      rw [hy, best2] at this; exact this)
    (fun y w hy ht => by
      have := tree_Fork1 y (T1 [0, 1]) okA2 H0 (hdH h1c) HK0 k1 0 1 (p0 1) p1 (find1 _) (find2 _) rfl rfl rfl w ht
      rw [hy] at this; exact this)
    (fun y w hy ht => by
      have := tree_Height y (T1 [0, 1]) okA2 H0 HK0 w ht
      rw [hy, show (T1 [0, 1]).node H0 = some (p0 1) by unfold Tr.node; rw [find1]; rfl] at this; exact this)
  refine hh.mono ?_
  rintro e w' ⟨rfl, gn, c, ht, _, _, kc, bk⟩
  exact ⟨rfl, ⟨x.b, x.m, c, x.bl ++ [gn]⟩, rfl, ⟨bk, ht⟩, kc⟩
theorem depth13 (rb : Nat) (y : Lt) (k : List Nat) (hk : HK k) (p : Pn) (i : Nat) (hf : (T1 [0, 1]).find k = some i) (hp : (T1 [0, 1]).ns[i]? = some p) (hi : ([0, 1] : List Nat)[p.ht]? = some i) (hle : p.ht ≤ 1) (hpk : hdH p.h = k) (w : World) (h : RelAt w rb y (T1 [0, 1]) 0) :
    Calls Tryz.prog 26 #[.pointer (some ⟨rb, 0, none⟩), hv k] w fun e w' => e = .returned (.int .i64 ((1 : Nat) - (p.ht : Int) + 1)) ∧ Chg [] w w' := by
  have hnode : (T1 [0, 1]).node k = some p := by unfold Tr.node; rw [hf]; exact hp
  have hnb : (T1 [0, 1]).node (hdH h1c) = some p1 := by unfold Tr.node; rw [find2]; rfl
  refine relay_DepthW rb y.b p.ht 1 _ (bytesV k) (bytesV (hdH h1c)) (by simp [bytesV_len, hk.1]) (bytesV_all _) (r_cell (Rl.len okR) _ _).1 hle (by omega) w h.blk
    (fun w' kc => by
      have := tree_Height y (T1 [0, 1]) okA2 k hk w' (h.t.chg okA2 kc)
      rw [hnode] at this; exact this)
    (fun w' kc => by
      have := tree_At y (T1 [0, 1]) okA2 p.ht i p hi hp w' (h.t.chg okA2 kc)
      rw [hpk] at this; exact this)
    (fun w => by have := hash_eq hk hk w; rw [decide_eq_true rfl] at this; exact this)
    (fun w' kc => by
      have := tree_Best y (T1 [0, 1]) okA2 w' (h.t.chg okA2 kc)
      rw [best2] at this; exact this)
    (fun w' kc => by
      have := tree_Height y (T1 [0, 1]) okA2 (hdH h1c) (HK_hash _) w' (h.t.chg okA2 kc)
      rw [hnb] at this; exact this)
theorem conf13 (rb : Nat) (y : Lt) (k : List Nat) (hk : HK k) (p : Pn) (i : Nat) (hf : (T1 [0, 1]).find k = some i) (hp : (T1 [0, 1]).ns[i]? = some p) (hi : ([0, 1] : List Nat)[p.ht]? = some i) (hle : p.ht ≤ 1) (hpk : hdH p.h = k) (R : Int) (hR : R = if ((1 : Nat) - (p.ht : Int) + 1) < 2 then 13 else 0) (w : World) (h : RelAt w rb y (T1 [0, 1]) 0) :
    Calls Tryz.prog 30 #[.pointer (some ⟨rb, 0, none⟩), hv k] w fun e w' => e = .returned (.int .i64 R) ∧ Chg [] w w' := by
  have hnode : (T1 [0, 1]).node k = some p := by unfold Tr.node; rw [hf]; exact hp
  exact relay_ConfirmedW rb y.b p.ht _ 2 R hR _ (bytesV k) (by simp [bytesV_len, hk.1]) (r_cell (Rl.len okR) _ _).1 rfl w h.blk
    (fun w' kc => by
      have := tree_Height y (T1 [0, 1]) okA2 k hk w' (h.t.chg okA2 kc)
      rw [hnode] at this; exact this)
    (fun w' kc => depth13 rb y k hk p i hf hp hi hle hpk w' ⟨h.blk.chg kc (by simp), h.t.chg okA2 kc⟩)
set_option maxRecDepth 100000 in
theorem relay_Tree (rb : Nat) (x : Lt) (T : Tr) (hr : RlOk T.r) (d : Nat) (w : World) (h : RelAt w rb x T d) :
    Calls Tryz.prog 22 #[.pointer (some ⟨rb, 0, none⟩)] w fun e w' => e = .returned (.pointer (some ⟨x.b, 0, none⟩)) ∧ Chg [] w w' := by
  have c72 := h.blk.cell 72 (r_cell (Rl.len hr) _ _).1
  go_enter Tryz.func22, Tryz.ntmps22
  go_wp2
  go_ret
  exact ⟨rfl, Chg.refl _ _⟩
end Go.Proofs.YtmkgbinmilcojaaGreat

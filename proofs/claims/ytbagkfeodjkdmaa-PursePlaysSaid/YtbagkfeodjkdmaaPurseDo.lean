/- pontagelaw16.do: an act on a purse and on a model. -/
import Derived.Test.YtbagkfeodjkdmaaPurseCount
namespace Go.Proofs.Ytbagkfeodjkdmaa
open Go.RowKit Go.Maps Go.Shelf

/-- the model at block q: what is free of each party, held, paid in, paid out. -/
def Mod16 (w : World) (q : Nat) (U : Pur) : Prop := ∃ cs, Blk w q cs 65 ∧ (∀ k : Nat, k < 256 → cs[k]? = some (.int .u64 (U.L.m k))) ∧ cs[256]? = some (.int .u64 U.held) ∧ cs[257]? = some (.int .u64 U.inn) ∧ cs[258]? = some (.int .u64 U.out)
theorem Mod16.chg {w w' : World} {q : Nat} {U : Pur} {S : List Nat} (h : Mod16 w q U) (c : Chg S w w') (hq : q ∉ S) : Mod16 w' q U := by obtain ⟨cs, hb, r⟩ := h; exact ⟨cs, hb.chg c hq, r⟩
theorem Mod16.lt {w : World} {q : Nat} {U : Pur} (h : Mod16 w q U) : q < w.heap.size := by obtain ⟨cs, hb, _⟩ := h; exact hb.lt
/-- a purse (p, fp, mb) and a model (q): both say U. -/
structure St16 (w : World) (p fp mb q : Nat) (U : Pur) : Prop where
  pur : PurAt w p fp mb U
  ok : PurOk U
  mod : Mod16 w q U
  q1 : q ≠ p
  q2 : q ≠ fp
  q3 : q ≠ mb
theorem PurAt.lt {w : World} {p fp mb : Nat} {U : Pur} (h : PurAt w p fp mb U) : p < w.heap.size ∧ fp < w.heap.size ∧ mb < w.heap.size := ⟨h.blk.lt, h.led.lt.1, h.led.lt.2⟩
theorem St16.chg {w w' : World} {p fp mb q : Nat} {U : Pur} {S : List Nat} (h : St16 w p fp mb q U) (c : Chg S w w') (h1 : p ∉ S) (h2 : fp ∉ S) (h3 : mb ∉ S) (h4 : q ∉ S) : St16 w' p fp mb q U :=
  ⟨h.pur.chg c h1 h2 h3, h.ok, h.mod.chg c h4, h.q1, h.q2, h.q3⟩
/-- two stores into the model. -/
theorem Mod16.two {w : World} {q i j : Nat} {U U' : Pur} (h : Mod16 w q U) (x y : Int) (hi : 256 ≤ i) (hi2 : i < 259) (hj : j < 256)
    (hm : ∀ k : Nat, k < 256 → U'.L.m k = if k = j then y else U.L.m k) (h1 : U'.held = if i = 256 then x else U.held) (h2 : U'.inn = if i = 257 then x else U.inn) (h3 : U'.out = if i = 258 then x else U.out) :
    Mod16 ((w.setCell ⟨q, i, none⟩ (.int .u64 x)).setCell ⟨q, j, none⟩ (.int .u64 y)) q U' := by
  obtain ⟨cs, hb, c, a, b, d⟩ := h
  have hsz : 258 < cs.size := (Array.getElem?_eq_some_iff.1 d).1
  refine ⟨_, (hb.set i _).set j _, fun k hk => ?_, ?_, ?_, ?_⟩
  · rw [hm k hk]
    by_cases e : k = j
    · subst e; simp [show k < cs.size by omega]
    · simp [Array.getElem?_setIfInBounds, show i ≠ k by omega, show j ≠ k from fun h => e h.symm, e, c k hk]
  · rw [h1]
    by_cases e : i = 256
    · subst e; simp [Array.getElem?_setIfInBounds, show j ≠ 256 by omega, show 256 < cs.size by omega]
    · simp [Array.getElem?_setIfInBounds, show j ≠ 256 by omega, e, a]
  · rw [h2]
    by_cases e : i = 257
    · subst e; simp [Array.getElem?_setIfInBounds, show j ≠ 257 by omega, show 257 < cs.size by omega]
    · simp [Array.getElem?_setIfInBounds, show j ≠ 257 by omega, e, b]
  · rw [h3]
    by_cases e : i = 258
    · subst e; simp [Array.getElem?_setIfInBounds, show j ≠ 258 by omega, show 258 < cs.size by omega]
    · simp [Array.getElem?_setIfInBounds, show j ≠ 258 by omega, e, d]

set_option maxHeartbeats 400000 in
theorem law16_mall (q : Nat) (U : Pur) (w : World) (h : Mod16 w q U) (ok : PurOk U) :
    Calls Try.prog 91 #[.pointer (some ⟨q, 0, none⟩)] w fun e w' => e = .returned (.int .u64 (U.inn - U.out)) ∧ ∃ n, w' = w.drewN n := by
  obtain ⟨cs, hb, c, a, b, d⟩ := h
  have k1 := hb.cell 257 b
  have k2 := hb.cell 258 d
  have h1 := ok.both
  have h2 := ok.h0
  have h3 := ok.led.tot_nn
  have h4 := ok.o0
  have h5 : U.out ≤ U.inn := by omega
  have h6 := ok.i1
  go_enter Try.func91, Try.ntmps91
  go_wp2
  go_quiet (fail)
  go_wp2
  go_ret
  exact ⟨rfl, _, rfl⟩
end Go.Proofs.Ytbagkfeodjkdmaa

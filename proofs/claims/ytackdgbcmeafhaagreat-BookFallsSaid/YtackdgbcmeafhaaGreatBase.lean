/- What the texts on ranges over functions start from. -/
import Derived.Test.YtackdgbcmeafhaaGreatToken2
import Derived.RangeFuncNested
import Derived.RangeFuncBound
import Derived.RangeFuncCalls
import Derived.RangeFuncLeaves
import Derived.Shelf.Abstract
import Derived.Shelf.RegionOpen
import Derived.OwnWalkIn
import Derived.TacticsInMore
import Derived.LoopNIn
import Derived.LoopIn
namespace Go.Proofs.YtackdgbcmeafhaaGreat
open Go.RowKit Go.Maps Go.Shelf
attribute [local go_sem] Oper.semAt_some

/-- a row of cells stands while blocks turn that are no cells. -/
theorem Blk.own {W W' : World} {b : Nat} {c : Array Value} {t : TypeId} {row : Option Nat} (h : Blk W b c t) (hg : W.grownBy W' row) (hr : ∀ r, row = some r → ∃ o : Obj, W.heap[r]? = some o ∧ o.isCells = false) : Blk W' b c t :=
  h.grown hg (fun e => by obtain ⟨o, ho, hc⟩ := hr b e.symm; rw [show W.heap[b]? = _ from h] at ho; cases ho; cases hc)
end Go.Proofs.YtackdgbcmeafhaaGreat

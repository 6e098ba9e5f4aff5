/-
  No cell of these rows narrows 'for every input' (looked for: loops, veiled, ifaces, maps, wideKeys, modest, calm, conditions, laid).
  DERIVED. THE GIVEN ROWS OF THIS SEAT. 5 by the template 'for every input the law returns true; each argument reads behind the call as it read before'; 0 by the template 'total and deterministic' (their statements: YtmkgbinmilcojaaGreatTotals.lean).
  GIVEN WITH THE SEED: the statements are not yours to turn. If you find one false, say at which input.
  Laid BY PROGRAM, IN A SANDBOX (cutbox-rows.mjs): the forced cells as the released guide's own fill.sh prints them over the translation cf3fce8cbb3f0a6e… (all of the seat's roots in one cut). By AI agents, Wed Nov 11 2026. No macro, syntax, notation, axiom, sorry.
-/
import Derived.Test.YtmkgbinmilcojaaGreatChecked
import GoSem.Claim
import GoSem.ClaimJoined
import GoSem.ClaimMapViews
import Derived.JoinedTies
import Derived.KernelRfl
namespace Go.Proofs.YtmkgbinmilcojaaGreat
/- THE CELL 'sum', in the pinned program and in every row, IS THE sha256 OF THE DUMP (.gsa) THAT YtmkgbinmilcojaaGreatProg.lean LOADS. Nothing in Lean hashes anything: it is a label: what it is worth is what the hold of that sum in a sandbox is worth. -/
noncomputable def Tryz.pinned : Pinned := { name := "ytmkgbinmilcojaagreat", sum := "cf3fce8cbb3f0a6e274e7e311753a6ccf7fe2969775a27dda942b8a141cc6e1a", checked := Tryz.checked }
namespace Rows
def none {H : Type} : Left H := { results := [], args := [] }

/-- 'pontagelaw12.TreeGrows': WHATEVER THE INPUT: true; the input reads as it did. -/
def treeGrowsSpec : ChangeSpec := { name := "treeGrows", fn := fun _ => fun
  | [d1, d2, d3] => { results := [.lit (.bool true)], args := [d1, d2, d3] }
  | _ => none }
def treeGrowsRow : OpenClaim := { program := "ytmkgbinmilcojaagreat", sum := "cf3fce8cbb3f0a6e274e7e311753a6ccf7fe2969775a27dda942b8a141cc6e1a", func := "pontage/pontagelaw12.TreeGrows", spec := "treeGrows", inPlace := ["math/bits.Add64", "math/bits.Sub64"], unfollowed := true, recurses := true, plainKeys := false, apart := false }
def TreeGrowsSaid : Prop := treeGrowsRow.holds Tryz.pinned (OpenSpec.ofChange treeGrowsSpec)

/-- ITS FALSE NEIGHBOUR: 'it returns false'. Refute it at one input. -/
def treeGrowsWrong : ChangeSpec := { name := "treeGrows", fn := fun _ => fun
  | [d1, d2, d3] => { results := [.lit (.bool false)], args := [d1, d2, d3] }
  | _ => none }
def TreeGrowsWrongFalsely : Prop := treeGrowsRow.holds Tryz.pinned (OpenSpec.ofChange treeGrowsWrong)

/-- 'pontagelaw13.RelayRules': WHATEVER THE INPUT: true; the input reads as it did. -/
def relayRulesSpec : ChangeSpec := { name := "relayRules", fn := fun _ => fun
  | [d] => { results := [.lit (.bool true)], args := [d] }
  | _ => none }
def relayRulesRow : OpenClaim := { program := "ytmkgbinmilcojaagreat", sum := "cf3fce8cbb3f0a6e274e7e311753a6ccf7fe2969775a27dda942b8a141cc6e1a", func := "pontage/pontagelaw13.RelayRules", spec := "relayRules", inPlace := ["math/bits.Add64", "math/bits.Sub64"], unfollowed := true, recurses := true, plainKeys := false, apart := false }
def RelayRulesSaid : Prop := relayRulesRow.holds Tryz.pinned (OpenSpec.ofChange relayRulesSpec)

/-- ITS FALSE NEIGHBOUR: 'it returns false'. Refute it at one input. -/
def relayRulesWrong : ChangeSpec := { name := "relayRules", fn := fun _ => fun
  | [d] => { results := [.lit (.bool false)], args := [d] }
  | _ => none }
def RelayRulesWrongFalsely : Prop := relayRulesRow.holds Tryz.pinned (OpenSpec.ofChange relayRulesWrong)

/-- 'pontagelaw13.RelayDepths': WHATEVER THE INPUT: true; the input reads as it did. -/
def relayDepthsSpec : ChangeSpec := { name := "relayDepths", fn := fun _ => fun
  | [d1, d2, d3] => { results := [.lit (.bool true)], args := [d1, d2, d3] }
  | _ => none }
def relayDepthsRow : OpenClaim := { program := "ytmkgbinmilcojaagreat", sum := "cf3fce8cbb3f0a6e274e7e311753a6ccf7fe2969775a27dda942b8a141cc6e1a", func := "pontage/pontagelaw13.RelayDepths", spec := "relayDepths", inPlace := ["math/bits.Add64", "math/bits.Sub64"], unfollowed := true, recurses := true, plainKeys := false, apart := false }
def RelayDepthsSaid : Prop := relayDepthsRow.holds Tryz.pinned (OpenSpec.ofChange relayDepthsSpec)

/-- ITS FALSE NEIGHBOUR: 'it returns false'. Refute it at one input. -/
def relayDepthsWrong : ChangeSpec := { name := "relayDepths", fn := fun _ => fun
  | [d1, d2, d3] => { results := [.lit (.bool false)], args := [d1, d2, d3] }
  | _ => none }
def RelayDepthsWrongFalsely : Prop := relayDepthsRow.holds Tryz.pinned (OpenSpec.ofChange relayDepthsWrong)

/-- 'pontagelaw13.RelayStays': WHATEVER THE INPUT: true; the input reads as it did. -/
def relayStaysSpec : ChangeSpec := { name := "relayStays", fn := fun _ => fun
  | [d1, d2, d3] => { results := [.lit (.bool true)], args := [d1, d2, d3] }
  | _ => none }
def relayStaysRow : OpenClaim := { program := "ytmkgbinmilcojaagreat", sum := "cf3fce8cbb3f0a6e274e7e311753a6ccf7fe2969775a27dda942b8a141cc6e1a", func := "pontage/pontagelaw13.RelayStays", spec := "relayStays", inPlace := ["math/bits.Add64", "math/bits.Sub64"], unfollowed := true, recurses := true, plainKeys := false, apart := false }
def RelayStaysSaid : Prop := relayStaysRow.holds Tryz.pinned (OpenSpec.ofChange relayStaysSpec)

/-- ITS FALSE NEIGHBOUR: 'it returns false'. Refute it at one input. -/
def relayStaysWrong : ChangeSpec := { name := "relayStays", fn := fun _ => fun
  | [d1, d2, d3] => { results := [.lit (.bool false)], args := [d1, d2, d3] }
  | _ => none }
def RelayStaysWrongFalsely : Prop := relayStaysRow.holds Tryz.pinned (OpenSpec.ofChange relayStaysWrong)

/-- 'pontagelaw13.RelaySubmits': WHATEVER THE INPUT: true; the input reads as it did. -/
def relaySubmitsSpec : ChangeSpec := { name := "relaySubmits", fn := fun _ => fun
  | [d1, d2, d3, d4] => { results := [.lit (.bool true)], args := [d1, d2, d3, d4] }
  | _ => none }
def relaySubmitsRow : OpenClaim := { program := "ytmkgbinmilcojaagreat", sum := "cf3fce8cbb3f0a6e274e7e311753a6ccf7fe2969775a27dda942b8a141cc6e1a", func := "pontage/pontagelaw13.RelaySubmits", spec := "relaySubmits", inPlace := ["math/bits.Add64", "math/bits.Sub64"], unfollowed := true, recurses := true, plainKeys := false, apart := false }
def RelaySubmitsSaid : Prop := relaySubmitsRow.holds Tryz.pinned (OpenSpec.ofChange relaySubmitsSpec)

/-- ITS FALSE NEIGHBOUR: 'it returns false'. Refute it at one input. -/
def relaySubmitsWrong : ChangeSpec := { name := "relaySubmits", fn := fun _ => fun
  | [d1, d2, d3, d4] => { results := [.lit (.bool false)], args := [d1, d2, d3, d4] }
  | _ => none }
def RelaySubmitsWrongFalsely : Prop := relaySubmitsRow.holds Tryz.pinned (OpenSpec.ofChange relaySubmitsWrong)

/- THE SECOND FORM. 'bulk': how many values and letters a reading holds, each counted each time it is reached (what is shared counts as often as it is met; a slice's spare places count too). A statement '..UptoSaid' is the law's where the arguments, and the package variables that the reading takes, are together of bulk at most 1048576: NARROWER than '..Said'. Prove '..Said' where nothing that the law and all that it calls make is longer than what came in: it says more and counts as full. Else prove '..UptoSaid'. A law counts once. -/
mutual
def uptoBulk {H : Type} : DataW H → Nat
  | .lit (.string bytes) => bytes.length + 1
  | .lit _ => 1
  | .nil => 1
  | .ptr d => uptoBulk d + 1
  | .slice elems spare => uptoBulkAll elems + uptoBulkAll spare + 1
  | .agg parts => uptoBulkAll parts + 1
  | .iface _ d => uptoBulk d + 1
  | .map entries => uptoBulkEntries entries + 1
  | .held _ => 1
def uptoBulkAll {H : Type} : List (DataW H) → Nat
  | [] => 0
  | d :: r => uptoBulk d + uptoBulkAll r
def uptoBulkEntries {H : Type} : List (Lit × DataW H) → Nat
  | [] => 0
  | x :: r => uptoBulkEntry x + uptoBulkEntries r
def uptoBulkEntry {H : Type} : Lit × DataW H → Nat
  | (.string bytes, d) => bytes.length + uptoBulk d + 1
  | (_, d) => uptoBulk d + 1
 end
def uptoSmall : (H : Type) → List (DataW H) → Bool := fun _ ds => decide (uptoBulkAll ds ≤ 1048576)
def OpenSpec.upto (s : _root_.Go.ChangeSpec) : _root_.Go.OpenSpec := { _root_.Go.OpenSpec.ofChange s with cond := some uptoSmall }

/-- 'pontagelaw12.TreeGrows', WHERE WHAT IT READS IS OF BULK AT MOST 1048576: true; the input reads as it did. -/
def treeGrowsUptoRow : OpenClaim := { program := "ytmkgbinmilcojaagreat", sum := "cf3fce8cbb3f0a6e274e7e311753a6ccf7fe2969775a27dda942b8a141cc6e1a", func := "pontage/pontagelaw12.TreeGrows", spec := "treeGrows", inPlace := ["math/bits.Add64", "math/bits.Sub64"], unfollowed := true, recurses := true, plainKeys := false, apart := false, narrowed := true }
def TreeGrowsUptoSaid : Prop := treeGrowsUptoRow.holds Tryz.pinned (OpenSpec.upto treeGrowsSpec)

/-- 'pontagelaw13.RelayRules', WHERE WHAT IT READS IS OF BULK AT MOST 1048576: true; the input reads as it did. -/
def relayRulesUptoRow : OpenClaim := { program := "ytmkgbinmilcojaagreat", sum := "cf3fce8cbb3f0a6e274e7e311753a6ccf7fe2969775a27dda942b8a141cc6e1a", func := "pontage/pontagelaw13.RelayRules", spec := "relayRules", inPlace := ["math/bits.Add64", "math/bits.Sub64"], unfollowed := true, recurses := true, plainKeys := false, apart := false, narrowed := true }
def RelayRulesUptoSaid : Prop := relayRulesUptoRow.holds Tryz.pinned (OpenSpec.upto relayRulesSpec)

/-- 'pontagelaw13.RelayDepths', WHERE WHAT IT READS IS OF BULK AT MOST 1048576: true; the input reads as it did. -/
def relayDepthsUptoRow : OpenClaim := { program := "ytmkgbinmilcojaagreat", sum := "cf3fce8cbb3f0a6e274e7e311753a6ccf7fe2969775a27dda942b8a141cc6e1a", func := "pontage/pontagelaw13.RelayDepths", spec := "relayDepths", inPlace := ["math/bits.Add64", "math/bits.Sub64"], unfollowed := true, recurses := true, plainKeys := false, apart := false, narrowed := true }
def RelayDepthsUptoSaid : Prop := relayDepthsUptoRow.holds Tryz.pinned (OpenSpec.upto relayDepthsSpec)

/-- 'pontagelaw13.RelayStays', WHERE WHAT IT READS IS OF BULK AT MOST 1048576: true; the input reads as it did. -/
def relayStaysUptoRow : OpenClaim := { program := "ytmkgbinmilcojaagreat", sum := "cf3fce8cbb3f0a6e274e7e311753a6ccf7fe2969775a27dda942b8a141cc6e1a", func := "pontage/pontagelaw13.RelayStays", spec := "relayStays", inPlace := ["math/bits.Add64", "math/bits.Sub64"], unfollowed := true, recurses := true, plainKeys := false, apart := false, narrowed := true }
def RelayStaysUptoSaid : Prop := relayStaysUptoRow.holds Tryz.pinned (OpenSpec.upto relayStaysSpec)

/-- 'pontagelaw13.RelaySubmits', WHERE WHAT IT READS IS OF BULK AT MOST 1048576: true; the input reads as it did. -/
def relaySubmitsUptoRow : OpenClaim := { program := "ytmkgbinmilcojaagreat", sum := "cf3fce8cbb3f0a6e274e7e311753a6ccf7fe2969775a27dda942b8a141cc6e1a", func := "pontage/pontagelaw13.RelaySubmits", spec := "relaySubmits", inPlace := ["math/bits.Add64", "math/bits.Sub64"], unfollowed := true, recurses := true, plainKeys := false, apart := false, narrowed := true }
def RelaySubmitsUptoSaid : Prop := relaySubmitsUptoRow.holds Tryz.pinned (OpenSpec.upto relaySubmitsSpec)

end Rows
end Go.Proofs.YtmkgbinmilcojaaGreat

/-
  No cell of these rows narrows 'for every input' (looked for: loops, veiled, ifaces, maps, wideKeys, modest, calm, conditions, laid).
  DERIVED. THE GIVEN ROWS OF THIS SEAT. 12 by the template 'for every input the law returns true; each argument reads behind the call as it read before'; 0 by the template 'total and deterministic' (their statements: YtbagkfeodjkdmaaTotals.lean).
  GIVEN WITH THE SEED: the statements are not yours to turn. If you find one false, say at which input.
  Laid BY PROGRAM, IN A SANDBOX (cutbox-rows.mjs): the forced cells as the released guide's own fill.sh prints them over the translation 1311533593cfd554… (all of the seat's roots in one cut). By AI agents, Wed Nov 11 2026. No macro, syntax, notation, axiom, sorry.
-/
import Derived.Test.YtbagkfeodjkdmaaChecked
import GoSem.Claim
import GoSem.ClaimJoined
import GoSem.ClaimMapViews
import Derived.JoinedTies
import Derived.KernelRfl
namespace Go.Proofs.Ytbagkfeodjkdmaa
/- THE CELL 'sum', in the pinned program and in every row, IS THE sha256 OF THE DUMP (.gsa) THAT YtbagkfeodjkdmaaProg.lean LOADS. Nothing in Lean hashes anything: it is a label: what it is worth is what the hold of that sum in a sandbox is worth. -/
noncomputable def Try.pinned : Pinned := { name := "ytbagkfeodjkdmaa", sum := "1311533593cfd55465e058057b87bb30c534ad7855941eea5f6d83ff607fb0f5", checked := Try.checked }
namespace Rows
def none {H : Type} : Left H := { results := [], args := [] }

/-- 'pontagelaw18.DueGrows': WHATEVER THE INPUT: true; the input reads as it did. -/
def dueGrowsSpec : ChangeSpec := { name := "dueGrows", fn := fun _ => fun
  | [d1, d2, d3] => { results := [.lit (.bool true)], args := [d1, d2, d3] }
  | _ => none }
def dueGrowsRow : OpenClaim := { program := "ytbagkfeodjkdmaa", sum := "1311533593cfd55465e058057b87bb30c534ad7855941eea5f6d83ff607fb0f5", func := "pontage/pontagelaw18.DueGrows", spec := "dueGrows", unfollowed := true, recurses := true, plainKeys := false, apart := false }
def DueGrowsSaid : Prop := dueGrowsRow.holds Try.pinned (OpenSpec.ofChange dueGrowsSpec)

/-- ITS FALSE NEIGHBOUR: 'it returns false'. Refute it at one input. -/
def dueGrowsWrong : ChangeSpec := { name := "dueGrows", fn := fun _ => fun
  | [d1, d2, d3] => { results := [.lit (.bool false)], args := [d1, d2, d3] }
  | _ => none }
def DueGrowsWrongFalsely : Prop := dueGrowsRow.holds Try.pinned (OpenSpec.ofChange dueGrowsWrong)

/-- 'pontagelaw15.TokenPlays': WHATEVER THE INPUT: true; the input reads as it did. -/
def tokenPlaysSpec : ChangeSpec := { name := "tokenPlays", fn := fun _ => fun
  | [d1, d2] => { results := [.lit (.bool true)], args := [d1, d2] }
  | _ => none }
def tokenPlaysRow : OpenClaim := { program := "ytbagkfeodjkdmaa", sum := "1311533593cfd55465e058057b87bb30c534ad7855941eea5f6d83ff607fb0f5", func := "pontage/pontagelaw15.TokenPlays", spec := "tokenPlays", inPlace := ["maps.clone"], unfollowed := true, recurses := true, plainKeys := false, apart := false }
def TokenPlaysSaid : Prop := tokenPlaysRow.holds Try.pinned (OpenSpec.ofChange tokenPlaysSpec)

/-- ITS FALSE NEIGHBOUR: 'it returns false'. Refute it at one input. -/
def tokenPlaysWrong : ChangeSpec := { name := "tokenPlays", fn := fun _ => fun
  | [d1, d2] => { results := [.lit (.bool false)], args := [d1, d2] }
  | _ => none }
def TokenPlaysWrongFalsely : Prop := tokenPlaysRow.holds Try.pinned (OpenSpec.ofChange tokenPlaysWrong)

/-- 'pontagelaw15.TokenNone': WHATEVER THE INPUT: true; the input reads as it did. -/
def tokenNoneSpec : ChangeSpec := { name := "tokenNone", fn := fun _ => fun
  | [d1, d2, d3] => { results := [.lit (.bool true)], args := [d1, d2, d3] }
  | _ => none }
def tokenNoneRow : OpenClaim := { program := "ytbagkfeodjkdmaa", sum := "1311533593cfd55465e058057b87bb30c534ad7855941eea5f6d83ff607fb0f5", func := "pontage/pontagelaw15.TokenNone", spec := "tokenNone", inPlace := ["maps.clone"], unfollowed := true, recurses := true, plainKeys := false, apart := false }
def TokenNoneSaid : Prop := tokenNoneRow.holds Try.pinned (OpenSpec.ofChange tokenNoneSpec)

/-- ITS FALSE NEIGHBOUR: 'it returns false'. Refute it at one input. -/
def tokenNoneWrong : ChangeSpec := { name := "tokenNone", fn := fun _ => fun
  | [d1, d2, d3] => { results := [.lit (.bool false)], args := [d1, d2, d3] }
  | _ => none }
def TokenNoneWrongFalsely : Prop := tokenNoneRow.holds Try.pinned (OpenSpec.ofChange tokenNoneWrong)

/-- 'pontagelaw16.PurseRounds': WHATEVER THE INPUT: true; the input reads as it did. -/
def purseRoundsSpec : ChangeSpec := { name := "purseRounds", fn := fun _ => fun
  | [d1, d2, d3] => { results := [.lit (.bool true)], args := [d1, d2, d3] }
  | _ => none }
def purseRoundsRow : OpenClaim := { program := "ytbagkfeodjkdmaa", sum := "1311533593cfd55465e058057b87bb30c534ad7855941eea5f6d83ff607fb0f5", func := "pontage/pontagelaw16.PurseRounds", spec := "purseRounds", unfollowed := true, recurses := true, plainKeys := false, apart := false }
def PurseRoundsSaid : Prop := purseRoundsRow.holds Try.pinned (OpenSpec.ofChange purseRoundsSpec)

/-- ITS FALSE NEIGHBOUR: 'it returns false'. Refute it at one input. -/
def purseRoundsWrong : ChangeSpec := { name := "purseRounds", fn := fun _ => fun
  | [d1, d2, d3] => { results := [.lit (.bool false)], args := [d1, d2, d3] }
  | _ => none }
def PurseRoundsWrongFalsely : Prop := purseRoundsRow.holds Try.pinned (OpenSpec.ofChange purseRoundsWrong)

/-- 'pontagelaw16.PursePlays': WHATEVER THE INPUT: true; the input reads as it did. -/
def pursePlaysSpec : ChangeSpec := { name := "pursePlays", fn := fun _ => fun
  | [d1, d2] => { results := [.lit (.bool true)], args := [d1, d2] }
  | _ => none }
def pursePlaysRow : OpenClaim := { program := "ytbagkfeodjkdmaa", sum := "1311533593cfd55465e058057b87bb30c534ad7855941eea5f6d83ff607fb0f5", func := "pontage/pontagelaw16.PursePlays", spec := "pursePlays", inPlace := ["maps.clone"], unfollowed := true, recurses := true, plainKeys := false, apart := false }
def PursePlaysSaid : Prop := pursePlaysRow.holds Try.pinned (OpenSpec.ofChange pursePlaysSpec)

/-- ITS FALSE NEIGHBOUR: 'it returns false'. Refute it at one input. -/
def pursePlaysWrong : ChangeSpec := { name := "pursePlays", fn := fun _ => fun
  | [d1, d2] => { results := [.lit (.bool false)], args := [d1, d2] }
  | _ => none }
def PursePlaysWrongFalsely : Prop := pursePlaysRow.holds Try.pinned (OpenSpec.ofChange pursePlaysWrong)

/-- 'pontagelaw16.PurseNone': WHATEVER THE INPUT: true; the input reads as it did. -/
def purseNoneSpec : ChangeSpec := { name := "purseNone", fn := fun _ => fun
  | [d1, d2] => { results := [.lit (.bool true)], args := [d1, d2] }
  | _ => none }
def purseNoneRow : OpenClaim := { program := "ytbagkfeodjkdmaa", sum := "1311533593cfd55465e058057b87bb30c534ad7855941eea5f6d83ff607fb0f5", func := "pontage/pontagelaw16.PurseNone", spec := "purseNone", inPlace := ["maps.clone"], unfollowed := true, recurses := true, plainKeys := false, apart := false }
def PurseNoneSaid : Prop := purseNoneRow.holds Try.pinned (OpenSpec.ofChange purseNoneSpec)

/-- ITS FALSE NEIGHBOUR: 'it returns false'. Refute it at one input. -/
def purseNoneWrong : ChangeSpec := { name := "purseNone", fn := fun _ => fun
  | [d1, d2] => { results := [.lit (.bool false)], args := [d1, d2] }
  | _ => none }
def PurseNoneWrongFalsely : Prop := purseNoneRow.holds Try.pinned (OpenSpec.ofChange purseNoneWrong)

/-- 'pontagelaw11.AdjustNext': WHATEVER THE INPUT: true; the input reads as it did. -/
def adjustNextSpec : ChangeSpec := { name := "adjustNext", fn := fun _ => fun
  | [d1, d2, d3] => { results := [.lit (.bool true)], args := [d1, d2, d3] }
  | _ => none }
def adjustNextRow : OpenClaim := { program := "ytbagkfeodjkdmaa", sum := "1311533593cfd55465e058057b87bb30c534ad7855941eea5f6d83ff607fb0f5", func := "pontage/pontagelaw11.AdjustNext", spec := "adjustNext", inPlace := ["math/bits.Sub64", "math/bits.Add64"], unfollowed := true, recurses := true, plainKeys := false, apart := false }
def AdjustNextSaid : Prop := adjustNextRow.holds Try.pinned (OpenSpec.ofChange adjustNextSpec)

/-- ITS FALSE NEIGHBOUR: 'it returns false'. Refute it at one input. -/
def adjustNextWrong : ChangeSpec := { name := "adjustNext", fn := fun _ => fun
  | [d1, d2, d3] => { results := [.lit (.bool false)], args := [d1, d2, d3] }
  | _ => none }
def AdjustNextWrongFalsely : Prop := adjustNextRow.holds Try.pinned (OpenSpec.ofChange adjustNextWrong)

/-- 'pontagelaw11.AdjustStays': WHATEVER THE INPUT: true; the input reads as it did. -/
def adjustStaysSpec : ChangeSpec := { name := "adjustStays", fn := fun _ => fun
  | [d1, d2, d3, d4] => { results := [.lit (.bool true)], args := [d1, d2, d3, d4] }
  | _ => none }
def adjustStaysRow : OpenClaim := { program := "ytbagkfeodjkdmaa", sum := "1311533593cfd55465e058057b87bb30c534ad7855941eea5f6d83ff607fb0f5", func := "pontage/pontagelaw11.AdjustStays", spec := "adjustStays", inPlace := ["math/bits.Sub64", "math/bits.Add64"], unfollowed := true, recurses := true, plainKeys := false, apart := false }
def AdjustStaysSaid : Prop := adjustStaysRow.holds Try.pinned (OpenSpec.ofChange adjustStaysSpec)

/-- ITS FALSE NEIGHBOUR: 'it returns false'. Refute it at one input. -/
def adjustStaysWrong : ChangeSpec := { name := "adjustStays", fn := fun _ => fun
  | [d1, d2, d3, d4] => { results := [.lit (.bool false)], args := [d1, d2, d3, d4] }
  | _ => none }
def AdjustStaysWrongFalsely : Prop := adjustStaysRow.holds Try.pinned (OpenSpec.ofChange adjustStaysWrong)

/-- 'pontagelaw11.AdjustBounds': WHATEVER THE INPUT: true; the input reads as it did. -/
def adjustBoundsSpec : ChangeSpec := { name := "adjustBounds", fn := fun _ => fun
  | [d1, d2, d3] => { results := [.lit (.bool true)], args := [d1, d2, d3] }
  | _ => none }
def adjustBoundsRow : OpenClaim := { program := "ytbagkfeodjkdmaa", sum := "1311533593cfd55465e058057b87bb30c534ad7855941eea5f6d83ff607fb0f5", func := "pontage/pontagelaw11.AdjustBounds", spec := "adjustBounds", inPlace := ["math/bits.Sub64", "math/bits.Add64"], unfollowed := true, recurses := true, plainKeys := false, apart := false }
def AdjustBoundsSaid : Prop := adjustBoundsRow.holds Try.pinned (OpenSpec.ofChange adjustBoundsSpec)

/-- ITS FALSE NEIGHBOUR: 'it returns false'. Refute it at one input. -/
def adjustBoundsWrong : ChangeSpec := { name := "adjustBounds", fn := fun _ => fun
  | [d1, d2, d3] => { results := [.lit (.bool false)], args := [d1, d2, d3] }
  | _ => none }
def AdjustBoundsWrongFalsely : Prop := adjustBoundsRow.holds Try.pinned (OpenSpec.ofChange adjustBoundsWrong)

/-- 'pontagelaw18.DuePlays': WHATEVER THE INPUT: true; the input reads as it did. -/
def duePlaysSpec : ChangeSpec := { name := "duePlays", fn := fun _ => fun
  | [d1, d2] => { results := [.lit (.bool true)], args := [d1, d2] }
  | _ => none }
def duePlaysRow : OpenClaim := { program := "ytbagkfeodjkdmaa", sum := "1311533593cfd55465e058057b87bb30c534ad7855941eea5f6d83ff607fb0f5", func := "pontage/pontagelaw18.DuePlays", spec := "duePlays", inPlace := ["maps.clone"], unfollowed := true, recurses := true, plainKeys := false, apart := false }
def DuePlaysSaid : Prop := duePlaysRow.holds Try.pinned (OpenSpec.ofChange duePlaysSpec)

/-- ITS FALSE NEIGHBOUR: 'it returns false'. Refute it at one input. -/
def duePlaysWrong : ChangeSpec := { name := "duePlays", fn := fun _ => fun
  | [d1, d2] => { results := [.lit (.bool false)], args := [d1, d2] }
  | _ => none }
def DuePlaysWrongFalsely : Prop := duePlaysRow.holds Try.pinned (OpenSpec.ofChange duePlaysWrong)

/-- 'pontagelaw18.DueNone': WHATEVER THE INPUT: true; the input reads as it did. -/
def dueNoneSpec : ChangeSpec := { name := "dueNone", fn := fun _ => fun
  | [d1, d2, d3] => { results := [.lit (.bool true)], args := [d1, d2, d3] }
  | _ => none }
def dueNoneRow : OpenClaim := { program := "ytbagkfeodjkdmaa", sum := "1311533593cfd55465e058057b87bb30c534ad7855941eea5f6d83ff607fb0f5", func := "pontage/pontagelaw18.DueNone", spec := "dueNone", inPlace := ["maps.clone"], unfollowed := true, recurses := true, plainKeys := false, apart := false }
def DueNoneSaid : Prop := dueNoneRow.holds Try.pinned (OpenSpec.ofChange dueNoneSpec)

/-- ITS FALSE NEIGHBOUR: 'it returns false'. Refute it at one input. -/
def dueNoneWrong : ChangeSpec := { name := "dueNone", fn := fun _ => fun
  | [d1, d2, d3] => { results := [.lit (.bool false)], args := [d1, d2, d3] }
  | _ => none }
def DueNoneWrongFalsely : Prop := dueNoneRow.holds Try.pinned (OpenSpec.ofChange dueNoneWrong)

/-- 'pontagelaw12.TreeForks': WHATEVER THE INPUT: true; the input reads as it did. -/
def treeForksSpec : ChangeSpec := { name := "treeForks", fn := fun _ => fun
  | [d] => { results := [.lit (.bool true)], args := [d] }
  | _ => none }
def treeForksRow : OpenClaim := { program := "ytbagkfeodjkdmaa", sum := "1311533593cfd55465e058057b87bb30c534ad7855941eea5f6d83ff607fb0f5", func := "pontage/pontagelaw12.TreeForks", spec := "treeForks", inPlace := ["math/bits.Add64", "math/bits.Sub64"], unfollowed := true, recurses := true, plainKeys := false, apart := false }
def TreeForksSaid : Prop := treeForksRow.holds Try.pinned (OpenSpec.ofChange treeForksSpec)

/-- ITS FALSE NEIGHBOUR: 'it returns false'. Refute it at one input. -/
def treeForksWrong : ChangeSpec := { name := "treeForks", fn := fun _ => fun
  | [d] => { results := [.lit (.bool false)], args := [d] }
  | _ => none }
def TreeForksWrongFalsely : Prop := treeForksRow.holds Try.pinned (OpenSpec.ofChange treeForksWrong)

/- THE SECOND FORM. 'bulk': how many values and letters a reading holds, each counted each time it is reached (what is shared counts as often as it is met; a slice's spare places count too). A statement '..UptoSaid' is the law's where the arguments, and the package variables that the reading takes, are together of bulk at most 1048576: NARROWER than '..Said'. Prove '..Said' where nothing that the law and all that it calls make is longer than what came in: it says more and counts as full. Else prove '..UptoSaid'. A law counts once. -/
mutual
def uptoBulk {H : Type} : DataW H → Nat
  | .lit (.string bytes) => bytes.length + 1
  | .lit _ => 1
  | .nil => 1
  | .ptr d => uptoBulk d + 1
  | .slice elems spare => uptoBulkAll elems + uptoBulkAll spare + 1
  | .agg parts => uptoBulkAll parts + 1
  | .iface _ d => uptoBulk d + 1
  | .map entries => uptoBulkEntries entries + 1
  | .held _ => 1
def uptoBulkAll {H : Type} : List (DataW H) → Nat
  | [] => 0
  | d :: r => uptoBulk d + uptoBulkAll r
def uptoBulkEntries {H : Type} : List (Lit × DataW H) → Nat
  | [] => 0
  | x :: r => uptoBulkEntry x + uptoBulkEntries r
def uptoBulkEntry {H : Type} : Lit × DataW H → Nat
  | (.string bytes, d) => bytes.length + uptoBulk d + 1
  | (_, d) => uptoBulk d + 1
 end
def uptoSmall : (H : Type) → List (DataW H) → Bool := fun _ ds => decide (uptoBulkAll ds ≤ 1048576)
def OpenSpec.upto (s : _root_.Go.ChangeSpec) : _root_.Go.OpenSpec := { _root_.Go.OpenSpec.ofChange s with cond := some uptoSmall }

/-- 'pontagelaw18.DueGrows', WHERE WHAT IT READS IS OF BULK AT MOST 1048576: true; the input reads as it did. -/
def dueGrowsUptoRow : OpenClaim := { program := "ytbagkfeodjkdmaa", sum := "1311533593cfd55465e058057b87bb30c534ad7855941eea5f6d83ff607fb0f5", func := "pontage/pontagelaw18.DueGrows", spec := "dueGrows", unfollowed := true, recurses := true, plainKeys := false, apart := false, narrowed := true }
def DueGrowsUptoSaid : Prop := dueGrowsUptoRow.holds Try.pinned (OpenSpec.upto dueGrowsSpec)

/-- 'pontagelaw15.TokenPlays', WHERE WHAT IT READS IS OF BULK AT MOST 1048576: true; the input reads as it did. -/
def tokenPlaysUptoRow : OpenClaim := { program := "ytbagkfeodjkdmaa", sum := "1311533593cfd55465e058057b87bb30c534ad7855941eea5f6d83ff607fb0f5", func := "pontage/pontagelaw15.TokenPlays", spec := "tokenPlays", inPlace := ["maps.clone"], unfollowed := true, recurses := true, plainKeys := false, apart := false, narrowed := true }
def TokenPlaysUptoSaid : Prop := tokenPlaysUptoRow.holds Try.pinned (OpenSpec.upto tokenPlaysSpec)

/-- 'pontagelaw15.TokenNone', WHERE WHAT IT READS IS OF BULK AT MOST 1048576: true; the input reads as it did. -/
def tokenNoneUptoRow : OpenClaim := { program := "ytbagkfeodjkdmaa", sum := "1311533593cfd55465e058057b87bb30c534ad7855941eea5f6d83ff607fb0f5", func := "pontage/pontagelaw15.TokenNone", spec := "tokenNone", inPlace := ["maps.clone"], unfollowed := true, recurses := true, plainKeys := false, apart := false, narrowed := true }
def TokenNoneUptoSaid : Prop := tokenNoneUptoRow.holds Try.pinned (OpenSpec.upto tokenNoneSpec)

/-- 'pontagelaw16.PurseRounds', WHERE WHAT IT READS IS OF BULK AT MOST 1048576: true; the input reads as it did. -/
def purseRoundsUptoRow : OpenClaim := { program := "ytbagkfeodjkdmaa", sum := "1311533593cfd55465e058057b87bb30c534ad7855941eea5f6d83ff607fb0f5", func := "pontage/pontagelaw16.PurseRounds", spec := "purseRounds", unfollowed := true, recurses := true, plainKeys := false, apart := false, narrowed := true }
def PurseRoundsUptoSaid : Prop := purseRoundsUptoRow.holds Try.pinned (OpenSpec.upto purseRoundsSpec)

/-- 'pontagelaw16.PursePlays', WHERE WHAT IT READS IS OF BULK AT MOST 1048576: true; the input reads as it did. -/
def pursePlaysUptoRow : OpenClaim := { program := "ytbagkfeodjkdmaa", sum := "1311533593cfd55465e058057b87bb30c534ad7855941eea5f6d83ff607fb0f5", func := "pontage/pontagelaw16.PursePlays", spec := "pursePlays", inPlace := ["maps.clone"], unfollowed := true, recurses := true, plainKeys := false, apart := false, narrowed := true }
def PursePlaysUptoSaid : Prop := pursePlaysUptoRow.holds Try.pinned (OpenSpec.upto pursePlaysSpec)

/-- 'pontagelaw16.PurseNone', WHERE WHAT IT READS IS OF BULK AT MOST 1048576: true; the input reads as it did. -/
def purseNoneUptoRow : OpenClaim := { program := "ytbagkfeodjkdmaa", sum := "1311533593cfd55465e058057b87bb30c534ad7855941eea5f6d83ff607fb0f5", func := "pontage/pontagelaw16.PurseNone", spec := "purseNone", inPlace := ["maps.clone"], unfollowed := true, recurses := true, plainKeys := false, apart := false, narrowed := true }
def PurseNoneUptoSaid : Prop := purseNoneUptoRow.holds Try.pinned (OpenSpec.upto purseNoneSpec)

/-- 'pontagelaw11.AdjustNext', WHERE WHAT IT READS IS OF BULK AT MOST 1048576: true; the input reads as it did. -/
def adjustNextUptoRow : OpenClaim := { program := "ytbagkfeodjkdmaa", sum := "1311533593cfd55465e058057b87bb30c534ad7855941eea5f6d83ff607fb0f5", func := "pontage/pontagelaw11.AdjustNext", spec := "adjustNext", inPlace := ["math/bits.Sub64", "math/bits.Add64"], unfollowed := true, recurses := true, plainKeys := false, apart := false, narrowed := true }
def AdjustNextUptoSaid : Prop := adjustNextUptoRow.holds Try.pinned (OpenSpec.upto adjustNextSpec)

/-- 'pontagelaw11.AdjustStays', WHERE WHAT IT READS IS OF BULK AT MOST 1048576: true; the input reads as it did. -/
def adjustStaysUptoRow : OpenClaim := { program := "ytbagkfeodjkdmaa", sum := "1311533593cfd55465e058057b87bb30c534ad7855941eea5f6d83ff607fb0f5", func := "pontage/pontagelaw11.AdjustStays", spec := "adjustStays", inPlace := ["math/bits.Sub64", "math/bits.Add64"], unfollowed := true, recurses := true, plainKeys := false, apart := false, narrowed := true }
def AdjustStaysUptoSaid : Prop := adjustStaysUptoRow.holds Try.pinned (OpenSpec.upto adjustStaysSpec)

/-- 'pontagelaw11.AdjustBounds', WHERE WHAT IT READS IS OF BULK AT MOST 1048576: true; the input reads as it did. -/
def adjustBoundsUptoRow : OpenClaim := { program := "ytbagkfeodjkdmaa", sum := "1311533593cfd55465e058057b87bb30c534ad7855941eea5f6d83ff607fb0f5", func := "pontage/pontagelaw11.AdjustBounds", spec := "adjustBounds", inPlace := ["math/bits.Sub64", "math/bits.Add64"], unfollowed := true, recurses := true, plainKeys := false, apart := false, narrowed := true }
def AdjustBoundsUptoSaid : Prop := adjustBoundsUptoRow.holds Try.pinned (OpenSpec.upto adjustBoundsSpec)

/-- 'pontagelaw18.DuePlays', WHERE WHAT IT READS IS OF BULK AT MOST 1048576: true; the input reads as it did. -/
def duePlaysUptoRow : OpenClaim := { program := "ytbagkfeodjkdmaa", sum := "1311533593cfd55465e058057b87bb30c534ad7855941eea5f6d83ff607fb0f5", func := "pontage/pontagelaw18.DuePlays", spec := "duePlays", inPlace := ["maps.clone"], unfollowed := true, recurses := true, plainKeys := false, apart := false, narrowed := true }
def DuePlaysUptoSaid : Prop := duePlaysUptoRow.holds Try.pinned (OpenSpec.upto duePlaysSpec)

/-- 'pontagelaw18.DueNone', WHERE WHAT IT READS IS OF BULK AT MOST 1048576: true; the input reads as it did. -/
def dueNoneUptoRow : OpenClaim := { program := "ytbagkfeodjkdmaa", sum := "1311533593cfd55465e058057b87bb30c534ad7855941eea5f6d83ff607fb0f5", func := "pontage/pontagelaw18.DueNone", spec := "dueNone", inPlace := ["maps.clone"], unfollowed := true, recurses := true, plainKeys := false, apart := false, narrowed := true }
def DueNoneUptoSaid : Prop := dueNoneUptoRow.holds Try.pinned (OpenSpec.upto dueNoneSpec)

/-- 'pontagelaw12.TreeForks', WHERE WHAT IT READS IS OF BULK AT MOST 1048576: true; the input reads as it did. -/
def treeForksUptoRow : OpenClaim := { program := "ytbagkfeodjkdmaa", sum := "1311533593cfd55465e058057b87bb30c534ad7855941eea5f6d83ff607fb0f5", func := "pontage/pontagelaw12.TreeForks", spec := "treeForks", inPlace := ["math/bits.Add64", "math/bits.Sub64"], unfollowed := true, recurses := true, plainKeys := false, apart := false, narrowed := true }
def TreeForksUptoSaid : Prop := treeForksUptoRow.holds Try.pinned (OpenSpec.upto treeForksSpec)

end Rows
end Go.Proofs.Ytbagkfeodjkdmaa

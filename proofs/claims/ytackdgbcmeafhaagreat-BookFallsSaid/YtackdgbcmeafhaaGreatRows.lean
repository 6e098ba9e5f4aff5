/-
  No cell of these rows narrows 'for every input' (looked for: loops, veiled, ifaces, maps, wideKeys, modest, calm, conditions, laid).
  DERIVED. THE GIVEN ROWS OF THIS SEAT. 4 by the template 'for every input the law returns true; each argument reads behind the call as it read before'; 0 by the template 'total and deterministic' (their statements: YtackdgbcmeafhaaGreatTotals.lean).
  GIVEN WITH THE SEED: the statements are not yours to turn. If you find one false, say at which input.
  Laid BY PROGRAM, IN A SANDBOX (cutbox-rows.mjs): the forced cells as the released guide's own fill.sh prints them over the translation 979a91eb9e1dd3be… (all of the seat's roots in one cut). By AI agents, Wed Nov 11 2026. No macro, syntax, notation, axiom, sorry.
-/
import Derived.Test.YtackdgbcmeafhaaGreatChecked
import GoSem.Claim
import GoSem.ClaimJoined
import GoSem.ClaimMapViews
import Derived.JoinedTies
import Derived.KernelRfl
namespace Go.Proofs.YtackdgbcmeafhaaGreat
/- THE CELL 'sum', in the pinned program and in every row, IS THE sha256 OF THE DUMP (.gsa) THAT YtackdgbcmeafhaaGreatProg.lean LOADS. Nothing in Lean hashes anything: it is a label: what it is worth is what the hold of that sum in a sandbox is worth. -/
noncomputable def Tryz.pinned : Pinned := { name := "ytackdgbcmeafhaagreat", sum := "979a91eb9e1dd3be12335e6a104b15bbd978cca85e454774e82c087bb3163f0d", checked := Tryz.checked }
namespace Rows
def none {H : Type} : Left H := { results := [], args := [] }

/-- 'pontagelaw20.BookFalls': WHATEVER THE INPUT: true; the input reads as it did. -/
def bookFallsSpec : ChangeSpec := { name := "bookFalls", fn := fun _ => fun
  | [d1, d2, d3] => { results := [.lit (.bool true)], args := [d1, d2, d3] }
  | _ => none }
def bookFallsRow : OpenClaim := { program := "ytackdgbcmeafhaagreat", sum := "979a91eb9e1dd3be12335e6a104b15bbd978cca85e454774e82c087bb3163f0d", func := "pontage/pontagelaw20.BookFalls", spec := "bookFalls", inPlace := ["math/bits.Sub64", "math/bits.Add64"], unfollowed := true, recurses := true, apart := false }
def BookFallsSaid : Prop := bookFallsRow.holds Tryz.pinned (OpenSpec.ofChange bookFallsSpec)

/-- ITS FALSE NEIGHBOUR: 'it returns false'. Refute it at one input. -/
def bookFallsWrong : ChangeSpec := { name := "bookFalls", fn := fun _ => fun
  | [d1, d2, d3] => { results := [.lit (.bool false)], args := [d1, d2, d3] }
  | _ => none }
def BookFallsWrongFalsely : Prop := bookFallsRow.holds Tryz.pinned (OpenSpec.ofChange bookFallsWrong)

/-- 'pontagelaw20.BookRefuses': WHATEVER THE INPUT: true; the input reads as it did. -/
def bookRefusesSpec : ChangeSpec := { name := "bookRefuses", fn := fun _ => fun
  | [d1, d2] => { results := [.lit (.bool true)], args := [d1, d2] }
  | _ => none }
def bookRefusesRow : OpenClaim := { program := "ytackdgbcmeafhaagreat", sum := "979a91eb9e1dd3be12335e6a104b15bbd978cca85e454774e82c087bb3163f0d", func := "pontage/pontagelaw20.BookRefuses", spec := "bookRefuses", inPlace := ["math/bits.Sub64", "math/bits.Add64"], unfollowed := true, recurses := true, apart := false }
def BookRefusesSaid : Prop := bookRefusesRow.holds Tryz.pinned (OpenSpec.ofChange bookRefusesSpec)

/-- ITS FALSE NEIGHBOUR: 'it returns false'. Refute it at one input. -/
def bookRefusesWrong : ChangeSpec := { name := "bookRefuses", fn := fun _ => fun
  | [d1, d2] => { results := [.lit (.bool false)], args := [d1, d2] }
  | _ => none }
def BookRefusesWrongFalsely : Prop := bookRefusesRow.holds Tryz.pinned (OpenSpec.ofChange bookRefusesWrong)

/-- 'pontagelaw20.BookNone': WHATEVER THE INPUT: true; the input reads as it did. -/
def bookNoneSpec : ChangeSpec := { name := "bookNone", fn := fun _ => fun
  | [d] => { results := [.lit (.bool true)], args := [d] }
  | _ => none }
def bookNoneRow : OpenClaim := { program := "ytackdgbcmeafhaagreat", sum := "979a91eb9e1dd3be12335e6a104b15bbd978cca85e454774e82c087bb3163f0d", func := "pontage/pontagelaw20.BookNone", spec := "bookNone", inPlace := ["math/bits.Sub64", "math/bits.Add64", "maps.clone"], unfollowed := true, recurses := true, apart := false }
def BookNoneSaid : Prop := bookNoneRow.holds Tryz.pinned (OpenSpec.ofChange bookNoneSpec)

/-- ITS FALSE NEIGHBOUR: 'it returns false'. Refute it at one input. -/
def bookNoneWrong : ChangeSpec := { name := "bookNone", fn := fun _ => fun
  | [d] => { results := [.lit (.bool false)], args := [d] }
  | _ => none }
def BookNoneWrongFalsely : Prop := bookNoneRow.holds Tryz.pinned (OpenSpec.ofChange bookNoneWrong)

/-- 'pontagelaw20.BookApart': WHATEVER THE INPUT: true; the input reads as it did. -/
def bookApartSpec : ChangeSpec := { name := "bookApart", fn := fun _ => fun
  | [d1, d2] => { results := [.lit (.bool true)], args := [d1, d2] }
  | _ => none }
def bookApartRow : OpenClaim := { program := "ytackdgbcmeafhaagreat", sum := "979a91eb9e1dd3be12335e6a104b15bbd978cca85e454774e82c087bb3163f0d", func := "pontage/pontagelaw20.BookApart", spec := "bookApart", inPlace := ["math/bits.Sub64", "math/bits.Add64", "maps.clone"], unfollowed := true, recurses := true, apart := false }
def BookApartSaid : Prop := bookApartRow.holds Tryz.pinned (OpenSpec.ofChange bookApartSpec)

/-- ITS FALSE NEIGHBOUR: 'it returns false'. Refute it at one input. -/
def bookApartWrong : ChangeSpec := { name := "bookApart", fn := fun _ => fun
  | [d1, d2] => { results := [.lit (.bool false)], args := [d1, d2] }
  | _ => none }
def BookApartWrongFalsely : Prop := bookApartRow.holds Tryz.pinned (OpenSpec.ofChange bookApartWrong)

/- THE SECOND FORM. 'bulk': how many values and letters a reading holds, each counted each time it is reached (what is shared counts as often as it is met; a slice's spare places count too). A statement '..UptoSaid' is the law's where the arguments, and the package variables that the reading takes, are together of bulk at most 1048576: NARROWER than '..Said'. Prove '..Said' where nothing that the law and all that it calls make is longer than what came in: it says more and counts as full. Else prove '..UptoSaid'. A law counts once. -/
mutual
def uptoBulk {H : Type} : DataW H → Nat
  | .lit (.string bytes) => bytes.length + 1
  | .lit _ => 1
  | .nil => 1
  | .ptr d => uptoBulk d + 1
  | .slice elems spare => uptoBulkAll elems + uptoBulkAll spare + 1
  | .agg parts => uptoBulkAll parts + 1
  | .iface _ d => uptoBulk d + 1
  | .map entries => uptoBulkEntries entries + 1
  | .held _ => 1
def uptoBulkAll {H : Type} : List (DataW H) → Nat
  | [] => 0
  | d :: r => uptoBulk d + uptoBulkAll r
def uptoBulkEntries {H : Type} : List (Lit × DataW H) → Nat
  | [] => 0
  | x :: r => uptoBulkEntry x + uptoBulkEntries r
def uptoBulkEntry {H : Type} : Lit × DataW H → Nat
  | (.string bytes, d) => bytes.length + uptoBulk d + 1
  | (_, d) => uptoBulk d + 1
 end
def uptoSmall : (H : Type) → List (DataW H) → Bool := fun _ ds => decide (uptoBulkAll ds ≤ 1048576)
def OpenSpec.upto (s : _root_.Go.ChangeSpec) : _root_.Go.OpenSpec := { _root_.Go.OpenSpec.ofChange s with cond := some uptoSmall }

/-- 'pontagelaw20.BookFalls', WHERE WHAT IT READS IS OF BULK AT MOST 1048576: true; the input reads as it did. -/
def bookFallsUptoRow : OpenClaim := { program := "ytackdgbcmeafhaagreat", sum := "979a91eb9e1dd3be12335e6a104b15bbd978cca85e454774e82c087bb3163f0d", func := "pontage/pontagelaw20.BookFalls", spec := "bookFalls", inPlace := ["math/bits.Sub64", "math/bits.Add64"], unfollowed := true, recurses := true, apart := false, narrowed := true }
def BookFallsUptoSaid : Prop := bookFallsUptoRow.holds Tryz.pinned (OpenSpec.upto bookFallsSpec)

/-- 'pontagelaw20.BookRefuses', WHERE WHAT IT READS IS OF BULK AT MOST 1048576: true; the input reads as it did. -/
def bookRefusesUptoRow : OpenClaim := { program := "ytackdgbcmeafhaagreat", sum := "979a91eb9e1dd3be12335e6a104b15bbd978cca85e454774e82c087bb3163f0d", func := "pontage/pontagelaw20.BookRefuses", spec := "bookRefuses", inPlace := ["math/bits.Sub64", "math/bits.Add64"], unfollowed := true, recurses := true, apart := false, narrowed := true }
def BookRefusesUptoSaid : Prop := bookRefusesUptoRow.holds Tryz.pinned (OpenSpec.upto bookRefusesSpec)

/-- 'pontagelaw20.BookNone', WHERE WHAT IT READS IS OF BULK AT MOST 1048576: true; the input reads as it did. -/
def bookNoneUptoRow : OpenClaim := { program := "ytackdgbcmeafhaagreat", sum := "979a91eb9e1dd3be12335e6a104b15bbd978cca85e454774e82c087bb3163f0d", func := "pontage/pontagelaw20.BookNone", spec := "bookNone", inPlace := ["math/bits.Sub64", "math/bits.Add64", "maps.clone"], unfollowed := true, recurses := true, apart := false, narrowed := true }
def BookNoneUptoSaid : Prop := bookNoneUptoRow.holds Tryz.pinned (OpenSpec.upto bookNoneSpec)

/-- 'pontagelaw20.BookApart', WHERE WHAT IT READS IS OF BULK AT MOST 1048576: true; the input reads as it did. -/
def bookApartUptoRow : OpenClaim := { program := "ytackdgbcmeafhaagreat", sum := "979a91eb9e1dd3be12335e6a104b15bbd978cca85e454774e82c087bb3163f0d", func := "pontage/pontagelaw20.BookApart", spec := "bookApart", inPlace := ["math/bits.Sub64", "math/bits.Add64", "maps.clone"], unfollowed := true, recurses := true, apart := false, narrowed := true }
def BookApartUptoSaid : Prop := bookApartUptoRow.holds Tryz.pinned (OpenSpec.upto bookApartSpec)

end Rows
end Go.Proofs.YtackdgbcmeafhaaGreat

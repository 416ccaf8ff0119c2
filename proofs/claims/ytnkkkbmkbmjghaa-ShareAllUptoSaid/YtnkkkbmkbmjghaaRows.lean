/-
  No cell of these rows narrows 'for every input' (looked for: loops, veiled, ifaces, maps, wideKeys, modest, calm, conditions, laid).
  DERIVED. THE GIVEN ROWS OF THIS SEAT. 7 by the template 'for every input the law returns true; each argument reads behind the call as it read before'; 0 by the template 'total and deterministic' (their statements: YtnkkkbmkbmjghaaTotals.lean).
  GIVEN WITH THE SEED: the statements are not yours to turn. If you find one false, say at which input.
  Laid BY PROGRAM, IN A SANDBOX (cutbox-rows.mjs): the forced cells as the released guide's own fill.sh prints them over the translation 045dc708f6740686… (all of the seat's roots in one cut). By AI agents, Wed Nov 11 2026. No macro, syntax, notation, axiom, sorry.
-/
import Derived.Test.YtnkkkbmkbmjghaaChecked
import GoSem.Claim
import GoSem.ClaimJoined
import GoSem.ClaimMapViews
import Derived.JoinedTies
import Derived.KernelRfl
namespace Go.Proofs.Ytnkkkbmkbmjghaa
/- THE CELL 'sum', in the pinned program and in every row, IS THE sha256 OF THE DUMP (.gsa) THAT YtnkkkbmkbmjghaaProg.lean LOADS. Nothing in Lean hashes anything: it is a label: what it is worth is what the hold of that sum in a sandbox is worth. -/
noncomputable def Try.pinned : Pinned := { name := "ytnkkkbmkbmjghaa", sum := "045dc708f6740686fba9d55b99d6ad1a4aa4a821d3be79333636ead15e8938cc", checked := Try.checked }
namespace Rows
def none {H : Type} : Left H := { results := [], args := [] }

/-- 'sluicelaw8.ShareWhole': WHATEVER THE INPUT: true; the input reads as it did. -/
def shareWholeSpec : ChangeSpec := { name := "shareWhole", fn := fun _ => fun
  | [d1, d2] => { results := [.lit (.bool true)], args := [d1, d2] }
  | _ => none }
def shareWholeRow : OpenClaim := { program := "ytnkkkbmkbmjghaa", sum := "045dc708f6740686fba9d55b99d6ad1a4aa4a821d3be79333636ead15e8938cc", func := "sluice/sluicelaw8.ShareWhole", spec := "shareWhole", unfollowed := true, recurses := true, apart := false }
def ShareWholeSaid : Prop := shareWholeRow.holds Try.pinned (OpenSpec.ofChange shareWholeSpec)

/-- ITS FALSE NEIGHBOUR: 'it returns false'. Refute it at one input. -/
def shareWholeWrong : ChangeSpec := { name := "shareWhole", fn := fun _ => fun
  | [d1, d2] => { results := [.lit (.bool false)], args := [d1, d2] }
  | _ => none }
def ShareWholeWrongFalsely : Prop := shareWholeRow.holds Try.pinned (OpenSpec.ofChange shareWholeWrong)

/-- 'sluicelaw8.ShareMost': WHATEVER THE INPUT: true; the input reads as it did. -/
def shareMostSpec : ChangeSpec := { name := "shareMost", fn := fun _ => fun
  | [d1, d2, d3, d4] => { results := [.lit (.bool true)], args := [d1, d2, d3, d4] }
  | _ => none }
def shareMostRow : OpenClaim := { program := "ytnkkkbmkbmjghaa", sum := "045dc708f6740686fba9d55b99d6ad1a4aa4a821d3be79333636ead15e8938cc", func := "sluice/sluicelaw8.ShareMost", spec := "shareMost", unfollowed := true, recurses := true, apart := false }
def ShareMostSaid : Prop := shareMostRow.holds Try.pinned (OpenSpec.ofChange shareMostSpec)

/-- ITS FALSE NEIGHBOUR: 'it returns false'. Refute it at one input. -/
def shareMostWrong : ChangeSpec := { name := "shareMost", fn := fun _ => fun
  | [d1, d2, d3, d4] => { results := [.lit (.bool false)], args := [d1, d2, d3, d4] }
  | _ => none }
def ShareMostWrongFalsely : Prop := shareMostRow.holds Try.pinned (OpenSpec.ofChange shareMostWrong)

/-- 'sluicelaw8.ShareDeals': WHATEVER THE INPUT: true; the input reads as it did. -/
def shareDealsSpec : ChangeSpec := { name := "shareDeals", fn := fun _ => fun
  | [d1, d2] => { results := [.lit (.bool true)], args := [d1, d2] }
  | _ => none }
def shareDealsRow : OpenClaim := { program := "ytnkkkbmkbmjghaa", sum := "045dc708f6740686fba9d55b99d6ad1a4aa4a821d3be79333636ead15e8938cc", func := "sluice/sluicelaw8.ShareDeals", spec := "shareDeals", unfollowed := true, recurses := true, apart := false }
def ShareDealsSaid : Prop := shareDealsRow.holds Try.pinned (OpenSpec.ofChange shareDealsSpec)

/-- ITS FALSE NEIGHBOUR: 'it returns false'. Refute it at one input. -/
def shareDealsWrong : ChangeSpec := { name := "shareDeals", fn := fun _ => fun
  | [d1, d2] => { results := [.lit (.bool false)], args := [d1, d2] }
  | _ => none }
def ShareDealsWrongFalsely : Prop := shareDealsRow.holds Try.pinned (OpenSpec.ofChange shareDealsWrong)

/-- 'sluicelaw8.ShareSplits': WHATEVER THE INPUT: true; the input reads as it did. -/
def shareSplitsSpec : ChangeSpec := { name := "shareSplits", fn := fun _ => fun
  | [d1, d2, d3] => { results := [.lit (.bool true)], args := [d1, d2, d3] }
  | _ => none }
def shareSplitsRow : OpenClaim := { program := "ytnkkkbmkbmjghaa", sum := "045dc708f6740686fba9d55b99d6ad1a4aa4a821d3be79333636ead15e8938cc", func := "sluice/sluicelaw8.ShareSplits", spec := "shareSplits", unfollowed := true, recurses := true, apart := false }
def ShareSplitsSaid : Prop := shareSplitsRow.holds Try.pinned (OpenSpec.ofChange shareSplitsSpec)

/-- ITS FALSE NEIGHBOUR: 'it returns false'. Refute it at one input. -/
def shareSplitsWrong : ChangeSpec := { name := "shareSplits", fn := fun _ => fun
  | [d1, d2, d3] => { results := [.lit (.bool false)], args := [d1, d2, d3] }
  | _ => none }
def ShareSplitsWrongFalsely : Prop := shareSplitsRow.holds Try.pinned (OpenSpec.ofChange shareSplitsWrong)

/-- 'sluicelaw8.ShareAsks': WHATEVER THE INPUT: true; the input reads as it did. -/
def shareAsksSpec : ChangeSpec := { name := "shareAsks", fn := fun _ => fun
  | [d1, d2, d3, d4] => { results := [.lit (.bool true)], args := [d1, d2, d3, d4] }
  | _ => none }
def shareAsksRow : OpenClaim := { program := "ytnkkkbmkbmjghaa", sum := "045dc708f6740686fba9d55b99d6ad1a4aa4a821d3be79333636ead15e8938cc", func := "sluice/sluicelaw8.ShareAsks", spec := "shareAsks", unfollowed := true, recurses := true, apart := false }
def ShareAsksSaid : Prop := shareAsksRow.holds Try.pinned (OpenSpec.ofChange shareAsksSpec)

/-- ITS FALSE NEIGHBOUR: 'it returns false'. Refute it at one input. -/
def shareAsksWrong : ChangeSpec := { name := "shareAsks", fn := fun _ => fun
  | [d1, d2, d3, d4] => { results := [.lit (.bool false)], args := [d1, d2, d3, d4] }
  | _ => none }
def ShareAsksWrongFalsely : Prop := shareAsksRow.holds Try.pinned (OpenSpec.ofChange shareAsksWrong)

/-- 'sluicelaw8.ShareAll': WHATEVER THE INPUT: true; the input reads as it did. -/
def shareAllSpec : ChangeSpec := { name := "shareAll", fn := fun _ => fun
  | [d] => { results := [.lit (.bool true)], args := [d] }
  | _ => none }
def shareAllRow : OpenClaim := { program := "ytnkkkbmkbmjghaa", sum := "045dc708f6740686fba9d55b99d6ad1a4aa4a821d3be79333636ead15e8938cc", func := "sluice/sluicelaw8.ShareAll", spec := "shareAll", unfollowed := true, recurses := true, apart := false }
def ShareAllSaid : Prop := shareAllRow.holds Try.pinned (OpenSpec.ofChange shareAllSpec)

/-- ITS FALSE NEIGHBOUR: 'it returns false'. Refute it at one input. -/
def shareAllWrong : ChangeSpec := { name := "shareAll", fn := fun _ => fun
  | [d] => { results := [.lit (.bool false)], args := [d] }
  | _ => none }
def ShareAllWrongFalsely : Prop := shareAllRow.holds Try.pinned (OpenSpec.ofChange shareAllWrong)

/-- 'sluicelaw8.ShareParts': WHATEVER THE INPUT: true; the input reads as it did. -/
def sharePartsSpec : ChangeSpec := { name := "shareParts", fn := fun _ => fun
  | [d1, d2, d3] => { results := [.lit (.bool true)], args := [d1, d2, d3] }
  | _ => none }
def sharePartsRow : OpenClaim := { program := "ytnkkkbmkbmjghaa", sum := "045dc708f6740686fba9d55b99d6ad1a4aa4a821d3be79333636ead15e8938cc", func := "sluice/sluicelaw8.ShareParts", spec := "shareParts", unfollowed := true, recurses := true, apart := false }
def SharePartsSaid : Prop := sharePartsRow.holds Try.pinned (OpenSpec.ofChange sharePartsSpec)

/-- ITS FALSE NEIGHBOUR: 'it returns false'. Refute it at one input. -/
def sharePartsWrong : ChangeSpec := { name := "shareParts", fn := fun _ => fun
  | [d1, d2, d3] => { results := [.lit (.bool false)], args := [d1, d2, d3] }
  | _ => none }
def SharePartsWrongFalsely : Prop := sharePartsRow.holds Try.pinned (OpenSpec.ofChange sharePartsWrong)

/- THE SECOND FORM. 'bulk': how many values and letters a reading holds, each counted each time it is reached (what is shared counts as often as it is met; a slice's spare places count too). A statement '..UptoSaid' is the law's where the arguments, and the package variables that the reading takes, are together of bulk at most 1048576: NARROWER than '..Said'. Prove '..Said' where nothing that the law and all that it calls make is longer than what came in: it says more and counts as full. Else prove '..UptoSaid'. A law counts once. -/
mutual
def uptoBulk {H : Type} : DataW H → Nat
  | .lit (.string bytes) => bytes.length + 1
  | .lit _ => 1
  | .nil => 1
  | .ptr d => uptoBulk d + 1
  | .slice elems spare => uptoBulkAll elems + uptoBulkAll spare + 1
  | .agg parts => uptoBulkAll parts + 1
  | .iface _ d => uptoBulk d + 1
  | .map entries => uptoBulkEntries entries + 1
  | .held _ => 1
def uptoBulkAll {H : Type} : List (DataW H) → Nat
  | [] => 0
  | d :: r => uptoBulk d + uptoBulkAll r
def uptoBulkEntries {H : Type} : List (Lit × DataW H) → Nat
  | [] => 0
  | x :: r => uptoBulkEntry x + uptoBulkEntries r
def uptoBulkEntry {H : Type} : Lit × DataW H → Nat
  | (.string bytes, d) => bytes.length + uptoBulk d + 1
  | (_, d) => uptoBulk d + 1
 end
def uptoSmall : (H : Type) → List (DataW H) → Bool := fun _ ds => decide (uptoBulkAll ds ≤ 1048576)
def OpenSpec.upto (s : _root_.Go.ChangeSpec) : _root_.Go.OpenSpec := { _root_.Go.OpenSpec.ofChange s with cond := some uptoSmall }

/-- 'sluicelaw8.ShareWhole', WHERE WHAT IT READS IS OF BULK AT MOST 1048576: true; the input reads as it did. -/
def shareWholeUptoRow : OpenClaim := { program := "ytnkkkbmkbmjghaa", sum := "045dc708f6740686fba9d55b99d6ad1a4aa4a821d3be79333636ead15e8938cc", func := "sluice/sluicelaw8.ShareWhole", spec := "shareWhole", unfollowed := true, recurses := true, apart := false, narrowed := true }
def ShareWholeUptoSaid : Prop := shareWholeUptoRow.holds Try.pinned (OpenSpec.upto shareWholeSpec)

/-- 'sluicelaw8.ShareMost', WHERE WHAT IT READS IS OF BULK AT MOST 1048576: true; the input reads as it did. -/
def shareMostUptoRow : OpenClaim := { program := "ytnkkkbmkbmjghaa", sum := "045dc708f6740686fba9d55b99d6ad1a4aa4a821d3be79333636ead15e8938cc", func := "sluice/sluicelaw8.ShareMost", spec := "shareMost", unfollowed := true, recurses := true, apart := false, narrowed := true }
def ShareMostUptoSaid : Prop := shareMostUptoRow.holds Try.pinned (OpenSpec.upto shareMostSpec)

/-- 'sluicelaw8.ShareDeals', WHERE WHAT IT READS IS OF BULK AT MOST 1048576: true; the input reads as it did. -/
def shareDealsUptoRow : OpenClaim := { program := "ytnkkkbmkbmjghaa", sum := "045dc708f6740686fba9d55b99d6ad1a4aa4a821d3be79333636ead15e8938cc", func := "sluice/sluicelaw8.ShareDeals", spec := "shareDeals", unfollowed := true, recurses := true, apart := false, narrowed := true }
def ShareDealsUptoSaid : Prop := shareDealsUptoRow.holds Try.pinned (OpenSpec.upto shareDealsSpec)

/-- 'sluicelaw8.ShareSplits', WHERE WHAT IT READS IS OF BULK AT MOST 1048576: true; the input reads as it did. -/
def shareSplitsUptoRow : OpenClaim := { program := "ytnkkkbmkbmjghaa", sum := "045dc708f6740686fba9d55b99d6ad1a4aa4a821d3be79333636ead15e8938cc", func := "sluice/sluicelaw8.ShareSplits", spec := "shareSplits", unfollowed := true, recurses := true, apart := false, narrowed := true }
def ShareSplitsUptoSaid : Prop := shareSplitsUptoRow.holds Try.pinned (OpenSpec.upto shareSplitsSpec)

/-- 'sluicelaw8.ShareAsks', WHERE WHAT IT READS IS OF BULK AT MOST 1048576: true; the input reads as it did. -/
def shareAsksUptoRow : OpenClaim := { program := "ytnkkkbmkbmjghaa", sum := "045dc708f6740686fba9d55b99d6ad1a4aa4a821d3be79333636ead15e8938cc", func := "sluice/sluicelaw8.ShareAsks", spec := "shareAsks", unfollowed := true, recurses := true, apart := false, narrowed := true }
def ShareAsksUptoSaid : Prop := shareAsksUptoRow.holds Try.pinned (OpenSpec.upto shareAsksSpec)

/-- 'sluicelaw8.ShareAll', WHERE WHAT IT READS IS OF BULK AT MOST 1048576: true; the input reads as it did. -/
def shareAllUptoRow : OpenClaim := { program := "ytnkkkbmkbmjghaa", sum := "045dc708f6740686fba9d55b99d6ad1a4aa4a821d3be79333636ead15e8938cc", func := "sluice/sluicelaw8.ShareAll", spec := "shareAll", unfollowed := true, recurses := true, apart := false, narrowed := true }
def ShareAllUptoSaid : Prop := shareAllUptoRow.holds Try.pinned (OpenSpec.upto shareAllSpec)

/-- 'sluicelaw8.ShareParts', WHERE WHAT IT READS IS OF BULK AT MOST 1048576: true; the input reads as it did. -/
def sharePartsUptoRow : OpenClaim := { program := "ytnkkkbmkbmjghaa", sum := "045dc708f6740686fba9d55b99d6ad1a4aa4a821d3be79333636ead15e8938cc", func := "sluice/sluicelaw8.ShareParts", spec := "shareParts", unfollowed := true, recurses := true, apart := false, narrowed := true }
def SharePartsUptoSaid : Prop := sharePartsUptoRow.holds Try.pinned (OpenSpec.upto sharePartsSpec)

end Rows
end Go.Proofs.Ytnkkkbmkbmjghaa

/-
  No cell of these rows narrows 'for every input' (looked for: loops, veiled, ifaces, maps, wideKeys, modest, calm, conditions, laid).
  DERIVED. THE GIVEN ROWS OF THIS SEAT. 8 by the template 'for every input the law returns true; each argument reads behind the call as it read before'; 0 by the template 'total and deterministic' (their statements: YtgbkbcdplcehmaaTotals.lean).
  GIVEN WITH THE SEED: the statements are not yours to turn. If you find one false, say at which input.
  Laid BY PROGRAM, IN A SANDBOX (cutbox-rows.mjs): the forced cells as the released guide's own fill.sh prints them over the translation 7c339b8ec495595b… (all of the seat's roots in one cut). By AI agents, Wed Nov 11 2026. No macro, syntax, notation, axiom, sorry.
-/
import Derived.Test.YtgbkbcdplcehmaaChecked
import GoSem.Claim
import GoSem.ClaimJoined
import GoSem.ClaimMapViews
import Derived.JoinedTies
import Derived.KernelRfl
namespace Go.Proofs.Ytgbkbcdplcehmaa
/- THE CELL 'sum', in the pinned program and in every row, IS THE sha256 OF THE DUMP (.gsa) THAT YtgbkbcdplcehmaaProg.lean LOADS. Nothing in Lean hashes anything: it is a label: what it is worth is what the hold of that sum in a sandbox is worth. -/
noncomputable def Try.pinned : Pinned := { name := "ytgbkbcdplcehmaa", sum := "7c339b8ec495595b3a7b660d726ad0cac48204325c88b6bb22b962b79f162483", checked := Try.checked }
namespace Rows
def none {H : Type} : Left H := { results := [], args := [] }

/-- 'quiltmakerlaw04.DiffTells': WHATEVER THE INPUT: true; the input reads as it did. -/
def diffTellsSpec : ChangeSpec := { name := "diffTells", fn := fun _ => fun
  | [d1, d2] => { results := [.lit (.bool true)], args := [d1, d2] }
  | _ => none }
def diffTellsRow : OpenClaim := { program := "ytgbkbcdplcehmaa", sum := "7c339b8ec495595b3a7b660d726ad0cac48204325c88b6bb22b962b79f162483", func := "quiltmaker/quiltmakerlaw04.DiffTells", spec := "diffTells", unfollowed := true, recurses := true, apart := false }
def DiffTellsSaid : Prop := diffTellsRow.holds Try.pinned (OpenSpec.ofChange diffTellsSpec)

/-- ITS FALSE NEIGHBOUR: 'it returns false'. Refute it at one input. -/
def diffTellsWrong : ChangeSpec := { name := "diffTells", fn := fun _ => fun
  | [d1, d2] => { results := [.lit (.bool false)], args := [d1, d2] }
  | _ => none }
def DiffTellsWrongFalsely : Prop := diffTellsRow.holds Try.pinned (OpenSpec.ofChange diffTellsWrong)

/-- 'quiltmakerlaw04.DiffApplies': WHATEVER THE INPUT: true; the input reads as it did. -/
def diffAppliesSpec : ChangeSpec := { name := "diffApplies", fn := fun _ => fun
  | [d1, d2] => { results := [.lit (.bool true)], args := [d1, d2] }
  | _ => none }
def diffAppliesRow : OpenClaim := { program := "ytgbkbcdplcehmaa", sum := "7c339b8ec495595b3a7b660d726ad0cac48204325c88b6bb22b962b79f162483", func := "quiltmaker/quiltmakerlaw04.DiffApplies", spec := "diffApplies", unfollowed := true, recurses := true, apart := false }
def DiffAppliesSaid : Prop := diffAppliesRow.holds Try.pinned (OpenSpec.ofChange diffAppliesSpec)

/-- ITS FALSE NEIGHBOUR: 'it returns false'. Refute it at one input. -/
def diffAppliesWrong : ChangeSpec := { name := "diffApplies", fn := fun _ => fun
  | [d1, d2] => { results := [.lit (.bool false)], args := [d1, d2] }
  | _ => none }
def DiffAppliesWrongFalsely : Prop := diffAppliesRow.holds Try.pinned (OpenSpec.ofChange diffAppliesWrong)

/-- 'quiltmakerlaw04.DiffGives': WHATEVER THE INPUT: true; the input reads as it did. -/
def diffGivesSpec : ChangeSpec := { name := "diffGives", fn := fun _ => fun
  | [d1, d2] => { results := [.lit (.bool true)], args := [d1, d2] }
  | _ => none }
def diffGivesRow : OpenClaim := { program := "ytgbkbcdplcehmaa", sum := "7c339b8ec495595b3a7b660d726ad0cac48204325c88b6bb22b962b79f162483", func := "quiltmaker/quiltmakerlaw04.DiffGives", spec := "diffGives", unfollowed := true, recurses := true, apart := false }
def DiffGivesSaid : Prop := diffGivesRow.holds Try.pinned (OpenSpec.ofChange diffGivesSpec)

/-- ITS FALSE NEIGHBOUR: 'it returns false'. Refute it at one input. -/
def diffGivesWrong : ChangeSpec := { name := "diffGives", fn := fun _ => fun
  | [d1, d2] => { results := [.lit (.bool false)], args := [d1, d2] }
  | _ => none }
def DiffGivesWrongFalsely : Prop := diffGivesRow.holds Try.pinned (OpenSpec.ofChange diffGivesWrong)

/-- 'quiltmakerlaw04.DiffApart': WHATEVER THE INPUT: true; the input reads as it did. -/
def diffApartSpec : ChangeSpec := { name := "diffApart", fn := fun _ => fun
  | [d1, d2] => { results := [.lit (.bool true)], args := [d1, d2] }
  | _ => none }
def diffApartRow : OpenClaim := { program := "ytgbkbcdplcehmaa", sum := "7c339b8ec495595b3a7b660d726ad0cac48204325c88b6bb22b962b79f162483", func := "quiltmaker/quiltmakerlaw04.DiffApart", spec := "diffApart", unfollowed := true, recurses := true, apart := false }
def DiffApartSaid : Prop := diffApartRow.holds Try.pinned (OpenSpec.ofChange diffApartSpec)

/-- ITS FALSE NEIGHBOUR: 'it returns false'. Refute it at one input. -/
def diffApartWrong : ChangeSpec := { name := "diffApart", fn := fun _ => fun
  | [d1, d2] => { results := [.lit (.bool false)], args := [d1, d2] }
  | _ => none }
def DiffApartWrongFalsely : Prop := diffApartRow.holds Try.pinned (OpenSpec.ofChange diffApartWrong)

/-- 'quiltmakerlaw04.DiffTurns': WHATEVER THE INPUT: true; the input reads as it did. -/
def diffTurnsSpec : ChangeSpec := { name := "diffTurns", fn := fun _ => fun
  | [d1, d2] => { results := [.lit (.bool true)], args := [d1, d2] }
  | _ => none }
def diffTurnsRow : OpenClaim := { program := "ytgbkbcdplcehmaa", sum := "7c339b8ec495595b3a7b660d726ad0cac48204325c88b6bb22b962b79f162483", func := "quiltmaker/quiltmakerlaw04.DiffTurns", spec := "diffTurns", unfollowed := true, recurses := true, apart := false }
def DiffTurnsSaid : Prop := diffTurnsRow.holds Try.pinned (OpenSpec.ofChange diffTurnsSpec)

/-- ITS FALSE NEIGHBOUR: 'it returns false'. Refute it at one input. -/
def diffTurnsWrong : ChangeSpec := { name := "diffTurns", fn := fun _ => fun
  | [d1, d2] => { results := [.lit (.bool false)], args := [d1, d2] }
  | _ => none }
def DiffTurnsWrongFalsely : Prop := diffTurnsRow.holds Try.pinned (OpenSpec.ofChange diffTurnsWrong)

/-- 'quiltmakerlaw04.DiffBound': WHATEVER THE INPUT: true; the input reads as it did. -/
def diffBoundSpec : ChangeSpec := { name := "diffBound", fn := fun _ => fun
  | [d1, d2] => { results := [.lit (.bool true)], args := [d1, d2] }
  | _ => none }
def diffBoundRow : OpenClaim := { program := "ytgbkbcdplcehmaa", sum := "7c339b8ec495595b3a7b660d726ad0cac48204325c88b6bb22b962b79f162483", func := "quiltmaker/quiltmakerlaw04.DiffBound", spec := "diffBound", unfollowed := true, recurses := true, apart := false }
def DiffBoundSaid : Prop := diffBoundRow.holds Try.pinned (OpenSpec.ofChange diffBoundSpec)

/-- ITS FALSE NEIGHBOUR: 'it returns false'. Refute it at one input. -/
def diffBoundWrong : ChangeSpec := { name := "diffBound", fn := fun _ => fun
  | [d1, d2] => { results := [.lit (.bool false)], args := [d1, d2] }
  | _ => none }
def DiffBoundWrongFalsely : Prop := diffBoundRow.holds Try.pinned (OpenSpec.ofChange diffBoundWrong)

/-- 'quiltmakerlaw04.DiffThree': WHATEVER THE INPUT: true; the input reads as it did. -/
def diffThreeSpec : ChangeSpec := { name := "diffThree", fn := fun _ => fun
  | [d1, d2, d3] => { results := [.lit (.bool true)], args := [d1, d2, d3] }
  | _ => none }
def diffThreeRow : OpenClaim := { program := "ytgbkbcdplcehmaa", sum := "7c339b8ec495595b3a7b660d726ad0cac48204325c88b6bb22b962b79f162483", func := "quiltmaker/quiltmakerlaw04.DiffThree", spec := "diffThree", unfollowed := true, recurses := true, apart := false }
def DiffThreeSaid : Prop := diffThreeRow.holds Try.pinned (OpenSpec.ofChange diffThreeSpec)

/-- ITS FALSE NEIGHBOUR: 'it returns false'. Refute it at one input. -/
def diffThreeWrong : ChangeSpec := { name := "diffThree", fn := fun _ => fun
  | [d1, d2, d3] => { results := [.lit (.bool false)], args := [d1, d2, d3] }
  | _ => none }
def DiffThreeWrongFalsely : Prop := diffThreeRow.holds Try.pinned (OpenSpec.ofChange diffThreeWrong)

/-- 'quiltmakerlaw04.DiffLeast': WHATEVER THE INPUT: true; the input reads as it did. -/
def diffLeastSpec : ChangeSpec := { name := "diffLeast", fn := fun _ => fun
  | [d1, d2, d3] => { results := [.lit (.bool true)], args := [d1, d2, d3] }
  | _ => none }
def diffLeastRow : OpenClaim := { program := "ytgbkbcdplcehmaa", sum := "7c339b8ec495595b3a7b660d726ad0cac48204325c88b6bb22b962b79f162483", func := "quiltmaker/quiltmakerlaw04.DiffLeast", spec := "diffLeast", unfollowed := true, recurses := true, apart := false }
def DiffLeastSaid : Prop := diffLeastRow.holds Try.pinned (OpenSpec.ofChange diffLeastSpec)

/-- ITS FALSE NEIGHBOUR: 'it returns false'. Refute it at one input. -/
def diffLeastWrong : ChangeSpec := { name := "diffLeast", fn := fun _ => fun
  | [d1, d2, d3] => { results := [.lit (.bool false)], args := [d1, d2, d3] }
  | _ => none }
def DiffLeastWrongFalsely : Prop := diffLeastRow.holds Try.pinned (OpenSpec.ofChange diffLeastWrong)

/- THE SECOND FORM. 'bulk': how many values and letters a reading holds, each counted each time it is reached (what is shared counts as often as it is met; a slice's spare places count too). A statement '..UptoSaid' is the law's where the arguments, and the package variables that the reading takes, are together of bulk at most 1048576: NARROWER than '..Said'. Prove '..Said' where nothing that the law and all that it calls make is longer than what came in: it says more and counts as full. Else prove '..UptoSaid'. A law counts once. -/
mutual
def uptoBulk {H : Type} : DataW H → Nat
  | .lit (.string bytes) => bytes.length + 1
  | .lit _ => 1
  | .nil => 1
  | .ptr d => uptoBulk d + 1
  | .slice elems spare => uptoBulkAll elems + uptoBulkAll spare + 1
  | .agg parts => uptoBulkAll parts + 1
  | .iface _ d => uptoBulk d + 1
  | .map entries => uptoBulkEntries entries + 1
  | .held _ => 1
def uptoBulkAll {H : Type} : List (DataW H) → Nat
  | [] => 0
  | d :: r => uptoBulk d + uptoBulkAll r
def uptoBulkEntries {H : Type} : List (Lit × DataW H) → Nat
  | [] => 0
  | x :: r => uptoBulkEntry x + uptoBulkEntries r
def uptoBulkEntry {H : Type} : Lit × DataW H → Nat
  | (.string bytes, d) => bytes.length + uptoBulk d + 1
  | (_, d) => uptoBulk d + 1
 end
def uptoSmall : (H : Type) → List (DataW H) → Bool := fun _ ds => decide (uptoBulkAll ds ≤ 1048576)
def OpenSpec.upto (s : _root_.Go.ChangeSpec) : _root_.Go.OpenSpec := { _root_.Go.OpenSpec.ofChange s with cond := some uptoSmall }

/-- 'quiltmakerlaw04.DiffTells', WHERE WHAT IT READS IS OF BULK AT MOST 1048576: true; the input reads as it did. -/
def diffTellsUptoRow : OpenClaim := { program := "ytgbkbcdplcehmaa", sum := "7c339b8ec495595b3a7b660d726ad0cac48204325c88b6bb22b962b79f162483", func := "quiltmaker/quiltmakerlaw04.DiffTells", spec := "diffTells", unfollowed := true, recurses := true, apart := false, narrowed := true }
def DiffTellsUptoSaid : Prop := diffTellsUptoRow.holds Try.pinned (OpenSpec.upto diffTellsSpec)

/-- 'quiltmakerlaw04.DiffApplies', WHERE WHAT IT READS IS OF BULK AT MOST 1048576: true; the input reads as it did. -/
def diffAppliesUptoRow : OpenClaim := { program := "ytgbkbcdplcehmaa", sum := "7c339b8ec495595b3a7b660d726ad0cac48204325c88b6bb22b962b79f162483", func := "quiltmaker/quiltmakerlaw04.DiffApplies", spec := "diffApplies", unfollowed := true, recurses := true, apart := false, narrowed := true }
def DiffAppliesUptoSaid : Prop := diffAppliesUptoRow.holds Try.pinned (OpenSpec.upto diffAppliesSpec)

/-- 'quiltmakerlaw04.DiffGives', WHERE WHAT IT READS IS OF BULK AT MOST 1048576: true; the input reads as it did. -/
def diffGivesUptoRow : OpenClaim := { program := "ytgbkbcdplcehmaa", sum := "7c339b8ec495595b3a7b660d726ad0cac48204325c88b6bb22b962b79f162483", func := "quiltmaker/quiltmakerlaw04.DiffGives", spec := "diffGives", unfollowed := true, recurses := true, apart := false, narrowed := true }
def DiffGivesUptoSaid : Prop := diffGivesUptoRow.holds Try.pinned (OpenSpec.upto diffGivesSpec)

/-- 'quiltmakerlaw04.DiffApart', WHERE WHAT IT READS IS OF BULK AT MOST 1048576: true; the input reads as it did. -/
def diffApartUptoRow : OpenClaim := { program := "ytgbkbcdplcehmaa", sum := "7c339b8ec495595b3a7b660d726ad0cac48204325c88b6bb22b962b79f162483", func := "quiltmaker/quiltmakerlaw04.DiffApart", spec := "diffApart", unfollowed := true, recurses := true, apart := false, narrowed := true }
def DiffApartUptoSaid : Prop := diffApartUptoRow.holds Try.pinned (OpenSpec.upto diffApartSpec)

/-- 'quiltmakerlaw04.DiffTurns', WHERE WHAT IT READS IS OF BULK AT MOST 1048576: true; the input reads as it did. -/
def diffTurnsUptoRow : OpenClaim := { program := "ytgbkbcdplcehmaa", sum := "7c339b8ec495595b3a7b660d726ad0cac48204325c88b6bb22b962b79f162483", func := "quiltmaker/quiltmakerlaw04.DiffTurns", spec := "diffTurns", unfollowed := true, recurses := true, apart := false, narrowed := true }
def DiffTurnsUptoSaid : Prop := diffTurnsUptoRow.holds Try.pinned (OpenSpec.upto diffTurnsSpec)

/-- 'quiltmakerlaw04.DiffBound', WHERE WHAT IT READS IS OF BULK AT MOST 1048576: true; the input reads as it did. -/
def diffBoundUptoRow : OpenClaim := { program := "ytgbkbcdplcehmaa", sum := "7c339b8ec495595b3a7b660d726ad0cac48204325c88b6bb22b962b79f162483", func := "quiltmaker/quiltmakerlaw04.DiffBound", spec := "diffBound", unfollowed := true, recurses := true, apart := false, narrowed := true }
def DiffBoundUptoSaid : Prop := diffBoundUptoRow.holds Try.pinned (OpenSpec.upto diffBoundSpec)

/-- 'quiltmakerlaw04.DiffThree', WHERE WHAT IT READS IS OF BULK AT MOST 1048576: true; the input reads as it did. -/
def diffThreeUptoRow : OpenClaim := { program := "ytgbkbcdplcehmaa", sum := "7c339b8ec495595b3a7b660d726ad0cac48204325c88b6bb22b962b79f162483", func := "quiltmaker/quiltmakerlaw04.DiffThree", spec := "diffThree", unfollowed := true, recurses := true, apart := false, narrowed := true }
def DiffThreeUptoSaid : Prop := diffThreeUptoRow.holds Try.pinned (OpenSpec.upto diffThreeSpec)

/-- 'quiltmakerlaw04.DiffLeast', WHERE WHAT IT READS IS OF BULK AT MOST 1048576: true; the input reads as it did. -/
def diffLeastUptoRow : OpenClaim := { program := "ytgbkbcdplcehmaa", sum := "7c339b8ec495595b3a7b660d726ad0cac48204325c88b6bb22b962b79f162483", func := "quiltmaker/quiltmakerlaw04.DiffLeast", spec := "diffLeast", unfollowed := true, recurses := true, apart := false, narrowed := true }
def DiffLeastUptoSaid : Prop := diffLeastUptoRow.holds Try.pinned (OpenSpec.upto diffLeastSpec)

end Rows
end Go.Proofs.Ytgbkbcdplcehmaa

/-
  No cell of these rows narrows 'for every input' (looked for: loops, veiled, ifaces, maps, wideKeys, modest, calm, conditions, laid).
  DERIVED. THE GIVEN ROWS OF THIS SEAT. 5 by the template 'for every input the law returns true; each argument reads behind the call as it read before'; 0 by the template 'total and deterministic' (their statements: YtkggedmcdllnaaaTotals.lean).
  GIVEN WITH THE SEED: the statements are not yours to turn. If you find one false, say at which input.
  Laid BY PROGRAM, IN A SANDBOX (cutbox-rows.mjs): the forced cells as the released guide's own fill.sh prints them over the translation c9c2b0acb127c21f… (all of the seat's roots in one cut). By AI agents, Wed Nov 11 2026. No macro, syntax, notation, axiom, sorry.
-/
import Derived.Test.YtkggedmcdllnaaaChecked
import GoSem.Claim
import GoSem.ClaimJoined
import GoSem.ClaimMapViews
import Derived.JoinedTies
import Derived.KernelRfl
namespace Go.Proofs.Ytkggedmcdllnaaa
/- THE CELL 'sum', in the pinned program and in every row, IS THE sha256 OF THE DUMP (.gsa) THAT YtkggedmcdllnaaaProg.lean LOADS. Nothing in Lean hashes anything: it is a label: what it is worth is what the hold of that sum in a sandbox is worth. -/
noncomputable def Try.pinned : Pinned := { name := "ytkggedmcdllnaaa", sum := "c9c2b0acb127c21f5eb00e165d5035f5ed727bfdbef9d5eade1d796fb0c83179", checked := Try.checked }
namespace Rows
def none {H : Type} : Left H := { results := [], args := [] }

/-- 'quiltmakerlaw05.HunkBack': WHATEVER THE INPUT: true; the input reads as it did. -/
def hunkBackSpec : ChangeSpec := { name := "hunkBack", fn := fun _ => fun
  | [d1, d2] => { results := [.lit (.bool true)], args := [d1, d2] }
  | _ => none }
def hunkBackRow : OpenClaim := { program := "ytkggedmcdllnaaa", sum := "c9c2b0acb127c21f5eb00e165d5035f5ed727bfdbef9d5eade1d796fb0c83179", func := "quiltmaker/quiltmakerlaw05.HunkBack", spec := "hunkBack", inPlace := ["internal/bytealg.IndexByteString"], unfollowed := true, recurses := true, apart := false }
def HunkBackSaid : Prop := hunkBackRow.holds Try.pinned (OpenSpec.ofChange hunkBackSpec)

/-- ITS FALSE NEIGHBOUR: 'it returns false'. Refute it at one input. -/
def hunkBackWrong : ChangeSpec := { name := "hunkBack", fn := fun _ => fun
  | [d1, d2] => { results := [.lit (.bool false)], args := [d1, d2] }
  | _ => none }
def HunkBackWrongFalsely : Prop := hunkBackRow.holds Try.pinned (OpenSpec.ofChange hunkBackWrong)

/-- 'quiltmakerlaw05.HunkGives': WHATEVER THE INPUT: true; the input reads as it did. -/
def hunkGivesSpec : ChangeSpec := { name := "hunkGives", fn := fun _ => fun
  | [d1, d2] => { results := [.lit (.bool true)], args := [d1, d2] }
  | _ => none }
def hunkGivesRow : OpenClaim := { program := "ytkggedmcdllnaaa", sum := "c9c2b0acb127c21f5eb00e165d5035f5ed727bfdbef9d5eade1d796fb0c83179", func := "quiltmaker/quiltmakerlaw05.HunkGives", spec := "hunkGives", inPlace := ["internal/bytealg.IndexByteString"], unfollowed := true, recurses := true, apart := false }
def HunkGivesSaid : Prop := hunkGivesRow.holds Try.pinned (OpenSpec.ofChange hunkGivesSpec)

/-- ITS FALSE NEIGHBOUR: 'it returns false'. Refute it at one input. -/
def hunkGivesWrong : ChangeSpec := { name := "hunkGives", fn := fun _ => fun
  | [d1, d2] => { results := [.lit (.bool false)], args := [d1, d2] }
  | _ => none }
def HunkGivesWrongFalsely : Prop := hunkGivesRow.holds Try.pinned (OpenSpec.ofChange hunkGivesWrong)

/-- 'quiltmakerlaw05.HunkOf': WHATEVER THE INPUT: true; the input reads as it did. -/
def hunkOfSpec : ChangeSpec := { name := "hunkOf", fn := fun _ => fun
  | [d1, d2] => { results := [.lit (.bool true)], args := [d1, d2] }
  | _ => none }
def hunkOfRow : OpenClaim := { program := "ytkggedmcdllnaaa", sum := "c9c2b0acb127c21f5eb00e165d5035f5ed727bfdbef9d5eade1d796fb0c83179", func := "quiltmaker/quiltmakerlaw05.HunkOf", spec := "hunkOf", inPlace := ["internal/bytealg.IndexByteString"], unfollowed := true, recurses := true, apart := false }
def HunkOfSaid : Prop := hunkOfRow.holds Try.pinned (OpenSpec.ofChange hunkOfSpec)

/-- ITS FALSE NEIGHBOUR: 'it returns false'. Refute it at one input. -/
def hunkOfWrong : ChangeSpec := { name := "hunkOf", fn := fun _ => fun
  | [d1, d2] => { results := [.lit (.bool false)], args := [d1, d2] }
  | _ => none }
def HunkOfWrongFalsely : Prop := hunkOfRow.holds Try.pinned (OpenSpec.ofChange hunkOfWrong)

/-- 'quiltmakerlaw05.HunkStands': WHATEVER THE INPUT: true; the input reads as it did. -/
def hunkStandsSpec : ChangeSpec := { name := "hunkStands", fn := fun _ => fun
  | [d1, d2] => { results := [.lit (.bool true)], args := [d1, d2] }
  | _ => none }
def hunkStandsRow : OpenClaim := { program := "ytkggedmcdllnaaa", sum := "c9c2b0acb127c21f5eb00e165d5035f5ed727bfdbef9d5eade1d796fb0c83179", func := "quiltmaker/quiltmakerlaw05.HunkStands", spec := "hunkStands", inPlace := ["internal/bytealg.IndexByteString"], unfollowed := true, recurses := true, apart := false }
def HunkStandsSaid : Prop := hunkStandsRow.holds Try.pinned (OpenSpec.ofChange hunkStandsSpec)

/-- ITS FALSE NEIGHBOUR: 'it returns false'. Refute it at one input. -/
def hunkStandsWrong : ChangeSpec := { name := "hunkStands", fn := fun _ => fun
  | [d1, d2] => { results := [.lit (.bool false)], args := [d1, d2] }
  | _ => none }
def HunkStandsWrongFalsely : Prop := hunkStandsRow.holds Try.pinned (OpenSpec.ofChange hunkStandsWrong)

/-- 'quiltmakerlaw05.HunkTells': WHATEVER THE INPUT: true; the input reads as it did. -/
def hunkTellsSpec : ChangeSpec := { name := "hunkTells", fn := fun _ => fun
  | [d1, d2, d3] => { results := [.lit (.bool true)], args := [d1, d2, d3] }
  | _ => none }
def hunkTellsRow : OpenClaim := { program := "ytkggedmcdllnaaa", sum := "c9c2b0acb127c21f5eb00e165d5035f5ed727bfdbef9d5eade1d796fb0c83179", func := "quiltmaker/quiltmakerlaw05.HunkTells", spec := "hunkTells", inPlace := ["internal/bytealg.IndexByteString"], unfollowed := true, recurses := true, apart := false }
def HunkTellsSaid : Prop := hunkTellsRow.holds Try.pinned (OpenSpec.ofChange hunkTellsSpec)

/-- ITS FALSE NEIGHBOUR: 'it returns false'. Refute it at one input. -/
def hunkTellsWrong : ChangeSpec := { name := "hunkTells", fn := fun _ => fun
  | [d1, d2, d3] => { results := [.lit (.bool false)], args := [d1, d2, d3] }
  | _ => none }
def HunkTellsWrongFalsely : Prop := hunkTellsRow.holds Try.pinned (OpenSpec.ofChange hunkTellsWrong)

/- THE SECOND FORM. 'bulk': how many values and letters a reading holds, each counted each time it is reached (what is shared counts as often as it is met; a slice's spare places count too). A statement '..UptoSaid' is the law's where the arguments, and the package variables that the reading takes, are together of bulk at most 1048576: NARROWER than '..Said'. Prove '..Said' where nothing that the law and all that it calls make is longer than what came in: it says more and counts as full. Else prove '..UptoSaid'. A law counts once. -/
mutual
def uptoBulk {H : Type} : DataW H → Nat
  | .lit (.string bytes) => bytes.length + 1
  | .lit _ => 1
  | .nil => 1
  | .ptr d => uptoBulk d + 1
  | .slice elems spare => uptoBulkAll elems + uptoBulkAll spare + 1
  | .agg parts => uptoBulkAll parts + 1
  | .iface _ d => uptoBulk d + 1
  | .map entries => uptoBulkEntries entries + 1
  | .held _ => 1
def uptoBulkAll {H : Type} : List (DataW H) → Nat
  | [] => 0
  | d :: r => uptoBulk d + uptoBulkAll r
def uptoBulkEntries {H : Type} : List (Lit × DataW H) → Nat
  | [] => 0
  | x :: r => uptoBulkEntry x + uptoBulkEntries r
def uptoBulkEntry {H : Type} : Lit × DataW H → Nat
  | (.string bytes, d) => bytes.length + uptoBulk d + 1
  | (_, d) => uptoBulk d + 1
 end
def uptoSmall : (H : Type) → List (DataW H) → Bool := fun _ ds => decide (uptoBulkAll ds ≤ 1048576)
def OpenSpec.upto (s : _root_.Go.ChangeSpec) : _root_.Go.OpenSpec := { _root_.Go.OpenSpec.ofChange s with cond := some uptoSmall }

/-- 'quiltmakerlaw05.HunkBack', WHERE WHAT IT READS IS OF BULK AT MOST 1048576: true; the input reads as it did. -/
def hunkBackUptoRow : OpenClaim := { program := "ytkggedmcdllnaaa", sum := "c9c2b0acb127c21f5eb00e165d5035f5ed727bfdbef9d5eade1d796fb0c83179", func := "quiltmaker/quiltmakerlaw05.HunkBack", spec := "hunkBack", inPlace := ["internal/bytealg.IndexByteString"], unfollowed := true, recurses := true, apart := false, narrowed := true }
def HunkBackUptoSaid : Prop := hunkBackUptoRow.holds Try.pinned (OpenSpec.upto hunkBackSpec)

/-- 'quiltmakerlaw05.HunkGives', WHERE WHAT IT READS IS OF BULK AT MOST 1048576: true; the input reads as it did. -/
def hunkGivesUptoRow : OpenClaim := { program := "ytkggedmcdllnaaa", sum := "c9c2b0acb127c21f5eb00e165d5035f5ed727bfdbef9d5eade1d796fb0c83179", func := "quiltmaker/quiltmakerlaw05.HunkGives", spec := "hunkGives", inPlace := ["internal/bytealg.IndexByteString"], unfollowed := true, recurses := true, apart := false, narrowed := true }
def HunkGivesUptoSaid : Prop := hunkGivesUptoRow.holds Try.pinned (OpenSpec.upto hunkGivesSpec)

/-- 'quiltmakerlaw05.HunkOf', WHERE WHAT IT READS IS OF BULK AT MOST 1048576: true; the input reads as it did. -/
def hunkOfUptoRow : OpenClaim := { program := "ytkggedmcdllnaaa", sum := "c9c2b0acb127c21f5eb00e165d5035f5ed727bfdbef9d5eade1d796fb0c83179", func := "quiltmaker/quiltmakerlaw05.HunkOf", spec := "hunkOf", inPlace := ["internal/bytealg.IndexByteString"], unfollowed := true, recurses := true, apart := false, narrowed := true }
def HunkOfUptoSaid : Prop := hunkOfUptoRow.holds Try.pinned (OpenSpec.upto hunkOfSpec)

/-- 'quiltmakerlaw05.HunkStands', WHERE WHAT IT READS IS OF BULK AT MOST 1048576: true; the input reads as it did. -/
def hunkStandsUptoRow : OpenClaim := { program := "ytkggedmcdllnaaa", sum := "c9c2b0acb127c21f5eb00e165d5035f5ed727bfdbef9d5eade1d796fb0c83179", func := "quiltmaker/quiltmakerlaw05.HunkStands", spec := "hunkStands", inPlace := ["internal/bytealg.IndexByteString"], unfollowed := true, recurses := true, apart := false, narrowed := true }
def HunkStandsUptoSaid : Prop := hunkStandsUptoRow.holds Try.pinned (OpenSpec.upto hunkStandsSpec)

/-- 'quiltmakerlaw05.HunkTells', WHERE WHAT IT READS IS OF BULK AT MOST 1048576: true; the input reads as it did. -/
def hunkTellsUptoRow : OpenClaim := { program := "ytkggedmcdllnaaa", sum := "c9c2b0acb127c21f5eb00e165d5035f5ed727bfdbef9d5eade1d796fb0c83179", func := "quiltmaker/quiltmakerlaw05.HunkTells", spec := "hunkTells", inPlace := ["internal/bytealg.IndexByteString"], unfollowed := true, recurses := true, apart := false, narrowed := true }
def HunkTellsUptoSaid : Prop := hunkTellsUptoRow.holds Try.pinned (OpenSpec.upto hunkTellsSpec)

end Rows
end Go.Proofs.Ytkggedmcdllnaaa

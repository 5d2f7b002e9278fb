/-
  No cell of these rows narrows 'for every input' (looked for: loops, veiled, ifaces, maps, wideKeys, modest, calm, conditions, laid).
  DERIVED. THE GIVEN ROWS OF THIS SEAT. 12 by the template 'for every input the law returns true; each argument reads behind the call as it read before'; 0 by the template 'total and deterministic' (their statements: YtkbeigcmdlhdbaaTotals.lean).
  GIVEN WITH THE SEED: the statements are not yours to turn. If you find one false, say at which input.
  Laid BY PROGRAM, IN A SANDBOX (cutbox-rows.mjs): the forced cells as the released guide's own fill.sh prints them over the translation 9c6d3c52310f5603… (all of the seat's roots in one cut). By AI agents, Wed Nov 11 2026. No macro, syntax, notation, axiom, sorry.
-/
import Derived.Test.YtkbeigcmdlhdbaaChecked
import GoSem.Claim
import GoSem.ClaimJoined
import GoSem.ClaimMapViews
import Derived.JoinedTies
import Derived.KernelRfl
namespace Go.Proofs.Ytkbeigcmdlhdbaa
/- THE CELL 'sum', in the pinned program and in every row, IS THE sha256 OF THE DUMP (.gsa) THAT YtkbeigcmdlhdbaaProg.lean LOADS. Nothing in Lean hashes anything: it is a label: what it is worth is what the hold of that sum in a sandbox is worth. -/
noncomputable def Try.pinned : Pinned := { name := "ytkbeigcmdlhdbaa", sum := "9c6d3c52310f560316a7c4c2c4ed6b366f94e0dcb6468d4b8f66a90805b92684", checked := Try.checked }
namespace Rows
def none {H : Type} : Left H := { results := [], args := [] }

/-- 'surtitlelaw7.StyleSplices': WHATEVER THE INPUT: true; the input reads as it did. -/
def styleSplicesSpec : ChangeSpec := { name := "styleSplices", fn := fun _ => fun
  | [d1, d2, d3, d4] => { results := [.lit (.bool true)], args := [d1, d2, d3, d4] }
  | _ => none }
def styleSplicesRow : OpenClaim := { program := "ytkbeigcmdlhdbaa", sum := "9c6d3c52310f560316a7c4c2c4ed6b366f94e0dcb6468d4b8f66a90805b92684", func := "surtitle/surtitlelaw7.StyleSplices", spec := "styleSplices", unfollowed := true, recurses := true, apart := false }
def StyleSplicesSaid : Prop := styleSplicesRow.holds Try.pinned (OpenSpec.ofChange styleSplicesSpec)

/-- ITS FALSE NEIGHBOUR: 'it returns false'. Refute it at one input. -/
def styleSplicesWrong : ChangeSpec := { name := "styleSplices", fn := fun _ => fun
  | [d1, d2, d3, d4] => { results := [.lit (.bool false)], args := [d1, d2, d3, d4] }
  | _ => none }
def StyleSplicesWrongFalsely : Prop := styleSplicesRow.holds Try.pinned (OpenSpec.ofChange styleSplicesWrong)

/-- 'surtitlelaw7.StyleChecks': WHATEVER THE INPUT: true; the input reads as it did. -/
def styleChecksSpec : ChangeSpec := { name := "styleChecks", fn := fun _ => fun
  | [d] => { results := [.lit (.bool true)], args := [d] }
  | _ => none }
def styleChecksRow : OpenClaim := { program := "ytkbeigcmdlhdbaa", sum := "9c6d3c52310f560316a7c4c2c4ed6b366f94e0dcb6468d4b8f66a90805b92684", func := "surtitle/surtitlelaw7.StyleChecks", spec := "styleChecks", unfollowed := true, recurses := true, apart := false }
def StyleChecksSaid : Prop := styleChecksRow.holds Try.pinned (OpenSpec.ofChange styleChecksSpec)

/-- ITS FALSE NEIGHBOUR: 'it returns false'. Refute it at one input. -/
def styleChecksWrong : ChangeSpec := { name := "styleChecks", fn := fun _ => fun
  | [d] => { results := [.lit (.bool false)], args := [d] }
  | _ => none }
def StyleChecksWrongFalsely : Prop := styleChecksRow.holds Try.pinned (OpenSpec.ofChange styleChecksWrong)

/-- 'surtitlelaw7.StyleSames': WHATEVER THE INPUT: true; the input reads as it did. -/
def styleSamesSpec : ChangeSpec := { name := "styleSames", fn := fun _ => fun
  | [d1, d2] => { results := [.lit (.bool true)], args := [d1, d2] }
  | _ => none }
def styleSamesRow : OpenClaim := { program := "ytkbeigcmdlhdbaa", sum := "9c6d3c52310f560316a7c4c2c4ed6b366f94e0dcb6468d4b8f66a90805b92684", func := "surtitle/surtitlelaw7.StyleSames", spec := "styleSames", unfollowed := true, recurses := true, apart := false }
def StyleSamesSaid : Prop := styleSamesRow.holds Try.pinned (OpenSpec.ofChange styleSamesSpec)

/-- ITS FALSE NEIGHBOUR: 'it returns false'. Refute it at one input. -/
def styleSamesWrong : ChangeSpec := { name := "styleSames", fn := fun _ => fun
  | [d1, d2] => { results := [.lit (.bool false)], args := [d1, d2] }
  | _ => none }
def StyleSamesWrongFalsely : Prop := styleSamesRow.holds Try.pinned (OpenSpec.ofChange styleSamesWrong)

/-- 'surtitlelaw7.StyleCuts': WHATEVER THE INPUT: true; the input reads as it did. -/
def styleCutsSpec : ChangeSpec := { name := "styleCuts", fn := fun _ => fun
  | [d1, d2, d3] => { results := [.lit (.bool true)], args := [d1, d2, d3] }
  | _ => none }
def styleCutsRow : OpenClaim := { program := "ytkbeigcmdlhdbaa", sum := "9c6d3c52310f560316a7c4c2c4ed6b366f94e0dcb6468d4b8f66a90805b92684", func := "surtitle/surtitlelaw7.StyleCuts", spec := "styleCuts", unfollowed := true, recurses := true, apart := false }
def StyleCutsSaid : Prop := styleCutsRow.holds Try.pinned (OpenSpec.ofChange styleCutsSpec)

/-- ITS FALSE NEIGHBOUR: 'it returns false'. Refute it at one input. -/
def styleCutsWrong : ChangeSpec := { name := "styleCuts", fn := fun _ => fun
  | [d1, d2, d3] => { results := [.lit (.bool false)], args := [d1, d2, d3] }
  | _ => none }
def StyleCutsWrongFalsely : Prop := styleCutsRow.holds Try.pinned (OpenSpec.ofChange styleCutsWrong)

/-- 'surtitlelaw7.StyleJoins': WHATEVER THE INPUT: true; the input reads as it did. -/
def styleJoinsSpec : ChangeSpec := { name := "styleJoins", fn := fun _ => fun
  | [d1, d2] => { results := [.lit (.bool true)], args := [d1, d2] }
  | _ => none }
def styleJoinsRow : OpenClaim := { program := "ytkbeigcmdlhdbaa", sum := "9c6d3c52310f560316a7c4c2c4ed6b366f94e0dcb6468d4b8f66a90805b92684", func := "surtitle/surtitlelaw7.StyleJoins", spec := "styleJoins", unfollowed := true, recurses := true, apart := false }
def StyleJoinsSaid : Prop := styleJoinsRow.holds Try.pinned (OpenSpec.ofChange styleJoinsSpec)

/-- ITS FALSE NEIGHBOUR: 'it returns false'. Refute it at one input. -/
def styleJoinsWrong : ChangeSpec := { name := "styleJoins", fn := fun _ => fun
  | [d1, d2] => { results := [.lit (.bool false)], args := [d1, d2] }
  | _ => none }
def StyleJoinsWrongFalsely : Prop := styleJoinsRow.holds Try.pinned (OpenSpec.ofChange styleJoinsWrong)

/-- 'surtitlelaw7.StyleLooks': WHATEVER THE INPUT: true; the input reads as it did. -/
def styleLooksSpec : ChangeSpec := { name := "styleLooks", fn := fun _ => fun
  | [d1, d2] => { results := [.lit (.bool true)], args := [d1, d2] }
  | _ => none }
def styleLooksRow : OpenClaim := { program := "ytkbeigcmdlhdbaa", sum := "9c6d3c52310f560316a7c4c2c4ed6b366f94e0dcb6468d4b8f66a90805b92684", func := "surtitle/surtitlelaw7.StyleLooks", spec := "styleLooks", unfollowed := true, recurses := true, apart := false }
def StyleLooksSaid : Prop := styleLooksRow.holds Try.pinned (OpenSpec.ofChange styleLooksSpec)

/-- ITS FALSE NEIGHBOUR: 'it returns false'. Refute it at one input. -/
def styleLooksWrong : ChangeSpec := { name := "styleLooks", fn := fun _ => fun
  | [d1, d2] => { results := [.lit (.bool false)], args := [d1, d2] }
  | _ => none }
def StyleLooksWrongFalsely : Prop := styleLooksRow.holds Try.pinned (OpenSpec.ofChange styleLooksWrong)

/-- 'surtitlelaw7.StyleNorms': WHATEVER THE INPUT: true; the input reads as it did. -/
def styleNormsSpec : ChangeSpec := { name := "styleNorms", fn := fun _ => fun
  | [d] => { results := [.lit (.bool true)], args := [d] }
  | _ => none }
def styleNormsRow : OpenClaim := { program := "ytkbeigcmdlhdbaa", sum := "9c6d3c52310f560316a7c4c2c4ed6b366f94e0dcb6468d4b8f66a90805b92684", func := "surtitle/surtitlelaw7.StyleNorms", spec := "styleNorms", unfollowed := true, recurses := true, apart := false }
def StyleNormsSaid : Prop := styleNormsRow.holds Try.pinned (OpenSpec.ofChange styleNormsSpec)

/-- ITS FALSE NEIGHBOUR: 'it returns false'. Refute it at one input. -/
def styleNormsWrong : ChangeSpec := { name := "styleNorms", fn := fun _ => fun
  | [d] => { results := [.lit (.bool false)], args := [d] }
  | _ => none }
def StyleNormsWrongFalsely : Prop := styleNormsRow.holds Try.pinned (OpenSpec.ofChange styleNormsWrong)

/-- 'surtitlelaw7.StyleSets': WHATEVER THE INPUT: true; the input reads as it did. -/
def styleSetsSpec : ChangeSpec := { name := "styleSets", fn := fun _ => fun
  | [d1, d2] => { results := [.lit (.bool true)], args := [d1, d2] }
  | _ => none }
def styleSetsRow : OpenClaim := { program := "ytkbeigcmdlhdbaa", sum := "9c6d3c52310f560316a7c4c2c4ed6b366f94e0dcb6468d4b8f66a90805b92684", func := "surtitle/surtitlelaw7.StyleSets", spec := "styleSets", unfollowed := true, recurses := true, apart := false }
def StyleSetsSaid : Prop := styleSetsRow.holds Try.pinned (OpenSpec.ofChange styleSetsSpec)

/-- ITS FALSE NEIGHBOUR: 'it returns false'. Refute it at one input. -/
def styleSetsWrong : ChangeSpec := { name := "styleSets", fn := fun _ => fun
  | [d1, d2] => { results := [.lit (.bool false)], args := [d1, d2] }
  | _ => none }
def StyleSetsWrongFalsely : Prop := styleSetsRow.holds Try.pinned (OpenSpec.ofChange styleSetsWrong)

/-- 'surtitlelaw7.StyleMakes': WHATEVER THE INPUT: true; the input reads as it did. -/
def styleMakesSpec : ChangeSpec := { name := "styleMakes", fn := fun _ => fun
  | [d1, d2] => { results := [.lit (.bool true)], args := [d1, d2] }
  | _ => none }
def styleMakesRow : OpenClaim := { program := "ytkbeigcmdlhdbaa", sum := "9c6d3c52310f560316a7c4c2c4ed6b366f94e0dcb6468d4b8f66a90805b92684", func := "surtitle/surtitlelaw7.StyleMakes", spec := "styleMakes", unfollowed := true, recurses := true, apart := false }
def StyleMakesSaid : Prop := styleMakesRow.holds Try.pinned (OpenSpec.ofChange styleMakesSpec)

/-- ITS FALSE NEIGHBOUR: 'it returns false'. Refute it at one input. -/
def styleMakesWrong : ChangeSpec := { name := "styleMakes", fn := fun _ => fun
  | [d1, d2] => { results := [.lit (.bool false)], args := [d1, d2] }
  | _ => none }
def StyleMakesWrongFalsely : Prop := styleMakesRow.holds Try.pinned (OpenSpec.ofChange styleMakesWrong)

/-- 'surtitlelaw7.StyleNames': WHATEVER THE INPUT: true; the input reads as it did. -/
def styleNamesSpec : ChangeSpec := { name := "styleNames", fn := fun _ => fun
  | [] => { results := [.lit (.bool true)], args := [] }
  | _ => none }
def styleNamesRow : OpenClaim := { program := "ytkbeigcmdlhdbaa", sum := "9c6d3c52310f560316a7c4c2c4ed6b366f94e0dcb6468d4b8f66a90805b92684", func := "surtitle/surtitlelaw7.StyleNames", spec := "styleNames", unfollowed := true, recurses := true, apart := false }
def StyleNamesSaid : Prop := styleNamesRow.holds Try.pinned (OpenSpec.ofChange styleNamesSpec)

/-- ITS FALSE NEIGHBOUR: 'it returns false'. Refute it at one input. -/
def styleNamesWrong : ChangeSpec := { name := "styleNames", fn := fun _ => fun
  | [] => { results := [.lit (.bool false)], args := [] }
  | _ => none }
def StyleNamesWrongFalsely : Prop := styleNamesRow.holds Try.pinned (OpenSpec.ofChange styleNamesWrong)

/-- 'surtitlelaw7.StyleOwn': WHATEVER THE INPUT: true; the input reads as it did. -/
def styleOwnSpec : ChangeSpec := { name := "styleOwn", fn := fun _ => fun
  | [d1, d2, d3, d4] => { results := [.lit (.bool true)], args := [d1, d2, d3, d4] }
  | _ => none }
def styleOwnRow : OpenClaim := { program := "ytkbeigcmdlhdbaa", sum := "9c6d3c52310f560316a7c4c2c4ed6b366f94e0dcb6468d4b8f66a90805b92684", func := "surtitle/surtitlelaw7.StyleOwn", spec := "styleOwn", unfollowed := true, recurses := true, apart := false }
def StyleOwnSaid : Prop := styleOwnRow.holds Try.pinned (OpenSpec.ofChange styleOwnSpec)

/-- ITS FALSE NEIGHBOUR: 'it returns false'. Refute it at one input. -/
def styleOwnWrong : ChangeSpec := { name := "styleOwn", fn := fun _ => fun
  | [d1, d2, d3, d4] => { results := [.lit (.bool false)], args := [d1, d2, d3, d4] }
  | _ => none }
def StyleOwnWrongFalsely : Prop := styleOwnRow.holds Try.pinned (OpenSpec.ofChange styleOwnWrong)

/-- 'surtitlelaw7.StyleNormal': WHATEVER THE INPUT: true; the input reads as it did. -/
def styleNormalSpec : ChangeSpec := { name := "styleNormal", fn := fun _ => fun
  | [d1, d2] => { results := [.lit (.bool true)], args := [d1, d2] }
  | _ => none }
def styleNormalRow : OpenClaim := { program := "ytkbeigcmdlhdbaa", sum := "9c6d3c52310f560316a7c4c2c4ed6b366f94e0dcb6468d4b8f66a90805b92684", func := "surtitle/surtitlelaw7.StyleNormal", spec := "styleNormal", unfollowed := true, recurses := true, apart := false }
def StyleNormalSaid : Prop := styleNormalRow.holds Try.pinned (OpenSpec.ofChange styleNormalSpec)

/-- ITS FALSE NEIGHBOUR: 'it returns false'. Refute it at one input. -/
def styleNormalWrong : ChangeSpec := { name := "styleNormal", fn := fun _ => fun
  | [d1, d2] => { results := [.lit (.bool false)], args := [d1, d2] }
  | _ => none }
def StyleNormalWrongFalsely : Prop := styleNormalRow.holds Try.pinned (OpenSpec.ofChange styleNormalWrong)

/- THE SECOND FORM. 'bulk': how many values and letters a reading holds, each counted each time it is reached (what is shared counts as often as it is met; a slice's spare places count too). A statement '..UptoSaid' is the law's where the arguments, and the package variables that the reading takes, are together of bulk at most 1048576: NARROWER than '..Said'. Prove '..Said' where nothing that the law and all that it calls make is longer than what came in: it says more and counts as full. Else prove '..UptoSaid'. A law counts once. -/
mutual
def uptoBulk {H : Type} : DataW H → Nat
  | .lit (.string bytes) => bytes.length + 1
  | .lit _ => 1
  | .nil => 1
  | .ptr d => uptoBulk d + 1
  | .slice elems spare => uptoBulkAll elems + uptoBulkAll spare + 1
  | .agg parts => uptoBulkAll parts + 1
  | .iface _ d => uptoBulk d + 1
  | .map entries => uptoBulkEntries entries + 1
  | .held _ => 1
def uptoBulkAll {H : Type} : List (DataW H) → Nat
  | [] => 0
  | d :: r => uptoBulk d + uptoBulkAll r
def uptoBulkEntries {H : Type} : List (Lit × DataW H) → Nat
  | [] => 0
  | x :: r => uptoBulkEntry x + uptoBulkEntries r
def uptoBulkEntry {H : Type} : Lit × DataW H → Nat
  | (.string bytes, d) => bytes.length + uptoBulk d + 1
  | (_, d) => uptoBulk d + 1
 end
def uptoSmall : (H : Type) → List (DataW H) → Bool := fun _ ds => decide (uptoBulkAll ds ≤ 1048576)
def OpenSpec.upto (s : _root_.Go.ChangeSpec) : _root_.Go.OpenSpec := { _root_.Go.OpenSpec.ofChange s with cond := some uptoSmall }

/-- 'surtitlelaw7.StyleSplices', WHERE WHAT IT READS IS OF BULK AT MOST 1048576: true; the input reads as it did. -/
def styleSplicesUptoRow : OpenClaim := { program := "ytkbeigcmdlhdbaa", sum := "9c6d3c52310f560316a7c4c2c4ed6b366f94e0dcb6468d4b8f66a90805b92684", func := "surtitle/surtitlelaw7.StyleSplices", spec := "styleSplices", unfollowed := true, recurses := true, apart := false, narrowed := true }
def StyleSplicesUptoSaid : Prop := styleSplicesUptoRow.holds Try.pinned (OpenSpec.upto styleSplicesSpec)

/-- 'surtitlelaw7.StyleChecks', WHERE WHAT IT READS IS OF BULK AT MOST 1048576: true; the input reads as it did. -/
def styleChecksUptoRow : OpenClaim := { program := "ytkbeigcmdlhdbaa", sum := "9c6d3c52310f560316a7c4c2c4ed6b366f94e0dcb6468d4b8f66a90805b92684", func := "surtitle/surtitlelaw7.StyleChecks", spec := "styleChecks", unfollowed := true, recurses := true, apart := false, narrowed := true }
def StyleChecksUptoSaid : Prop := styleChecksUptoRow.holds Try.pinned (OpenSpec.upto styleChecksSpec)

/-- 'surtitlelaw7.StyleSames', WHERE WHAT IT READS IS OF BULK AT MOST 1048576: true; the input reads as it did. -/
def styleSamesUptoRow : OpenClaim := { program := "ytkbeigcmdlhdbaa", sum := "9c6d3c52310f560316a7c4c2c4ed6b366f94e0dcb6468d4b8f66a90805b92684", func := "surtitle/surtitlelaw7.StyleSames", spec := "styleSames", unfollowed := true, recurses := true, apart := false, narrowed := true }
def StyleSamesUptoSaid : Prop := styleSamesUptoRow.holds Try.pinned (OpenSpec.upto styleSamesSpec)

/-- 'surtitlelaw7.StyleCuts', WHERE WHAT IT READS IS OF BULK AT MOST 1048576: true; the input reads as it did. -/
def styleCutsUptoRow : OpenClaim := { program := "ytkbeigcmdlhdbaa", sum := "9c6d3c52310f560316a7c4c2c4ed6b366f94e0dcb6468d4b8f66a90805b92684", func := "surtitle/surtitlelaw7.StyleCuts", spec := "styleCuts", unfollowed := true, recurses := true, apart := false, narrowed := true }
def StyleCutsUptoSaid : Prop := styleCutsUptoRow.holds Try.pinned (OpenSpec.upto styleCutsSpec)

/-- 'surtitlelaw7.StyleJoins', WHERE WHAT IT READS IS OF BULK AT MOST 1048576: true; the input reads as it did. -/
def styleJoinsUptoRow : OpenClaim := { program := "ytkbeigcmdlhdbaa", sum := "9c6d3c52310f560316a7c4c2c4ed6b366f94e0dcb6468d4b8f66a90805b92684", func := "surtitle/surtitlelaw7.StyleJoins", spec := "styleJoins", unfollowed := true, recurses := true, apart := false, narrowed := true }
def StyleJoinsUptoSaid : Prop := styleJoinsUptoRow.holds Try.pinned (OpenSpec.upto styleJoinsSpec)

/-- 'surtitlelaw7.StyleLooks', WHERE WHAT IT READS IS OF BULK AT MOST 1048576: true; the input reads as it did. -/
def styleLooksUptoRow : OpenClaim := { program := "ytkbeigcmdlhdbaa", sum := "9c6d3c52310f560316a7c4c2c4ed6b366f94e0dcb6468d4b8f66a90805b92684", func := "surtitle/surtitlelaw7.StyleLooks", spec := "styleLooks", unfollowed := true, recurses := true, apart := false, narrowed := true }
def StyleLooksUptoSaid : Prop := styleLooksUptoRow.holds Try.pinned (OpenSpec.upto styleLooksSpec)

/-- 'surtitlelaw7.StyleNorms', WHERE WHAT IT READS IS OF BULK AT MOST 1048576: true; the input reads as it did. -/
def styleNormsUptoRow : OpenClaim := { program := "ytkbeigcmdlhdbaa", sum := "9c6d3c52310f560316a7c4c2c4ed6b366f94e0dcb6468d4b8f66a90805b92684", func := "surtitle/surtitlelaw7.StyleNorms", spec := "styleNorms", unfollowed := true, recurses := true, apart := false, narrowed := true }
def StyleNormsUptoSaid : Prop := styleNormsUptoRow.holds Try.pinned (OpenSpec.upto styleNormsSpec)

/-- 'surtitlelaw7.StyleSets', WHERE WHAT IT READS IS OF BULK AT MOST 1048576: true; the input reads as it did. -/
def styleSetsUptoRow : OpenClaim := { program := "ytkbeigcmdlhdbaa", sum := "9c6d3c52310f560316a7c4c2c4ed6b366f94e0dcb6468d4b8f66a90805b92684", func := "surtitle/surtitlelaw7.StyleSets", spec := "styleSets", unfollowed := true, recurses := true, apart := false, narrowed := true }
def StyleSetsUptoSaid : Prop := styleSetsUptoRow.holds Try.pinned (OpenSpec.upto styleSetsSpec)

/-- 'surtitlelaw7.StyleMakes', WHERE WHAT IT READS IS OF BULK AT MOST 1048576: true; the input reads as it did. -/
def styleMakesUptoRow : OpenClaim := { program := "ytkbeigcmdlhdbaa", sum := "9c6d3c52310f560316a7c4c2c4ed6b366f94e0dcb6468d4b8f66a90805b92684", func := "surtitle/surtitlelaw7.StyleMakes", spec := "styleMakes", unfollowed := true, recurses := true, apart := false, narrowed := true }
def StyleMakesUptoSaid : Prop := styleMakesUptoRow.holds Try.pinned (OpenSpec.upto styleMakesSpec)

/-- 'surtitlelaw7.StyleNames', WHERE WHAT IT READS IS OF BULK AT MOST 1048576: true; the input reads as it did. -/
def styleNamesUptoRow : OpenClaim := { program := "ytkbeigcmdlhdbaa", sum := "9c6d3c52310f560316a7c4c2c4ed6b366f94e0dcb6468d4b8f66a90805b92684", func := "surtitle/surtitlelaw7.StyleNames", spec := "styleNames", unfollowed := true, recurses := true, apart := false, narrowed := true }
def StyleNamesUptoSaid : Prop := styleNamesUptoRow.holds Try.pinned (OpenSpec.upto styleNamesSpec)

/-- 'surtitlelaw7.StyleOwn', WHERE WHAT IT READS IS OF BULK AT MOST 1048576: true; the input reads as it did. -/
def styleOwnUptoRow : OpenClaim := { program := "ytkbeigcmdlhdbaa", sum := "9c6d3c52310f560316a7c4c2c4ed6b366f94e0dcb6468d4b8f66a90805b92684", func := "surtitle/surtitlelaw7.StyleOwn", spec := "styleOwn", unfollowed := true, recurses := true, apart := false, narrowed := true }
def StyleOwnUptoSaid : Prop := styleOwnUptoRow.holds Try.pinned (OpenSpec.upto styleOwnSpec)

/-- 'surtitlelaw7.StyleNormal', WHERE WHAT IT READS IS OF BULK AT MOST 1048576: true; the input reads as it did. -/
def styleNormalUptoRow : OpenClaim := { program := "ytkbeigcmdlhdbaa", sum := "9c6d3c52310f560316a7c4c2c4ed6b366f94e0dcb6468d4b8f66a90805b92684", func := "surtitle/surtitlelaw7.StyleNormal", spec := "styleNormal", unfollowed := true, recurses := true, apart := false, narrowed := true }
def StyleNormalUptoSaid : Prop := styleNormalUptoRow.holds Try.pinned (OpenSpec.upto styleNormalSpec)

end Rows
end Go.Proofs.Ytkbeigcmdlhdbaa

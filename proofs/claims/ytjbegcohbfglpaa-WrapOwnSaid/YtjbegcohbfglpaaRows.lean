/-
  No cell of these rows narrows 'for every input' (looked for: loops, veiled, ifaces, maps, wideKeys, modest, calm, conditions, laid).
  DERIVED. THE GIVEN ROWS OF THIS SEAT. 3 by the template 'for every input the law returns true; each argument reads behind the call as it read before'; 0 by the template 'total and deterministic' (their statements: YtjbegcohbfglpaaTotals.lean).
  GIVEN WITH THE SEED: the statements are not yours to turn. If you find one false, say at which input.
  Laid BY PROGRAM, IN A SANDBOX (cutbox-rows.mjs): the forced cells as the released guide's own fill.sh prints them over the translation 36a717ec81f9c3f3… (all of the seat's roots in one cut). By AI agents, Wed Nov 11 2026. No macro, syntax, notation, axiom, sorry.
-/
import Derived.Test.YtjbegcohbfglpaaChecked
import GoSem.Claim
import GoSem.ClaimJoined
import GoSem.ClaimMapViews
import Derived.JoinedTies
import Derived.KernelRfl
namespace Go.Proofs.Ytjbegcohbfglpaa
/- THE CELL 'sum', in the pinned program and in every row, IS THE sha256 OF THE DUMP (.gsa) THAT YtjbegcohbfglpaaProg.lean LOADS. Nothing in Lean hashes anything: it is a label: what it is worth is what the hold of that sum in a sandbox is worth. -/
noncomputable def Try.pinned : Pinned := { name := "ytjbegcohbfglpaa", sum := "36a717ec81f9c3f35ecde2d444e590a9299b5c63a12aa682ef27a87f27913a99", checked := Try.checked }
namespace Rows
def none {H : Type} : Left H := { results := [], args := [] }

/-- 'surtitlelaw10.WrapCounts': WHATEVER THE INPUT: true; the input reads as it did. -/
def wrapCountsSpec : ChangeSpec := { name := "wrapCounts", fn := fun _ => fun
  | [d1, d2, d3] => { results := [.lit (.bool true)], args := [d1, d2, d3] }
  | _ => none }
def wrapCountsRow : OpenClaim := { program := "ytjbegcohbfglpaa", sum := "36a717ec81f9c3f35ecde2d444e590a9299b5c63a12aa682ef27a87f27913a99", func := "surtitle/surtitlelaw10.WrapCounts", spec := "wrapCounts", unfollowed := true, recurses := true, apart := false }
def WrapCountsSaid : Prop := wrapCountsRow.holds Try.pinned (OpenSpec.ofChange wrapCountsSpec)

/-- ITS FALSE NEIGHBOUR: 'it returns false'. Refute it at one input. -/
def wrapCountsWrong : ChangeSpec := { name := "wrapCounts", fn := fun _ => fun
  | [d1, d2, d3] => { results := [.lit (.bool false)], args := [d1, d2, d3] }
  | _ => none }
def WrapCountsWrongFalsely : Prop := wrapCountsRow.holds Try.pinned (OpenSpec.ofChange wrapCountsWrong)

/-- 'surtitlelaw10.WrapOwn': WHATEVER THE INPUT: true; the input reads as it did. -/
def wrapOwnSpec : ChangeSpec := { name := "wrapOwn", fn := fun _ => fun
  | [d1, d2] => { results := [.lit (.bool true)], args := [d1, d2] }
  | _ => none }
def wrapOwnRow : OpenClaim := { program := "ytjbegcohbfglpaa", sum := "36a717ec81f9c3f35ecde2d444e590a9299b5c63a12aa682ef27a87f27913a99", func := "surtitle/surtitlelaw10.WrapOwn", spec := "wrapOwn", unfollowed := true, recurses := true, apart := false }
def WrapOwnSaid : Prop := wrapOwnRow.holds Try.pinned (OpenSpec.ofChange wrapOwnSpec)

/-- ITS FALSE NEIGHBOUR: 'it returns false'. Refute it at one input. -/
def wrapOwnWrong : ChangeSpec := { name := "wrapOwn", fn := fun _ => fun
  | [d1, d2] => { results := [.lit (.bool false)], args := [d1, d2] }
  | _ => none }
def WrapOwnWrongFalsely : Prop := wrapOwnRow.holds Try.pinned (OpenSpec.ofChange wrapOwnWrong)

/-- 'surtitlelaw10.WrapFits': WHATEVER THE INPUT: true; the input reads as it did. -/
def wrapFitsSpec : ChangeSpec := { name := "wrapFits", fn := fun _ => fun
  | [d1, d2] => { results := [.lit (.bool true)], args := [d1, d2] }
  | _ => none }
def wrapFitsRow : OpenClaim := { program := "ytjbegcohbfglpaa", sum := "36a717ec81f9c3f35ecde2d444e590a9299b5c63a12aa682ef27a87f27913a99", func := "surtitle/surtitlelaw10.WrapFits", spec := "wrapFits", unfollowed := true, recurses := true, apart := false }
def WrapFitsSaid : Prop := wrapFitsRow.holds Try.pinned (OpenSpec.ofChange wrapFitsSpec)

/-- ITS FALSE NEIGHBOUR: 'it returns false'. Refute it at one input. -/
def wrapFitsWrong : ChangeSpec := { name := "wrapFits", fn := fun _ => fun
  | [d1, d2] => { results := [.lit (.bool false)], args := [d1, d2] }
  | _ => none }
def WrapFitsWrongFalsely : Prop := wrapFitsRow.holds Try.pinned (OpenSpec.ofChange wrapFitsWrong)

/- THE SECOND FORM. 'bulk': how many values and letters a reading holds, each counted each time it is reached (what is shared counts as often as it is met; a slice's spare places count too). A statement '..UptoSaid' is the law's where the arguments, and the package variables that the reading takes, are together of bulk at most 1048576: NARROWER than '..Said'. Prove '..Said' where nothing that the law and all that it calls make is longer than what came in: it says more and counts as full. Else prove '..UptoSaid'. A law counts once. -/
mutual
def uptoBulk {H : Type} : DataW H → Nat
  | .lit (.string bytes) => bytes.length + 1
  | .lit _ => 1
  | .nil => 1
  | .ptr d => uptoBulk d + 1
  | .slice elems spare => uptoBulkAll elems + uptoBulkAll spare + 1
  | .agg parts => uptoBulkAll parts + 1
  | .iface _ d => uptoBulk d + 1
  | .map entries => uptoBulkEntries entries + 1
  | .held _ => 1
def uptoBulkAll {H : Type} : List (DataW H) → Nat
  | [] => 0
  | d :: r => uptoBulk d + uptoBulkAll r
def uptoBulkEntries {H : Type} : List (Lit × DataW H) → Nat
  | [] => 0
  | x :: r => uptoBulkEntry x + uptoBulkEntries r
def uptoBulkEntry {H : Type} : Lit × DataW H → Nat
  | (.string bytes, d) => bytes.length + uptoBulk d + 1
  | (_, d) => uptoBulk d + 1
 end
def uptoSmall : (H : Type) → List (DataW H) → Bool := fun _ ds => decide (uptoBulkAll ds ≤ 1048576)
def OpenSpec.upto (s : _root_.Go.ChangeSpec) : _root_.Go.OpenSpec := { _root_.Go.OpenSpec.ofChange s with cond := some uptoSmall }

/-- 'surtitlelaw10.WrapCounts', WHERE WHAT IT READS IS OF BULK AT MOST 1048576: true; the input reads as it did. -/
def wrapCountsUptoRow : OpenClaim := { program := "ytjbegcohbfglpaa", sum := "36a717ec81f9c3f35ecde2d444e590a9299b5c63a12aa682ef27a87f27913a99", func := "surtitle/surtitlelaw10.WrapCounts", spec := "wrapCounts", unfollowed := true, recurses := true, apart := false, narrowed := true }
def WrapCountsUptoSaid : Prop := wrapCountsUptoRow.holds Try.pinned (OpenSpec.upto wrapCountsSpec)

/-- 'surtitlelaw10.WrapOwn', WHERE WHAT IT READS IS OF BULK AT MOST 1048576: true; the input reads as it did. -/
def wrapOwnUptoRow : OpenClaim := { program := "ytjbegcohbfglpaa", sum := "36a717ec81f9c3f35ecde2d444e590a9299b5c63a12aa682ef27a87f27913a99", func := "surtitle/surtitlelaw10.WrapOwn", spec := "wrapOwn", unfollowed := true, recurses := true, apart := false, narrowed := true }
def WrapOwnUptoSaid : Prop := wrapOwnUptoRow.holds Try.pinned (OpenSpec.upto wrapOwnSpec)

/-- 'surtitlelaw10.WrapFits', WHERE WHAT IT READS IS OF BULK AT MOST 1048576: true; the input reads as it did. -/
def wrapFitsUptoRow : OpenClaim := { program := "ytjbegcohbfglpaa", sum := "36a717ec81f9c3f35ecde2d444e590a9299b5c63a12aa682ef27a87f27913a99", func := "surtitle/surtitlelaw10.WrapFits", spec := "wrapFits", unfollowed := true, recurses := true, apart := false, narrowed := true }
def WrapFitsUptoSaid : Prop := wrapFitsUptoRow.holds Try.pinned (OpenSpec.upto wrapFitsSpec)

end Rows
end Go.Proofs.Ytjbegcohbfglpaa

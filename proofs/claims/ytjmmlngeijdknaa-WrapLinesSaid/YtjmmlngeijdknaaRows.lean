/-
  No cell of these rows narrows 'for every input' (looked for: loops, veiled, ifaces, maps, wideKeys, modest, calm, conditions, laid).
  DERIVED. THE GIVEN ROWS OF THIS SEAT. 10 by the template 'for every input the law returns true; each argument reads behind the call as it read before'; 0 by the template 'total and deterministic' (their statements: YtjmmlngeijdknaaTotals.lean).
  GIVEN WITH THE SEED: the statements are not yours to turn. If you find one false, say at which input.
  Laid BY PROGRAM, IN A SANDBOX (cutbox-rows.mjs): the forced cells as the released guide's own fill.sh prints them over the translation f1cdee76560cf0ee… (all of the seat's roots in one cut). By AI agents, Wed Nov 11 2026. No macro, syntax, notation, axiom, sorry.
-/
import Derived.Test.YtjmmlngeijdknaaChecked
import GoSem.Claim
import GoSem.ClaimJoined
import GoSem.ClaimMapViews
import Derived.JoinedTies
import Derived.KernelRfl
namespace Go.Proofs.Ytjmmlngeijdknaa
/- THE CELL 'sum', in the pinned program and in every row, IS THE sha256 OF THE DUMP (.gsa) THAT YtjmmlngeijdknaaProg.lean LOADS. Nothing in Lean hashes anything: it is a label: what it is worth is what the hold of that sum in a sandbox is worth. -/
noncomputable def Try.pinned : Pinned := { name := "ytjmmlngeijdknaa", sum := "f1cdee76560cf0ee8c34e86ca101bc1189aead2b46cf7bc0a2e7998bd9af86e1", checked := Try.checked }
namespace Rows
def none {H : Type} : Left H := { results := [], args := [] }

/-- 'surtitlelaw10.WrapLeast': WHATEVER THE INPUT: true; the input reads as it did. -/
def wrapLeastSpec : ChangeSpec := { name := "wrapLeast", fn := fun _ => fun
  | [d1, d2] => { results := [.lit (.bool true)], args := [d1, d2] }
  | _ => none }
def wrapLeastRow : OpenClaim := { program := "ytjmmlngeijdknaa", sum := "f1cdee76560cf0ee8c34e86ca101bc1189aead2b46cf7bc0a2e7998bd9af86e1", func := "surtitle/surtitlelaw10.WrapLeast", spec := "wrapLeast", unfollowed := true, recurses := true, apart := false }
def WrapLeastSaid : Prop := wrapLeastRow.holds Try.pinned (OpenSpec.ofChange wrapLeastSpec)

/-- ITS FALSE NEIGHBOUR: 'it returns false'. Refute it at one input. -/
def wrapLeastWrong : ChangeSpec := { name := "wrapLeast", fn := fun _ => fun
  | [d1, d2] => { results := [.lit (.bool false)], args := [d1, d2] }
  | _ => none }
def WrapLeastWrongFalsely : Prop := wrapLeastRow.holds Try.pinned (OpenSpec.ofChange wrapLeastWrong)

/-- 'surtitlelaw10.WrapPlaces': WHATEVER THE INPUT: true; the input reads as it did. -/
def wrapPlacesSpec : ChangeSpec := { name := "wrapPlaces", fn := fun _ => fun
  | [d] => { results := [.lit (.bool true)], args := [d] }
  | _ => none }
def wrapPlacesRow : OpenClaim := { program := "ytjmmlngeijdknaa", sum := "f1cdee76560cf0ee8c34e86ca101bc1189aead2b46cf7bc0a2e7998bd9af86e1", func := "surtitle/surtitlelaw10.WrapPlaces", spec := "wrapPlaces", unfollowed := true, recurses := true, apart := false }
def WrapPlacesSaid : Prop := wrapPlacesRow.holds Try.pinned (OpenSpec.ofChange wrapPlacesSpec)

/-- ITS FALSE NEIGHBOUR: 'it returns false'. Refute it at one input. -/
def wrapPlacesWrong : ChangeSpec := { name := "wrapPlaces", fn := fun _ => fun
  | [d] => { results := [.lit (.bool false)], args := [d] }
  | _ => none }
def WrapPlacesWrongFalsely : Prop := wrapPlacesRow.holds Try.pinned (OpenSpec.ofChange wrapPlacesWrong)

/-- 'surtitlelaw10.WrapLines': WHATEVER THE INPUT: true; the input reads as it did. -/
def wrapLinesSpec : ChangeSpec := { name := "wrapLines", fn := fun _ => fun
  | [d1, d2] => { results := [.lit (.bool true)], args := [d1, d2] }
  | _ => none }
def wrapLinesRow : OpenClaim := { program := "ytjmmlngeijdknaa", sum := "f1cdee76560cf0ee8c34e86ca101bc1189aead2b46cf7bc0a2e7998bd9af86e1", func := "surtitle/surtitlelaw10.WrapLines", spec := "wrapLines", unfollowed := true, recurses := true, apart := false }
def WrapLinesSaid : Prop := wrapLinesRow.holds Try.pinned (OpenSpec.ofChange wrapLinesSpec)

/-- ITS FALSE NEIGHBOUR: 'it returns false'. Refute it at one input. -/
def wrapLinesWrong : ChangeSpec := { name := "wrapLines", fn := fun _ => fun
  | [d1, d2] => { results := [.lit (.bool false)], args := [d1, d2] }
  | _ => none }
def WrapLinesWrongFalsely : Prop := wrapLinesRow.holds Try.pinned (OpenSpec.ofChange wrapLinesWrong)

/-- 'surtitlelaw10.WrapBadness': WHATEVER THE INPUT: true; the input reads as it did. -/
def wrapBadnessSpec : ChangeSpec := { name := "wrapBadness", fn := fun _ => fun
  | [d1, d2, d3] => { results := [.lit (.bool true)], args := [d1, d2, d3] }
  | _ => none }
def wrapBadnessRow : OpenClaim := { program := "ytjmmlngeijdknaa", sum := "f1cdee76560cf0ee8c34e86ca101bc1189aead2b46cf7bc0a2e7998bd9af86e1", func := "surtitle/surtitlelaw10.WrapBadness", spec := "wrapBadness", unfollowed := true, recurses := true, apart := false }
def WrapBadnessSaid : Prop := wrapBadnessRow.holds Try.pinned (OpenSpec.ofChange wrapBadnessSpec)

/-- ITS FALSE NEIGHBOUR: 'it returns false'. Refute it at one input. -/
def wrapBadnessWrong : ChangeSpec := { name := "wrapBadness", fn := fun _ => fun
  | [d1, d2, d3] => { results := [.lit (.bool false)], args := [d1, d2, d3] }
  | _ => none }
def WrapBadnessWrongFalsely : Prop := wrapBadnessRow.holds Try.pinned (OpenSpec.ofChange wrapBadnessWrong)

/-- 'surtitlelaw10.WrapNoLess': WHATEVER THE INPUT: true; the input reads as it did. -/
def wrapNoLessSpec : ChangeSpec := { name := "wrapNoLess", fn := fun _ => fun
  | [d1, d2, d3] => { results := [.lit (.bool true)], args := [d1, d2, d3] }
  | _ => none }
def wrapNoLessRow : OpenClaim := { program := "ytjmmlngeijdknaa", sum := "f1cdee76560cf0ee8c34e86ca101bc1189aead2b46cf7bc0a2e7998bd9af86e1", func := "surtitle/surtitlelaw10.WrapNoLess", spec := "wrapNoLess", unfollowed := true, recurses := true, apart := false }
def WrapNoLessSaid : Prop := wrapNoLessRow.holds Try.pinned (OpenSpec.ofChange wrapNoLessSpec)

/-- ITS FALSE NEIGHBOUR: 'it returns false'. Refute it at one input. -/
def wrapNoLessWrong : ChangeSpec := { name := "wrapNoLess", fn := fun _ => fun
  | [d1, d2, d3] => { results := [.lit (.bool false)], args := [d1, d2, d3] }
  | _ => none }
def WrapNoLessWrongFalsely : Prop := wrapNoLessRow.holds Try.pinned (OpenSpec.ofChange wrapNoLessWrong)

/-- 'surtitlelaw10.WrapAll': WHATEVER THE INPUT: true; the input reads as it did. -/
def wrapAllSpec : ChangeSpec := { name := "wrapAll", fn := fun _ => fun
  | [d1, d2] => { results := [.lit (.bool true)], args := [d1, d2] }
  | _ => none }
def wrapAllRow : OpenClaim := { program := "ytjmmlngeijdknaa", sum := "f1cdee76560cf0ee8c34e86ca101bc1189aead2b46cf7bc0a2e7998bd9af86e1", func := "surtitle/surtitlelaw10.WrapAll", spec := "wrapAll", unfollowed := true, recurses := true, apart := false }
def WrapAllSaid : Prop := wrapAllRow.holds Try.pinned (OpenSpec.ofChange wrapAllSpec)

/-- ITS FALSE NEIGHBOUR: 'it returns false'. Refute it at one input. -/
def wrapAllWrong : ChangeSpec := { name := "wrapAll", fn := fun _ => fun
  | [d1, d2] => { results := [.lit (.bool false)], args := [d1, d2] }
  | _ => none }
def WrapAllWrongFalsely : Prop := wrapAllRow.holds Try.pinned (OpenSpec.ofChange wrapAllWrong)

/-- 'surtitlelaw10.WrapNames': WHATEVER THE INPUT: true; the input reads as it did. -/
def wrapNamesSpec : ChangeSpec := { name := "wrapNames", fn := fun _ => fun
  | [] => { results := [.lit (.bool true)], args := [] }
  | _ => none }
def wrapNamesRow : OpenClaim := { program := "ytjmmlngeijdknaa", sum := "f1cdee76560cf0ee8c34e86ca101bc1189aead2b46cf7bc0a2e7998bd9af86e1", func := "surtitle/surtitlelaw10.WrapNames", spec := "wrapNames", unfollowed := true, recurses := true, apart := false }
def WrapNamesSaid : Prop := wrapNamesRow.holds Try.pinned (OpenSpec.ofChange wrapNamesSpec)

/-- ITS FALSE NEIGHBOUR: 'it returns false'. Refute it at one input. -/
def wrapNamesWrong : ChangeSpec := { name := "wrapNames", fn := fun _ => fun
  | [] => { results := [.lit (.bool false)], args := [] }
  | _ => none }
def WrapNamesWrongFalsely : Prop := wrapNamesRow.holds Try.pinned (OpenSpec.ofChange wrapNamesWrong)

/-- 'surtitlelaw10.WrapCounts': WHATEVER THE INPUT: true; the input reads as it did. -/
def wrapCountsSpec : ChangeSpec := { name := "wrapCounts", fn := fun _ => fun
  | [d1, d2, d3] => { results := [.lit (.bool true)], args := [d1, d2, d3] }
  | _ => none }
def wrapCountsRow : OpenClaim := { program := "ytjmmlngeijdknaa", sum := "f1cdee76560cf0ee8c34e86ca101bc1189aead2b46cf7bc0a2e7998bd9af86e1", func := "surtitle/surtitlelaw10.WrapCounts", spec := "wrapCounts", unfollowed := true, recurses := true, apart := false }
def WrapCountsSaid : Prop := wrapCountsRow.holds Try.pinned (OpenSpec.ofChange wrapCountsSpec)

/-- ITS FALSE NEIGHBOUR: 'it returns false'. Refute it at one input. -/
def wrapCountsWrong : ChangeSpec := { name := "wrapCounts", fn := fun _ => fun
  | [d1, d2, d3] => { results := [.lit (.bool false)], args := [d1, d2, d3] }
  | _ => none }
def WrapCountsWrongFalsely : Prop := wrapCountsRow.holds Try.pinned (OpenSpec.ofChange wrapCountsWrong)

/-- 'surtitlelaw10.WrapOwn': WHATEVER THE INPUT: true; the input reads as it did. -/
def wrapOwnSpec : ChangeSpec := { name := "wrapOwn", fn := fun _ => fun
  | [d1, d2] => { results := [.lit (.bool true)], args := [d1, d2] }
  | _ => none }
def wrapOwnRow : OpenClaim := { program := "ytjmmlngeijdknaa", sum := "f1cdee76560cf0ee8c34e86ca101bc1189aead2b46cf7bc0a2e7998bd9af86e1", func := "surtitle/surtitlelaw10.WrapOwn", spec := "wrapOwn", unfollowed := true, recurses := true, apart := false }
def WrapOwnSaid : Prop := wrapOwnRow.holds Try.pinned (OpenSpec.ofChange wrapOwnSpec)

/-- ITS FALSE NEIGHBOUR: 'it returns false'. Refute it at one input. -/
def wrapOwnWrong : ChangeSpec := { name := "wrapOwn", fn := fun _ => fun
  | [d1, d2] => { results := [.lit (.bool false)], args := [d1, d2] }
  | _ => none }
def WrapOwnWrongFalsely : Prop := wrapOwnRow.holds Try.pinned (OpenSpec.ofChange wrapOwnWrong)

/-- 'surtitlelaw10.WrapFits': WHATEVER THE INPUT: true; the input reads as it did. -/
def wrapFitsSpec : ChangeSpec := { name := "wrapFits", fn := fun _ => fun
  | [d1, d2] => { results := [.lit (.bool true)], args := [d1, d2] }
  | _ => none }
def wrapFitsRow : OpenClaim := { program := "ytjmmlngeijdknaa", sum := "f1cdee76560cf0ee8c34e86ca101bc1189aead2b46cf7bc0a2e7998bd9af86e1", func := "surtitle/surtitlelaw10.WrapFits", spec := "wrapFits", unfollowed := true, recurses := true, apart := false }
def WrapFitsSaid : Prop := wrapFitsRow.holds Try.pinned (OpenSpec.ofChange wrapFitsSpec)

/-- ITS FALSE NEIGHBOUR: 'it returns false'. Refute it at one input. -/
def wrapFitsWrong : ChangeSpec := { name := "wrapFits", fn := fun _ => fun
  | [d1, d2] => { results := [.lit (.bool false)], args := [d1, d2] }
  | _ => none }
def WrapFitsWrongFalsely : Prop := wrapFitsRow.holds Try.pinned (OpenSpec.ofChange wrapFitsWrong)

/- THE SECOND FORM. 'bulk': how many values and letters a reading holds, each counted each time it is reached (what is shared counts as often as it is met; a slice's spare places count too). A statement '..UptoSaid' is the law's where the arguments, and the package variables that the reading takes, are together of bulk at most 1048576: NARROWER than '..Said'. Prove '..Said' where nothing that the law and all that it calls make is longer than what came in: it says more and counts as full. Else prove '..UptoSaid'. A law counts once. -/
mutual
def uptoBulk {H : Type} : DataW H → Nat
  | .lit (.string bytes) => bytes.length + 1
  | .lit _ => 1
  | .nil => 1
  | .ptr d => uptoBulk d + 1
  | .slice elems spare => uptoBulkAll elems + uptoBulkAll spare + 1
  | .agg parts => uptoBulkAll parts + 1
  | .iface _ d => uptoBulk d + 1
  | .map entries => uptoBulkEntries entries + 1
  | .held _ => 1
def uptoBulkAll {H : Type} : List (DataW H) → Nat
  | [] => 0
  | d :: r => uptoBulk d + uptoBulkAll r
def uptoBulkEntries {H : Type} : List (Lit × DataW H) → Nat
  | [] => 0
  | x :: r => uptoBulkEntry x + uptoBulkEntries r
def uptoBulkEntry {H : Type} : Lit × DataW H → Nat
  | (.string bytes, d) => bytes.length + uptoBulk d + 1
  | (_, d) => uptoBulk d + 1
 end
def uptoSmall : (H : Type) → List (DataW H) → Bool := fun _ ds => decide (uptoBulkAll ds ≤ 1048576)
def OpenSpec.upto (s : _root_.Go.ChangeSpec) : _root_.Go.OpenSpec := { _root_.Go.OpenSpec.ofChange s with cond := some uptoSmall }

/-- 'surtitlelaw10.WrapLeast', WHERE WHAT IT READS IS OF BULK AT MOST 1048576: true; the input reads as it did. -/
def wrapLeastUptoRow : OpenClaim := { program := "ytjmmlngeijdknaa", sum := "f1cdee76560cf0ee8c34e86ca101bc1189aead2b46cf7bc0a2e7998bd9af86e1", func := "surtitle/surtitlelaw10.WrapLeast", spec := "wrapLeast", unfollowed := true, recurses := true, apart := false, narrowed := true }
def WrapLeastUptoSaid : Prop := wrapLeastUptoRow.holds Try.pinned (OpenSpec.upto wrapLeastSpec)

/-- 'surtitlelaw10.WrapPlaces', WHERE WHAT IT READS IS OF BULK AT MOST 1048576: true; the input reads as it did. -/
def wrapPlacesUptoRow : OpenClaim := { program := "ytjmmlngeijdknaa", sum := "f1cdee76560cf0ee8c34e86ca101bc1189aead2b46cf7bc0a2e7998bd9af86e1", func := "surtitle/surtitlelaw10.WrapPlaces", spec := "wrapPlaces", unfollowed := true, recurses := true, apart := false, narrowed := true }
def WrapPlacesUptoSaid : Prop := wrapPlacesUptoRow.holds Try.pinned (OpenSpec.upto wrapPlacesSpec)

/-- 'surtitlelaw10.WrapLines', WHERE WHAT IT READS IS OF BULK AT MOST 1048576: true; the input reads as it did. -/
def wrapLinesUptoRow : OpenClaim := { program := "ytjmmlngeijdknaa", sum := "f1cdee76560cf0ee8c34e86ca101bc1189aead2b46cf7bc0a2e7998bd9af86e1", func := "surtitle/surtitlelaw10.WrapLines", spec := "wrapLines", unfollowed := true, recurses := true, apart := false, narrowed := true }
def WrapLinesUptoSaid : Prop := wrapLinesUptoRow.holds Try.pinned (OpenSpec.upto wrapLinesSpec)

/-- 'surtitlelaw10.WrapBadness', WHERE WHAT IT READS IS OF BULK AT MOST 1048576: true; the input reads as it did. -/
def wrapBadnessUptoRow : OpenClaim := { program := "ytjmmlngeijdknaa", sum := "f1cdee76560cf0ee8c34e86ca101bc1189aead2b46cf7bc0a2e7998bd9af86e1", func := "surtitle/surtitlelaw10.WrapBadness", spec := "wrapBadness", unfollowed := true, recurses := true, apart := false, narrowed := true }
def WrapBadnessUptoSaid : Prop := wrapBadnessUptoRow.holds Try.pinned (OpenSpec.upto wrapBadnessSpec)

/-- 'surtitlelaw10.WrapNoLess', WHERE WHAT IT READS IS OF BULK AT MOST 1048576: true; the input reads as it did. -/
def wrapNoLessUptoRow : OpenClaim := { program := "ytjmmlngeijdknaa", sum := "f1cdee76560cf0ee8c34e86ca101bc1189aead2b46cf7bc0a2e7998bd9af86e1", func := "surtitle/surtitlelaw10.WrapNoLess", spec := "wrapNoLess", unfollowed := true, recurses := true, apart := false, narrowed := true }
def WrapNoLessUptoSaid : Prop := wrapNoLessUptoRow.holds Try.pinned (OpenSpec.upto wrapNoLessSpec)

/-- 'surtitlelaw10.WrapAll', WHERE WHAT IT READS IS OF BULK AT MOST 1048576: true; the input reads as it did. -/
def wrapAllUptoRow : OpenClaim := { program := "ytjmmlngeijdknaa", sum := "f1cdee76560cf0ee8c34e86ca101bc1189aead2b46cf7bc0a2e7998bd9af86e1", func := "surtitle/surtitlelaw10.WrapAll", spec := "wrapAll", unfollowed := true, recurses := true, apart := false, narrowed := true }
def WrapAllUptoSaid : Prop := wrapAllUptoRow.holds Try.pinned (OpenSpec.upto wrapAllSpec)

/-- 'surtitlelaw10.WrapNames', WHERE WHAT IT READS IS OF BULK AT MOST 1048576: true; the input reads as it did. -/
def wrapNamesUptoRow : OpenClaim := { program := "ytjmmlngeijdknaa", sum := "f1cdee76560cf0ee8c34e86ca101bc1189aead2b46cf7bc0a2e7998bd9af86e1", func := "surtitle/surtitlelaw10.WrapNames", spec := "wrapNames", unfollowed := true, recurses := true, apart := false, narrowed := true }
def WrapNamesUptoSaid : Prop := wrapNamesUptoRow.holds Try.pinned (OpenSpec.upto wrapNamesSpec)

/-- 'surtitlelaw10.WrapCounts', WHERE WHAT IT READS IS OF BULK AT MOST 1048576: true; the input reads as it did. -/
def wrapCountsUptoRow : OpenClaim := { program := "ytjmmlngeijdknaa", sum := "f1cdee76560cf0ee8c34e86ca101bc1189aead2b46cf7bc0a2e7998bd9af86e1", func := "surtitle/surtitlelaw10.WrapCounts", spec := "wrapCounts", unfollowed := true, recurses := true, apart := false, narrowed := true }
def WrapCountsUptoSaid : Prop := wrapCountsUptoRow.holds Try.pinned (OpenSpec.upto wrapCountsSpec)

/-- 'surtitlelaw10.WrapOwn', WHERE WHAT IT READS IS OF BULK AT MOST 1048576: true; the input reads as it did. -/
def wrapOwnUptoRow : OpenClaim := { program := "ytjmmlngeijdknaa", sum := "f1cdee76560cf0ee8c34e86ca101bc1189aead2b46cf7bc0a2e7998bd9af86e1", func := "surtitle/surtitlelaw10.WrapOwn", spec := "wrapOwn", unfollowed := true, recurses := true, apart := false, narrowed := true }
def WrapOwnUptoSaid : Prop := wrapOwnUptoRow.holds Try.pinned (OpenSpec.upto wrapOwnSpec)

/-- 'surtitlelaw10.WrapFits', WHERE WHAT IT READS IS OF BULK AT MOST 1048576: true; the input reads as it did. -/
def wrapFitsUptoRow : OpenClaim := { program := "ytjmmlngeijdknaa", sum := "f1cdee76560cf0ee8c34e86ca101bc1189aead2b46cf7bc0a2e7998bd9af86e1", func := "surtitle/surtitlelaw10.WrapFits", spec := "wrapFits", unfollowed := true, recurses := true, apart := false, narrowed := true }
def WrapFitsUptoSaid : Prop := wrapFitsUptoRow.holds Try.pinned (OpenSpec.upto wrapFitsSpec)

end Rows
end Go.Proofs.Ytjmmlngeijdknaa

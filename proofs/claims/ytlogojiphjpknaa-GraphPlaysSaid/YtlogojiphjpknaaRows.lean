/-
  No cell of these rows narrows 'for every input' (looked for: loops, veiled, ifaces, maps, wideKeys, modest, calm, conditions, laid).
  DERIVED. THE GIVEN ROWS OF THIS SEAT. 12 by the template 'for every input the law returns true; each argument reads behind the call as it read before'; 0 by the template 'total and deterministic' (their statements: YtlogojiphjpknaaTotals.lean).
  GIVEN WITH THE SEED: the statements are not yours to turn. If you find one false, say at which input.
  Laid BY PROGRAM, IN A SANDBOX (cutbox-rows.mjs): the forced cells as the released guide's own fill.sh prints them over the translation 427c2805eaabc70a… (all of the seat's roots in one cut). By AI agents, Wed Nov 11 2026. No macro, syntax, notation, axiom, sorry.
-/
import Derived.Test.YtlogojiphjpknaaChecked
import GoSem.Claim
import GoSem.ClaimJoined
import GoSem.ClaimMapViews
import Derived.JoinedTies
import Derived.KernelRfl
namespace Go.Proofs.Ytlogojiphjpknaa
/- THE CELL 'sum', in the pinned program and in every row, IS THE sha256 OF THE DUMP (.gsa) THAT YtlogojiphjpknaaProg.lean LOADS. Nothing in Lean hashes anything: it is a label: what it is worth is what the hold of that sum in a sandbox is worth. -/
noncomputable def Try.pinned : Pinned := { name := "ytlogojiphjpknaa", sum := "427c2805eaabc70a649cf37d09ae8ce9a9c902caf3c0cd9db2d118c6a7ab00da", checked := Try.checked }
namespace Rows
def none {H : Type} : Left H := { results := [], args := [] }

/-- 'flitlaw06.RootsBack': WHATEVER THE INPUT: true; the input reads as it did. -/
def rootsBackSpec : ChangeSpec := { name := "rootsBack", fn := fun _ => fun
  | [d] => { results := [.lit (.bool true)], args := [d] }
  | _ => none }
def rootsBackRow : OpenClaim := { program := "ytlogojiphjpknaa", sum := "427c2805eaabc70a649cf37d09ae8ce9a9c902caf3c0cd9db2d118c6a7ab00da", func := "flit/flitlaw06.RootsBack", spec := "rootsBack", apart := false }
def RootsBackSaid : Prop := rootsBackRow.holds Try.pinned (OpenSpec.ofChange rootsBackSpec)

/-- ITS FALSE NEIGHBOUR: 'it returns false'. Refute it at one input. -/
def rootsBackWrong : ChangeSpec := { name := "rootsBack", fn := fun _ => fun
  | [d] => { results := [.lit (.bool false)], args := [d] }
  | _ => none }
def RootsBackWrongFalsely : Prop := rootsBackRow.holds Try.pinned (OpenSpec.ofChange rootsBackWrong)

/-- 'flitlaw06.RootsDups': WHATEVER THE INPUT: true; the input reads as it did. -/
def rootsDupsSpec : ChangeSpec := { name := "rootsDups", fn := fun _ => fun
  | [d1, d2] => { results := [.lit (.bool true)], args := [d1, d2] }
  | _ => none }
def rootsDupsRow : OpenClaim := { program := "ytlogojiphjpknaa", sum := "427c2805eaabc70a649cf37d09ae8ce9a9c902caf3c0cd9db2d118c6a7ab00da", func := "flit/flitlaw06.RootsDups", spec := "rootsDups", apart := false }
def RootsDupsSaid : Prop := rootsDupsRow.holds Try.pinned (OpenSpec.ofChange rootsDupsSpec)

/-- ITS FALSE NEIGHBOUR: 'it returns false'. Refute it at one input. -/
def rootsDupsWrong : ChangeSpec := { name := "rootsDups", fn := fun _ => fun
  | [d1, d2] => { results := [.lit (.bool false)], args := [d1, d2] }
  | _ => none }
def RootsDupsWrongFalsely : Prop := rootsDupsRow.holds Try.pinned (OpenSpec.ofChange rootsDupsWrong)

/-- 'flitlaw06.RootsDrops': WHATEVER THE INPUT: true; the input reads as it did. -/
def rootsDropsSpec : ChangeSpec := { name := "rootsDrops", fn := fun _ => fun
  | [d] => { results := [.lit (.bool true)], args := [d] }
  | _ => none }
def rootsDropsRow : OpenClaim := { program := "ytlogojiphjpknaa", sum := "427c2805eaabc70a649cf37d09ae8ce9a9c902caf3c0cd9db2d118c6a7ab00da", func := "flit/flitlaw06.RootsDrops", spec := "rootsDrops", apart := false }
def RootsDropsSaid : Prop := rootsDropsRow.holds Try.pinned (OpenSpec.ofChange rootsDropsSpec)

/-- ITS FALSE NEIGHBOUR: 'it returns false'. Refute it at one input. -/
def rootsDropsWrong : ChangeSpec := { name := "rootsDrops", fn := fun _ => fun
  | [d] => { results := [.lit (.bool false)], args := [d] }
  | _ => none }
def RootsDropsWrongFalsely : Prop := rootsDropsRow.holds Try.pinned (OpenSpec.ofChange rootsDropsWrong)

/-- 'flitlaw06.RootsDo': WHATEVER THE INPUT: true; the input reads as it did. -/
def rootsDoSpec : ChangeSpec := { name := "rootsDo", fn := fun _ => fun
  | [d1, d2, d3] => { results := [.lit (.bool true)], args := [d1, d2, d3] }
  | _ => none }
def rootsDoRow : OpenClaim := { program := "ytlogojiphjpknaa", sum := "427c2805eaabc70a649cf37d09ae8ce9a9c902caf3c0cd9db2d118c6a7ab00da", func := "flit/flitlaw06.RootsDo", spec := "rootsDo", apart := false }
def RootsDoSaid : Prop := rootsDoRow.holds Try.pinned (OpenSpec.ofChange rootsDoSpec)

/-- ITS FALSE NEIGHBOUR: 'it returns false'. Refute it at one input. -/
def rootsDoWrong : ChangeSpec := { name := "rootsDo", fn := fun _ => fun
  | [d1, d2, d3] => { results := [.lit (.bool false)], args := [d1, d2, d3] }
  | _ => none }
def RootsDoWrongFalsely : Prop := rootsDoRow.holds Try.pinned (OpenSpec.ofChange rootsDoWrong)

/-- 'flitlaw06.RootsMoves': WHATEVER THE INPUT: true; the input reads as it did. -/
def rootsMovesSpec : ChangeSpec := { name := "rootsMoves", fn := fun _ => fun
  | [d1, d2, d3] => { results := [.lit (.bool true)], args := [d1, d2, d3] }
  | _ => none }
def rootsMovesRow : OpenClaim := { program := "ytlogojiphjpknaa", sum := "427c2805eaabc70a649cf37d09ae8ce9a9c902caf3c0cd9db2d118c6a7ab00da", func := "flit/flitlaw06.RootsMoves", spec := "rootsMoves", apart := false }
def RootsMovesSaid : Prop := rootsMovesRow.holds Try.pinned (OpenSpec.ofChange rootsMovesSpec)

/-- ITS FALSE NEIGHBOUR: 'it returns false'. Refute it at one input. -/
def rootsMovesWrong : ChangeSpec := { name := "rootsMoves", fn := fun _ => fun
  | [d1, d2, d3] => { results := [.lit (.bool false)], args := [d1, d2, d3] }
  | _ => none }
def RootsMovesWrongFalsely : Prop := rootsMovesRow.holds Try.pinned (OpenSpec.ofChange rootsMovesWrong)

/-- 'flitlaw06.RootsStays': WHATEVER THE INPUT: true; the input reads as it did. -/
def rootsStaysSpec : ChangeSpec := { name := "rootsStays", fn := fun _ => fun
  | [d1, d2, d3] => { results := [.lit (.bool true)], args := [d1, d2, d3] }
  | _ => none }
def rootsStaysRow : OpenClaim := { program := "ytlogojiphjpknaa", sum := "427c2805eaabc70a649cf37d09ae8ce9a9c902caf3c0cd9db2d118c6a7ab00da", func := "flit/flitlaw06.RootsStays", spec := "rootsStays", apart := false }
def RootsStaysSaid : Prop := rootsStaysRow.holds Try.pinned (OpenSpec.ofChange rootsStaysSpec)

/-- ITS FALSE NEIGHBOUR: 'it returns false'. Refute it at one input. -/
def rootsStaysWrong : ChangeSpec := { name := "rootsStays", fn := fun _ => fun
  | [d1, d2, d3] => { results := [.lit (.bool false)], args := [d1, d2, d3] }
  | _ => none }
def RootsStaysWrongFalsely : Prop := rootsStaysRow.holds Try.pinned (OpenSpec.ofChange rootsStaysWrong)

/-- 'flitlaw07.GraphFields': WHATEVER THE INPUT: true; the input reads as it did. -/
def graphFieldsSpec : ChangeSpec := { name := "graphFields", fn := fun _ => fun
  | [d] => { results := [.lit (.bool true)], args := [d] }
  | _ => none }
def graphFieldsRow : OpenClaim := { program := "ytlogojiphjpknaa", sum := "427c2805eaabc70a649cf37d09ae8ce9a9c902caf3c0cd9db2d118c6a7ab00da", func := "flit/flitlaw07.GraphFields", spec := "graphFields", unfollowed := true, recurses := true, apart := false }
def GraphFieldsSaid : Prop := graphFieldsRow.holds Try.pinned (OpenSpec.ofChange graphFieldsSpec)

/-- ITS FALSE NEIGHBOUR: 'it returns false'. Refute it at one input. -/
def graphFieldsWrong : ChangeSpec := { name := "graphFields", fn := fun _ => fun
  | [d] => { results := [.lit (.bool false)], args := [d] }
  | _ => none }
def GraphFieldsWrongFalsely : Prop := graphFieldsRow.holds Try.pinned (OpenSpec.ofChange graphFieldsWrong)

/-- 'flitlaw07.GraphEqual': WHATEVER THE INPUT: true; the input reads as it did. -/
def graphEqualSpec : ChangeSpec := { name := "graphEqual", fn := fun _ => fun
  | [d1, d2, d3] => { results := [.lit (.bool true)], args := [d1, d2, d3] }
  | _ => none }
def graphEqualRow : OpenClaim := { program := "ytlogojiphjpknaa", sum := "427c2805eaabc70a649cf37d09ae8ce9a9c902caf3c0cd9db2d118c6a7ab00da", func := "flit/flitlaw07.GraphEqual", spec := "graphEqual", unfollowed := true, recurses := true, apart := false }
def GraphEqualSaid : Prop := graphEqualRow.holds Try.pinned (OpenSpec.ofChange graphEqualSpec)

/-- ITS FALSE NEIGHBOUR: 'it returns false'. Refute it at one input. -/
def graphEqualWrong : ChangeSpec := { name := "graphEqual", fn := fun _ => fun
  | [d1, d2, d3] => { results := [.lit (.bool false)], args := [d1, d2, d3] }
  | _ => none }
def GraphEqualWrongFalsely : Prop := graphEqualRow.holds Try.pinned (OpenSpec.ofChange graphEqualWrong)

/-- 'flitlaw07.GraphNumbers': WHATEVER THE INPUT: true; the input reads as it did. -/
def graphNumbersSpec : ChangeSpec := { name := "graphNumbers", fn := fun _ => fun
  | [d] => { results := [.lit (.bool true)], args := [d] }
  | _ => none }
def graphNumbersRow : OpenClaim := { program := "ytlogojiphjpknaa", sum := "427c2805eaabc70a649cf37d09ae8ce9a9c902caf3c0cd9db2d118c6a7ab00da", func := "flit/flitlaw07.GraphNumbers", spec := "graphNumbers", unfollowed := true, recurses := true, apart := false }
def GraphNumbersSaid : Prop := graphNumbersRow.holds Try.pinned (OpenSpec.ofChange graphNumbersSpec)

/-- ITS FALSE NEIGHBOUR: 'it returns false'. Refute it at one input. -/
def graphNumbersWrong : ChangeSpec := { name := "graphNumbers", fn := fun _ => fun
  | [d] => { results := [.lit (.bool false)], args := [d] }
  | _ => none }
def GraphNumbersWrongFalsely : Prop := graphNumbersRow.holds Try.pinned (OpenSpec.ofChange graphNumbersWrong)

/-- 'flitlaw07.GraphGone': WHATEVER THE INPUT: true; the input reads as it did. -/
def graphGoneSpec : ChangeSpec := { name := "graphGone", fn := fun _ => fun
  | [d1, d2, d3] => { results := [.lit (.bool true)], args := [d1, d2, d3] }
  | _ => none }
def graphGoneRow : OpenClaim := { program := "ytlogojiphjpknaa", sum := "427c2805eaabc70a649cf37d09ae8ce9a9c902caf3c0cd9db2d118c6a7ab00da", func := "flit/flitlaw07.GraphGone", spec := "graphGone", unfollowed := true, recurses := true, apart := false }
def GraphGoneSaid : Prop := graphGoneRow.holds Try.pinned (OpenSpec.ofChange graphGoneSpec)

/-- ITS FALSE NEIGHBOUR: 'it returns false'. Refute it at one input. -/
def graphGoneWrong : ChangeSpec := { name := "graphGone", fn := fun _ => fun
  | [d1, d2, d3] => { results := [.lit (.bool false)], args := [d1, d2, d3] }
  | _ => none }
def GraphGoneWrongFalsely : Prop := graphGoneRow.holds Try.pinned (OpenSpec.ofChange graphGoneWrong)

/-- 'flitlaw07.GraphBad': WHATEVER THE INPUT: true; the input reads as it did. -/
def graphBadSpec : ChangeSpec := { name := "graphBad", fn := fun _ => fun
  | [d1, d2] => { results := [.lit (.bool true)], args := [d1, d2] }
  | _ => none }
def graphBadRow : OpenClaim := { program := "ytlogojiphjpknaa", sum := "427c2805eaabc70a649cf37d09ae8ce9a9c902caf3c0cd9db2d118c6a7ab00da", func := "flit/flitlaw07.GraphBad", spec := "graphBad", unfollowed := true, recurses := true, apart := false }
def GraphBadSaid : Prop := graphBadRow.holds Try.pinned (OpenSpec.ofChange graphBadSpec)

/-- ITS FALSE NEIGHBOUR: 'it returns false'. Refute it at one input. -/
def graphBadWrong : ChangeSpec := { name := "graphBad", fn := fun _ => fun
  | [d1, d2] => { results := [.lit (.bool false)], args := [d1, d2] }
  | _ => none }
def GraphBadWrongFalsely : Prop := graphBadRow.holds Try.pinned (OpenSpec.ofChange graphBadWrong)

/-- 'flitlaw07.GraphPlays': WHATEVER THE INPUT: true; the input reads as it did. -/
def graphPlaysSpec : ChangeSpec := { name := "graphPlays", fn := fun _ => fun
  | [d1, d2] => { results := [.lit (.bool true)], args := [d1, d2] }
  | _ => none }
def graphPlaysRow : OpenClaim := { program := "ytlogojiphjpknaa", sum := "427c2805eaabc70a649cf37d09ae8ce9a9c902caf3c0cd9db2d118c6a7ab00da", func := "flit/flitlaw07.GraphPlays", spec := "graphPlays", unfollowed := true, recurses := true, apart := false }
def GraphPlaysSaid : Prop := graphPlaysRow.holds Try.pinned (OpenSpec.ofChange graphPlaysSpec)

/-- ITS FALSE NEIGHBOUR: 'it returns false'. Refute it at one input. -/
def graphPlaysWrong : ChangeSpec := { name := "graphPlays", fn := fun _ => fun
  | [d1, d2] => { results := [.lit (.bool false)], args := [d1, d2] }
  | _ => none }
def GraphPlaysWrongFalsely : Prop := graphPlaysRow.holds Try.pinned (OpenSpec.ofChange graphPlaysWrong)

/- THE SECOND FORM. 'bulk': how many values and letters a reading holds, each counted each time it is reached (what is shared counts as often as it is met; a slice's spare places count too). A statement '..UptoSaid' is the law's where the arguments, and the package variables that the reading takes, are together of bulk at most 1048576: NARROWER than '..Said'. Prove '..Said' where nothing that the law and all that it calls make is longer than what came in: it says more and counts as full. Else prove '..UptoSaid'. A law counts once. -/
mutual
def uptoBulk {H : Type} : DataW H → Nat
  | .lit (.string bytes) => bytes.length + 1
  | .lit _ => 1
  | .nil => 1
  | .ptr d => uptoBulk d + 1
  | .slice elems spare => uptoBulkAll elems + uptoBulkAll spare + 1
  | .agg parts => uptoBulkAll parts + 1
  | .iface _ d => uptoBulk d + 1
  | .map entries => uptoBulkEntries entries + 1
  | .held _ => 1
def uptoBulkAll {H : Type} : List (DataW H) → Nat
  | [] => 0
  | d :: r => uptoBulk d + uptoBulkAll r
def uptoBulkEntries {H : Type} : List (Lit × DataW H) → Nat
  | [] => 0
  | x :: r => uptoBulkEntry x + uptoBulkEntries r
def uptoBulkEntry {H : Type} : Lit × DataW H → Nat
  | (.string bytes, d) => bytes.length + uptoBulk d + 1
  | (_, d) => uptoBulk d + 1
 end
def uptoSmall : (H : Type) → List (DataW H) → Bool := fun _ ds => decide (uptoBulkAll ds ≤ 1048576)
def OpenSpec.upto (s : _root_.Go.ChangeSpec) : _root_.Go.OpenSpec := { _root_.Go.OpenSpec.ofChange s with cond := some uptoSmall }

/-- 'flitlaw06.RootsBack', WHERE WHAT IT READS IS OF BULK AT MOST 1048576: true; the input reads as it did. -/
def rootsBackUptoRow : OpenClaim := { program := "ytlogojiphjpknaa", sum := "427c2805eaabc70a649cf37d09ae8ce9a9c902caf3c0cd9db2d118c6a7ab00da", func := "flit/flitlaw06.RootsBack", spec := "rootsBack", apart := false, narrowed := true }
def RootsBackUptoSaid : Prop := rootsBackUptoRow.holds Try.pinned (OpenSpec.upto rootsBackSpec)

/-- 'flitlaw06.RootsDups', WHERE WHAT IT READS IS OF BULK AT MOST 1048576: true; the input reads as it did. -/
def rootsDupsUptoRow : OpenClaim := { program := "ytlogojiphjpknaa", sum := "427c2805eaabc70a649cf37d09ae8ce9a9c902caf3c0cd9db2d118c6a7ab00da", func := "flit/flitlaw06.RootsDups", spec := "rootsDups", apart := false, narrowed := true }
def RootsDupsUptoSaid : Prop := rootsDupsUptoRow.holds Try.pinned (OpenSpec.upto rootsDupsSpec)

/-- 'flitlaw06.RootsDrops', WHERE WHAT IT READS IS OF BULK AT MOST 1048576: true; the input reads as it did. -/
def rootsDropsUptoRow : OpenClaim := { program := "ytlogojiphjpknaa", sum := "427c2805eaabc70a649cf37d09ae8ce9a9c902caf3c0cd9db2d118c6a7ab00da", func := "flit/flitlaw06.RootsDrops", spec := "rootsDrops", apart := false, narrowed := true }
def RootsDropsUptoSaid : Prop := rootsDropsUptoRow.holds Try.pinned (OpenSpec.upto rootsDropsSpec)

/-- 'flitlaw06.RootsDo', WHERE WHAT IT READS IS OF BULK AT MOST 1048576: true; the input reads as it did. -/
def rootsDoUptoRow : OpenClaim := { program := "ytlogojiphjpknaa", sum := "427c2805eaabc70a649cf37d09ae8ce9a9c902caf3c0cd9db2d118c6a7ab00da", func := "flit/flitlaw06.RootsDo", spec := "rootsDo", apart := false, narrowed := true }
def RootsDoUptoSaid : Prop := rootsDoUptoRow.holds Try.pinned (OpenSpec.upto rootsDoSpec)

/-- 'flitlaw06.RootsMoves', WHERE WHAT IT READS IS OF BULK AT MOST 1048576: true; the input reads as it did. -/
def rootsMovesUptoRow : OpenClaim := { program := "ytlogojiphjpknaa", sum := "427c2805eaabc70a649cf37d09ae8ce9a9c902caf3c0cd9db2d118c6a7ab00da", func := "flit/flitlaw06.RootsMoves", spec := "rootsMoves", apart := false, narrowed := true }
def RootsMovesUptoSaid : Prop := rootsMovesUptoRow.holds Try.pinned (OpenSpec.upto rootsMovesSpec)

/-- 'flitlaw06.RootsStays', WHERE WHAT IT READS IS OF BULK AT MOST 1048576: true; the input reads as it did. -/
def rootsStaysUptoRow : OpenClaim := { program := "ytlogojiphjpknaa", sum := "427c2805eaabc70a649cf37d09ae8ce9a9c902caf3c0cd9db2d118c6a7ab00da", func := "flit/flitlaw06.RootsStays", spec := "rootsStays", apart := false, narrowed := true }
def RootsStaysUptoSaid : Prop := rootsStaysUptoRow.holds Try.pinned (OpenSpec.upto rootsStaysSpec)

/-- 'flitlaw07.GraphFields', WHERE WHAT IT READS IS OF BULK AT MOST 1048576: true; the input reads as it did. -/
def graphFieldsUptoRow : OpenClaim := { program := "ytlogojiphjpknaa", sum := "427c2805eaabc70a649cf37d09ae8ce9a9c902caf3c0cd9db2d118c6a7ab00da", func := "flit/flitlaw07.GraphFields", spec := "graphFields", unfollowed := true, recurses := true, apart := false, narrowed := true }
def GraphFieldsUptoSaid : Prop := graphFieldsUptoRow.holds Try.pinned (OpenSpec.upto graphFieldsSpec)

/-- 'flitlaw07.GraphEqual', WHERE WHAT IT READS IS OF BULK AT MOST 1048576: true; the input reads as it did. -/
def graphEqualUptoRow : OpenClaim := { program := "ytlogojiphjpknaa", sum := "427c2805eaabc70a649cf37d09ae8ce9a9c902caf3c0cd9db2d118c6a7ab00da", func := "flit/flitlaw07.GraphEqual", spec := "graphEqual", unfollowed := true, recurses := true, apart := false, narrowed := true }
def GraphEqualUptoSaid : Prop := graphEqualUptoRow.holds Try.pinned (OpenSpec.upto graphEqualSpec)

/-- 'flitlaw07.GraphNumbers', WHERE WHAT IT READS IS OF BULK AT MOST 1048576: true; the input reads as it did. -/
def graphNumbersUptoRow : OpenClaim := { program := "ytlogojiphjpknaa", sum := "427c2805eaabc70a649cf37d09ae8ce9a9c902caf3c0cd9db2d118c6a7ab00da", func := "flit/flitlaw07.GraphNumbers", spec := "graphNumbers", unfollowed := true, recurses := true, apart := false, narrowed := true }
def GraphNumbersUptoSaid : Prop := graphNumbersUptoRow.holds Try.pinned (OpenSpec.upto graphNumbersSpec)

/-- 'flitlaw07.GraphGone', WHERE WHAT IT READS IS OF BULK AT MOST 1048576: true; the input reads as it did. -/
def graphGoneUptoRow : OpenClaim := { program := "ytlogojiphjpknaa", sum := "427c2805eaabc70a649cf37d09ae8ce9a9c902caf3c0cd9db2d118c6a7ab00da", func := "flit/flitlaw07.GraphGone", spec := "graphGone", unfollowed := true, recurses := true, apart := false, narrowed := true }
def GraphGoneUptoSaid : Prop := graphGoneUptoRow.holds Try.pinned (OpenSpec.upto graphGoneSpec)

/-- 'flitlaw07.GraphBad', WHERE WHAT IT READS IS OF BULK AT MOST 1048576: true; the input reads as it did. -/
def graphBadUptoRow : OpenClaim := { program := "ytlogojiphjpknaa", sum := "427c2805eaabc70a649cf37d09ae8ce9a9c902caf3c0cd9db2d118c6a7ab00da", func := "flit/flitlaw07.GraphBad", spec := "graphBad", unfollowed := true, recurses := true, apart := false, narrowed := true }
def GraphBadUptoSaid : Prop := graphBadUptoRow.holds Try.pinned (OpenSpec.upto graphBadSpec)

/-- 'flitlaw07.GraphPlays', WHERE WHAT IT READS IS OF BULK AT MOST 1048576: true; the input reads as it did. -/
def graphPlaysUptoRow : OpenClaim := { program := "ytlogojiphjpknaa", sum := "427c2805eaabc70a649cf37d09ae8ce9a9c902caf3c0cd9db2d118c6a7ab00da", func := "flit/flitlaw07.GraphPlays", spec := "graphPlays", unfollowed := true, recurses := true, apart := false, narrowed := true }
def GraphPlaysUptoSaid : Prop := graphPlaysUptoRow.holds Try.pinned (OpenSpec.upto graphPlaysSpec)

end Rows
end Go.Proofs.Ytlogojiphjpknaa

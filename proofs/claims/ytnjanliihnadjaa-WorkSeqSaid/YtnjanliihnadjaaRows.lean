/-
  No cell of these rows narrows 'for every input' (looked for: loops, veiled, ifaces, maps, wideKeys, modest, calm, conditions, laid).
  DERIVED. THE GIVEN ROWS OF THIS SEAT. 38 by the template 'for every input the law returns true; each argument reads behind the call as it read before'; 0 by the template 'total and deterministic' (their statements: YtnjanliihnadjaaTotals.lean).
  GIVEN WITH THE SEED: the statements are not yours to turn. If you find one false, say at which input.
  Laid BY PROGRAM, IN A SANDBOX (cutbox-rows.mjs): the forced cells as the released guide's own fill.sh prints them over the translation 1d872971ed777b14… (all of the seat's roots in one cut). By AI agents, Wed Nov 11 2026. No macro, syntax, notation, axiom, sorry.
-/
import Derived.Test.YtnjanliihnadjaaChecked
import GoSem.Claim
import GoSem.ClaimJoined
import GoSem.ClaimMapViews
import Derived.JoinedTies
import Derived.KernelRfl
namespace Go.Proofs.Ytnjanliihnadjaa
/- THE CELL 'sum', in the pinned program and in every row, IS THE sha256 OF THE DUMP (.gsa) THAT YtnjanliihnadjaaProg.lean LOADS. Nothing in Lean hashes anything: it is a label: what it is worth is what the hold of that sum in a sandbox is worth. -/
noncomputable def Try.pinned : Pinned := { name := "ytnjanliihnadjaa", sum := "1d872971ed777b1495c007dfaba26814cbc2503a13eae50ac863c90a3b08512b", checked := Try.checked }
namespace Rows
def none {H : Type} : Left H := { results := [], args := [] }

/-- 'haywainlaw19.BarrierBegins': WHATEVER THE INPUT: true; the input reads as it did. -/
def barrierBeginsSpec : ChangeSpec := { name := "barrierBegins", fn := fun _ => fun
  | [d1, d2, d3] => { results := [.lit (.bool true)], args := [d1, d2, d3] }
  | _ => none }
def barrierBeginsRow : OpenClaim := { program := "ytnjanliihnadjaa", sum := "1d872971ed777b1495c007dfaba26814cbc2503a13eae50ac863c90a3b08512b", func := "haywain/haywainlaw19.BarrierBegins", spec := "barrierBegins", apart := false }
def BarrierBeginsSaid : Prop := barrierBeginsRow.holds Try.pinned (OpenSpec.ofChange barrierBeginsSpec)

/-- ITS FALSE NEIGHBOUR: 'it returns false'. Refute it at one input. -/
def barrierBeginsWrong : ChangeSpec := { name := "barrierBegins", fn := fun _ => fun
  | [d1, d2, d3] => { results := [.lit (.bool false)], args := [d1, d2, d3] }
  | _ => none }
def BarrierBeginsWrongFalsely : Prop := barrierBeginsRow.holds Try.pinned (OpenSpec.ofChange barrierBeginsWrong)

/-- 'haywainlaw19.BarrierPlays': WHATEVER THE INPUT: true; the input reads as it did. -/
def barrierPlaysSpec : ChangeSpec := { name := "barrierPlays", fn := fun _ => fun
  | [d1, d2] => { results := [.lit (.bool true)], args := [d1, d2] }
  | _ => none }
def barrierPlaysRow : OpenClaim := { program := "ytnjanliihnadjaa", sum := "1d872971ed777b1495c007dfaba26814cbc2503a13eae50ac863c90a3b08512b", func := "haywain/haywainlaw19.BarrierPlays", spec := "barrierPlays", apart := false }
def BarrierPlaysSaid : Prop := barrierPlaysRow.holds Try.pinned (OpenSpec.ofChange barrierPlaysSpec)

/-- ITS FALSE NEIGHBOUR: 'it returns false'. Refute it at one input. -/
def barrierPlaysWrong : ChangeSpec := { name := "barrierPlays", fn := fun _ => fun
  | [d1, d2] => { results := [.lit (.bool false)], args := [d1, d2] }
  | _ => none }
def BarrierPlaysWrongFalsely : Prop := barrierPlaysRow.holds Try.pinned (OpenSpec.ofChange barrierPlaysWrong)

/-- 'haywainlaw19.BarrierSays': WHATEVER THE INPUT: true; the input reads as it did. -/
def barrierSaysSpec : ChangeSpec := { name := "barrierSays", fn := fun _ => fun
  | [d1, d2] => { results := [.lit (.bool true)], args := [d1, d2] }
  | _ => none }
def barrierSaysRow : OpenClaim := { program := "ytnjanliihnadjaa", sum := "1d872971ed777b1495c007dfaba26814cbc2503a13eae50ac863c90a3b08512b", func := "haywain/haywainlaw19.BarrierSays", spec := "barrierSays", apart := false }
def BarrierSaysSaid : Prop := barrierSaysRow.holds Try.pinned (OpenSpec.ofChange barrierSaysSpec)

/-- ITS FALSE NEIGHBOUR: 'it returns false'. Refute it at one input. -/
def barrierSaysWrong : ChangeSpec := { name := "barrierSays", fn := fun _ => fun
  | [d1, d2] => { results := [.lit (.bool false)], args := [d1, d2] }
  | _ => none }
def BarrierSaysWrongFalsely : Prop := barrierSaysRow.holds Try.pinned (OpenSpec.ofChange barrierSaysWrong)

/-- 'haywainlaw19.BarrierOrders': WHATEVER THE INPUT: true; the input reads as it did. -/
def barrierOrdersSpec : ChangeSpec := { name := "barrierOrders", fn := fun _ => fun
  | [d1, d2, d3, d4] => { results := [.lit (.bool true)], args := [d1, d2, d3, d4] }
  | _ => none }
def barrierOrdersRow : OpenClaim := { program := "ytnjanliihnadjaa", sum := "1d872971ed777b1495c007dfaba26814cbc2503a13eae50ac863c90a3b08512b", func := "haywain/haywainlaw19.BarrierOrders", spec := "barrierOrders", apart := false }
def BarrierOrdersSaid : Prop := barrierOrdersRow.holds Try.pinned (OpenSpec.ofChange barrierOrdersSpec)

/-- ITS FALSE NEIGHBOUR: 'it returns false'. Refute it at one input. -/
def barrierOrdersWrong : ChangeSpec := { name := "barrierOrders", fn := fun _ => fun
  | [d1, d2, d3, d4] => { results := [.lit (.bool false)], args := [d1, d2, d3, d4] }
  | _ => none }
def BarrierOrdersWrongFalsely : Prop := barrierOrdersRow.holds Try.pinned (OpenSpec.ofChange barrierOrdersWrong)

/-- 'haywainlaw19.BarrierStale': WHATEVER THE INPUT: true; the input reads as it did. -/
def barrierStaleSpec : ChangeSpec := { name := "barrierStale", fn := fun _ => fun
  | [d1, d2, d3, d4] => { results := [.lit (.bool true)], args := [d1, d2, d3, d4] }
  | _ => none }
def barrierStaleRow : OpenClaim := { program := "ytnjanliihnadjaa", sum := "1d872971ed777b1495c007dfaba26814cbc2503a13eae50ac863c90a3b08512b", func := "haywain/haywainlaw19.BarrierStale", spec := "barrierStale", apart := false }
def BarrierStaleSaid : Prop := barrierStaleRow.holds Try.pinned (OpenSpec.ofChange barrierStaleSpec)

/-- ITS FALSE NEIGHBOUR: 'it returns false'. Refute it at one input. -/
def barrierStaleWrong : ChangeSpec := { name := "barrierStale", fn := fun _ => fun
  | [d1, d2, d3, d4] => { results := [.lit (.bool false)], args := [d1, d2, d3, d4] }
  | _ => none }
def BarrierStaleWrongFalsely : Prop := barrierStaleRow.holds Try.pinned (OpenSpec.ofChange barrierStaleWrong)

/-- 'haywainlaw19.BarrierSeq': WHATEVER THE INPUT: true; the input reads as it did. -/
def barrierSeqSpec : ChangeSpec := { name := "barrierSeq", fn := fun _ => fun
  | [d1, d2, d3] => { results := [.lit (.bool true)], args := [d1, d2, d3] }
  | _ => none }
def barrierSeqRow : OpenClaim := { program := "ytnjanliihnadjaa", sum := "1d872971ed777b1495c007dfaba26814cbc2503a13eae50ac863c90a3b08512b", func := "haywain/haywainlaw19.BarrierSeq", spec := "barrierSeq", apart := false }
def BarrierSeqSaid : Prop := barrierSeqRow.holds Try.pinned (OpenSpec.ofChange barrierSeqSpec)

/-- ITS FALSE NEIGHBOUR: 'it returns false'. Refute it at one input. -/
def barrierSeqWrong : ChangeSpec := { name := "barrierSeq", fn := fun _ => fun
  | [d1, d2, d3] => { results := [.lit (.bool false)], args := [d1, d2, d3] }
  | _ => none }
def BarrierSeqWrongFalsely : Prop := barrierSeqRow.holds Try.pinned (OpenSpec.ofChange barrierSeqWrong)

/-- 'haywainlaw03.GraphChecks': WHATEVER THE INPUT: true; the input reads as it did. -/
def graphChecksSpec : ChangeSpec := { name := "graphChecks", fn := fun _ => fun
  | [d] => { results := [.lit (.bool true)], args := [d] }
  | _ => none }
def graphChecksRow : OpenClaim := { program := "ytnjanliihnadjaa", sum := "1d872971ed777b1495c007dfaba26814cbc2503a13eae50ac863c90a3b08512b", func := "haywain/haywainlaw03.GraphChecks", spec := "graphChecks", recurses := true, apart := false }
def GraphChecksSaid : Prop := graphChecksRow.holds Try.pinned (OpenSpec.ofChange graphChecksSpec)

/-- ITS FALSE NEIGHBOUR: 'it returns false'. Refute it at one input. -/
def graphChecksWrong : ChangeSpec := { name := "graphChecks", fn := fun _ => fun
  | [d] => { results := [.lit (.bool false)], args := [d] }
  | _ => none }
def GraphChecksWrongFalsely : Prop := graphChecksRow.holds Try.pinned (OpenSpec.ofChange graphChecksWrong)

/-- 'haywainlaw03.GraphPrints': WHATEVER THE INPUT: true; the input reads as it did. -/
def graphPrintsSpec : ChangeSpec := { name := "graphPrints", fn := fun _ => fun
  | [d] => { results := [.lit (.bool true)], args := [d] }
  | _ => none }
def graphPrintsRow : OpenClaim := { program := "ytnjanliihnadjaa", sum := "1d872971ed777b1495c007dfaba26814cbc2503a13eae50ac863c90a3b08512b", func := "haywain/haywainlaw03.GraphPrints", spec := "graphPrints", recurses := true, apart := false }
def GraphPrintsSaid : Prop := graphPrintsRow.holds Try.pinned (OpenSpec.ofChange graphPrintsSpec)

/-- ITS FALSE NEIGHBOUR: 'it returns false'. Refute it at one input. -/
def graphPrintsWrong : ChangeSpec := { name := "graphPrints", fn := fun _ => fun
  | [d] => { results := [.lit (.bool false)], args := [d] }
  | _ => none }
def GraphPrintsWrongFalsely : Prop := graphPrintsRow.holds Try.pinned (OpenSpec.ofChange graphPrintsWrong)

/-- 'haywainlaw03.GraphOuts': WHATEVER THE INPUT: true; the input reads as it did. -/
def graphOutsSpec : ChangeSpec := { name := "graphOuts", fn := fun _ => fun
  | [d1, d2] => { results := [.lit (.bool true)], args := [d1, d2] }
  | _ => none }
def graphOutsRow : OpenClaim := { program := "ytnjanliihnadjaa", sum := "1d872971ed777b1495c007dfaba26814cbc2503a13eae50ac863c90a3b08512b", func := "haywain/haywainlaw03.GraphOuts", spec := "graphOuts", recurses := true, apart := false }
def GraphOutsSaid : Prop := graphOutsRow.holds Try.pinned (OpenSpec.ofChange graphOutsSpec)

/-- ITS FALSE NEIGHBOUR: 'it returns false'. Refute it at one input. -/
def graphOutsWrong : ChangeSpec := { name := "graphOuts", fn := fun _ => fun
  | [d1, d2] => { results := [.lit (.bool false)], args := [d1, d2] }
  | _ => none }
def GraphOutsWrongFalsely : Prop := graphOutsRow.holds Try.pinned (OpenSpec.ofChange graphOutsWrong)

/-- 'haywainlaw03.GraphBack': WHATEVER THE INPUT: true; the input reads as it did. -/
def graphBackSpec : ChangeSpec := { name := "graphBack", fn := fun _ => fun
  | [d] => { results := [.lit (.bool true)], args := [d] }
  | _ => none }
def graphBackRow : OpenClaim := { program := "ytnjanliihnadjaa", sum := "1d872971ed777b1495c007dfaba26814cbc2503a13eae50ac863c90a3b08512b", func := "haywain/haywainlaw03.GraphBack", spec := "graphBack", recurses := true, apart := false }
def GraphBackSaid : Prop := graphBackRow.holds Try.pinned (OpenSpec.ofChange graphBackSpec)

/-- ITS FALSE NEIGHBOUR: 'it returns false'. Refute it at one input. -/
def graphBackWrong : ChangeSpec := { name := "graphBack", fn := fun _ => fun
  | [d] => { results := [.lit (.bool false)], args := [d] }
  | _ => none }
def GraphBackWrongFalsely : Prop := graphBackRow.holds Try.pinned (OpenSpec.ofChange graphBackWrong)

/-- 'haywainlaw03.GraphTurns': WHATEVER THE INPUT: true; the input reads as it did. -/
def graphTurnsSpec : ChangeSpec := { name := "graphTurns", fn := fun _ => fun
  | [d1, d2] => { results := [.lit (.bool true)], args := [d1, d2] }
  | _ => none }
def graphTurnsRow : OpenClaim := { program := "ytnjanliihnadjaa", sum := "1d872971ed777b1495c007dfaba26814cbc2503a13eae50ac863c90a3b08512b", func := "haywain/haywainlaw03.GraphTurns", spec := "graphTurns", recurses := true, apart := false }
def GraphTurnsSaid : Prop := graphTurnsRow.holds Try.pinned (OpenSpec.ofChange graphTurnsSpec)

/-- ITS FALSE NEIGHBOUR: 'it returns false'. Refute it at one input. -/
def graphTurnsWrong : ChangeSpec := { name := "graphTurns", fn := fun _ => fun
  | [d1, d2] => { results := [.lit (.bool false)], args := [d1, d2] }
  | _ => none }
def GraphTurnsWrongFalsely : Prop := graphTurnsRow.holds Try.pinned (OpenSpec.ofChange graphTurnsWrong)

/-- 'haywainlaw03.GraphAgain': WHATEVER THE INPUT: true; the input reads as it did. -/
def graphAgainSpec : ChangeSpec := { name := "graphAgain", fn := fun _ => fun
  | [d] => { results := [.lit (.bool true)], args := [d] }
  | _ => none }
def graphAgainRow : OpenClaim := { program := "ytnjanliihnadjaa", sum := "1d872971ed777b1495c007dfaba26814cbc2503a13eae50ac863c90a3b08512b", func := "haywain/haywainlaw03.GraphAgain", spec := "graphAgain", recurses := true, apart := false }
def GraphAgainSaid : Prop := graphAgainRow.holds Try.pinned (OpenSpec.ofChange graphAgainSpec)

/-- ITS FALSE NEIGHBOUR: 'it returns false'. Refute it at one input. -/
def graphAgainWrong : ChangeSpec := { name := "graphAgain", fn := fun _ => fun
  | [d] => { results := [.lit (.bool false)], args := [d] }
  | _ => none }
def GraphAgainWrongFalsely : Prop := graphAgainRow.holds Try.pinned (OpenSpec.ofChange graphAgainWrong)

/-- 'haywainlaw07.PartHomes': WHATEVER THE INPUT: true; the input reads as it did. -/
def partHomesSpec : ChangeSpec := { name := "partHomes", fn := fun _ => fun
  | [d1, d2, d3, d4] => { results := [.lit (.bool true)], args := [d1, d2, d3, d4] }
  | _ => none }
def partHomesRow : OpenClaim := { program := "ytnjanliihnadjaa", sum := "1d872971ed777b1495c007dfaba26814cbc2503a13eae50ac863c90a3b08512b", func := "haywain/haywainlaw07.PartHomes", spec := "partHomes", apart := false }
def PartHomesSaid : Prop := partHomesRow.holds Try.pinned (OpenSpec.ofChange partHomesSpec)

/-- ITS FALSE NEIGHBOUR: 'it returns false'. Refute it at one input. -/
def partHomesWrong : ChangeSpec := { name := "partHomes", fn := fun _ => fun
  | [d1, d2, d3, d4] => { results := [.lit (.bool false)], args := [d1, d2, d3, d4] }
  | _ => none }
def PartHomesWrongFalsely : Prop := partHomesRow.holds Try.pinned (OpenSpec.ofChange partHomesWrong)

/-- 'haywainlaw07.PartRights': WHATEVER THE INPUT: true; the input reads as it did. -/
def partRightsSpec : ChangeSpec := { name := "partRights", fn := fun _ => fun
  | [d1, d2, d3] => { results := [.lit (.bool true)], args := [d1, d2, d3] }
  | _ => none }
def partRightsRow : OpenClaim := { program := "ytnjanliihnadjaa", sum := "1d872971ed777b1495c007dfaba26814cbc2503a13eae50ac863c90a3b08512b", func := "haywain/haywainlaw07.PartRights", spec := "partRights", apart := false }
def PartRightsSaid : Prop := partRightsRow.holds Try.pinned (OpenSpec.ofChange partRightsSpec)

/-- ITS FALSE NEIGHBOUR: 'it returns false'. Refute it at one input. -/
def partRightsWrong : ChangeSpec := { name := "partRights", fn := fun _ => fun
  | [d1, d2, d3] => { results := [.lit (.bool false)], args := [d1, d2, d3] }
  | _ => none }
def PartRightsWrongFalsely : Prop := partRightsRow.holds Try.pinned (OpenSpec.ofChange partRightsWrong)

/-- 'haywainlaw07.PartSplits': WHATEVER THE INPUT: true; the input reads as it did. -/
def partSplitsSpec : ChangeSpec := { name := "partSplits", fn := fun _ => fun
  | [d1, d2, d3] => { results := [.lit (.bool true)], args := [d1, d2, d3] }
  | _ => none }
def partSplitsRow : OpenClaim := { program := "ytnjanliihnadjaa", sum := "1d872971ed777b1495c007dfaba26814cbc2503a13eae50ac863c90a3b08512b", func := "haywain/haywainlaw07.PartSplits", spec := "partSplits", apart := false }
def PartSplitsSaid : Prop := partSplitsRow.holds Try.pinned (OpenSpec.ofChange partSplitsSpec)

/-- ITS FALSE NEIGHBOUR: 'it returns false'. Refute it at one input. -/
def partSplitsWrong : ChangeSpec := { name := "partSplits", fn := fun _ => fun
  | [d1, d2, d3] => { results := [.lit (.bool false)], args := [d1, d2, d3] }
  | _ => none }
def PartSplitsWrongFalsely : Prop := partSplitsRow.holds Try.pinned (OpenSpec.ofChange partSplitsWrong)

/-- 'haywainlaw07.PartJoins': WHATEVER THE INPUT: true; the input reads as it did. -/
def partJoinsSpec : ChangeSpec := { name := "partJoins", fn := fun _ => fun
  | [d1, d2, d3] => { results := [.lit (.bool true)], args := [d1, d2, d3] }
  | _ => none }
def partJoinsRow : OpenClaim := { program := "ytnjanliihnadjaa", sum := "1d872971ed777b1495c007dfaba26814cbc2503a13eae50ac863c90a3b08512b", func := "haywain/haywainlaw07.PartJoins", spec := "partJoins", apart := false }
def PartJoinsSaid : Prop := partJoinsRow.holds Try.pinned (OpenSpec.ofChange partJoinsSpec)

/-- ITS FALSE NEIGHBOUR: 'it returns false'. Refute it at one input. -/
def partJoinsWrong : ChangeSpec := { name := "partJoins", fn := fun _ => fun
  | [d1, d2, d3] => { results := [.lit (.bool false)], args := [d1, d2, d3] }
  | _ => none }
def PartJoinsWrongFalsely : Prop := partJoinsRow.holds Try.pinned (OpenSpec.ofChange partJoinsWrong)

/-- 'haywainlaw07.PartBack': WHATEVER THE INPUT: true; the input reads as it did. -/
def partBackSpec : ChangeSpec := { name := "partBack", fn := fun _ => fun
  | [d1, d2, d3] => { results := [.lit (.bool true)], args := [d1, d2, d3] }
  | _ => none }
def partBackRow : OpenClaim := { program := "ytnjanliihnadjaa", sum := "1d872971ed777b1495c007dfaba26814cbc2503a13eae50ac863c90a3b08512b", func := "haywain/haywainlaw07.PartBack", spec := "partBack", apart := false }
def PartBackSaid : Prop := partBackRow.holds Try.pinned (OpenSpec.ofChange partBackSpec)

/-- ITS FALSE NEIGHBOUR: 'it returns false'. Refute it at one input. -/
def partBackWrong : ChangeSpec := { name := "partBack", fn := fun _ => fun
  | [d1, d2, d3] => { results := [.lit (.bool false)], args := [d1, d2, d3] }
  | _ => none }
def PartBackWrongFalsely : Prop := partBackRow.holds Try.pinned (OpenSpec.ofChange partBackWrong)

/-- 'haywainlaw07.PartWhole': WHATEVER THE INPUT: true; the input reads as it did. -/
def partWholeSpec : ChangeSpec := { name := "partWhole", fn := fun _ => fun
  | [d1, d2, d3] => { results := [.lit (.bool true)], args := [d1, d2, d3] }
  | _ => none }
def partWholeRow : OpenClaim := { program := "ytnjanliihnadjaa", sum := "1d872971ed777b1495c007dfaba26814cbc2503a13eae50ac863c90a3b08512b", func := "haywain/haywainlaw07.PartWhole", spec := "partWhole", apart := false }
def PartWholeSaid : Prop := partWholeRow.holds Try.pinned (OpenSpec.ofChange partWholeSpec)

/-- ITS FALSE NEIGHBOUR: 'it returns false'. Refute it at one input. -/
def partWholeWrong : ChangeSpec := { name := "partWhole", fn := fun _ => fun
  | [d1, d2, d3] => { results := [.lit (.bool false)], args := [d1, d2, d3] }
  | _ => none }
def PartWholeWrongFalsely : Prop := partWholeRow.holds Try.pinned (OpenSpec.ofChange partWholeWrong)

/-- 'haywainlaw04.ProgChecks': WHATEVER THE INPUT: true; the input reads as it did. -/
def progChecksSpec : ChangeSpec := { name := "progChecks", fn := fun _ => fun
  | [d1, d2] => { results := [.lit (.bool true)], args := [d1, d2] }
  | _ => none }
def progChecksRow : OpenClaim := { program := "ytnjanliihnadjaa", sum := "1d872971ed777b1495c007dfaba26814cbc2503a13eae50ac863c90a3b08512b", func := "haywain/haywainlaw04.ProgChecks", spec := "progChecks", unfollowed := true, recurses := true, apart := false }
def ProgChecksSaid : Prop := progChecksRow.holds Try.pinned (OpenSpec.ofChange progChecksSpec)

/-- ITS FALSE NEIGHBOUR: 'it returns false'. Refute it at one input. -/
def progChecksWrong : ChangeSpec := { name := "progChecks", fn := fun _ => fun
  | [d1, d2] => { results := [.lit (.bool false)], args := [d1, d2] }
  | _ => none }
def ProgChecksWrongFalsely : Prop := progChecksRow.holds Try.pinned (OpenSpec.ofChange progChecksWrong)

/-- 'haywainlaw04.ProgStarts': WHATEVER THE INPUT: true; the input reads as it did. -/
def progStartsSpec : ChangeSpec := { name := "progStarts", fn := fun _ => fun
  | [d1, d2, d3] => { results := [.lit (.bool true)], args := [d1, d2, d3] }
  | _ => none }
def progStartsRow : OpenClaim := { program := "ytnjanliihnadjaa", sum := "1d872971ed777b1495c007dfaba26814cbc2503a13eae50ac863c90a3b08512b", func := "haywain/haywainlaw04.ProgStarts", spec := "progStarts", unfollowed := true, recurses := true, apart := false }
def ProgStartsSaid : Prop := progStartsRow.holds Try.pinned (OpenSpec.ofChange progStartsSpec)

/-- ITS FALSE NEIGHBOUR: 'it returns false'. Refute it at one input. -/
def progStartsWrong : ChangeSpec := { name := "progStarts", fn := fun _ => fun
  | [d1, d2, d3] => { results := [.lit (.bool false)], args := [d1, d2, d3] }
  | _ => none }
def ProgStartsWrongFalsely : Prop := progStartsRow.holds Try.pinned (OpenSpec.ofChange progStartsWrong)

/-- 'haywainlaw04.ProgFolds': WHATEVER THE INPUT: true; the input reads as it did. -/
def progFoldsSpec : ChangeSpec := { name := "progFolds", fn := fun _ => fun
  | [d1, d2, d3] => { results := [.lit (.bool true)], args := [d1, d2, d3] }
  | _ => none }
def progFoldsRow : OpenClaim := { program := "ytnjanliihnadjaa", sum := "1d872971ed777b1495c007dfaba26814cbc2503a13eae50ac863c90a3b08512b", func := "haywain/haywainlaw04.ProgFolds", spec := "progFolds", unfollowed := true, recurses := true, apart := false }
def ProgFoldsSaid : Prop := progFoldsRow.holds Try.pinned (OpenSpec.ofChange progFoldsSpec)

/-- ITS FALSE NEIGHBOUR: 'it returns false'. Refute it at one input. -/
def progFoldsWrong : ChangeSpec := { name := "progFolds", fn := fun _ => fun
  | [d1, d2, d3] => { results := [.lit (.bool false)], args := [d1, d2, d3] }
  | _ => none }
def ProgFoldsWrongFalsely : Prop := progFoldsRow.holds Try.pinned (OpenSpec.ofChange progFoldsWrong)

/-- 'haywainlaw04.ProgGroups': WHATEVER THE INPUT: true; the input reads as it did. -/
def progGroupsSpec : ChangeSpec := { name := "progGroups", fn := fun _ => fun
  | [d1, d2, d3, d4] => { results := [.lit (.bool true)], args := [d1, d2, d3, d4] }
  | _ => none }
def progGroupsRow : OpenClaim := { program := "ytnjanliihnadjaa", sum := "1d872971ed777b1495c007dfaba26814cbc2503a13eae50ac863c90a3b08512b", func := "haywain/haywainlaw04.ProgGroups", spec := "progGroups", unfollowed := true, recurses := true, apart := false }
def ProgGroupsSaid : Prop := progGroupsRow.holds Try.pinned (OpenSpec.ofChange progGroupsSpec)

/-- ITS FALSE NEIGHBOUR: 'it returns false'. Refute it at one input. -/
def progGroupsWrong : ChangeSpec := { name := "progGroups", fn := fun _ => fun
  | [d1, d2, d3, d4] => { results := [.lit (.bool false)], args := [d1, d2, d3, d4] }
  | _ => none }
def ProgGroupsWrongFalsely : Prop := progGroupsRow.holds Try.pinned (OpenSpec.ofChange progGroupsWrong)

/-- 'haywainlaw04.ProgTurns': WHATEVER THE INPUT: true; the input reads as it did. -/
def progTurnsSpec : ChangeSpec := { name := "progTurns", fn := fun _ => fun
  | [d1, d2, d3] => { results := [.lit (.bool true)], args := [d1, d2, d3] }
  | _ => none }
def progTurnsRow : OpenClaim := { program := "ytnjanliihnadjaa", sum := "1d872971ed777b1495c007dfaba26814cbc2503a13eae50ac863c90a3b08512b", func := "haywain/haywainlaw04.ProgTurns", spec := "progTurns", unfollowed := true, recurses := true, apart := false }
def ProgTurnsSaid : Prop := progTurnsRow.holds Try.pinned (OpenSpec.ofChange progTurnsSpec)

/-- ITS FALSE NEIGHBOUR: 'it returns false'. Refute it at one input. -/
def progTurnsWrong : ChangeSpec := { name := "progTurns", fn := fun _ => fun
  | [d1, d2, d3] => { results := [.lit (.bool false)], args := [d1, d2, d3] }
  | _ => none }
def ProgTurnsWrongFalsely : Prop := progTurnsRow.holds Try.pinned (OpenSpec.ofChange progTurnsWrong)

/-- 'haywainlaw04.ProgRises': WHATEVER THE INPUT: true; the input reads as it did. -/
def progRisesSpec : ChangeSpec := { name := "progRises", fn := fun _ => fun
  | [d1, d2, d3] => { results := [.lit (.bool true)], args := [d1, d2, d3] }
  | _ => none }
def progRisesRow : OpenClaim := { program := "ytnjanliihnadjaa", sum := "1d872971ed777b1495c007dfaba26814cbc2503a13eae50ac863c90a3b08512b", func := "haywain/haywainlaw04.ProgRises", spec := "progRises", unfollowed := true, recurses := true, apart := false }
def ProgRisesSaid : Prop := progRisesRow.holds Try.pinned (OpenSpec.ofChange progRisesSpec)

/-- ITS FALSE NEIGHBOUR: 'it returns false'. Refute it at one input. -/
def progRisesWrong : ChangeSpec := { name := "progRises", fn := fun _ => fun
  | [d1, d2, d3] => { results := [.lit (.bool false)], args := [d1, d2, d3] }
  | _ => none }
def ProgRisesWrongFalsely : Prop := progRisesRow.holds Try.pinned (OpenSpec.ofChange progRisesWrong)

/-- 'haywainlaw04.ProgRests': WHATEVER THE INPUT: true; the input reads as it did. -/
def progRestsSpec : ChangeSpec := { name := "progRests", fn := fun _ => fun
  | [d1, d2, d3, d4, d5] => { results := [.lit (.bool true)], args := [d1, d2, d3, d4, d5] }
  | _ => none }
def progRestsRow : OpenClaim := { program := "ytnjanliihnadjaa", sum := "1d872971ed777b1495c007dfaba26814cbc2503a13eae50ac863c90a3b08512b", func := "haywain/haywainlaw04.ProgRests", spec := "progRests", unfollowed := true, recurses := true, apart := false }
def ProgRestsSaid : Prop := progRestsRow.holds Try.pinned (OpenSpec.ofChange progRestsSpec)

/-- ITS FALSE NEIGHBOUR: 'it returns false'. Refute it at one input. -/
def progRestsWrong : ChangeSpec := { name := "progRests", fn := fun _ => fun
  | [d1, d2, d3, d4, d5] => { results := [.lit (.bool false)], args := [d1, d2, d3, d4, d5] }
  | _ => none }
def ProgRestsWrongFalsely : Prop := progRestsRow.holds Try.pinned (OpenSpec.ofChange progRestsWrong)

/-- 'haywainlaw06.SeqRights': WHATEVER THE INPUT: true; the input reads as it did. -/
def seqRightsSpec : ChangeSpec := { name := "seqRights", fn := fun _ => fun
  | [d1, d2, d3] => { results := [.lit (.bool true)], args := [d1, d2, d3] }
  | _ => none }
def seqRightsRow : OpenClaim := { program := "ytnjanliihnadjaa", sum := "1d872971ed777b1495c007dfaba26814cbc2503a13eae50ac863c90a3b08512b", func := "haywain/haywainlaw06.SeqRights", spec := "seqRights", unfollowed := true, recurses := true, apart := false }
def SeqRightsSaid : Prop := seqRightsRow.holds Try.pinned (OpenSpec.ofChange seqRightsSpec)

/-- ITS FALSE NEIGHBOUR: 'it returns false'. Refute it at one input. -/
def seqRightsWrong : ChangeSpec := { name := "seqRights", fn := fun _ => fun
  | [d1, d2, d3] => { results := [.lit (.bool false)], args := [d1, d2, d3] }
  | _ => none }
def SeqRightsWrongFalsely : Prop := seqRightsRow.holds Try.pinned (OpenSpec.ofChange seqRightsWrong)

/-- 'haywainlaw06.SeqBegins': WHATEVER THE INPUT: true; the input reads as it did. -/
def seqBeginsSpec : ChangeSpec := { name := "seqBegins", fn := fun _ => fun
  | [d1, d2] => { results := [.lit (.bool true)], args := [d1, d2] }
  | _ => none }
def seqBeginsRow : OpenClaim := { program := "ytnjanliihnadjaa", sum := "1d872971ed777b1495c007dfaba26814cbc2503a13eae50ac863c90a3b08512b", func := "haywain/haywainlaw06.SeqBegins", spec := "seqBegins", unfollowed := true, recurses := true, apart := false }
def SeqBeginsSaid : Prop := seqBeginsRow.holds Try.pinned (OpenSpec.ofChange seqBeginsSpec)

/-- ITS FALSE NEIGHBOUR: 'it returns false'. Refute it at one input. -/
def seqBeginsWrong : ChangeSpec := { name := "seqBegins", fn := fun _ => fun
  | [d1, d2] => { results := [.lit (.bool false)], args := [d1, d2] }
  | _ => none }
def SeqBeginsWrongFalsely : Prop := seqBeginsRow.holds Try.pinned (OpenSpec.ofChange seqBeginsWrong)

/-- 'haywainlaw06.SeqRuns': WHATEVER THE INPUT: true; the input reads as it did. -/
def seqRunsSpec : ChangeSpec := { name := "seqRuns", fn := fun _ => fun
  | [d1, d2] => { results := [.lit (.bool true)], args := [d1, d2] }
  | _ => none }
def seqRunsRow : OpenClaim := { program := "ytnjanliihnadjaa", sum := "1d872971ed777b1495c007dfaba26814cbc2503a13eae50ac863c90a3b08512b", func := "haywain/haywainlaw06.SeqRuns", spec := "seqRuns", unfollowed := true, recurses := true, apart := false }
def SeqRunsSaid : Prop := seqRunsRow.holds Try.pinned (OpenSpec.ofChange seqRunsSpec)

/-- ITS FALSE NEIGHBOUR: 'it returns false'. Refute it at one input. -/
def seqRunsWrong : ChangeSpec := { name := "seqRuns", fn := fun _ => fun
  | [d1, d2] => { results := [.lit (.bool false)], args := [d1, d2] }
  | _ => none }
def SeqRunsWrongFalsely : Prop := seqRunsRow.holds Try.pinned (OpenSpec.ofChange seqRunsWrong)

/-- 'haywainlaw06.SeqAts': WHATEVER THE INPUT: true; the input reads as it did. -/
def seqAtsSpec : ChangeSpec := { name := "seqAts", fn := fun _ => fun
  | [d1, d2, d3] => { results := [.lit (.bool true)], args := [d1, d2, d3] }
  | _ => none }
def seqAtsRow : OpenClaim := { program := "ytnjanliihnadjaa", sum := "1d872971ed777b1495c007dfaba26814cbc2503a13eae50ac863c90a3b08512b", func := "haywain/haywainlaw06.SeqAts", spec := "seqAts", unfollowed := true, recurses := true, apart := false }
def SeqAtsSaid : Prop := seqAtsRow.holds Try.pinned (OpenSpec.ofChange seqAtsSpec)

/-- ITS FALSE NEIGHBOUR: 'it returns false'. Refute it at one input. -/
def seqAtsWrong : ChangeSpec := { name := "seqAts", fn := fun _ => fun
  | [d1, d2, d3] => { results := [.lit (.bool false)], args := [d1, d2, d3] }
  | _ => none }
def SeqAtsWrongFalsely : Prop := seqAtsRow.holds Try.pinned (OpenSpec.ofChange seqAtsWrong)

/-- 'haywainlaw06.SeqEnds': WHATEVER THE INPUT: true; the input reads as it did. -/
def seqEndsSpec : ChangeSpec := { name := "seqEnds", fn := fun _ => fun
  | [d1, d2, d3] => { results := [.lit (.bool true)], args := [d1, d2, d3] }
  | _ => none }
def seqEndsRow : OpenClaim := { program := "ytnjanliihnadjaa", sum := "1d872971ed777b1495c007dfaba26814cbc2503a13eae50ac863c90a3b08512b", func := "haywain/haywainlaw06.SeqEnds", spec := "seqEnds", unfollowed := true, recurses := true, apart := false }
def SeqEndsSaid : Prop := seqEndsRow.holds Try.pinned (OpenSpec.ofChange seqEndsSpec)

/-- ITS FALSE NEIGHBOUR: 'it returns false'. Refute it at one input. -/
def seqEndsWrong : ChangeSpec := { name := "seqEnds", fn := fun _ => fun
  | [d1, d2, d3] => { results := [.lit (.bool false)], args := [d1, d2, d3] }
  | _ => none }
def SeqEndsWrongFalsely : Prop := seqEndsRow.holds Try.pinned (OpenSpec.ofChange seqEndsWrong)

/-- 'haywainlaw06.SeqSteady': WHATEVER THE INPUT: true; the input reads as it did. -/
def seqSteadySpec : ChangeSpec := { name := "seqSteady", fn := fun _ => fun
  | [d1, d2, d3] => { results := [.lit (.bool true)], args := [d1, d2, d3] }
  | _ => none }
def seqSteadyRow : OpenClaim := { program := "ytnjanliihnadjaa", sum := "1d872971ed777b1495c007dfaba26814cbc2503a13eae50ac863c90a3b08512b", func := "haywain/haywainlaw06.SeqSteady", spec := "seqSteady", unfollowed := true, recurses := true, apart := false }
def SeqSteadySaid : Prop := seqSteadyRow.holds Try.pinned (OpenSpec.ofChange seqSteadySpec)

/-- ITS FALSE NEIGHBOUR: 'it returns false'. Refute it at one input. -/
def seqSteadyWrong : ChangeSpec := { name := "seqSteady", fn := fun _ => fun
  | [d1, d2, d3] => { results := [.lit (.bool false)], args := [d1, d2, d3] }
  | _ => none }
def SeqSteadyWrongFalsely : Prop := seqSteadyRow.holds Try.pinned (OpenSpec.ofChange seqSteadyWrong)

/-- 'haywainlaw06.SeqWays': WHATEVER THE INPUT: true; the input reads as it did. -/
def seqWaysSpec : ChangeSpec := { name := "seqWays", fn := fun _ => fun
  | [d1, d2] => { results := [.lit (.bool true)], args := [d1, d2] }
  | _ => none }
def seqWaysRow : OpenClaim := { program := "ytnjanliihnadjaa", sum := "1d872971ed777b1495c007dfaba26814cbc2503a13eae50ac863c90a3b08512b", func := "haywain/haywainlaw06.SeqWays", spec := "seqWays", unfollowed := true, recurses := true, apart := false }
def SeqWaysSaid : Prop := seqWaysRow.holds Try.pinned (OpenSpec.ofChange seqWaysSpec)

/-- ITS FALSE NEIGHBOUR: 'it returns false'. Refute it at one input. -/
def seqWaysWrong : ChangeSpec := { name := "seqWays", fn := fun _ => fun
  | [d1, d2] => { results := [.lit (.bool false)], args := [d1, d2] }
  | _ => none }
def SeqWaysWrongFalsely : Prop := seqWaysRow.holds Try.pinned (OpenSpec.ofChange seqWaysWrong)

/-- 'haywainlaw08.WorkDoes': WHATEVER THE INPUT: true; the input reads as it did. -/
def workDoesSpec : ChangeSpec := { name := "workDoes", fn := fun _ => fun
  | [d1, d2, d3] => { results := [.lit (.bool true)], args := [d1, d2, d3] }
  | _ => none }
def workDoesRow : OpenClaim := { program := "ytnjanliihnadjaa", sum := "1d872971ed777b1495c007dfaba26814cbc2503a13eae50ac863c90a3b08512b", func := "haywain/haywainlaw08.WorkDoes", spec := "workDoes", unfollowed := true, recurses := true, apart := false }
def WorkDoesSaid : Prop := workDoesRow.holds Try.pinned (OpenSpec.ofChange workDoesSpec)

/-- ITS FALSE NEIGHBOUR: 'it returns false'. Refute it at one input. -/
def workDoesWrong : ChangeSpec := { name := "workDoes", fn := fun _ => fun
  | [d1, d2, d3] => { results := [.lit (.bool false)], args := [d1, d2, d3] }
  | _ => none }
def WorkDoesWrongFalsely : Prop := workDoesRow.holds Try.pinned (OpenSpec.ofChange workDoesWrong)

/-- 'haywainlaw08.WorkTakes': WHATEVER THE INPUT: true; the input reads as it did. -/
def workTakesSpec : ChangeSpec := { name := "workTakes", fn := fun _ => fun
  | [d1, d2, d3, d4] => { results := [.lit (.bool true)], args := [d1, d2, d3, d4] }
  | _ => none }
def workTakesRow : OpenClaim := { program := "ytnjanliihnadjaa", sum := "1d872971ed777b1495c007dfaba26814cbc2503a13eae50ac863c90a3b08512b", func := "haywain/haywainlaw08.WorkTakes", spec := "workTakes", unfollowed := true, recurses := true, apart := false }
def WorkTakesSaid : Prop := workTakesRow.holds Try.pinned (OpenSpec.ofChange workTakesSpec)

/-- ITS FALSE NEIGHBOUR: 'it returns false'. Refute it at one input. -/
def workTakesWrong : ChangeSpec := { name := "workTakes", fn := fun _ => fun
  | [d1, d2, d3, d4] => { results := [.lit (.bool false)], args := [d1, d2, d3, d4] }
  | _ => none }
def WorkTakesWrongFalsely : Prop := workTakesRow.holds Try.pinned (OpenSpec.ofChange workTakesWrong)

/-- 'haywainlaw08.WorkHomes': WHATEVER THE INPUT: true; the input reads as it did. -/
def workHomesSpec : ChangeSpec := { name := "workHomes", fn := fun _ => fun
  | [d1, d2, d3] => { results := [.lit (.bool true)], args := [d1, d2, d3] }
  | _ => none }
def workHomesRow : OpenClaim := { program := "ytnjanliihnadjaa", sum := "1d872971ed777b1495c007dfaba26814cbc2503a13eae50ac863c90a3b08512b", func := "haywain/haywainlaw08.WorkHomes", spec := "workHomes", unfollowed := true, recurses := true, apart := false }
def WorkHomesSaid : Prop := workHomesRow.holds Try.pinned (OpenSpec.ofChange workHomesSpec)

/-- ITS FALSE NEIGHBOUR: 'it returns false'. Refute it at one input. -/
def workHomesWrong : ChangeSpec := { name := "workHomes", fn := fun _ => fun
  | [d1, d2, d3] => { results := [.lit (.bool false)], args := [d1, d2, d3] }
  | _ => none }
def WorkHomesWrongFalsely : Prop := workHomesRow.holds Try.pinned (OpenSpec.ofChange workHomesWrong)

/-- 'haywainlaw08.WorkAgain': WHATEVER THE INPUT: true; the input reads as it did. -/
def workAgainSpec : ChangeSpec := { name := "workAgain", fn := fun _ => fun
  | [d1, d2, d3, d4] => { results := [.lit (.bool true)], args := [d1, d2, d3, d4] }
  | _ => none }
def workAgainRow : OpenClaim := { program := "ytnjanliihnadjaa", sum := "1d872971ed777b1495c007dfaba26814cbc2503a13eae50ac863c90a3b08512b", func := "haywain/haywainlaw08.WorkAgain", spec := "workAgain", unfollowed := true, recurses := true, apart := false }
def WorkAgainSaid : Prop := workAgainRow.holds Try.pinned (OpenSpec.ofChange workAgainSpec)

/-- ITS FALSE NEIGHBOUR: 'it returns false'. Refute it at one input. -/
def workAgainWrong : ChangeSpec := { name := "workAgain", fn := fun _ => fun
  | [d1, d2, d3, d4] => { results := [.lit (.bool false)], args := [d1, d2, d3, d4] }
  | _ => none }
def WorkAgainWrongFalsely : Prop := workAgainRow.holds Try.pinned (OpenSpec.ofChange workAgainWrong)

/-- 'haywainlaw08.WorkQuiet': WHATEVER THE INPUT: true; the input reads as it did. -/
def workQuietSpec : ChangeSpec := { name := "workQuiet", fn := fun _ => fun
  | [d1, d2, d3] => { results := [.lit (.bool true)], args := [d1, d2, d3] }
  | _ => none }
def workQuietRow : OpenClaim := { program := "ytnjanliihnadjaa", sum := "1d872971ed777b1495c007dfaba26814cbc2503a13eae50ac863c90a3b08512b", func := "haywain/haywainlaw08.WorkQuiet", spec := "workQuiet", unfollowed := true, recurses := true, apart := false }
def WorkQuietSaid : Prop := workQuietRow.holds Try.pinned (OpenSpec.ofChange workQuietSpec)

/-- ITS FALSE NEIGHBOUR: 'it returns false'. Refute it at one input. -/
def workQuietWrong : ChangeSpec := { name := "workQuiet", fn := fun _ => fun
  | [d1, d2, d3] => { results := [.lit (.bool false)], args := [d1, d2, d3] }
  | _ => none }
def WorkQuietWrongFalsely : Prop := workQuietRow.holds Try.pinned (OpenSpec.ofChange workQuietWrong)

/-- 'haywainlaw08.WorkSeq': WHATEVER THE INPUT: true; the input reads as it did. -/
def workSeqSpec : ChangeSpec := { name := "workSeq", fn := fun _ => fun
  | [d1, d2, d3] => { results := [.lit (.bool true)], args := [d1, d2, d3] }
  | _ => none }
def workSeqRow : OpenClaim := { program := "ytnjanliihnadjaa", sum := "1d872971ed777b1495c007dfaba26814cbc2503a13eae50ac863c90a3b08512b", func := "haywain/haywainlaw08.WorkSeq", spec := "workSeq", unfollowed := true, recurses := true, apart := false }
def WorkSeqSaid : Prop := workSeqRow.holds Try.pinned (OpenSpec.ofChange workSeqSpec)

/-- ITS FALSE NEIGHBOUR: 'it returns false'. Refute it at one input. -/
def workSeqWrong : ChangeSpec := { name := "workSeq", fn := fun _ => fun
  | [d1, d2, d3] => { results := [.lit (.bool false)], args := [d1, d2, d3] }
  | _ => none }
def WorkSeqWrongFalsely : Prop := workSeqRow.holds Try.pinned (OpenSpec.ofChange workSeqWrong)

/- THE SECOND FORM. 'bulk': how many values and letters a reading holds, each counted each time it is reached (what is shared counts as often as it is met; a slice's spare places count too). A statement '..UptoSaid' is the law's where the arguments, and the package variables that the reading takes, are together of bulk at most 1048576: NARROWER than '..Said'. Prove '..Said' where nothing that the law and all that it calls make is longer than what came in: it says more and counts as full. Else prove '..UptoSaid'. A law counts once. -/
mutual
def uptoBulk {H : Type} : DataW H → Nat
  | .lit (.string bytes) => bytes.length + 1
  | .lit _ => 1
  | .nil => 1
  | .ptr d => uptoBulk d + 1
  | .slice elems spare => uptoBulkAll elems + uptoBulkAll spare + 1
  | .agg parts => uptoBulkAll parts + 1
  | .iface _ d => uptoBulk d + 1
  | .map entries => uptoBulkEntries entries + 1
  | .held _ => 1
def uptoBulkAll {H : Type} : List (DataW H) → Nat
  | [] => 0
  | d :: r => uptoBulk d + uptoBulkAll r
def uptoBulkEntries {H : Type} : List (Lit × DataW H) → Nat
  | [] => 0
  | x :: r => uptoBulkEntry x + uptoBulkEntries r
def uptoBulkEntry {H : Type} : Lit × DataW H → Nat
  | (.string bytes, d) => bytes.length + uptoBulk d + 1
  | (_, d) => uptoBulk d + 1
 end
def uptoSmall : (H : Type) → List (DataW H) → Bool := fun _ ds => decide (uptoBulkAll ds ≤ 1048576)
def OpenSpec.upto (s : _root_.Go.ChangeSpec) : _root_.Go.OpenSpec := { _root_.Go.OpenSpec.ofChange s with cond := some uptoSmall }

/-- 'haywainlaw19.BarrierBegins', WHERE WHAT IT READS IS OF BULK AT MOST 1048576: true; the input reads as it did. -/
def barrierBeginsUptoRow : OpenClaim := { program := "ytnjanliihnadjaa", sum := "1d872971ed777b1495c007dfaba26814cbc2503a13eae50ac863c90a3b08512b", func := "haywain/haywainlaw19.BarrierBegins", spec := "barrierBegins", apart := false, narrowed := true }
def BarrierBeginsUptoSaid : Prop := barrierBeginsUptoRow.holds Try.pinned (OpenSpec.upto barrierBeginsSpec)

/-- 'haywainlaw19.BarrierPlays', WHERE WHAT IT READS IS OF BULK AT MOST 1048576: true; the input reads as it did. -/
def barrierPlaysUptoRow : OpenClaim := { program := "ytnjanliihnadjaa", sum := "1d872971ed777b1495c007dfaba26814cbc2503a13eae50ac863c90a3b08512b", func := "haywain/haywainlaw19.BarrierPlays", spec := "barrierPlays", apart := false, narrowed := true }
def BarrierPlaysUptoSaid : Prop := barrierPlaysUptoRow.holds Try.pinned (OpenSpec.upto barrierPlaysSpec)

/-- 'haywainlaw19.BarrierSays', WHERE WHAT IT READS IS OF BULK AT MOST 1048576: true; the input reads as it did. -/
def barrierSaysUptoRow : OpenClaim := { program := "ytnjanliihnadjaa", sum := "1d872971ed777b1495c007dfaba26814cbc2503a13eae50ac863c90a3b08512b", func := "haywain/haywainlaw19.BarrierSays", spec := "barrierSays", apart := false, narrowed := true }
def BarrierSaysUptoSaid : Prop := barrierSaysUptoRow.holds Try.pinned (OpenSpec.upto barrierSaysSpec)

/-- 'haywainlaw19.BarrierOrders', WHERE WHAT IT READS IS OF BULK AT MOST 1048576: true; the input reads as it did. -/
def barrierOrdersUptoRow : OpenClaim := { program := "ytnjanliihnadjaa", sum := "1d872971ed777b1495c007dfaba26814cbc2503a13eae50ac863c90a3b08512b", func := "haywain/haywainlaw19.BarrierOrders", spec := "barrierOrders", apart := false, narrowed := true }
def BarrierOrdersUptoSaid : Prop := barrierOrdersUptoRow.holds Try.pinned (OpenSpec.upto barrierOrdersSpec)

/-- 'haywainlaw19.BarrierStale', WHERE WHAT IT READS IS OF BULK AT MOST 1048576: true; the input reads as it did. -/
def barrierStaleUptoRow : OpenClaim := { program := "ytnjanliihnadjaa", sum := "1d872971ed777b1495c007dfaba26814cbc2503a13eae50ac863c90a3b08512b", func := "haywain/haywainlaw19.BarrierStale", spec := "barrierStale", apart := false, narrowed := true }
def BarrierStaleUptoSaid : Prop := barrierStaleUptoRow.holds Try.pinned (OpenSpec.upto barrierStaleSpec)

/-- 'haywainlaw19.BarrierSeq', WHERE WHAT IT READS IS OF BULK AT MOST 1048576: true; the input reads as it did. -/
def barrierSeqUptoRow : OpenClaim := { program := "ytnjanliihnadjaa", sum := "1d872971ed777b1495c007dfaba26814cbc2503a13eae50ac863c90a3b08512b", func := "haywain/haywainlaw19.BarrierSeq", spec := "barrierSeq", apart := false, narrowed := true }
def BarrierSeqUptoSaid : Prop := barrierSeqUptoRow.holds Try.pinned (OpenSpec.upto barrierSeqSpec)

/-- 'haywainlaw03.GraphChecks', WHERE WHAT IT READS IS OF BULK AT MOST 1048576: true; the input reads as it did. -/
def graphChecksUptoRow : OpenClaim := { program := "ytnjanliihnadjaa", sum := "1d872971ed777b1495c007dfaba26814cbc2503a13eae50ac863c90a3b08512b", func := "haywain/haywainlaw03.GraphChecks", spec := "graphChecks", recurses := true, apart := false, narrowed := true }
def GraphChecksUptoSaid : Prop := graphChecksUptoRow.holds Try.pinned (OpenSpec.upto graphChecksSpec)

/-- 'haywainlaw03.GraphPrints', WHERE WHAT IT READS IS OF BULK AT MOST 1048576: true; the input reads as it did. -/
def graphPrintsUptoRow : OpenClaim := { program := "ytnjanliihnadjaa", sum := "1d872971ed777b1495c007dfaba26814cbc2503a13eae50ac863c90a3b08512b", func := "haywain/haywainlaw03.GraphPrints", spec := "graphPrints", recurses := true, apart := false, narrowed := true }
def GraphPrintsUptoSaid : Prop := graphPrintsUptoRow.holds Try.pinned (OpenSpec.upto graphPrintsSpec)

/-- 'haywainlaw03.GraphOuts', WHERE WHAT IT READS IS OF BULK AT MOST 1048576: true; the input reads as it did. -/
def graphOutsUptoRow : OpenClaim := { program := "ytnjanliihnadjaa", sum := "1d872971ed777b1495c007dfaba26814cbc2503a13eae50ac863c90a3b08512b", func := "haywain/haywainlaw03.GraphOuts", spec := "graphOuts", recurses := true, apart := false, narrowed := true }
def GraphOutsUptoSaid : Prop := graphOutsUptoRow.holds Try.pinned (OpenSpec.upto graphOutsSpec)

/-- 'haywainlaw03.GraphBack', WHERE WHAT IT READS IS OF BULK AT MOST 1048576: true; the input reads as it did. -/
def graphBackUptoRow : OpenClaim := { program := "ytnjanliihnadjaa", sum := "1d872971ed777b1495c007dfaba26814cbc2503a13eae50ac863c90a3b08512b", func := "haywain/haywainlaw03.GraphBack", spec := "graphBack", recurses := true, apart := false, narrowed := true }
def GraphBackUptoSaid : Prop := graphBackUptoRow.holds Try.pinned (OpenSpec.upto graphBackSpec)

/-- 'haywainlaw03.GraphTurns', WHERE WHAT IT READS IS OF BULK AT MOST 1048576: true; the input reads as it did. -/
def graphTurnsUptoRow : OpenClaim := { program := "ytnjanliihnadjaa", sum := "1d872971ed777b1495c007dfaba26814cbc2503a13eae50ac863c90a3b08512b", func := "haywain/haywainlaw03.GraphTurns", spec := "graphTurns", recurses := true, apart := false, narrowed := true }
def GraphTurnsUptoSaid : Prop := graphTurnsUptoRow.holds Try.pinned (OpenSpec.upto graphTurnsSpec)

/-- 'haywainlaw03.GraphAgain', WHERE WHAT IT READS IS OF BULK AT MOST 1048576: true; the input reads as it did. -/
def graphAgainUptoRow : OpenClaim := { program := "ytnjanliihnadjaa", sum := "1d872971ed777b1495c007dfaba26814cbc2503a13eae50ac863c90a3b08512b", func := "haywain/haywainlaw03.GraphAgain", spec := "graphAgain", recurses := true, apart := false, narrowed := true }
def GraphAgainUptoSaid : Prop := graphAgainUptoRow.holds Try.pinned (OpenSpec.upto graphAgainSpec)

/-- 'haywainlaw07.PartHomes', WHERE WHAT IT READS IS OF BULK AT MOST 1048576: true; the input reads as it did. -/
def partHomesUptoRow : OpenClaim := { program := "ytnjanliihnadjaa", sum := "1d872971ed777b1495c007dfaba26814cbc2503a13eae50ac863c90a3b08512b", func := "haywain/haywainlaw07.PartHomes", spec := "partHomes", apart := false, narrowed := true }
def PartHomesUptoSaid : Prop := partHomesUptoRow.holds Try.pinned (OpenSpec.upto partHomesSpec)

/-- 'haywainlaw07.PartRights', WHERE WHAT IT READS IS OF BULK AT MOST 1048576: true; the input reads as it did. -/
def partRightsUptoRow : OpenClaim := { program := "ytnjanliihnadjaa", sum := "1d872971ed777b1495c007dfaba26814cbc2503a13eae50ac863c90a3b08512b", func := "haywain/haywainlaw07.PartRights", spec := "partRights", apart := false, narrowed := true }
def PartRightsUptoSaid : Prop := partRightsUptoRow.holds Try.pinned (OpenSpec.upto partRightsSpec)

/-- 'haywainlaw07.PartSplits', WHERE WHAT IT READS IS OF BULK AT MOST 1048576: true; the input reads as it did. -/
def partSplitsUptoRow : OpenClaim := { program := "ytnjanliihnadjaa", sum := "1d872971ed777b1495c007dfaba26814cbc2503a13eae50ac863c90a3b08512b", func := "haywain/haywainlaw07.PartSplits", spec := "partSplits", apart := false, narrowed := true }
def PartSplitsUptoSaid : Prop := partSplitsUptoRow.holds Try.pinned (OpenSpec.upto partSplitsSpec)

/-- 'haywainlaw07.PartJoins', WHERE WHAT IT READS IS OF BULK AT MOST 1048576: true; the input reads as it did. -/
def partJoinsUptoRow : OpenClaim := { program := "ytnjanliihnadjaa", sum := "1d872971ed777b1495c007dfaba26814cbc2503a13eae50ac863c90a3b08512b", func := "haywain/haywainlaw07.PartJoins", spec := "partJoins", apart := false, narrowed := true }
def PartJoinsUptoSaid : Prop := partJoinsUptoRow.holds Try.pinned (OpenSpec.upto partJoinsSpec)

/-- 'haywainlaw07.PartBack', WHERE WHAT IT READS IS OF BULK AT MOST 1048576: true; the input reads as it did. -/
def partBackUptoRow : OpenClaim := { program := "ytnjanliihnadjaa", sum := "1d872971ed777b1495c007dfaba26814cbc2503a13eae50ac863c90a3b08512b", func := "haywain/haywainlaw07.PartBack", spec := "partBack", apart := false, narrowed := true }
def PartBackUptoSaid : Prop := partBackUptoRow.holds Try.pinned (OpenSpec.upto partBackSpec)

/-- 'haywainlaw07.PartWhole', WHERE WHAT IT READS IS OF BULK AT MOST 1048576: true; the input reads as it did. -/
def partWholeUptoRow : OpenClaim := { program := "ytnjanliihnadjaa", sum := "1d872971ed777b1495c007dfaba26814cbc2503a13eae50ac863c90a3b08512b", func := "haywain/haywainlaw07.PartWhole", spec := "partWhole", apart := false, narrowed := true }
def PartWholeUptoSaid : Prop := partWholeUptoRow.holds Try.pinned (OpenSpec.upto partWholeSpec)

/-- 'haywainlaw04.ProgChecks', WHERE WHAT IT READS IS OF BULK AT MOST 1048576: true; the input reads as it did. -/
def progChecksUptoRow : OpenClaim := { program := "ytnjanliihnadjaa", sum := "1d872971ed777b1495c007dfaba26814cbc2503a13eae50ac863c90a3b08512b", func := "haywain/haywainlaw04.ProgChecks", spec := "progChecks", unfollowed := true, recurses := true, apart := false, narrowed := true }
def ProgChecksUptoSaid : Prop := progChecksUptoRow.holds Try.pinned (OpenSpec.upto progChecksSpec)

/-- 'haywainlaw04.ProgStarts', WHERE WHAT IT READS IS OF BULK AT MOST 1048576: true; the input reads as it did. -/
def progStartsUptoRow : OpenClaim := { program := "ytnjanliihnadjaa", sum := "1d872971ed777b1495c007dfaba26814cbc2503a13eae50ac863c90a3b08512b", func := "haywain/haywainlaw04.ProgStarts", spec := "progStarts", unfollowed := true, recurses := true, apart := false, narrowed := true }
def ProgStartsUptoSaid : Prop := progStartsUptoRow.holds Try.pinned (OpenSpec.upto progStartsSpec)

/-- 'haywainlaw04.ProgFolds', WHERE WHAT IT READS IS OF BULK AT MOST 1048576: true; the input reads as it did. -/
def progFoldsUptoRow : OpenClaim := { program := "ytnjanliihnadjaa", sum := "1d872971ed777b1495c007dfaba26814cbc2503a13eae50ac863c90a3b08512b", func := "haywain/haywainlaw04.ProgFolds", spec := "progFolds", unfollowed := true, recurses := true, apart := false, narrowed := true }
def ProgFoldsUptoSaid : Prop := progFoldsUptoRow.holds Try.pinned (OpenSpec.upto progFoldsSpec)

/-- 'haywainlaw04.ProgGroups', WHERE WHAT IT READS IS OF BULK AT MOST 1048576: true; the input reads as it did. -/
def progGroupsUptoRow : OpenClaim := { program := "ytnjanliihnadjaa", sum := "1d872971ed777b1495c007dfaba26814cbc2503a13eae50ac863c90a3b08512b", func := "haywain/haywainlaw04.ProgGroups", spec := "progGroups", unfollowed := true, recurses := true, apart := false, narrowed := true }
def ProgGroupsUptoSaid : Prop := progGroupsUptoRow.holds Try.pinned (OpenSpec.upto progGroupsSpec)

/-- 'haywainlaw04.ProgTurns', WHERE WHAT IT READS IS OF BULK AT MOST 1048576: true; the input reads as it did. -/
def progTurnsUptoRow : OpenClaim := { program := "ytnjanliihnadjaa", sum := "1d872971ed777b1495c007dfaba26814cbc2503a13eae50ac863c90a3b08512b", func := "haywain/haywainlaw04.ProgTurns", spec := "progTurns", unfollowed := true, recurses := true, apart := false, narrowed := true }
def ProgTurnsUptoSaid : Prop := progTurnsUptoRow.holds Try.pinned (OpenSpec.upto progTurnsSpec)

/-- 'haywainlaw04.ProgRises', WHERE WHAT IT READS IS OF BULK AT MOST 1048576: true; the input reads as it did. -/
def progRisesUptoRow : OpenClaim := { program := "ytnjanliihnadjaa", sum := "1d872971ed777b1495c007dfaba26814cbc2503a13eae50ac863c90a3b08512b", func := "haywain/haywainlaw04.ProgRises", spec := "progRises", unfollowed := true, recurses := true, apart := false, narrowed := true }
def ProgRisesUptoSaid : Prop := progRisesUptoRow.holds Try.pinned (OpenSpec.upto progRisesSpec)

/-- 'haywainlaw04.ProgRests', WHERE WHAT IT READS IS OF BULK AT MOST 1048576: true; the input reads as it did. -/
def progRestsUptoRow : OpenClaim := { program := "ytnjanliihnadjaa", sum := "1d872971ed777b1495c007dfaba26814cbc2503a13eae50ac863c90a3b08512b", func := "haywain/haywainlaw04.ProgRests", spec := "progRests", unfollowed := true, recurses := true, apart := false, narrowed := true }
def ProgRestsUptoSaid : Prop := progRestsUptoRow.holds Try.pinned (OpenSpec.upto progRestsSpec)

/-- 'haywainlaw06.SeqRights', WHERE WHAT IT READS IS OF BULK AT MOST 1048576: true; the input reads as it did. -/
def seqRightsUptoRow : OpenClaim := { program := "ytnjanliihnadjaa", sum := "1d872971ed777b1495c007dfaba26814cbc2503a13eae50ac863c90a3b08512b", func := "haywain/haywainlaw06.SeqRights", spec := "seqRights", unfollowed := true, recurses := true, apart := false, narrowed := true }
def SeqRightsUptoSaid : Prop := seqRightsUptoRow.holds Try.pinned (OpenSpec.upto seqRightsSpec)

/-- 'haywainlaw06.SeqBegins', WHERE WHAT IT READS IS OF BULK AT MOST 1048576: true; the input reads as it did. -/
def seqBeginsUptoRow : OpenClaim := { program := "ytnjanliihnadjaa", sum := "1d872971ed777b1495c007dfaba26814cbc2503a13eae50ac863c90a3b08512b", func := "haywain/haywainlaw06.SeqBegins", spec := "seqBegins", unfollowed := true, recurses := true, apart := false, narrowed := true }
def SeqBeginsUptoSaid : Prop := seqBeginsUptoRow.holds Try.pinned (OpenSpec.upto seqBeginsSpec)

/-- 'haywainlaw06.SeqRuns', WHERE WHAT IT READS IS OF BULK AT MOST 1048576: true; the input reads as it did. -/
def seqRunsUptoRow : OpenClaim := { program := "ytnjanliihnadjaa", sum := "1d872971ed777b1495c007dfaba26814cbc2503a13eae50ac863c90a3b08512b", func := "haywain/haywainlaw06.SeqRuns", spec := "seqRuns", unfollowed := true, recurses := true, apart := false, narrowed := true }
def SeqRunsUptoSaid : Prop := seqRunsUptoRow.holds Try.pinned (OpenSpec.upto seqRunsSpec)

/-- 'haywainlaw06.SeqAts', WHERE WHAT IT READS IS OF BULK AT MOST 1048576: true; the input reads as it did. -/
def seqAtsUptoRow : OpenClaim := { program := "ytnjanliihnadjaa", sum := "1d872971ed777b1495c007dfaba26814cbc2503a13eae50ac863c90a3b08512b", func := "haywain/haywainlaw06.SeqAts", spec := "seqAts", unfollowed := true, recurses := true, apart := false, narrowed := true }
def SeqAtsUptoSaid : Prop := seqAtsUptoRow.holds Try.pinned (OpenSpec.upto seqAtsSpec)

/-- 'haywainlaw06.SeqEnds', WHERE WHAT IT READS IS OF BULK AT MOST 1048576: true; the input reads as it did. -/
def seqEndsUptoRow : OpenClaim := { program := "ytnjanliihnadjaa", sum := "1d872971ed777b1495c007dfaba26814cbc2503a13eae50ac863c90a3b08512b", func := "haywain/haywainlaw06.SeqEnds", spec := "seqEnds", unfollowed := true, recurses := true, apart := false, narrowed := true }
def SeqEndsUptoSaid : Prop := seqEndsUptoRow.holds Try.pinned (OpenSpec.upto seqEndsSpec)

/-- 'haywainlaw06.SeqSteady', WHERE WHAT IT READS IS OF BULK AT MOST 1048576: true; the input reads as it did. -/
def seqSteadyUptoRow : OpenClaim := { program := "ytnjanliihnadjaa", sum := "1d872971ed777b1495c007dfaba26814cbc2503a13eae50ac863c90a3b08512b", func := "haywain/haywainlaw06.SeqSteady", spec := "seqSteady", unfollowed := true, recurses := true, apart := false, narrowed := true }
def SeqSteadyUptoSaid : Prop := seqSteadyUptoRow.holds Try.pinned (OpenSpec.upto seqSteadySpec)

/-- 'haywainlaw06.SeqWays', WHERE WHAT IT READS IS OF BULK AT MOST 1048576: true; the input reads as it did. -/
def seqWaysUptoRow : OpenClaim := { program := "ytnjanliihnadjaa", sum := "1d872971ed777b1495c007dfaba26814cbc2503a13eae50ac863c90a3b08512b", func := "haywain/haywainlaw06.SeqWays", spec := "seqWays", unfollowed := true, recurses := true, apart := false, narrowed := true }
def SeqWaysUptoSaid : Prop := seqWaysUptoRow.holds Try.pinned (OpenSpec.upto seqWaysSpec)

/-- 'haywainlaw08.WorkDoes', WHERE WHAT IT READS IS OF BULK AT MOST 1048576: true; the input reads as it did. -/
def workDoesUptoRow : OpenClaim := { program := "ytnjanliihnadjaa", sum := "1d872971ed777b1495c007dfaba26814cbc2503a13eae50ac863c90a3b08512b", func := "haywain/haywainlaw08.WorkDoes", spec := "workDoes", unfollowed := true, recurses := true, apart := false, narrowed := true }
def WorkDoesUptoSaid : Prop := workDoesUptoRow.holds Try.pinned (OpenSpec.upto workDoesSpec)

/-- 'haywainlaw08.WorkTakes', WHERE WHAT IT READS IS OF BULK AT MOST 1048576: true; the input reads as it did. -/
def workTakesUptoRow : OpenClaim := { program := "ytnjanliihnadjaa", sum := "1d872971ed777b1495c007dfaba26814cbc2503a13eae50ac863c90a3b08512b", func := "haywain/haywainlaw08.WorkTakes", spec := "workTakes", unfollowed := true, recurses := true, apart := false, narrowed := true }
def WorkTakesUptoSaid : Prop := workTakesUptoRow.holds Try.pinned (OpenSpec.upto workTakesSpec)

/-- 'haywainlaw08.WorkHomes', WHERE WHAT IT READS IS OF BULK AT MOST 1048576: true; the input reads as it did. -/
def workHomesUptoRow : OpenClaim := { program := "ytnjanliihnadjaa", sum := "1d872971ed777b1495c007dfaba26814cbc2503a13eae50ac863c90a3b08512b", func := "haywain/haywainlaw08.WorkHomes", spec := "workHomes", unfollowed := true, recurses := true, apart := false, narrowed := true }
def WorkHomesUptoSaid : Prop := workHomesUptoRow.holds Try.pinned (OpenSpec.upto workHomesSpec)

/-- 'haywainlaw08.WorkAgain', WHERE WHAT IT READS IS OF BULK AT MOST 1048576: true; the input reads as it did. -/
def workAgainUptoRow : OpenClaim := { program := "ytnjanliihnadjaa", sum := "1d872971ed777b1495c007dfaba26814cbc2503a13eae50ac863c90a3b08512b", func := "haywain/haywainlaw08.WorkAgain", spec := "workAgain", unfollowed := true, recurses := true, apart := false, narrowed := true }
def WorkAgainUptoSaid : Prop := workAgainUptoRow.holds Try.pinned (OpenSpec.upto workAgainSpec)

/-- 'haywainlaw08.WorkQuiet', WHERE WHAT IT READS IS OF BULK AT MOST 1048576: true; the input reads as it did. -/
def workQuietUptoRow : OpenClaim := { program := "ytnjanliihnadjaa", sum := "1d872971ed777b1495c007dfaba26814cbc2503a13eae50ac863c90a3b08512b", func := "haywain/haywainlaw08.WorkQuiet", spec := "workQuiet", unfollowed := true, recurses := true, apart := false, narrowed := true }
def WorkQuietUptoSaid : Prop := workQuietUptoRow.holds Try.pinned (OpenSpec.upto workQuietSpec)

/-- 'haywainlaw08.WorkSeq', WHERE WHAT IT READS IS OF BULK AT MOST 1048576: true; the input reads as it did. -/
def workSeqUptoRow : OpenClaim := { program := "ytnjanliihnadjaa", sum := "1d872971ed777b1495c007dfaba26814cbc2503a13eae50ac863c90a3b08512b", func := "haywain/haywainlaw08.WorkSeq", spec := "workSeq", unfollowed := true, recurses := true, apart := false, narrowed := true }
def WorkSeqUptoSaid : Prop := workSeqUptoRow.holds Try.pinned (OpenSpec.upto workSeqSpec)

end Rows
end Go.Proofs.Ytnjanliihnadjaa

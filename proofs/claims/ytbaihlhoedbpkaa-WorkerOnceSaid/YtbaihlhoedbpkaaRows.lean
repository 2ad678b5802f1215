/-
  No cell of these rows narrows 'for every input' (looked for: loops, veiled, ifaces, maps, wideKeys, modest, calm, conditions, laid).
  DERIVED. THE GIVEN ROWS OF THIS SEAT. 6 by the template 'for every input the law returns true; each argument reads behind the call as it read before'; 0 by the template 'total and deterministic' (their statements: YtbaihlhoedbpkaaTotals.lean).
  GIVEN WITH THE SEED: the statements are not yours to turn. If you find one false, say at which input.
  Laid BY PROGRAM, IN A SANDBOX (cutbox-rows.mjs): the forced cells as the released guide's own fill.sh prints them over the translation fd1d0f246e5b3d33… (all of the seat's roots in one cut). By AI agents, Wed Nov 11 2026. No macro, syntax, notation, axiom, sorry.
-/
import Derived.Test.YtbaihlhoedbpkaaChecked
import GoSem.Claim
import GoSem.ClaimJoined
import GoSem.ClaimMapViews
import Derived.JoinedTies
import Derived.KernelRfl
namespace Go.Proofs.Ytbaihlhoedbpkaa
/- THE CELL 'sum', in the pinned program and in every row, IS THE sha256 OF THE DUMP (.gsa) THAT YtbaihlhoedbpkaaProg.lean LOADS. Nothing in Lean hashes anything: it is a label: what it is worth is what the hold of that sum in a sandbox is worth. -/
noncomputable def Try.pinned : Pinned := { name := "ytbaihlhoedbpkaa", sum := "fd1d0f246e5b3d331746f9f1742fbf93bf8a01356969085882ca8c687deefb74", checked := Try.checked }
namespace Rows
def none {H : Type} : Left H := { results := [], args := [] }

/-- 'haywainlaw20.WorkerLeased': WHATEVER THE INPUT: true; the input reads as it did. -/
def workerLeasedSpec : ChangeSpec := { name := "workerLeased", fn := fun _ => fun
  | [d1, d2, d3, d4, d5] => { results := [.lit (.bool true)], args := [d1, d2, d3, d4, d5] }
  | _ => none }
def workerLeasedRow : OpenClaim := { program := "ytbaihlhoedbpkaa", sum := "fd1d0f246e5b3d331746f9f1742fbf93bf8a01356969085882ca8c687deefb74", func := "haywain/haywainlaw20.WorkerLeased", spec := "workerLeased", unfollowed := true, recurses := true, plainKeys := false, apart := false }
def WorkerLeasedSaid : Prop := workerLeasedRow.holds Try.pinned (OpenSpec.ofChange workerLeasedSpec)

/-- ITS FALSE NEIGHBOUR: 'it returns false'. Refute it at one input. -/
def workerLeasedWrong : ChangeSpec := { name := "workerLeased", fn := fun _ => fun
  | [d1, d2, d3, d4, d5] => { results := [.lit (.bool false)], args := [d1, d2, d3, d4, d5] }
  | _ => none }
def WorkerLeasedWrongFalsely : Prop := workerLeasedRow.holds Try.pinned (OpenSpec.ofChange workerLeasedWrong)

/-- 'haywainlaw20.WorkerOnce': WHATEVER THE INPUT: true; the input reads as it did. -/
def workerOnceSpec : ChangeSpec := { name := "workerOnce", fn := fun _ => fun
  | [d1, d2, d3, d4] => { results := [.lit (.bool true)], args := [d1, d2, d3, d4] }
  | _ => none }
def workerOnceRow : OpenClaim := { program := "ytbaihlhoedbpkaa", sum := "fd1d0f246e5b3d331746f9f1742fbf93bf8a01356969085882ca8c687deefb74", func := "haywain/haywainlaw20.WorkerOnce", spec := "workerOnce", unfollowed := true, recurses := true, plainKeys := false, apart := false }
def WorkerOnceSaid : Prop := workerOnceRow.holds Try.pinned (OpenSpec.ofChange workerOnceSpec)

/-- ITS FALSE NEIGHBOUR: 'it returns false'. Refute it at one input. -/
def workerOnceWrong : ChangeSpec := { name := "workerOnce", fn := fun _ => fun
  | [d1, d2, d3, d4] => { results := [.lit (.bool false)], args := [d1, d2, d3, d4] }
  | _ => none }
def WorkerOnceWrongFalsely : Prop := workerOnceRow.holds Try.pinned (OpenSpec.ofChange workerOnceWrong)

/-- 'haywainlaw20.WorkerMine': WHATEVER THE INPUT: true; the input reads as it did. -/
def workerMineSpec : ChangeSpec := { name := "workerMine", fn := fun _ => fun
  | [d1, d2, d3, d4] => { results := [.lit (.bool true)], args := [d1, d2, d3, d4] }
  | _ => none }
def workerMineRow : OpenClaim := { program := "ytbaihlhoedbpkaa", sum := "fd1d0f246e5b3d331746f9f1742fbf93bf8a01356969085882ca8c687deefb74", func := "haywain/haywainlaw20.WorkerMine", spec := "workerMine", unfollowed := true, recurses := true, plainKeys := false, apart := false }
def WorkerMineSaid : Prop := workerMineRow.holds Try.pinned (OpenSpec.ofChange workerMineSpec)

/-- ITS FALSE NEIGHBOUR: 'it returns false'. Refute it at one input. -/
def workerMineWrong : ChangeSpec := { name := "workerMine", fn := fun _ => fun
  | [d1, d2, d3, d4] => { results := [.lit (.bool false)], args := [d1, d2, d3, d4] }
  | _ => none }
def WorkerMineWrongFalsely : Prop := workerMineRow.holds Try.pinned (OpenSpec.ofChange workerMineWrong)

/-- 'haywainlaw20.WorkerStale': WHATEVER THE INPUT: true; the input reads as it did. -/
def workerStaleSpec : ChangeSpec := { name := "workerStale", fn := fun _ => fun
  | [d1, d2, d3, d4, d5] => { results := [.lit (.bool true)], args := [d1, d2, d3, d4, d5] }
  | _ => none }
def workerStaleRow : OpenClaim := { program := "ytbaihlhoedbpkaa", sum := "fd1d0f246e5b3d331746f9f1742fbf93bf8a01356969085882ca8c687deefb74", func := "haywain/haywainlaw20.WorkerStale", spec := "workerStale", unfollowed := true, recurses := true, plainKeys := false, apart := false }
def WorkerStaleSaid : Prop := workerStaleRow.holds Try.pinned (OpenSpec.ofChange workerStaleSpec)

/-- ITS FALSE NEIGHBOUR: 'it returns false'. Refute it at one input. -/
def workerStaleWrong : ChangeSpec := { name := "workerStale", fn := fun _ => fun
  | [d1, d2, d3, d4, d5] => { results := [.lit (.bool false)], args := [d1, d2, d3, d4, d5] }
  | _ => none }
def WorkerStaleWrongFalsely : Prop := workerStaleRow.holds Try.pinned (OpenSpec.ofChange workerStaleWrong)

/-- 'haywainlaw20.WorkerAlone': WHATEVER THE INPUT: true; the input reads as it did. -/
def workerAloneSpec : ChangeSpec := { name := "workerAlone", fn := fun _ => fun
  | [d1, d2, d3] => { results := [.lit (.bool true)], args := [d1, d2, d3] }
  | _ => none }
def workerAloneRow : OpenClaim := { program := "ytbaihlhoedbpkaa", sum := "fd1d0f246e5b3d331746f9f1742fbf93bf8a01356969085882ca8c687deefb74", func := "haywain/haywainlaw20.WorkerAlone", spec := "workerAlone", unfollowed := true, recurses := true, plainKeys := false, apart := false }
def WorkerAloneSaid : Prop := workerAloneRow.holds Try.pinned (OpenSpec.ofChange workerAloneSpec)

/-- ITS FALSE NEIGHBOUR: 'it returns false'. Refute it at one input. -/
def workerAloneWrong : ChangeSpec := { name := "workerAlone", fn := fun _ => fun
  | [d1, d2, d3] => { results := [.lit (.bool false)], args := [d1, d2, d3] }
  | _ => none }
def WorkerAloneWrongFalsely : Prop := workerAloneRow.holds Try.pinned (OpenSpec.ofChange workerAloneWrong)

/-- 'haywainlaw20.WorkerHands': WHATEVER THE INPUT: true; the input reads as it did. -/
def workerHandsSpec : ChangeSpec := { name := "workerHands", fn := fun _ => fun
  | [d1, d2, d3, d4, d5] => { results := [.lit (.bool true)], args := [d1, d2, d3, d4, d5] }
  | _ => none }
def workerHandsRow : OpenClaim := { program := "ytbaihlhoedbpkaa", sum := "fd1d0f246e5b3d331746f9f1742fbf93bf8a01356969085882ca8c687deefb74", func := "haywain/haywainlaw20.WorkerHands", spec := "workerHands", unfollowed := true, recurses := true, plainKeys := false, apart := false }
def WorkerHandsSaid : Prop := workerHandsRow.holds Try.pinned (OpenSpec.ofChange workerHandsSpec)

/-- ITS FALSE NEIGHBOUR: 'it returns false'. Refute it at one input. -/
def workerHandsWrong : ChangeSpec := { name := "workerHands", fn := fun _ => fun
  | [d1, d2, d3, d4, d5] => { results := [.lit (.bool false)], args := [d1, d2, d3, d4, d5] }
  | _ => none }
def WorkerHandsWrongFalsely : Prop := workerHandsRow.holds Try.pinned (OpenSpec.ofChange workerHandsWrong)

/- THE SECOND FORM. 'bulk': how many values and letters a reading holds, each counted each time it is reached (what is shared counts as often as it is met; a slice's spare places count too). A statement '..UptoSaid' is the law's where the arguments, and the package variables that the reading takes, are together of bulk at most 1048576: NARROWER than '..Said'. Prove '..Said' where nothing that the law and all that it calls make is longer than what came in: it says more and counts as full. Else prove '..UptoSaid'. A law counts once. -/
mutual
def uptoBulk {H : Type} : DataW H → Nat
  | .lit (.string bytes) => bytes.length + 1
  | .lit _ => 1
  | .nil => 1
  | .ptr d => uptoBulk d + 1
  | .slice elems spare => uptoBulkAll elems + uptoBulkAll spare + 1
  | .agg parts => uptoBulkAll parts + 1
  | .iface _ d => uptoBulk d + 1
  | .map entries => uptoBulkEntries entries + 1
  | .held _ => 1
def uptoBulkAll {H : Type} : List (DataW H) → Nat
  | [] => 0
  | d :: r => uptoBulk d + uptoBulkAll r
def uptoBulkEntries {H : Type} : List (Lit × DataW H) → Nat
  | [] => 0
  | x :: r => uptoBulkEntry x + uptoBulkEntries r
def uptoBulkEntry {H : Type} : Lit × DataW H → Nat
  | (.string bytes, d) => bytes.length + uptoBulk d + 1
  | (_, d) => uptoBulk d + 1
 end
def uptoSmall : (H : Type) → List (DataW H) → Bool := fun _ ds => decide (uptoBulkAll ds ≤ 1048576)
def OpenSpec.upto (s : _root_.Go.ChangeSpec) : _root_.Go.OpenSpec := { _root_.Go.OpenSpec.ofChange s with cond := some uptoSmall }

/-- 'haywainlaw20.WorkerLeased', WHERE WHAT IT READS IS OF BULK AT MOST 1048576: true; the input reads as it did. -/
def workerLeasedUptoRow : OpenClaim := { program := "ytbaihlhoedbpkaa", sum := "fd1d0f246e5b3d331746f9f1742fbf93bf8a01356969085882ca8c687deefb74", func := "haywain/haywainlaw20.WorkerLeased", spec := "workerLeased", unfollowed := true, recurses := true, plainKeys := false, apart := false, narrowed := true }
def WorkerLeasedUptoSaid : Prop := workerLeasedUptoRow.holds Try.pinned (OpenSpec.upto workerLeasedSpec)

/-- 'haywainlaw20.WorkerOnce', WHERE WHAT IT READS IS OF BULK AT MOST 1048576: true; the input reads as it did. -/
def workerOnceUptoRow : OpenClaim := { program := "ytbaihlhoedbpkaa", sum := "fd1d0f246e5b3d331746f9f1742fbf93bf8a01356969085882ca8c687deefb74", func := "haywain/haywainlaw20.WorkerOnce", spec := "workerOnce", unfollowed := true, recurses := true, plainKeys := false, apart := false, narrowed := true }
def WorkerOnceUptoSaid : Prop := workerOnceUptoRow.holds Try.pinned (OpenSpec.upto workerOnceSpec)

/-- 'haywainlaw20.WorkerMine', WHERE WHAT IT READS IS OF BULK AT MOST 1048576: true; the input reads as it did. -/
def workerMineUptoRow : OpenClaim := { program := "ytbaihlhoedbpkaa", sum := "fd1d0f246e5b3d331746f9f1742fbf93bf8a01356969085882ca8c687deefb74", func := "haywain/haywainlaw20.WorkerMine", spec := "workerMine", unfollowed := true, recurses := true, plainKeys := false, apart := false, narrowed := true }
def WorkerMineUptoSaid : Prop := workerMineUptoRow.holds Try.pinned (OpenSpec.upto workerMineSpec)

/-- 'haywainlaw20.WorkerStale', WHERE WHAT IT READS IS OF BULK AT MOST 1048576: true; the input reads as it did. -/
def workerStaleUptoRow : OpenClaim := { program := "ytbaihlhoedbpkaa", sum := "fd1d0f246e5b3d331746f9f1742fbf93bf8a01356969085882ca8c687deefb74", func := "haywain/haywainlaw20.WorkerStale", spec := "workerStale", unfollowed := true, recurses := true, plainKeys := false, apart := false, narrowed := true }
def WorkerStaleUptoSaid : Prop := workerStaleUptoRow.holds Try.pinned (OpenSpec.upto workerStaleSpec)

/-- 'haywainlaw20.WorkerAlone', WHERE WHAT IT READS IS OF BULK AT MOST 1048576: true; the input reads as it did. -/
def workerAloneUptoRow : OpenClaim := { program := "ytbaihlhoedbpkaa", sum := "fd1d0f246e5b3d331746f9f1742fbf93bf8a01356969085882ca8c687deefb74", func := "haywain/haywainlaw20.WorkerAlone", spec := "workerAlone", unfollowed := true, recurses := true, plainKeys := false, apart := false, narrowed := true }
def WorkerAloneUptoSaid : Prop := workerAloneUptoRow.holds Try.pinned (OpenSpec.upto workerAloneSpec)

/-- 'haywainlaw20.WorkerHands', WHERE WHAT IT READS IS OF BULK AT MOST 1048576: true; the input reads as it did. -/
def workerHandsUptoRow : OpenClaim := { program := "ytbaihlhoedbpkaa", sum := "fd1d0f246e5b3d331746f9f1742fbf93bf8a01356969085882ca8c687deefb74", func := "haywain/haywainlaw20.WorkerHands", spec := "workerHands", unfollowed := true, recurses := true, plainKeys := false, apart := false, narrowed := true }
def WorkerHandsUptoSaid : Prop := workerHandsUptoRow.holds Try.pinned (OpenSpec.upto workerHandsSpec)

end Rows
end Go.Proofs.Ytbaihlhoedbpkaa

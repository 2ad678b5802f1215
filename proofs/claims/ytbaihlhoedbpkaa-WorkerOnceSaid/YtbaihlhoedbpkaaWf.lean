/- What a row's arguments are known to be: numbers that fit, lists that are not too long: by program. Conditions: none. -/
import Derived.Test.YtbaihlhoedbpkaaTy
import Derived.SizedLaws
set_option linter.unusedVariables false
namespace Go.Proofs.Ytbaihlhoedbpkaa.Tm
open Go
def WGEdge (x : GEdge) : Prop := (fun n : Int => (Lit.int .i64 n).wf = true) x.From ∧ ((fun n : Int => (Lit.int .i64 n).wf = true) x.To ∧ ((fun n : Int => (Lit.int .i64 n).wf = true) x.W ∧ (True)))
def WGGraph (x : GGraph) : Prop := (fun n : Int => (Lit.int .i64 n).wf = true) x.N ∧ ((fun l : List GEdge => l.length * 24 ≤ reachBytes ∧ ∀ y ∈ l, WGEdge y) x.Edges ∧ (True))
def WGJob (x : GJob) : Prop := (fun n : Int => (Lit.int .i64 n).wf = true) x.Prog ∧ ((fun n : Int => (Lit.int .i64 n).wf = true) x.Source ∧ ((fun n : Int => (Lit.int .i64 n).wf = true) x.Limit ∧ ((fun n : Int => (Lit.int .i64 n).wf = true) x.Parts ∧ (True))))
def WGMsg (x : GMsg) : Prop := (fun n : Int => (Lit.int .i64 n).wf = true) x.To ∧ ((fun n : Int => (Lit.int .i64 n).wf = true) x.V ∧ (True))
def WGPart (x : GPart) : Prop := (fun n : Int => (Lit.int .i64 n).wf = true) x.P ∧ ((fun n : Int => (Lit.int .i64 n).wf = true) x.Step ∧ ((fun l : List Int => l.length * 8 ≤ reachBytes ∧ ∀ y ∈ l, (fun n : Int => (Lit.int .i64 n).wf = true) y) x.Vals ∧ ((fun l : List Bool => l.length * 1 ≤ reachBytes ∧ ∀ y ∈ l, (fun _ : Bool => True) y) x.Rest ∧ ((fun l : List GMsg => l.length * 16 ≤ reachBytes ∧ ∀ y ∈ l, WGMsg y) x.In ∧ (True)))))
def WGMail (x : GMail) : Prop := (fun n : Int => (Lit.int .i64 n).wf = true) x.Kind ∧ ((fun n : Int => (Lit.int .i64 n).wf = true) x.Epoch ∧ ((fun n : Int => (Lit.int .i64 n).wf = true) x.Fresh ∧ ((fun n : Int => (Lit.int .i64 n).wf = true) x.Step ∧ ((fun n : Int => (Lit.int .i64 n).wf = true) x.P ∧ ((fun n : Int => (Lit.int .i64 n).wf = true) x.Q ∧ ((fun n : Int => (Lit.int .i64 n).wf = true) x.To ∧ ((fun n : Int => (Lit.int .i64 n).wf = true) x.E ∧ ((fun l : List Int => l.length * 8 ≤ reachBytes ∧ ∀ y ∈ l, (fun n : Int => (Lit.int .i64 n).wf = true) y) x.Owners ∧ ((fun l : List Int => l.length * 8 ≤ reachBytes ∧ ∀ y ∈ l, (fun n : Int => (Lit.int .i64 n).wf = true) y) x.Ids ∧ ((fun l : List Int => l.length * 8 ≤ reachBytes ∧ ∀ y ∈ l, (fun n : Int => (Lit.int .i64 n).wf = true) y) x.Incs ∧ (WGPart x.X ∧ ((fun l : List GMsg => l.length * 16 ≤ reachBytes ∧ ∀ y ∈ l, WGMsg y) x.Msgs ∧ (True)))))))))))))
def WGAct (x : GAct) : Prop := (fun n : Int => (Lit.int .i64 n).wf = true) x.Kind ∧ ((fun n : Int => (Lit.int .i64 n).wf = true) x.N ∧ (WGMail x.M ∧ (True)))
def WGState (x : GState) : Prop := (fun n : Int => (Lit.int .i64 n).wf = true) x.Step ∧ ((fun l : List Int => l.length * 8 ≤ reachBytes ∧ ∀ y ∈ l, (fun n : Int => (Lit.int .i64 n).wf = true) y) x.Vals ∧ ((fun l : List Bool => l.length * 1 ≤ reachBytes ∧ ∀ y ∈ l, (fun _ : Bool => True) y) x.Rest ∧ ((fun l : List GMsg => l.length * 16 ≤ reachBytes ∧ ∀ y ∈ l, WGMsg y) x.In ∧ (True))))
end Go.Proofs.Ytbaihlhoedbpkaa.Tm

/- The structures of this seat, and their cells: by program. Conditions: none. -/
import Derived.Test.YtbaihlhoedbpkaaKb
namespace Go.Proofs.Ytbaihlhoedbpkaa.Tm
open Go
structure GEdge where
  From : Int
  To : Int
  W : Int
def eGEdge (x : GEdge) : List T := [.lit (.int .i64 x.From), .lit (.int .i64 x.To), .lit (.int .i64 x.W)]
theorem eGEdge_len (x : GEdge) : (eGEdge x).length = 3 := rfl
theorem eGEdge_ns (x : GEdge) : (eGEdge x).any hasSl = false := rfl
structure GGraph where
  N : Int
  Edges : List GEdge
def eGGraph (x : GGraph) : List T := [.lit (.int .i64 x.N), .sl (len x.Edges) (flat eGEdge x.Edges)]
theorem eGGraph_len (x : GGraph) : (eGGraph x).length = 2 := rfl
structure GJob where
  Prog : Int
  Source : Int
  Limit : Int
  Parts : Int
def eGJob (x : GJob) : List T := [.lit (.int .i64 x.Prog), .lit (.int .i64 x.Source), .lit (.int .i64 x.Limit), .lit (.int .i64 x.Parts)]
theorem eGJob_len (x : GJob) : (eGJob x).length = 4 := rfl
theorem eGJob_ns (x : GJob) : (eGJob x).any hasSl = false := rfl
structure GTable where
  Epoch : Int
  Owners : List Int
  Ids : List Int
  Incs : List Int
def eGTable (x : GTable) : List T := [.lit (.int .i64 x.Epoch), .sl (len x.Owners) (flat (eInt .i64) x.Owners), .sl (len x.Ids) (flat (eInt .i64) x.Ids), .sl (len x.Incs) (flat (eInt .i64) x.Incs)]
theorem eGTable_len (x : GTable) : (eGTable x).length = 4 := rfl
structure GMsg where
  To : Int
  V : Int
def eGMsg (x : GMsg) : List T := [.lit (.int .i64 x.To), .lit (.int .i64 x.V)]
theorem eGMsg_len (x : GMsg) : (eGMsg x).length = 2 := rfl
theorem eGMsg_ns (x : GMsg) : (eGMsg x).any hasSl = false := rfl
structure GPart where
  P : Int
  Step : Int
  Vals : List Int
  Rest : List Bool
  In : List GMsg
def eGPart (x : GPart) : List T := [.lit (.int .i64 x.P), .lit (.int .i64 x.Step), .sl (len x.Vals) (flat (eInt .i64) x.Vals), .sl (len x.Rest) (flat eBool x.Rest), .sl (len x.In) (flat eGMsg x.In)]
theorem eGPart_len (x : GPart) : (eGPart x).length = 5 := rfl
structure GHeld where
  X : GPart
  Wait : Bool
  Given : Bool
def eGHeld (x : GHeld) : List T := [.lit (.int .i64 x.X.P), .lit (.int .i64 x.X.Step), .sl (len x.X.Vals) (flat (eInt .i64) x.X.Vals), .sl (len x.X.Rest) (flat eBool x.X.Rest), .sl (len x.X.In) (flat eGMsg x.X.In), .lit (.bool x.Wait), .lit (.bool x.Given)]
theorem eGHeld_len (x : GHeld) : (eGHeld x).length = 7 := rfl
structure GData where
  Epoch : Int
  Step : Int
  Q : Int
  P : Int
  Msgs : List GMsg
def eGData (x : GData) : List T := [.lit (.int .i64 x.Epoch), .lit (.int .i64 x.Step), .lit (.int .i64 x.Q), .lit (.int .i64 x.P), .sl (len x.Msgs) (flat eGMsg x.Msgs)]
theorem eGData_len (x : GData) : (eGData x).length = 5 := rfl
structure GComing where
  Epoch : Int
  X : GPart
def eGComing (x : GComing) : List T := [.lit (.int .i64 x.Epoch), .lit (.int .i64 x.X.P), .lit (.int .i64 x.X.Step), .sl (len x.X.Vals) (flat (eInt .i64) x.X.Vals), .sl (len x.X.Rest) (flat eBool x.X.Rest), .sl (len x.X.In) (flat eGMsg x.X.In)]
theorem eGComing_len (x : GComing) : (eGComing x).length = 6 := rfl
structure GMail where
  Kind : Int
  Epoch : Int
  Fresh : Int
  Step : Int
  P : Int
  Q : Int
  To : Int
  E : Int
  Owners : List Int
  Ids : List Int
  Incs : List Int
  X : GPart
  Msgs : List GMsg
def eGMail (x : GMail) : List T := [.lit (.int .i64 x.Kind), .lit (.int .i64 x.Epoch), .lit (.int .i64 x.Fresh), .lit (.int .i64 x.Step), .lit (.int .i64 x.P), .lit (.int .i64 x.Q), .lit (.int .i64 x.To), .lit (.int .i64 x.E), .sl (len x.Owners) (flat (eInt .i64) x.Owners), .sl (len x.Ids) (flat (eInt .i64) x.Ids), .sl (len x.Incs) (flat (eInt .i64) x.Incs), .lit (.int .i64 x.X.P), .lit (.int .i64 x.X.Step), .sl (len x.X.Vals) (flat (eInt .i64) x.X.Vals), .sl (len x.X.Rest) (flat eBool x.X.Rest), .sl (len x.X.In) (flat eGMsg x.X.In), .sl (len x.Msgs) (flat eGMsg x.Msgs)]
theorem eGMail_len (x : GMail) : (eGMail x).length = 17 := rfl
structure GPost where
  To : Int
  Inc : Int
  M : GMail
def eGPost (x : GPost) : List T := [.lit (.int .i64 x.To), .lit (.int .i64 x.Inc), .lit (.int .i64 x.M.Kind), .lit (.int .i64 x.M.Epoch), .lit (.int .i64 x.M.Fresh), .lit (.int .i64 x.M.Step), .lit (.int .i64 x.M.P), .lit (.int .i64 x.M.Q), .lit (.int .i64 x.M.To), .lit (.int .i64 x.M.E), .sl (len x.M.Owners) (flat (eInt .i64) x.M.Owners), .sl (len x.M.Ids) (flat (eInt .i64) x.M.Ids), .sl (len x.M.Incs) (flat (eInt .i64) x.M.Incs), .lit (.int .i64 x.M.X.P), .lit (.int .i64 x.M.X.Step), .sl (len x.M.X.Vals) (flat (eInt .i64) x.M.X.Vals), .sl (len x.M.X.Rest) (flat eBool x.M.X.Rest), .sl (len x.M.X.In) (flat eGMsg x.M.X.In), .sl (len x.M.Msgs) (flat eGMsg x.M.Msgs)]
theorem eGPost_len (x : GPost) : (eGPost x).length = 19 := rfl
structure GWorker where
  Id : Int
  Goal : Int
  Until : Int
  T : GTable
  Held : List GHeld
  Buf : List GData
  Coming : List GComing
  Out : List GPost
def eGWorker (x : GWorker) : List T := [.lit (.int .i64 x.Id), .lit (.int .i64 x.Goal), .lit (.int .i64 x.Until), .lit (.int .i64 x.T.Epoch), .sl (len x.T.Owners) (flat (eInt .i64) x.T.Owners), .sl (len x.T.Ids) (flat (eInt .i64) x.T.Ids), .sl (len x.T.Incs) (flat (eInt .i64) x.T.Incs), .sl (len x.Held) (flat eGHeld x.Held), .sl (len x.Buf) (flat eGData x.Buf), .sl (len x.Coming) (flat eGComing x.Coming), .sl (len x.Out) (flat eGPost x.Out)]
theorem eGWorker_len (x : GWorker) : (eGWorker x).length = 11 := rfl
structure GAct where
  Kind : Int
  N : Int
  M : GMail
def eGAct (x : GAct) : List T := [.lit (.int .i64 x.Kind), .lit (.int .i64 x.N), .lit (.int .i64 x.M.Kind), .lit (.int .i64 x.M.Epoch), .lit (.int .i64 x.M.Fresh), .lit (.int .i64 x.M.Step), .lit (.int .i64 x.M.P), .lit (.int .i64 x.M.Q), .lit (.int .i64 x.M.To), .lit (.int .i64 x.M.E), .sl (len x.M.Owners) (flat (eInt .i64) x.M.Owners), .sl (len x.M.Ids) (flat (eInt .i64) x.M.Ids), .sl (len x.M.Incs) (flat (eInt .i64) x.M.Incs), .lit (.int .i64 x.M.X.P), .lit (.int .i64 x.M.X.Step), .sl (len x.M.X.Vals) (flat (eInt .i64) x.M.X.Vals), .sl (len x.M.X.Rest) (flat eBool x.M.X.Rest), .sl (len x.M.X.In) (flat eGMsg x.M.X.In), .sl (len x.M.Msgs) (flat eGMsg x.M.Msgs)]
theorem eGAct_len (x : GAct) : (eGAct x).length = 19 := rfl
structure GPost153 where
  To : Int
  Inc : Int
  M : GMail
def eGPost153 (x : GPost153) : List T := [.lit (.int .i64 x.To), .lit (.int .i64 x.Inc), .lit (.int .i64 x.M.Kind), .lit (.int .i64 x.M.Epoch), .lit (.int .i64 x.M.Fresh), .lit (.int .i64 x.M.Step), .lit (.int .i64 x.M.P), .lit (.int .i64 x.M.Q), .lit (.int .i64 x.M.To), .lit (.int .i64 x.M.E), .sl (len x.M.Owners) (flat (eInt .i64) x.M.Owners), .sl (len x.M.Ids) (flat (eInt .i64) x.M.Ids), .sl (len x.M.Incs) (flat (eInt .i64) x.M.Incs), .lit (.int .i64 x.M.X.P), .lit (.int .i64 x.M.X.Step), .sl (len x.M.X.Vals) (flat (eInt .i64) x.M.X.Vals), .sl (len x.M.X.Rest) (flat eBool x.M.X.Rest), .sl (len x.M.X.In) (flat eGMsg x.M.X.In), .sl (len x.M.Msgs) (flat eGMsg x.M.Msgs)]
theorem eGPost153_len (x : GPost153) : (eGPost153 x).length = 19 := rfl
structure GWorker60 where
  Id : Int
  Goal : Int
  Until : Int
  T : GTable
  Held : List GHeld
  Buf : List GData
  Coming : List GComing
  Out : List GPost153
def eGWorker60 (x : GWorker60) : List T := [.lit (.int .i64 x.Id), .lit (.int .i64 x.Goal), .lit (.int .i64 x.Until), .lit (.int .i64 x.T.Epoch), .sl (len x.T.Owners) (flat (eInt .i64) x.T.Owners), .sl (len x.T.Ids) (flat (eInt .i64) x.T.Ids), .sl (len x.T.Incs) (flat (eInt .i64) x.T.Incs), .sl (len x.Held) (flat eGHeld x.Held), .sl (len x.Buf) (flat eGData x.Buf), .sl (len x.Coming) (flat eGComing x.Coming), .sl (len x.Out) (flat eGPost153 x.Out)]
theorem eGWorker60_len (x : GWorker60) : (eGWorker60 x).length = 11 := rfl
structure GDid where
  Epoch : Int
  Step : Int
  P : Int
def eGDid (x : GDid) : List T := [.lit (.int .i64 x.Epoch), .lit (.int .i64 x.Step), .lit (.int .i64 x.P)]
theorem eGDid_len (x : GDid) : (eGDid x).length = 3 := rfl
theorem eGDid_ns (x : GDid) : (eGDid x).any hasSl = false := rfl
structure GState where
  Step : Int
  Vals : List Int
  Rest : List Bool
  In : List GMsg
def eGState (x : GState) : List T := [.lit (.int .i64 x.Step), .sl (len x.Vals) (flat (eInt .i64) x.Vals), .sl (len x.Rest) (flat eBool x.Rest), .sl (len x.In) (flat eGMsg x.In)]
theorem eGState_len (x : GState) : (eGState x).length = 4 := rfl
structure GTurned where
  Val : Int
  Out : List GMsg
  Rest : Bool
  E : Int
def eGTurned (x : GTurned) : List T := [.lit (.int .i64 x.Val), .sl (len x.Out) (flat eGMsg x.Out), .lit (.bool x.Rest), .lit (.int .i64 x.E)]
theorem eGTurned_len (x : GTurned) : (eGTurned x).length = 4 := rfl
structure Grule where
  start_ : Value
  better_ : Value
  only_ : Bool
  send_ : Value
def eGrule (x : Grule) : List T := [.lit x.start_, .lit x.better_, .lit (.bool x.only_), .lit x.send_]
theorem eGrule_len (x : Grule) : (eGrule x).length = 4 := rfl
theorem eGrule_ns (x : Grule) : (eGrule x).any hasSl = false := rfl
structure GA171 where
  x0 : List GMsg
  x1 : List GMsg
  x2 : List GMsg
  x3 : List GMsg
  x4 : List GMsg
  x5 : List GMsg
def eGA171 (x : GA171) : List T := [.sl (len x.x0) (flat eGMsg x.x0), .sl (len x.x1) (flat eGMsg x.x1), .sl (len x.x2) (flat eGMsg x.x2), .sl (len x.x3) (flat eGMsg x.x3), .sl (len x.x4) (flat eGMsg x.x4), .sl (len x.x5) (flat eGMsg x.x5)]
theorem eGA171_len (x : GA171) : (eGA171 x).length = 6 := rfl
structure GA193 where
  x0 : Int
  x1 : Int
def eGA193 (x : GA193) : List T := [.lit (.int .u64 x.x0), .lit (.int .u64 x.x1)]
theorem eGA193_len (x : GA193) : (eGA193 x).length = 2 := rfl
theorem eGA193_ns (x : GA193) : (eGA193 x).any hasSl = false := rfl
structure GA196 where
  x0 : Int
  x1 : Int
  x2 : Int
  x3 : Int
def eGA196 (x : GA196) : List T := [.lit (.int .u64 x.x0), .lit (.int .u64 x.x1), .lit (.int .u64 x.x2), .lit (.int .u64 x.x3)]
theorem eGA196_len (x : GA196) : (eGA196 x).length = 4 := rfl
theorem eGA196_ns (x : GA196) : (eGA196 x).any hasSl = false := rfl
end Go.Proofs.Ytbaihlhoedbpkaa.Tm

/- The structures of this seat, and their cells: by program. Conditions: none. -/
import Derived.Test.YtnjanliihnadjaaKb
namespace Go.Proofs.Ytnjanliihnadjaa.Tm
open Go
structure GMsg where
  To : Int
  V : Int
def eGMsg (x : GMsg) : List T := [.lit (.int .i64 x.To), .lit (.int .i64 x.V)]
theorem eGMsg_len (x : GMsg) : (eGMsg x).length = 2 := rfl
theorem eGMsg_ns (x : GMsg) : (eGMsg x).any hasSl = false := rfl
structure GPart where
  P : Int
  Step : Int
  Vals : List Int
  Rest : List Bool
  In : List GMsg
def eGPart (x : GPart) : List T := [.lit (.int .i64 x.P), .lit (.int .i64 x.Step), .sl (len x.Vals) (flat (eInt .i64) x.Vals), .sl (len x.Rest) (flat eBool x.Rest), .sl (len x.In) (flat eGMsg x.In)]
theorem eGPart_len (x : GPart) : (eGPart x).length = 5 := rfl
structure GBarrier where
  Epoch : Int
  Step : Int
  Parts : Int
  Came : List GPart
  Over : Bool
def eGBarrier (x : GBarrier) : List T := [.lit (.int .i64 x.Epoch), .lit (.int .i64 x.Step), .lit (.int .i64 x.Parts), .sl (len x.Came) (flat eGPart x.Came), .lit (.bool x.Over)]
theorem eGBarrier_len (x : GBarrier) : (eGBarrier x).length = 5 := rfl
structure GAct where
  Kind : Int
  Epoch : Int
  Step : Int
  X : GPart
def eGAct (x : GAct) : List T := [.lit (.int .i64 x.Kind), .lit (.int .i64 x.Epoch), .lit (.int .i64 x.Step), .lit (.int .i64 x.X.P), .lit (.int .i64 x.X.Step), .sl (len x.X.Vals) (flat (eInt .i64) x.X.Vals), .sl (len x.X.Rest) (flat eBool x.X.Rest), .sl (len x.X.In) (flat eGMsg x.X.In)]
theorem eGAct_len (x : GAct) : (eGAct x).length = 8 := rfl
structure GEdge where
  From : Int
  To : Int
  W : Int
def eGEdge (x : GEdge) : List T := [.lit (.int .i64 x.From), .lit (.int .i64 x.To), .lit (.int .i64 x.W)]
theorem eGEdge_len (x : GEdge) : (eGEdge x).length = 3 := rfl
theorem eGEdge_ns (x : GEdge) : (eGEdge x).any hasSl = false := rfl
structure GGraph where
  N : Int
  Edges : List GEdge
def eGGraph (x : GGraph) : List T := [.lit (.int .i64 x.N), .sl (len x.Edges) (flat eGEdge x.Edges)]
theorem eGGraph_len (x : GGraph) : (eGGraph x).length = 2 := rfl
structure GJob where
  Prog : Int
  Source : Int
  Limit : Int
  Parts : Int
def eGJob (x : GJob) : List T := [.lit (.int .i64 x.Prog), .lit (.int .i64 x.Source), .lit (.int .i64 x.Limit), .lit (.int .i64 x.Parts)]
theorem eGJob_len (x : GJob) : (eGJob x).length = 4 := rfl
theorem eGJob_ns (x : GJob) : (eGJob x).any hasSl = false := rfl
structure GAnswer where
  Kind : Int
  Step : Int
  Vals : List Int
def eGAnswer (x : GAnswer) : List T := [.lit (.int .i64 x.Kind), .lit (.int .i64 x.Step), .sl (len x.Vals) (flat (eInt .i64) x.Vals)]
theorem eGAnswer_len (x : GAnswer) : (eGAnswer x).length = 3 := rfl
structure GState where
  Step : Int
  Vals : List Int
  Rest : List Bool
  In : List GMsg
def eGState (x : GState) : List T := [.lit (.int .i64 x.Step), .sl (len x.Vals) (flat (eInt .i64) x.Vals), .sl (len x.Rest) (flat eBool x.Rest), .sl (len x.In) (flat eGMsg x.In)]
theorem eGState_len (x : GState) : (eGState x).length = 4 := rfl
structure GAsked where
  Step : Int
  V : Int
  Val : Int
  Got : Int
  Some : Bool
def eGAsked (x : GAsked) : List T := [.lit (.int .i64 x.Step), .lit (.int .i64 x.V), .lit (.int .i64 x.Val), .lit (.int .i64 x.Got), .lit (.bool x.Some)]
theorem eGAsked_len (x : GAsked) : (eGAsked x).length = 5 := rfl
theorem eGAsked_ns (x : GAsked) : (eGAsked x).any hasSl = false := rfl
structure GTurned where
  Val : Int
  Out : List GMsg
  Rest : Bool
  E : Int
def eGTurned (x : GTurned) : List T := [.lit (.int .i64 x.Val), .sl (len x.Out) (flat eGMsg x.Out), .lit (.bool x.Rest), .lit (.int .i64 x.E)]
theorem eGTurned_len (x : GTurned) : (eGTurned x).length = 4 := rfl
structure GDone where
  X : GPart
  Out : List (List GMsg)
  E : Int
def eGDone (x : GDone) : List T := [.lit (.int .i64 x.X.P), .lit (.int .i64 x.X.Step), .sl (len x.X.Vals) (flat (eInt .i64) x.X.Vals), .sl (len x.X.Rest) (flat eBool x.X.Rest), .sl (len x.X.In) (flat eGMsg x.X.In), .sl (len x.Out) (flat (eSl eGMsg) x.Out), .lit (.int .i64 x.E)]
theorem eGDone_len (x : GDone) : (eGDone x).length = 7 := rfl
structure Grule where
  start_ : Value
  better_ : Value
  only_ : Bool
  send_ : Value
def eGrule (x : Grule) : List T := [.lit x.start_, .lit x.better_, .lit (.bool x.only_), .lit x.send_]
theorem eGrule_len (x : Grule) : (eGrule x).length = 4 := rfl
theorem eGrule_ns (x : Grule) : (eGrule x).any hasSl = false := rfl
structure GA187 where
  x0 : List GMsg
  x1 : List GMsg
  x2 : List GMsg
  x3 : List GMsg
  x4 : List GMsg
  x5 : List GMsg
def eGA187 (x : GA187) : List T := [.sl (len x.x0) (flat eGMsg x.x0), .sl (len x.x1) (flat eGMsg x.x1), .sl (len x.x2) (flat eGMsg x.x2), .sl (len x.x3) (flat eGMsg x.x3), .sl (len x.x4) (flat eGMsg x.x4), .sl (len x.x5) (flat eGMsg x.x5)]
theorem eGA187_len (x : GA187) : (eGA187 x).length = 6 := rfl
structure GA199 where
  x0 : Int
  x1 : Int
def eGA199 (x : GA199) : List T := [.lit (.int .u64 x.x0), .lit (.int .u64 x.x1)]
theorem eGA199_len (x : GA199) : (eGA199 x).length = 2 := rfl
theorem eGA199_ns (x : GA199) : (eGA199 x).any hasSl = false := rfl
structure GA202 where
  x0 : Int
  x1 : Int
  x2 : Int
  x3 : Int
def eGA202 (x : GA202) : List T := [.lit (.int .u64 x.x0), .lit (.int .u64 x.x1), .lit (.int .u64 x.x2), .lit (.int .u64 x.x3)]
theorem eGA202_len (x : GA202) : (eGA202 x).length = 4 := rfl
theorem eGA202_ns (x : GA202) : (eGA202 x).any hasSl = false := rfl
end Go.Proofs.Ytnjanliihnadjaa.Tm

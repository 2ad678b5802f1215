/- What the row of BarrierSeq leans on: printed functions and plain laws. Conditions: none. -/
import Derived.Test.YtnjanliihnadjaaTy
import Derived.Test.YtnjanliihnadjaaTab
import Derived.Test.YtnjanliihnadjaaKn
import Derived.Test.YtnjanliihnadjaaWf
import Derived.IntWalk
import Derived.KernelRfl
import Derived.OpenShut
import Derived.Test.YtnjanliihnadjaaBBarrierSeq1
set_option linter.unusedVariables false
set_option linter.unusedSimpArgs false
namespace Go.Proofs.Ytnjanliihnadjaa.Tm
open Go
theorem F131_l1_1_ok (K : Nat) (a1 : GState) (a2 : Int) (r3 : List Int) (v4 : List Int) (v5 : List Bool) (v6 : Int) (x7 : Int) (x8 : Bool) : ∀ (k : Nat) (v9 : List GMsg) (v10 : Int) (r : List GMsg), F131_l1_1 K a1 a2 r3 v4 v5 v6 x7 x8 k v9 v10 = some r → LoopEv E H hn131 2 c131_1 (F131_l1_1_S a1 a2 r3 v4 v5 v6 x7 x8 v9 v10) (.exit 2) (F131_l1_1_X0 a1 a2 r3 v4 v5 v6 x7 x8 r) := by
 intro k
 induction k with
 | zero => intro v9 v10 r hF; cases hF
 | succ k ih =>
  intro v9 v10 r hF
  rw [F131_l1_1] at hF
  refine cond_some hF (fun h11 hF => ?_) (fun h11 hF => ?_)
  ·
   refine cond_some hF (fun h12 hF => ?_) (fun _ hF => nomatch hF)
   refine bind_some hF (fun x13 h14 hF => ?_)
   refine cond_some hF (fun h15 hF => ?_) (fun _ hF => nomatch hF)
   refine bind_some hF (fun x16 h17 hF => ?_)
   have q20 : PQ hn131 fun l => (.int (nlen (len a1.In)) (nlen (len a1.In)) :: .test (ilt v10 (nlen (len a1.In))) true :: .test (inr v10 (len a1.In)) true :: .sub (flat eGMsg a1.In) (nadd (nidx v10 2) 0) 1 [(.lit (.int .i64 x13.To))] :: .test (inr v6 (len r3)) true :: .sub (flat (eInt .i64) r3) (nidx v6 1) 1 [(.lit (.int .i64 x16))] :: l) := fun z => ⟨rfl, h11, h12, ⟨rfl, sub_flat eGMsg_len h14 0 1 (by decide)⟩, h15, ⟨rfl, sub_flat0 (eInt_len _) h17 1 (by decide)⟩, z⟩
   refine cond_some hF (fun h18 hF => ?_) (fun h18 hF => ?_)
   ·
    refine cond_some hF (fun h19 hF => ?_) (fun _ hF => nomatch hF)
    have pz : HoldAll E H hn131 [.test (ieq x13.To x16) true, .test (inr v10 (len a1.In)) true, .sub (flat eGMsg a1.In) (nidx v10 2) 2 [(.lit (.int .i64 x13.To)), (.lit (.int .i64 x13.V))], .test (leqm [(.lit (.int .i64 x13.To)), (.lit (.int .i64 x13.V))] 1 2) true, .test (apok (len v9) 1 16) true, .sl (nadd (len v9) 1) (lapp (flat eGMsg v9) [(.lit (.int .i64 x13.To)), (.lit (.int .i64 x13.V))]) (len (α := GMsg) (appL v9 [x13])) (flat eGMsg (appL v9 [x13])), .int (wadd .i64 v10 1) (wadd .i64 v10 1)] := ⟨h18, h12, ⟨rfl, sub_flat0 eGMsg_len h14 2 (by decide)⟩, rfl, h19, (app_ok (enc := eGMsg) (v9 : List GMsg) [x13]), rfl, trivial⟩
    have h0 := ih _ _ _ hF
    have hn := fun ex ts' => loop_nextC (h := hn131) (l := 2) (c := c131_1) (ts := F131_l1_1_S a1 a2 r3 v4 v5 v6 x7 x8 v9 v10) (ts1 := (F131_l1_1_S a1 a2 r3 v4 v5 v6 x7 x8 (appL v9 [x13]) (wadd .i64 v10 1))) (ex := ex) (ts' := ts') (q20 pz) (by kernel_rfl)
    exact hn _ _ h0
   have pz : HoldAll E H hn131 [.test (ieq x13.To x16) false, .int (wadd .i64 v10 1) (wadd .i64 v10 1)] := ⟨h18, rfl, trivial⟩
   have h0 := ih _ _ _ hF
   have hn := fun ex ts' => loop_nextC (h := hn131) (l := 2) (c := c131_1) (ts := F131_l1_1_S a1 a2 r3 v4 v5 v6 x7 x8 v9 v10) (ts1 := (F131_l1_1_S a1 a2 r3 v4 v5 v6 x7 x8 v9 (wadd .i64 v10 1))) (ex := ex) (ts' := ts') (q20 pz) (by kernel_rfl)
   exact hn _ _ h0
  obtain rfl := Option.some.inj hF
  have pz : HoldAll E H hn131 [.int (nlen (len a1.In)) (nlen (len a1.In)), .test (ilt v10 (nlen (len a1.In))) false] := ⟨rfl, h11, trivial⟩
  exact loop_endC (h := hn131) (l := 2) (c := c131_1) (ts := F131_l1_1_S a1 a2 r3 v4 v5 v6 x7 x8 v9 v10) (ts' := F131_l1_1_X0 a1 a2 r3 v4 v5 v6 x7 x8 v9) (ex := (.exit 2)) pz (by kernel_rfl) trivial
def F131_l0_0 (K : Nat) (a1 : GState) (a2 : Int) (r3 : List Int) : Nat → List Int → List Bool → List GMsg → Int → Option (List Int × List Bool × List GMsg)
 | 0, _, _, _, _ => none
 | k + 1, v4, v5, v6, v7 =>
  bif (ilt v7 (nlen (len r3))) then
   (bif (inr v7 (len r3)) then
   (elAt r3 v7).bind fun x8 =>
   bif (inr x8 (len a1.Vals)) then
   (elAt a1.Vals x8).bind fun x9 =>
   bif (apok (len v4) 1 8) then
   bif (inr x8 (len a1.Rest)) then
   (elAt a1.Rest x8).bind fun x10 =>
   bif (apok (len v5) 1 1) then
   (F131_l1_1 K a1 a2 r3 v4 v5 v7 x9 x10 K v6 0).bind fun w11 =>
   F131_l0_0 K a1 a2 r3 k (appL v4 [x9]) (appL v5 [x10]) w11 (wadd .i64 v7 1)
   else none
   else none
   else none
   else none
   else none)
  else
  some (v4, (v5, v6))
def F131_l0_0_S (a1 : GState) (a2 : Int) (r3 : List Int) (v4 : List Int) (v5 : List Bool) (v6 : List GMsg) (v7 : Int) : TS := .on [384, 385, 386, 387, 388, 512, 513, 514, 515, 516, 517, 576, 577, 578, 579, 580, 581, 640, 641, 704, 705] [(384, ⟨(.box 74 4), 0, nob⟩), (385, ⟨.im, 0, (.lit (.int .i64 a1.Step))⟩), (386, ⟨.im, 0, (.sl (len a1.Vals) (flat (eInt .i64) a1.Vals))⟩), (387, ⟨.im, 0, (.sl (len a1.Rest) (flat eBool a1.Rest))⟩), (388, ⟨.im, 0, (.sl (len a1.In) (flat eGMsg a1.In))⟩), (512, ⟨(.box 42 5), 0, nob⟩), (513, ⟨.im, 0, (.lit (.int .i64 0))⟩), (514, ⟨.im, 0, (.lit (.int .i64 0))⟩), (515, ⟨(.own 2), 0, (.sl 0 [])⟩), (516, ⟨(.own 4), 0, (.sl 0 [])⟩), (517, ⟨(.own 130), 0, (.sl 0 [])⟩), (576, ⟨(.box 42 5), 0, nob⟩), (577, ⟨.im, 0, (.lit (.int .i64 a2))⟩), (578, ⟨.im, 0, (.lit (.int .i64 a1.Step))⟩), (579, ⟨(.own 2), 0, (.sl (len v4) (flat (eInt .i64) v4))⟩), (580, ⟨(.own 4), 0, (.sl (len v5) (flat eBool v5))⟩), (581, ⟨(.own 130), 0, (.sl (len v6) (flat eGMsg v6))⟩), (640, ⟨.one, 0, nob⟩), (641, ⟨(.own 3), 0, (.sl (len r3) (flat (eInt .i64) r3))⟩), (704, ⟨.one, 0, nob⟩), (705, ⟨.im, 0, (.lit (.int .i64 v7))⟩)]
def F131_l0_0_X0 (a1 : GState) (a2 : Int) (r3 : List Int) (w4 : List Int × List Bool × List GMsg) : TS := .on [512, 513, 514, 515, 516, 517, 576, 577, 578, 579, 580, 581] [(512, ⟨(.box 42 5), 0, nob⟩), (513, ⟨.im, 0, (.lit (.int .i64 0))⟩), (514, ⟨.im, 0, (.lit (.int .i64 0))⟩), (515, ⟨(.own 2), 0, (.sl 0 [])⟩), (516, ⟨(.own 4), 0, (.sl 0 [])⟩), (517, ⟨(.own 130), 0, (.sl 0 [])⟩), (576, ⟨(.box 42 5), 0, nob⟩), (577, ⟨.im, 0, (.lit (.int .i64 a2))⟩), (578, ⟨.im, 0, (.lit (.int .i64 a1.Step))⟩), (579, ⟨(.own 2), 0, (.sl (len w4.1) (flat (eInt .i64) w4.1))⟩), (580, ⟨(.own 4), 0, (.sl (len w4.2.1) (flat eBool w4.2.1))⟩), (581, ⟨(.own 130), 0, (.sl (len w4.2.2) (flat eGMsg w4.2.2))⟩)]
theorem F131_l0_0_ok (K : Nat) (a1 : GState) (a2 : Int) (r3 : List Int) : ∀ (k : Nat) (v4 : List Int) (v5 : List Bool) (v6 : List GMsg) (v7 : Int) (r : List Int × List Bool × List GMsg), F131_l0_0 K a1 a2 r3 k v4 v5 v6 v7 = some r → LoopEv E H hn131 0 c131_0 (F131_l0_0_S a1 a2 r3 v4 v5 v6 v7) (.exit 0) (F131_l0_0_X0 a1 a2 r3 r) := by
 intro k
 induction k with
 | zero => intro v4 v5 v6 v7 r hF; cases hF
 | succ k ih =>
  intro v4 v5 v6 v7 r hF
  rw [F131_l0_0] at hF
  refine cond_some hF (fun h8 hF => ?_) (fun h8 hF => ?_)
  ·
   refine cond_some hF (fun h9 hF => ?_) (fun _ hF => nomatch hF)
   refine bind_some hF (fun x10 h11 hF => ?_)
   refine cond_some hF (fun h12 hF => ?_) (fun _ hF => nomatch hF)
   refine bind_some hF (fun x13 h14 hF => ?_)
   refine cond_some hF (fun h15 hF => ?_) (fun _ hF => nomatch hF)
   refine cond_some hF (fun h16 hF => ?_) (fun _ hF => nomatch hF)
   refine bind_some hF (fun x17 h18 hF => ?_)
   refine cond_some hF (fun h19 hF => ?_) (fun _ hF => nomatch hF)
   refine bind_some hF (fun w21 h20 hF => ?_)
   have pz : HoldAll E H hn131 [.int (nlen (len r3)) (nlen (len r3)), .test (ilt v7 (nlen (len r3))) true, .test (inr v7 (len r3)) true, .sub (flat (eInt .i64) r3) (nidx v7 1) 1 [(.lit (.int .i64 x10))], .test (inr x10 (len a1.Vals)) true, .sub (flat (eInt .i64) a1.Vals) (nidx x10 1) 1 [(.lit (.int .i64 x13))], .test (leqm [(.lit (.int .i64 x13))] 1 1) true, .test (apok (len v4) 1 8) true, .sl (nadd (len v4) 1) (lapp (flat (eInt .i64) v4) [(.lit (.int .i64 x13))]) (len (α := Int) (appL v4 [x13])) (flat (eInt .i64) (appL v4 [x13])), .test (inr v7 (len r3)) true, .sub (flat (eInt .i64) r3) (nidx v7 1) 1 [(.lit (.int .i64 x10))], .test (inr x10 (len a1.Rest)) true, .sub (flat eBool a1.Rest) (nidx x10 1) 1 [(.lit (.bool x17))], .test (leqm [(.lit (.bool x17))] 1 1) true, .test (apok (len v5) 1 1) true, .sl (nadd (len v5) 1) (lapp (flat eBool v5) [(.lit (.bool x17))]) (len (α := Bool) (appL v5 [x17])) (flat eBool (appL v5 [x17])), .loop 2 c131_1 (F131_l1_1_S a1 a2 r3 v4 v5 v7 x13 x17 v6 0) (.exit 2) (F131_l1_1_X0 a1 a2 r3 v4 v5 v7 x13 x17 w21), .int (wadd .i64 v7 1) (wadd .i64 v7 1)] := ⟨rfl, h8, h9, ⟨rfl, sub_flat0 (eInt_len _) h11 1 (by decide)⟩, h12, ⟨rfl, sub_flat0 (eInt_len _) h14 1 (by decide)⟩, rfl, h15, (app_ok (enc := (eInt .i64)) (v4 : List Int) [x13]), h9, ⟨rfl, sub_flat0 (eInt_len _) h11 1 (by decide)⟩, h16, ⟨rfl, sub_flat0 eBool_len h18 1 (by decide)⟩, rfl, h19, (app_ok (enc := eBool) (v5 : List Bool) [x17]), (F131_l1_1_ok K a1 a2 r3 v4 v5 v7 x13 x17 K v6 0 _ h20), rfl, trivial⟩
   have h0 := ih _ _ _ _ _ hF
   have hn := fun ex ts' => loop_nextC (h := hn131) (l := 0) (c := c131_0) (ts := F131_l0_0_S a1 a2 r3 v4 v5 v6 v7) (ts1 := (F131_l0_0_S a1 a2 r3 (appL v4 [x13]) (appL v5 [x17]) w21 (wadd .i64 v7 1))) (ex := ex) (ts' := ts') pz (by kernel_rfl)
   exact hn _ _ h0
  obtain rfl := Option.some.inj hF
  have pz : HoldAll E H hn131 [.int (nlen (len r3)) (nlen (len r3)), .test (ilt v7 (nlen (len r3))) false] := ⟨rfl, h8, trivial⟩
  exact loop_endC (h := hn131) (l := 0) (c := c131_0) (ts := F131_l0_0_S a1 a2 r3 v4 v5 v6 v7) (ts' := F131_l0_0_X0 a1 a2 r3 (v4, (v5, v6))) (ex := (.exit 0)) pz (by kernel_rfl) trivial
def F131 (K : Nat) (a1 : GGraph) (a2 : GJob) (a3 : GState) (a4 : Int) : Option (GPart) :=
 (F139 K a1 a2 a4).bind fun r5 =>
 (F131_l0_0 K a3 a4 r5 K [] [] [] 0).bind fun w6 =>
 some (GPart.mk a4 a3.Step w6.1 w6.2.1 w6.2.2)
theorem F131_ok (K : Nat) (a1 : GGraph) (a2 : GJob) (a3 : GState) (a4 : Int) (r : GPart) (hF : F131 K a1 a2 a3 a4 = some r) : Evt E H 131 [.agg (eGGraph a1), .agg (eGJob a2), .agg (eGState a3), .one (.lit (.int .i64 a4))] (F131_res r) := by
 rw [F131] at hF
 refine bind_some hF (fun r5 h6 hF => ?_)
 refine bind_some hF (fun w8 h7 hF => ?_)
 obtain rfl := Option.some.inj hF
 have pz : HoldAll E H hn131 [.call 139 [.agg (eGGraph a1), .agg (eGJob a2), .one (.lit (.int .i64 a4))] (F139_res r5), .test (leadsAny (Res.mk [(.one (.own 3 (.sl (len r5) (flat (eInt .i64) r5))))] [])) false, .loop 0 c131_0 (F131_l0_0_S a3 a4 r5 [] [] [] 0) (.exit 0) (F131_l0_0_X0 a3 a4 r5 w8)] := ⟨(F139_ok K a1 a2 a4 _ h6), (leads_ok (by simp [leadsAny, RV.leads, RC.leads, leadsT, hasSl_lit, flat_ns (eInt_ns _), flat_ns eGJob_ns])), (F131_l0_0_ok K a3 a4 r5 K [] [] [] 0 _ h7), trivial⟩
 exact fn_playC hn131 (r := F131_res (GPart.mk a4 a3.Step w8.1 w8.2.1 w8.2.2)) pz (by kernel_rfl) (by kernel_rfl)
noncomputable def hn61 : Hint := { H 61 with nt := 37, prot := 0 }
noncomputable def c61_0 : Code := loopOf E 61 0
def F61_res (r1 : List GPart × Int) : Res := ⟨[(.one (.own 42 (.sl (len r1.1) (flat eGPart r1.1)))), (.one (.im (.lit (.int .i64 r1.2))))], []⟩
def F61_l0_0 (K : Nat) (a1 : GGraph) (a2 : GJob) (a3 : GState) : Nat → List GPart → Int → Option (List GPart)
 | 0, _, _ => none
 | k + 1, v4, v5 =>
  bif (ilt v5 a2.Parts) then
   ((F131 K a1 a2 a3 v5).bind fun r6 =>
   bif (apok (len v4) 1 88) then
   F61_l0_0 K a1 a2 a3 k (appL v4 [r6]) (wadd .i64 v5 1)
   else none)
  else
  some v4
def F61_l0_0_S (a1 : GGraph) (a2 : GJob) (a3 : GState) (v4 : List GPart) (v5 : Int) : TS := .on [192, 193, 194, 256, 257, 258, 259, 260, 320, 321, 322, 323, 324, 576, 577, 640, 641] [(192, ⟨(.box 62 2), 0, nob⟩), (193, ⟨.im, 0, (.lit (.int .i64 a1.N))⟩), (194, ⟨.im, 0, (.sl (len a1.Edges) (flat eGEdge a1.Edges))⟩), (256, ⟨(.box 64 4), 0, nob⟩), (257, ⟨.im, 0, (.lit (.int .i64 a2.Prog))⟩), (258, ⟨.im, 0, (.lit (.int .i64 a2.Source))⟩), (259, ⟨.im, 0, (.lit (.int .i64 a2.Limit))⟩), (260, ⟨.im, 0, (.lit (.int .i64 a2.Parts))⟩), (320, ⟨(.box 74 4), 0, nob⟩), (321, ⟨.im, 0, (.lit (.int .i64 a3.Step))⟩), (322, ⟨.im, 0, (.sl (len a3.Vals) (flat (eInt .i64) a3.Vals))⟩), (323, ⟨.im, 0, (.sl (len a3.Rest) (flat eBool a3.Rest))⟩), (324, ⟨.im, 0, (.sl (len a3.In) (flat eGMsg a3.In))⟩), (576, ⟨.one, 0, nob⟩), (577, ⟨(.own 42), 0, (.sl (len v4) (flat eGPart v4))⟩), (640, ⟨.one, 0, nob⟩), (641, ⟨.im, 0, (.lit (.int .i64 v5))⟩)]
def F61_l0_0_X0 (a1 : GGraph) (a2 : GJob) (a3 : GState) (w4 : List GPart) : TS := .on [576, 577] [(576, ⟨.one, 0, nob⟩), (577, ⟨(.own 42), 0, (.sl (len w4) (flat eGPart w4))⟩)]
theorem F61_l0_0_ok (K : Nat) (a1 : GGraph) (a2 : GJob) (a3 : GState) : ∀ (k : Nat) (v4 : List GPart) (v5 : Int) (r : List GPart), F61_l0_0 K a1 a2 a3 k v4 v5 = some r → LoopEv E H hn61 0 c61_0 (F61_l0_0_S a1 a2 a3 v4 v5) (.exit 0) (F61_l0_0_X0 a1 a2 a3 r) := by
 intro k
 induction k with
 | zero => intro v4 v5 r hF; cases hF
 | succ k ih =>
  intro v4 v5 r hF
  rw [F61_l0_0] at hF
  refine cond_some hF (fun h6 hF => ?_) (fun h6 hF => ?_)
  ·
   refine bind_some hF (fun r7 h8 hF => ?_)
   refine cond_some hF (fun h9 hF => ?_) (fun _ hF => nomatch hF)
   have pz : HoldAll E H hn61 [.test (ilt v5 a2.Parts) true, .call 131 [.agg (eGGraph a1), .agg (eGJob a2), .agg (eGState a3), .one (.lit (.int .i64 v5))] (F131_res r7), .test (leadsAny (Res.mk [(.agg [(.im (.lit (.int .i64 r7.P))), (.im (.lit (.int .i64 r7.Step))), (.own 2 (.sl (len r7.Vals) (flat (eInt .i64) r7.Vals))), (.own 4 (.sl (len r7.Rest) (flat eBool r7.Rest))), (.own 130 (.sl (len r7.In) (flat eGMsg r7.In)))])] [])) false, .test (leqm [(.lit (.int .i64 r7.P)), (.lit (.int .i64 r7.Step)), (.sl (len r7.Vals) (flat (eInt .i64) r7.Vals)), (.sl (len r7.Rest) (flat eBool r7.Rest)), (.sl (len r7.In) (flat eGMsg r7.In))] 1 5) true, .test (apok (len v4) 1 88) true, .sl (nadd (len v4) 1) (lapp (flat eGPart v4) [(.lit (.int .i64 r7.P)), (.lit (.int .i64 r7.Step)), (.sl (len r7.Vals) (flat (eInt .i64) r7.Vals)), (.sl (len r7.Rest) (flat eBool r7.Rest)), (.sl (len r7.In) (flat eGMsg r7.In))]) (len (α := GPart) (appL v4 [r7])) (flat eGPart (appL v4 [r7])), .int (wadd .i64 v5 1) (wadd .i64 v5 1)] := ⟨h6, (F131_ok K a1 a2 a3 v5 _ h8), (leads_ok (by simp [leadsAny, RV.leads, RC.leads, leadsT, hasSl_lit, flat_ns (eInt_ns _), flat_ns eBool_ns, flat_ns eGJob_ns, flat_ns eGMsg_ns])), rfl, h9, (app_ok (enc := eGPart) (v4 : List GPart) [r7]), rfl, trivial⟩
   have h0 := ih _ _ _ hF
   have hn := fun ex ts' => loop_nextC (h := hn61) (l := 0) (c := c61_0) (ts := F61_l0_0_S a1 a2 a3 v4 v5) (ts1 := (F61_l0_0_S a1 a2 a3 (appL v4 [r7]) (wadd .i64 v5 1))) (ex := ex) (ts' := ts') pz (by kernel_rfl)
   exact hn _ _ h0
  obtain rfl := Option.some.inj hF
  have pz : HoldAll E H hn61 [.test (ilt v5 a2.Parts) false] := ⟨h6, trivial⟩
  exact loop_endC (h := hn61) (l := 0) (c := c61_0) (ts := F61_l0_0_S a1 a2 a3 v4 v5) (ts' := F61_l0_0_X0 a1 a2 a3 v4) (ex := (.exit 0)) pz (by kernel_rfl) trivial
def F61 (K : Nat) (a1 : GGraph) (a2 : GJob) (a3 : GState) : Option (List GPart × Int) :=
 (F59 K a1 a2).bind fun r4 =>
 bif (ieq r4 0) then
  ((F88 K a1 a2 a3).bind fun r5 =>
  bif r5 then
   ((F61_l0_0 K a1 a2 a3 K [] 0).bind fun w6 =>
   some (w6, 0))
  else
  some ([], 1))
 else
 some ([], r4)
theorem F61_ok (K : Nat) (a1 : GGraph) (a2 : GJob) (a3 : GState) (r : List GPart × Int) (hF : F61 K a1 a2 a3 = some r) : Evt E H 61 [.agg (eGGraph a1), .agg (eGJob a2), .agg (eGState a3)] (F61_res r) := by
 rw [F61] at hF
 refine bind_some hF (fun r4 h5 hF => ?_)
 refine cond_some hF (fun h6 hF => ?_) (fun h6 hF => ?_)
 ·
  refine bind_some hF (fun r7 h8 hF => ?_)
  have q12 : PQ hn61 fun l => (.call 59 [.agg (eGGraph a1), .agg (eGJob a2)] (F59_res r4) :: .test (leadsAny (Res.mk [(.one (.im (.lit (.int .i64 r4))))] [])) false :: .test (ine r4 0) false :: .call 88 [.agg (eGGraph a1), .agg (eGJob a2), .agg (eGState a3)] (F88_res r7) :: .test (leadsAny (Res.mk [(.one (.im (.lit (.bool r7))))] [])) false :: l) := fun z => ⟨(F59_ok K a1 a2 _ h5), (leads_ok (by simp [leadsAny, RV.leads, RC.leads, leadsT, hasSl_lit, flat_ns eGJob_ns])), (ine_t h6), (F88_ok K a1 a2 a3 _ h8), (leads_ok (by simp [leadsAny, RV.leads, RC.leads, leadsT, hasSl_lit, flat_ns eGJob_ns])), z⟩
  refine cond_some hF (fun h9 hF => ?_) (fun h9 hF => ?_)
  ·
   refine bind_some hF (fun w11 h10 hF => ?_)
   obtain rfl := Option.some.inj hF
   have pz : HoldAll E H hn61 [.test (bnot r7) false, .loop 0 c61_0 (F61_l0_0_S a1 a2 a3 [] 0) (.exit 0) (F61_l0_0_X0 a1 a2 a3 w11)] := ⟨(bnot_t h9), (F61_l0_0_ok K a1 a2 a3 K [] 0 _ h10), trivial⟩
   exact fn_playC hn61 (r := F61_res (w11, 0)) (q12 pz) (by kernel_rfl) (by kernel_rfl)
  obtain rfl := Option.some.inj hF
  have pz : HoldAll E H hn61 [.test (bnot r7) true] := ⟨(bnot_f h9), trivial⟩
  exact fn_playC hn61 (r := F61_res ([], 1)) (q12 pz) (by kernel_rfl) (by kernel_rfl)
 obtain rfl := Option.some.inj hF
 have pz : HoldAll E H hn61 [.call 59 [.agg (eGGraph a1), .agg (eGJob a2)] (F59_res r4), .test (leadsAny (Res.mk [(.one (.im (.lit (.int .i64 r4))))] [])) false, .test (ine r4 0) true] := ⟨(F59_ok K a1 a2 _ h5), (leads_ok (by simp [leadsAny, RV.leads, RC.leads, leadsT, hasSl_lit, flat_ns eGJob_ns])), (ine_f h6), trivial⟩
 exact fn_playC hn61 (r := F61_res ([], r4)) pz (by kernel_rfl) (by kernel_rfl)
def cutS (g : GGraph) (j : GJob) (s : GState) (p : Int) : GPart :=
 GPart.mk p s.Step ((vertsS g j p).map fun v => s.Vals.getD v 0) ((vertsS g j p).map fun v => s.Rest.getD v false) (s.In.filter fun m => ieq (m.To % j.Parts) p)
def splitS (g : GGraph) (j : GJob) (s : GState) : List GPart := (List.range j.Parts.toNat).map fun (p : Nat) => cutS g j s (p : Int)
def splitR (g : GGraph) (j : GJob) (s : GState) : List GPart × Int := bif ieq (jcheck g j) 0 then (bif stRight g j s then (splitS g j s, 0) else ([], 1)) else ([], jcheck g j)
theorem stRight_ok {g : GGraph} {j : GJob} {s : GState} (h : stRight g j s = true) : ieq (jcheck g j) 0 = true ∧ 0 ≤ s.Step ∧ s.Step ≤ 40 ∧ (s.Vals.length : Int) = g.N ∧ (s.Rest.length : Int) = g.N ∧ inSt g.N (-1) s.In = true := by
 simp only [stRight, Bool.and_eq_true, ile_iff, ieq_iff] at h
 obtain ⟨h1, h2, h3, h4, h5, h6⟩ := h
 exact ⟨ieq_iff.2 h1, h2, h3, h4, h5, h6⟩
theorem inSt_ok {n : Int} : ∀ {l : List GMsg} {v : Int}, inSt n v l = true → l.Pairwise (fun a b => a.To < b.To) ∧ (∀ m ∈ l, v < m.To ∧ m.To < n)
 | [], v, _ => ⟨List.Pairwise.nil, fun m h => (nomatch h)⟩
 | m :: l, v, h => by
   simp only [inSt, Bool.and_eq_true, ilt_iff] at h
   obtain ⟨h1, h2, h3⟩ := h
   obtain ⟨a, b⟩ := inSt_ok h3
   refine ⟨List.pairwise_cons.2 ⟨fun x hx => (b x hx).1, a⟩, fun x hx => ?_⟩
   rcases List.mem_cons.1 hx with e | e
   · subst e; exact ⟨h1, h2⟩
   · have := b x e; exact ⟨by omega, this.2⟩
theorem inSt_len {n : Int} : ∀ {l : List GMsg} {v : Int}, inSt n v l = true → v ≤ n → (l.length : Int) ≤ n - v
 | [], v, _, hv => by simp; omega
 | m :: l, v, h, hv => by
   simp only [inSt, Bool.and_eq_true, ilt_iff] at h
   obtain ⟨h1, h2, h3⟩ := h
   have := inSt_len h3 (by omega)
   simp only [List.length_cons]; omega
theorem getD_at {α : Type} {l : List α} {v : Nat} (d : α) (h : v < l.length) : inr (v : Int) (len l) = true ∧ elAt l (v : Int) = some (l.getD v d) := by
 refine ⟨decide_eq_true ⟨by omega, by show (v : Int) < (l.length : Int); omega⟩, ?_⟩
 rw [elAt_nat]; simp [h, List.getD]
theorem F131_in {K : Nat} (s : GState) (p : Int) (r : List Int) (a : List Int) (b : List Bool) (i : Nat) (x : Int) (y : Bool) (v : Int) (hi : inr (i : Int) (len r) = true) (he : elAt r (i : Int) = some v) (hl : s.In.length ≤ 1000) (hK : s.In.length < K) (acc : List GMsg) (ha : acc.length ≤ 100000) :
   F131_l1_1 K s p r a b (i : Int) x y K acc 0 = some (acc ++ s.In.filter fun m => ieq m.To v) := by
 let step : GMsg → List GMsg → (List GMsg → Option (List GMsg)) → Option (List GMsg) := fun m a c =>
     bif (inr (i : Int) (len r)) then
     (elAt r (i : Int)).bind fun z => bif (ieq m.To z) then (bif (apok (len a) 1 16) then c (appL a [m]) else none) else c a
     else none
 have h := scanL (l := s.In) (L := fun k c q => F131_l1_1 K s p r a b (i : Int) x y k c q) step (fun a => some a) (fun k s i _ => rfl) (by omega) (K := K) hK acc
 have hw : ∀ (l : List GMsg) (a : List GMsg), a.length + l.length ≤ 200000 → goL step (fun a => some a) l a = some (a ++ l.filter fun m => ieq m.To v) := by
   intro l
   induction l with
   | nil => intro a _; simp [goL]
   | cons m l ih =>
     intro a ha
     simp only [List.length_cons] at ha
     rw [goL]
     show (bif (inr (i : Int) (len r)) then
     (elAt r (i : Int)).bind fun z => bif (ieq m.To z) then (bif (apok (len a) 1 16) then goL step (fun a => some a) l (appL a [m]) else none) else goL step (fun a => some a) l a
     else none) = _
     have ap : apok (len a) 1 16 = true := decide_eq_true ⟨by show a.length + 1 ≤ _; omega, by show (a.length + 1) * 16 ≤ _; omega⟩
     rw [hi, cond_true, he, Option.bind_some, ap, List.filter_cons]
     cases ieq m.To v
     · rw [cond_false, ih a (by omega)]; rfl
     · rw [cond_true, cond_true, ih _ (by simp [appL]; omega)]; simp [appL]
 rw [hw s.In acc (by omega)] at h
 exact h
theorem F131_loop {K : Nat} (s : GState) (p : Int) (vs : List Nat) (hvl : vs.length ≤ 30) (hK : 1000 ≤ K) (hv : ∀ v ∈ vs, v < s.Vals.length ∧ v < s.Rest.length) (hl : s.In.length ≤ 500) :
   F131_l0_0 K s p (vs.map Int.ofNat) K [] [] [] 0 = some (vs.map (fun v => s.Vals.getD v 0), vs.map (fun v => s.Rest.getD v false), vs.flatMap fun (v : Nat) => s.In.filter fun m => ieq m.To (v : Int)) := by
 let step : Nat → Int → List Int × List Bool × List GMsg → (List Int × List Bool × List GMsg → Option (List Int × List Bool × List GMsg)) → Option (List Int × List Bool × List GMsg) := fun i x st c =>
     bif (inr x (len s.Vals)) then
     (elAt s.Vals x).bind fun x2246 =>
     bif (apok (len st.1) 1 8) then
     bif (inr x (len s.Rest)) then
     (elAt s.Rest x).bind fun x2250 =>
     bif (apok (len st.2.1) 1 1) then
     (F131_l1_1 K s p (vs.map Int.ofNat) st.1 st.2.1 (i : Int) x2246 x2250 K st.2.2 0).bind fun w2278 =>
     c (appL st.1 [x2246], appL st.2.1 [x2250], w2278)
     else none
     else none
     else none
     else none
 have h := scanI (l := vs.map Int.ofNat) (L := fun k (st : List Int × List Bool × List GMsg) i => F131_l0_0 K s p (vs.map Int.ofNat) k st.1 st.2.1 st.2.2 i) step (fun st => some st) (fun k st i _ => rfl) (by simp; omega) K ([], [], []) 0 (by simp; omega) (by omega)
 have hw : ∀ (r : List Nat) (i : Nat) (a : List Int) (b : List Bool) (m : List GMsg), vs.drop i = r → a.length + r.length ≤ 100 → b.length + r.length ≤ 100 → m.length + 500 * r.length ≤ 50000 →
     goI step (fun st => some st) i (r.map Int.ofNat) (a, b, m) = some (a ++ r.map (fun v => s.Vals.getD v 0), b ++ r.map (fun v => s.Rest.getD v false), m ++ r.flatMap fun (v : Nat) => s.In.filter fun m => ieq m.To (v : Int)) := by
   intro r
   induction r with
   | nil => intro i a b m _ _ _ _; simp [goI]
   | cons v r ih =>
     intro i a b m hr ha hb hm
     simp only [List.length_cons] at ha hb hm
     obtain ⟨n1, n2, hi⟩ := prev_next hr
     have hvm : v ∈ vs := by
       have : v ∈ vs.drop i := by rw [hr]; exact List.mem_cons_self
       exact List.mem_of_mem_drop this
     obtain ⟨v1, v2⟩ := hv v hvm
     obtain ⟨i1, i2⟩ := getD_at (l := s.Vals) 0 v1
     obtain ⟨i3, i4⟩ := getD_at (l := s.Rest) false v2
     have a1 : apok (len a) 1 8 = true := decide_eq_true ⟨by show a.length + 1 ≤ _; omega, by show (a.length + 1) * 8 ≤ _; omega⟩
     have a2 : apok (len b) 1 1 = true := decide_eq_true ⟨by show b.length + 1 ≤ _; omega, by show (b.length + 1) * 1 ≤ _; omega⟩
     have j1 : inr (i : Int) (len (vs.map Int.ofNat)) = true := decide_eq_true ⟨by omega, by show (i : Int) < ((vs.map Int.ofNat).length : Int); simp; omega⟩
     have j2 : elAt (vs.map Int.ofNat) (i : Int) = some (v : Int) := by
       rw [elAt_nat, List.getElem?_map, show vs[i]? = some v from n1]; rfl
     rw [List.map_cons, goI]
     show (bif (inr (v : Int) (len s.Vals)) then
     (elAt s.Vals (v : Int)).bind fun x2246 =>
     bif (apok (len a) 1 8) then
     bif (inr (v : Int) (len s.Rest)) then
     (elAt s.Rest (v : Int)).bind fun x2250 =>
     bif (apok (len b) 1 1) then
     (F131_l1_1 K s p (vs.map Int.ofNat) a b (i : Int) x2246 x2250 K m 0).bind fun w2278 =>
     goI step (fun st => some st) (i + 1) (r.map Int.ofNat) (appL a [x2246], appL b [x2250], w2278)
     else none
     else none
     else none
     else none) = _
     have hfl : (s.In.filter fun m => ieq m.To (v : Int)).length ≤ 500 := Nat.le_trans (List.length_filter_le _ _) hl
     rw [i1, cond_true, i2, Option.bind_some, a1, cond_true, i3, cond_true, i4, Option.bind_some, a2, cond_true, F131_in (K := K) s p (vs.map Int.ofNat) a b i _ _ (v : Int) j1 j2 (by omega) (by omega) m (by omega), Option.bind_some,
       ih (i + 1) _ _ _ n2 (by simp [appL]; omega) (by simp [appL]; omega) (by simp only [List.length_append]; omega)]
     simp [appL]
 have := hw vs 0 [] [] [] rfl (by simp; omega) (by simp; omega) (by simp; omega)
 rw [List.drop_zero, this] at h
 simpa using h
theorem flat_filter {g : GGraph} {j : GJob} (hp : 1 ≤ j.Parts) {s : GState} (hs : s.In.Pairwise fun a b => a.To < b.To) (hr : ∀ m ∈ s.In, 0 ≤ m.To ∧ m.To < g.N) (p : Int) :
   ((vertsS g j p).flatMap fun (v : Nat) => s.In.filter fun m => ieq m.To (v : Int)) = s.In.filter fun m => ieq (m.To % j.Parts) p := by
 refine sorted_ext (lt := fun a b : GMsg => a.To < b.To) (fun a b h => by omega) ?_ (hs.filter _) fun m => ?_
 · refine List.pairwise_flatMap.2 ⟨fun v _ => hs.filter _, ?_⟩
   have hv : (vertsS g j p).Pairwise (· < ·) := by
     unfold vertsS vertsN
     exact List.pairwise_lt_range.filter _
   refine hv.imp fun {a b} hab x hx y hy => ?_
   have h1 := ieq_iff.1 (List.mem_filter.1 hx).2
   have h2 := ieq_iff.1 (List.mem_filter.1 hy).2
   omega
 · simp only [List.mem_flatMap, List.mem_filter, ieq_iff]
   constructor
   · rintro ⟨v, hv, hm, e⟩
     have := (mem_verts hp).1 hv
     exact ⟨hm, by rw [e]; exact this.2⟩
   · rintro ⟨hm, e⟩
     obtain ⟨h0, h1⟩ := hr m hm
     obtain ⟨v, hv⟩ := Int.eq_ofNat_of_zero_le h0
     exact ⟨v, (mem_verts hp).2 ⟨by omega, by rw [← hv]; exact e⟩, hm, hv⟩
theorem F131_spec {K : Nat} (hK : 1000 ≤ K) {g : GGraph} {j : GJob} {s : GState} (h : stRight g j s = true) (p : Int) : F131 K g j s p = some (cutS g j s p) := by
 obtain ⟨hc, s1, s2, s3, s4, s5⟩ := stRight_ok h
 obtain ⟨hg, p1, p2, p3, p4, p5, p6, p7, p8⟩ := jcheck_ok hc
 obtain ⟨g1, g2, _, _⟩ := gcheck_ok hg
 obtain ⟨q1, q2⟩ := inSt_ok s5
 have hlen := inSt_len s5 (by omega)
 have hvl := verts_len g j g2 p
 rw [F131, F139_spec (by omega) p7 p8 g2, Option.bind_some, F131_loop s p (vertsS g j p) (by omega) hK (fun v hv => by have := (mem_verts p7).1 hv; omega) (by omega), Option.bind_some]
 rw [flat_filter p7 q1 (fun m hm => by have := q2 m hm; omega)]; rfl
theorem F61_loop {K : Nat} (hK : 1000 ≤ K) (g : GGraph) (j : GJob) (s : GState) (h : stRight g j s = true) : F61_l0_0 K g j s K [] 0 = some (splitS g j s) := by
 obtain ⟨hc, s1, s2, s3, s4, s5⟩ := stRight_ok h
 obtain ⟨hg, p1, p2, p3, p4, p5, p6, p7, p8⟩ := jcheck_ok hc
 let step : Nat → List GPart → (List GPart → Option (List GPart)) → Option (List GPart) := fun i out c =>
     (F131 K g j s (i : Int)).bind fun r => bif (apok (len out) 1 88) then c (appL out [r]) else none
 have hs := scanN (N := j.Parts) (L := fun k a i => F61_l0_0 K g j s k a i) step (fun a => some a) (fun k s i _ => rfl) (by omega) (K := K) (by omega) []
 have hw : ∀ (l : List Nat) (out : List GPart), out.length + l.length ≤ 100 → goL step (fun a => some a) l out = some (out ++ l.map fun (p : Nat) => cutS g j s (p : Int)) := by
   intro l
   induction l with
   | nil => intro out _; simp [goL]
   | cons p l ih =>
     intro out ho
     simp only [List.length_cons] at ho
     have ap : apok (len out) 1 88 = true := decide_eq_true ⟨by show out.length + 1 ≤ _; omega, by show (out.length + 1) * 88 ≤ _; omega⟩
     rw [goL]
     show ((F131 K g j s (p : Int)).bind fun r => bif (apok (len out) 1 88) then goL step (fun a => some a) l (appL out [r]) else none) = _
     rw [F131_spec hK h, Option.bind_some, ap, cond_true, ih _ (by simp [appL]; omega)]
     simp [appL]
 rw [hw _ [] (by simp; omega)] at hs
 exact hs
theorem F61_spec {K : Nat} (hK : 1000 ≤ K) (g : GGraph) (j : GJob) (s : GState) (hl : s.In.length < 1000) : F61 K g j s = some (splitR g j s) := by
 rw [F61, F59_spec (by omega), Option.bind_some, splitR]
 cases hc : ieq (jcheck g j) 0
 · rfl
 · rw [cond_true, cond_true, F88_spec hK g j s (by omega) (by omega), Option.bind_some]
   cases hr : stRight g j s
   · rfl
   · rw [cond_true, cond_true, F61_loop hK g j s hr]; rfl
noncomputable def hn130 : Hint := { H 130 with nt := 117, prot := 0 }
noncomputable def c130_0 : Code := loopOf E 130 0
def F130_res (r1 : GState × Int) : Res := ⟨[(.agg [(.im (.lit (.int .i64 r1.1.Step))), (.own 2 (.sl (len r1.1.Vals) (flat (eInt .i64) r1.1.Vals))), (.own 4 (.sl (len r1.1.Rest) (flat eBool r1.1.Rest))), (.own 130 (.sl (len r1.1.In) (flat eGMsg r1.1.In)))]), (.one (.im (.lit (.int .i64 r1.2))))], []⟩
def F130_l0_0 (K : Nat) (a1 : GGraph) (a2 : GJob) (a3 : GState) : Nat → List Int → List Bool → List GMsg → Int → Option ((Int) ⊕ (List Int × List Bool × List GMsg))
 | 0, _, _, _, _ => none
 | k + 1, v4, v5, v6, v7 =>
  bif (ilt v7 a1.N) then
   ((F151 K a3.In v7).bind fun r8 =>
   bif (inr v7 (len a3.Vals)) then
   (elAt a3.Vals v7).bind fun x9 =>
   bif r8.2 then
    ((F100 K a1 a2 a3.Step v7 x9 r8.1 r8.2).bind fun r10 =>
    bif (ieq r10.E 0) then
     (bif (apok (len v4) 1 8) then
     bif (apok (len v5) 1 1) then
     bif (apok (len v6) (len r10.Out) 16) then
     F130_l0_0 K a1 a2 a3 k (appL v4 [r10.Val]) (appL v5 [r10.Rest]) (appL v6 r10.Out) (wadd .i64 v7 1)
     else none
     else none
     else none)
    else
    some (.inl r10.E))
   else
   bif (inr v7 (len a3.Rest)) then
   (elAt a3.Rest v7).bind fun x11 =>
   bif x11 then
    (bif (apok (len v4) 1 8) then
    bif (apok (len v5) 1 1) then
    bif (apok (len v6) 0 16) then
    F130_l0_0 K a1 a2 a3 k (appL v4 [x9]) (appL v5 [true]) (appL v6 []) (wadd .i64 v7 1)
    else none
    else none
    else none)
   else
   (F100 K a1 a2 a3.Step v7 x9 r8.1 r8.2).bind fun r12 =>
   bif (ieq r12.E 0) then
    (bif (apok (len v4) 1 8) then
    bif (apok (len v5) 1 1) then
    bif (apok (len v6) (len r12.Out) 16) then
    F130_l0_0 K a1 a2 a3 k (appL v4 [r12.Val]) (appL v5 [r12.Rest]) (appL v6 r12.Out) (wadd .i64 v7 1)
    else none
    else none
    else none)
   else
   some (.inl r12.E)
   else none
   else none)
  else
  some (.inr (v4, (v5, v6)))
def F130_l0_0_S (a1 : GGraph) (a2 : GJob) (a3 : GState) (v4 : List Int) (v5 : List Bool) (v6 : List GMsg) (v7 : Int) : TS := .on [192, 193, 194, 256, 257, 258, 259, 260, 320, 321, 322, 323, 324, 384, 385, 386, 387, 388, 576, 577, 578, 579, 580, 640, 641, 704, 705] [(192, ⟨(.box 62 2), 0, nob⟩), (193, ⟨.im, 0, (.lit (.int .i64 a1.N))⟩), (194, ⟨.im, 0, (.sl (len a1.Edges) (flat eGEdge a1.Edges))⟩), (256, ⟨(.box 64 4), 0, nob⟩), (257, ⟨.im, 0, (.lit (.int .i64 a2.Prog))⟩), (258, ⟨.im, 0, (.lit (.int .i64 a2.Source))⟩), (259, ⟨.im, 0, (.lit (.int .i64 a2.Limit))⟩), (260, ⟨.im, 0, (.lit (.int .i64 a2.Parts))⟩), (320, ⟨(.box 74 4), 0, nob⟩), (321, ⟨.im, 0, (.lit (.int .i64 a3.Step))⟩), (322, ⟨.im, 0, (.sl (len a3.Vals) (flat (eInt .i64) a3.Vals))⟩), (323, ⟨.im, 0, (.sl (len a3.Rest) (flat eBool a3.Rest))⟩), (324, ⟨.im, 0, (.sl (len a3.In) (flat eGMsg a3.In))⟩), (384, ⟨(.box 74 4), 0, nob⟩), (385, ⟨.im, 0, (.lit (.int .i64 0))⟩), (386, ⟨(.own 2), 0, (.sl 0 [])⟩), (387, ⟨(.own 4), 0, (.sl 0 [])⟩), (388, ⟨(.own 130), 0, (.sl 0 [])⟩), (576, ⟨(.box 74 4), 0, nob⟩), (577, ⟨.im, 0, (.lit (.int .i64 (wadd .i64 a3.Step 1)))⟩), (578, ⟨(.own 2), 0, (.sl (len v4) (flat (eInt .i64) v4))⟩), (579, ⟨(.own 4), 0, (.sl (len v5) (flat eBool v5))⟩), (580, ⟨(.own 130), 0, (.sl 0 [])⟩), (640, ⟨.one, 0, nob⟩), (641, ⟨(.own 130), 0, (.sl (len v6) (flat eGMsg v6))⟩), (704, ⟨.one, 0, nob⟩), (705, ⟨.im, 0, (.lit (.int .i64 v7))⟩)]
def F130_l0_0_X0 (a1 : GGraph) (a2 : GJob) (a3 : GState) (w4 : Int) : TS := .on [384, 385, 386, 387, 388, 448, 449] [(384, ⟨(.box 74 4), 0, nob⟩), (385, ⟨.im, 0, (.lit (.int .i64 0))⟩), (386, ⟨(.own 2), 0, (.sl 0 [])⟩), (387, ⟨(.own 4), 0, (.sl 0 [])⟩), (388, ⟨(.own 130), 0, (.sl 0 [])⟩), (448, ⟨.one, 0, nob⟩), (449, ⟨.im, 0, (.lit (.int .i64 w4))⟩)]
def F130_l0_0_X1 (a1 : GGraph) (a2 : GJob) (a3 : GState) (w4 : List Int × List Bool × List GMsg) : TS := .on [256, 257, 258, 259, 260, 384, 385, 386, 387, 388, 576, 577, 578, 579, 580, 640, 641] [(256, ⟨(.box 64 4), 0, nob⟩), (257, ⟨.im, 0, (.lit (.int .i64 a2.Prog))⟩), (258, ⟨.im, 0, (.lit (.int .i64 a2.Source))⟩), (259, ⟨.im, 0, (.lit (.int .i64 a2.Limit))⟩), (260, ⟨.im, 0, (.lit (.int .i64 a2.Parts))⟩), (384, ⟨(.box 74 4), 0, nob⟩), (385, ⟨.im, 0, (.lit (.int .i64 0))⟩), (386, ⟨(.own 2), 0, (.sl 0 [])⟩), (387, ⟨(.own 4), 0, (.sl 0 [])⟩), (388, ⟨(.own 130), 0, (.sl 0 [])⟩), (576, ⟨(.box 74 4), 0, nob⟩), (577, ⟨.im, 0, (.lit (.int .i64 (wadd .i64 a3.Step 1)))⟩), (578, ⟨(.own 2), 0, (.sl (len w4.1) (flat (eInt .i64) w4.1))⟩), (579, ⟨(.own 4), 0, (.sl (len w4.2.1) (flat eBool w4.2.1))⟩), (580, ⟨(.own 130), 0, (.sl 0 [])⟩), (640, ⟨.one, 0, nob⟩), (641, ⟨(.own 130), 0, (.sl (len w4.2.2) (flat eGMsg w4.2.2))⟩)]
theorem F130_l0_0_ok (K : Nat) (a1 : GGraph) (a2 : GJob) (a3 : GState) : ∀ (k : Nat) (v4 : List Int) (v5 : List Bool) (v6 : List GMsg) (v7 : Int) (r : (Int) ⊕ (List Int × List Bool × List GMsg)), F130_l0_0 K a1 a2 a3 k v4 v5 v6 v7 = some r → (Sum.elim (fun w => LoopEv E H hn130 0 c130_0 (F130_l0_0_S a1 a2 a3 v4 v5 v6 v7) .ret (F130_l0_0_X0 a1 a2 a3 w)) (fun w => LoopEv E H hn130 0 c130_0 (F130_l0_0_S a1 a2 a3 v4 v5 v6 v7) (.exit 0) (F130_l0_0_X1 a1 a2 a3 w))) r := by
 intro k
 induction k with
 | zero => intro v4 v5 v6 v7 r hF; cases hF
 | succ k ih =>
  intro v4 v5 v6 v7 r hF
  rw [F130_l0_0] at hF
  refine cond_some hF (fun h8 hF => ?_) (fun h8 hF => ?_)
  ·
   refine bind_some hF (fun r9 h10 hF => ?_)
   refine cond_some hF (fun h11 hF => ?_) (fun _ hF => nomatch hF)
   refine bind_some hF (fun x12 h13 hF => ?_)
   have q34 : PQ hn130 fun l => (.test (ilt v7 a1.N) true :: .call 151 [.one (.sl (len a3.In) (flat eGMsg a3.In)), .one (.lit (.int .i64 v7))] (F151_res r9) :: .test (leadsAny (Res.mk [(.one (.im (.lit (.int .i64 r9.1)))), (.one (.im (.lit (.bool r9.2))))] [])) false :: .test (inr v7 (len a3.Vals)) true :: .sub (flat (eInt .i64) a3.Vals) (nidx v7 1) 1 [(.lit (.int .i64 x12))] :: l) := fun z => ⟨h8, (F151_ok K a3.In v7 _ h10), (leads_ok (by simp [leadsAny, RV.leads, RC.leads, leadsT, hasSl_lit, flat_ns (eInt_ns _), flat_ns eGMsg_ns])), h11, ⟨rfl, sub_flat0 (eInt_len _) h13 1 (by decide)⟩, z⟩
   refine cond_some hF (fun h14 hF => ?_) (fun h14 hF => ?_)
   ·
    refine bind_some hF (fun r15 h16 hF => ?_)
    have q35 : PQ hn130 fun l => (.test (beqb r9.2 false) false :: .test (beqb r9.2 false) false :: .test (beqb r9.2 false) false :: .test (beqb r9.2 false) false :: .test (beqb r9.2 false) false :: .test (beqb r9.2 false) false :: .test r9.2 true :: .test true true :: .test (inr v7 (len a3.Vals)) true :: .sub (flat (eInt .i64) a3.Vals) (nidx v7 1) 1 [(.lit (.int .i64 x12))] :: .call 100 [.agg (eGGraph a1), .agg (eGJob a2), .one (.lit (.int .i64 a3.Step)), .one (.lit (.int .i64 v7)), .one (.lit (.int .i64 x12)), .one (.lit (.int .i64 r9.1)), .one (.lit (.bool r9.2))] (F100_res r15) :: .test (leadsAny (Res.mk [(.agg [(.im (.lit (.int .i64 r15.Val))), (.own 130 (.sl (len r15.Out) (flat eGMsg r15.Out))), (.im (.lit (.bool r15.Rest))), (.im (.lit (.int .i64 r15.E)))])] [])) false :: l) := fun z => ⟨(beqb_ft h14), (beqb_ft h14), (beqb_ft h14), (beqb_ft h14), (beqb_ft h14), (beqb_ft h14), h14, rfl, h11, ⟨rfl, sub_flat0 (eInt_len _) h13 1 (by decide)⟩, (F100_ok K a1 a2 a3.Step v7 x12 r9.1 r9.2 _ h16), (leads_ok (by simp [leadsAny, RV.leads, RC.leads, leadsT, hasSl_lit, flat_ns (eInt_ns _), flat_ns eGJob_ns, flat_ns eGMsg_ns])), z⟩
    refine cond_some hF (fun h17 hF => ?_) (fun h17 hF => ?_)
    ·
     refine cond_some hF (fun h18 hF => ?_) (fun _ hF => nomatch hF)
     refine cond_some hF (fun h19 hF => ?_) (fun _ hF => nomatch hF)
     refine cond_some hF (fun h20 hF => ?_) (fun _ hF => nomatch hF)
     have pz : HoldAll E H hn130 [.test (ine r15.E 0) false, .test (leqm [(.lit (.int .i64 r15.Val))] 1 1) true, .test (apok (len v4) 1 8) true, .sl (nadd (len v4) 1) (lapp (flat (eInt .i64) v4) [(.lit (.int .i64 r15.Val))]) (len (α := Int) (appL v4 [r15.Val])) (flat (eInt .i64) (appL v4 [r15.Val])), .test (leqm [(.lit (.bool r15.Rest))] 1 1) true, .test (apok (len v5) 1 1) true, .sl (nadd (len v5) 1) (lapp (flat eBool v5) [(.lit (.bool r15.Rest))]) (len (α := Bool) (appL v5 [r15.Rest])) (flat eBool (appL v5 [r15.Rest])), .test (leqm (flat eGMsg r15.Out) (len r15.Out) 2) true, .test (apok (len v6) (len r15.Out) 16) true, .sl (nadd (len v6) (len r15.Out)) (lapp (flat eGMsg v6) (flat eGMsg r15.Out)) (len (α := GMsg) (appL v6 r15.Out)) (flat eGMsg (appL v6 r15.Out)), .int (wadd .i64 v7 1) (wadd .i64 v7 1)] := ⟨(ine_t h17), rfl, h18, (app_ok (enc := (eInt .i64)) (v4 : List Int) [r15.Val]), rfl, h19, (app_ok (enc := eBool) (v5 : List Bool) [r15.Rest]), (leqm_flat eGMsg_len _), h20, (app_ok (enc := eGMsg) (v6 : List GMsg) r15.Out), rfl, trivial⟩
     have h0 := ih _ _ _ _ _ hF
     have hn := fun ex ts' => loop_nextC (h := hn130) (l := 0) (c := c130_0) (ts := F130_l0_0_S a1 a2 a3 v4 v5 v6 v7) (ts1 := (F130_l0_0_S a1 a2 a3 (appL v4 [r15.Val]) (appL v5 [r15.Rest]) (appL v6 r15.Out) (wadd .i64 v7 1))) (ex := ex) (ts' := ts') (q34 (q35 pz)) (by kernel_rfl)
     cases r with
     | inl w => exact hn _ _ h0
     | inr w => exact hn _ _ h0
    obtain rfl := Option.some.inj hF
    have pz : HoldAll E H hn130 [.test (ine r15.E 0) true] := ⟨(ine_f h17), trivial⟩
    exact loop_endC (h := hn130) (l := 0) (c := c130_0) (ts := F130_l0_0_S a1 a2 a3 v4 v5 v6 v7) (ts' := F130_l0_0_X0 a1 a2 a3 r15.E) (ex := .ret) (q34 (q35 pz)) (by kernel_rfl) trivial
   refine cond_some hF (fun h21 hF => ?_) (fun _ hF => nomatch hF)
   refine bind_some hF (fun x22 h23 hF => ?_)
   have q36 : PQ hn130 fun l => (.test (beqb r9.2 false) true :: .test (beqb r9.2 false) true :: .test (beqb r9.2 false) true :: .test (beqb r9.2 false) true :: .test (inr v7 (len a3.Rest)) true :: .test (beqb r9.2 false) true :: .sub (flat eBool a3.Rest) (nidx v7 1) 1 [(.lit (.bool x22))] :: .test (beqb r9.2 false) true :: .test r9.2 false :: l) := fun z => ⟨(beqb_ff h14), (beqb_ff h14), (beqb_ff h14), (beqb_ff h14), h21, (beqb_ff h14), ⟨rfl, sub_flat0 eBool_len h23 1 (by decide)⟩, (beqb_ff h14), h14, z⟩
   refine cond_some hF (fun h24 hF => ?_) (fun h24 hF => ?_)
   ·
    refine cond_some hF (fun h25 hF => ?_) (fun _ hF => nomatch hF)
    refine cond_some hF (fun h26 hF => ?_) (fun _ hF => nomatch hF)
    refine cond_some hF (fun h27 hF => ?_) (fun _ hF => nomatch hF)
    have pz : HoldAll E H hn130 [.test (bnot x22) false, .test (ine 0 0) false, .test (leqm [(.lit (.int .i64 x12))] 1 1) true, .test (apok (len v4) 1 8) true, .sl (nadd (len v4) 1) (lapp (flat (eInt .i64) v4) [(.lit (.int .i64 x12))]) (len (α := Int) (appL v4 [x12])) (flat (eInt .i64) (appL v4 [x12])), .test (leqm [(.lit (.bool true))] 1 1) true, .test (apok (len v5) 1 1) true, .sl (nadd (len v5) 1) (lapp (flat eBool v5) [(.lit (.bool true))]) (len (α := Bool) (appL v5 [true])) (flat eBool (appL v5 [true])), .test (leqm [] 0 2) true, .test (apok (len v6) 0 16) true, .sl (nadd (len v6) 0) (lapp (flat eGMsg v6) []) (len (α := GMsg) (appL v6 [])) (flat eGMsg (appL v6 [])), .int (wadd .i64 v7 1) (wadd .i64 v7 1)] := ⟨(bnot_t h24), (by first | exact rfl | (unfold Cond.Holds; decide)), rfl, h25, (app_ok (enc := (eInt .i64)) (v4 : List Int) [x12]), rfl, h26, (app_ok (enc := eBool) (v5 : List Bool) [true]), rfl, h27, (app_ok (enc := eGMsg) (v6 : List GMsg) []), rfl, trivial⟩
    have h0 := ih _ _ _ _ _ hF
    have hn := fun ex ts' => loop_nextC (h := hn130) (l := 0) (c := c130_0) (ts := F130_l0_0_S a1 a2 a3 v4 v5 v6 v7) (ts1 := (F130_l0_0_S a1 a2 a3 (appL v4 [x12]) (appL v5 [true]) (appL v6 []) (wadd .i64 v7 1))) (ex := ex) (ts' := ts') (q34 (q36 pz)) (by kernel_rfl)
    cases r with
    | inl w => exact hn _ _ h0
    | inr w => exact hn _ _ h0
   refine bind_some hF (fun r28 h29 hF => ?_)
   have q37 : PQ hn130 fun l => (.test (bnot x22) true :: .test (inr v7 (len a3.Vals)) true :: .sub (flat (eInt .i64) a3.Vals) (nidx v7 1) 1 [(.lit (.int .i64 x12))] :: .call 100 [.agg (eGGraph a1), .agg (eGJob a2), .one (.lit (.int .i64 a3.Step)), .one (.lit (.int .i64 v7)), .one (.lit (.int .i64 x12)), .one (.lit (.int .i64 r9.1)), .one (.lit (.bool r9.2))] (F100_res r28) :: .test (leadsAny (Res.mk [(.agg [(.im (.lit (.int .i64 r28.Val))), (.own 130 (.sl (len r28.Out) (flat eGMsg r28.Out))), (.im (.lit (.bool r28.Rest))), (.im (.lit (.int .i64 r28.E)))])] [])) false :: l) := fun z => ⟨(bnot_f h24), h11, ⟨rfl, sub_flat0 (eInt_len _) h13 1 (by decide)⟩, (F100_ok K a1 a2 a3.Step v7 x12 r9.1 r9.2 _ h29), (leads_ok (by simp [leadsAny, RV.leads, RC.leads, leadsT, hasSl_lit, flat_ns (eInt_ns _), flat_ns eGJob_ns, flat_ns eGMsg_ns])), z⟩
   refine cond_some hF (fun h30 hF => ?_) (fun h30 hF => ?_)
   ·
    refine cond_some hF (fun h31 hF => ?_) (fun _ hF => nomatch hF)
    refine cond_some hF (fun h32 hF => ?_) (fun _ hF => nomatch hF)
    refine cond_some hF (fun h33 hF => ?_) (fun _ hF => nomatch hF)
    have pz : HoldAll E H hn130 [.test (ine r28.E 0) false, .test (leqm [(.lit (.int .i64 r28.Val))] 1 1) true, .test (apok (len v4) 1 8) true, .sl (nadd (len v4) 1) (lapp (flat (eInt .i64) v4) [(.lit (.int .i64 r28.Val))]) (len (α := Int) (appL v4 [r28.Val])) (flat (eInt .i64) (appL v4 [r28.Val])), .test (leqm [(.lit (.bool r28.Rest))] 1 1) true, .test (apok (len v5) 1 1) true, .sl (nadd (len v5) 1) (lapp (flat eBool v5) [(.lit (.bool r28.Rest))]) (len (α := Bool) (appL v5 [r28.Rest])) (flat eBool (appL v5 [r28.Rest])), .test (leqm (flat eGMsg r28.Out) (len r28.Out) 2) true, .test (apok (len v6) (len r28.Out) 16) true, .sl (nadd (len v6) (len r28.Out)) (lapp (flat eGMsg v6) (flat eGMsg r28.Out)) (len (α := GMsg) (appL v6 r28.Out)) (flat eGMsg (appL v6 r28.Out)), .int (wadd .i64 v7 1) (wadd .i64 v7 1)] := ⟨(ine_t h30), rfl, h31, (app_ok (enc := (eInt .i64)) (v4 : List Int) [r28.Val]), rfl, h32, (app_ok (enc := eBool) (v5 : List Bool) [r28.Rest]), (leqm_flat eGMsg_len _), h33, (app_ok (enc := eGMsg) (v6 : List GMsg) r28.Out), rfl, trivial⟩
    have h0 := ih _ _ _ _ _ hF
    have hn := fun ex ts' => loop_nextC (h := hn130) (l := 0) (c := c130_0) (ts := F130_l0_0_S a1 a2 a3 v4 v5 v6 v7) (ts1 := (F130_l0_0_S a1 a2 a3 (appL v4 [r28.Val]) (appL v5 [r28.Rest]) (appL v6 r28.Out) (wadd .i64 v7 1))) (ex := ex) (ts' := ts') (q34 (q36 (q37 pz))) (by kernel_rfl)
    cases r with
    | inl w => exact hn _ _ h0
    | inr w => exact hn _ _ h0
   obtain rfl := Option.some.inj hF
   have pz : HoldAll E H hn130 [.test (ine r28.E 0) true] := ⟨(ine_f h30), trivial⟩
   exact loop_endC (h := hn130) (l := 0) (c := c130_0) (ts := F130_l0_0_S a1 a2 a3 v4 v5 v6 v7) (ts' := F130_l0_0_X0 a1 a2 a3 r28.E) (ex := .ret) (q34 (q36 (q37 pz))) (by kernel_rfl) trivial
  obtain rfl := Option.some.inj hF
  have pz : HoldAll E H hn130 [.test (ilt v7 a1.N) false] := ⟨h8, trivial⟩
  exact loop_endC (h := hn130) (l := 0) (c := c130_0) (ts := F130_l0_0_S a1 a2 a3 v4 v5 v6 v7) (ts' := F130_l0_0_X1 a1 a2 a3 (v4, (v5, v6))) (ex := (.exit 0)) pz (by kernel_rfl) trivial
def F130 (K : Nat) (a1 : GGraph) (a2 : GJob) (a3 : GState) : Option (GState × Int) :=
 (F59 K a1 a2).bind fun r4 =>
 bif (ieq r4 0) then
  ((F88 K a1 a2 a3).bind fun r5 =>
  bif r5 then
   (bif (ieq a3.Step 40) then
    (some ((GState.mk 0 [] [] []), 6))
   else
   (F130_l0_0 K a1 a2 a3 K [] [] [] 0).bind fun y6 =>
   Sum.elim (fun w7 =>
    some ((GState.mk 0 [] [] []), w7))
    (fun w8 =>
    (F152 K a2.Prog w8.2.2).bind fun r9 =>
    bif (ieq r9.2 0) then
     (some ((GState.mk (wadd .i64 a3.Step 1) w8.1 w8.2.1 r9.1), 0))
    else
    some ((GState.mk 0 [] [] []), r9.2)) y6)
  else
  some ((GState.mk 0 [] [] []), 1))
 else
 some ((GState.mk 0 [] [] []), r4)
theorem F130_ok (K : Nat) (a1 : GGraph) (a2 : GJob) (a3 : GState) (r : GState × Int) (hF : F130 K a1 a2 a3 = some r) : Evt E H 130 [.agg (eGGraph a1), .agg (eGJob a2), .agg (eGState a3)] (F130_res r) := by
 rw [F130] at hF
 refine bind_some hF (fun r4 h5 hF => ?_)
 refine cond_some hF (fun h6 hF => ?_) (fun h6 hF => ?_)
 ·
  refine bind_some hF (fun r7 h8 hF => ?_)
  have q18 : PQ hn130 fun l => (.call 59 [.agg (eGGraph a1), .agg (eGJob a2)] (F59_res r4) :: .test (leadsAny (Res.mk [(.one (.im (.lit (.int .i64 r4))))] [])) false :: .test (ine r4 0) false :: .call 88 [.agg (eGGraph a1), .agg (eGJob a2), .agg (eGState a3)] (F88_res r7) :: .test (leadsAny (Res.mk [(.one (.im (.lit (.bool r7))))] [])) false :: l) := fun z => ⟨(F59_ok K a1 a2 _ h5), (leads_ok (by simp [leadsAny, RV.leads, RC.leads, leadsT, hasSl_lit, flat_ns eGJob_ns])), (ine_t h6), (F88_ok K a1 a2 a3 _ h8), (leads_ok (by simp [leadsAny, RV.leads, RC.leads, leadsT, hasSl_lit, flat_ns eGJob_ns])), z⟩
  refine cond_some hF (fun h9 hF => ?_) (fun h9 hF => ?_)
  ·
   refine cond_some hF (fun h10 hF => ?_) (fun h10 hF => ?_)
   ·
    obtain rfl := Option.some.inj hF
    have pz : HoldAll E H hn130 [.test (bnot r7) false, .test (ieq a3.Step 40) true] := ⟨(bnot_t h9), h10, trivial⟩
    exact fn_playC hn130 (r := F130_res ((GState.mk 0 [] [] []), 6)) (q18 pz) (by kernel_rfl) (by kernel_rfl)
   have q19 : PQ hn130 fun l => (.test (bnot r7) false :: .test (ieq a3.Step 40) false :: .int (wadd .i64 a3.Step 1) (wadd .i64 a3.Step 1) :: l) := fun z => ⟨(bnot_t h9), h10, rfl, z⟩
   refine bind_some hF (fun y12 h11 hF => ?_)
   refine sum_some hF (fun w13 hx hF => ?_) (fun w14 hx hF => ?_)
   ·
    subst hx
    obtain rfl := Option.some.inj hF
    have pz : HoldAll E H hn130 [.loop 0 c130_0 (F130_l0_0_S a1 a2 a3 [] [] [] 0) .ret (F130_l0_0_X0 a1 a2 a3 w13)] := ⟨(F130_l0_0_ok K a1 a2 a3 K [] [] [] 0 _ h11), trivial⟩
    exact fn_playC hn130 (r := F130_res ((GState.mk 0 [] [] []), w13)) (q18 (q19 pz)) (by kernel_rfl) (by kernel_rfl)
   subst hx
   refine bind_some hF (fun r15 h16 hF => ?_)
   have q20 : PQ hn130 fun l => (.loop 0 c130_0 (F130_l0_0_S a1 a2 a3 [] [] [] 0) (.exit 0) (F130_l0_0_X1 a1 a2 a3 w14) :: .call 152 [.one (.lit (.int .i64 a2.Prog)), .one (.sl (len w14.2.2) (flat eGMsg w14.2.2))] (F152_res r15) :: .test (leadsAny (Res.mk [(.one (.own 130 (.sl (len r15.1) (flat eGMsg r15.1)))), (.one (.im (.lit (.int .i64 r15.2))))] [])) false :: l) := fun z => ⟨(F130_l0_0_ok K a1 a2 a3 K [] [] [] 0 _ h11), (F152_ok K a2.Prog w14.2.2 _ h16), (leads_ok (by simp [leadsAny, RV.leads, RC.leads, leadsT, hasSl_lit, flat_ns eGMsg_ns])), z⟩
   refine cond_some hF (fun h17 hF => ?_) (fun h17 hF => ?_)
   ·
    obtain rfl := Option.some.inj hF
    have pz : HoldAll E H hn130 [.test (ine r15.2 0) false] := ⟨(ine_t h17), trivial⟩
    exact fn_playC hn130 (r := F130_res ((GState.mk (wadd .i64 a3.Step 1) w14.1 w14.2.1 r15.1), 0)) (q18 (q19 (q20 pz))) (by kernel_rfl) (by kernel_rfl)
   obtain rfl := Option.some.inj hF
   have pz : HoldAll E H hn130 [.test (ine r15.2 0) true] := ⟨(ine_f h17), trivial⟩
   exact fn_playC hn130 (r := F130_res ((GState.mk 0 [] [] []), r15.2)) (q18 (q19 (q20 pz))) (by kernel_rfl) (by kernel_rfl)
  obtain rfl := Option.some.inj hF
  have pz : HoldAll E H hn130 [.test (bnot r7) true] := ⟨(bnot_f h9), trivial⟩
  exact fn_playC hn130 (r := F130_res ((GState.mk 0 [] [] []), 1)) (q18 pz) (by kernel_rfl) (by kernel_rfl)
 obtain rfl := Option.some.inj hF
 have pz : HoldAll E H hn130 [.call 59 [.agg (eGGraph a1), .agg (eGJob a2)] (F59_res r4), .test (leadsAny (Res.mk [(.one (.im (.lit (.int .i64 r4))))] [])) false, .test (ine r4 0) true] := ⟨(F59_ok K a1 a2 _ h5), (leads_ok (by simp [leadsAny, RV.leads, RC.leads, leadsT, hasSl_lit, flat_ns eGJob_ns])), (ine_f h6), trivial⟩
 exact fn_playC hn130 (r := F130_res ((GState.mk 0 [] [] []), r4)) pz (by kernel_rfl) (by kernel_rfl)
abbrev Tri := List Int × List Bool × List GMsg
def oneS (g : GGraph) (j : GJob) (s : GState) (v : Nat) : Int × List GMsg × Bool × Int :=
 bif s.Rest.getD v false && !(atS s.In (v : Int)).2 then (s.Vals.getD v 0, [], true, 0)
 else turnS g j s.Step (v : Int) (s.Vals.getD v 0) (atS s.In (v : Int)).1 (atS s.In (v : Int)).2
def stepA (g : GGraph) (j : GJob) (s : GState) : List Nat → List Int → List Bool → List GMsg → Int ⊕ Tri
 | [], a, b, c => .inr (a, b, c)
 | v :: l, a, b, c => bif ieq (oneS g j s v).2.2.2 0 then stepA g j s l (a ++ [(oneS g j s v).1]) (b ++ [(oneS g j s v).2.2.1]) (c ++ (oneS g j s v).2.1) else .inl (oneS g j s v).2.2.2
def zeroS : GState := GState.mk 0 [] [] []
def stepB (g : GGraph) (j : GJob) (s : GState) : Int ⊕ Tri → GState × Int
 | .inl e => (zeroS, e)
 | .inr w => bif ieq (boxS j.Prog w.2.2).2 0 then (GState.mk (s.Step + 1) w.1 w.2.1 (boxS j.Prog w.2.2).1, 0) else (zeroS, (boxS j.Prog w.2.2).2)
def stepS (g : GGraph) (j : GJob) (s : GState) : GState × Int :=
 bif ieq (jcheck g j) 0 then (bif stRight g j s then (bif ieq s.Step 40 then (zeroS, 6) else stepB g j s (stepA g j s (List.range g.N.toNat) [] [] [])) else (zeroS, 1)) else (zeroS, jcheck g j)
def niceS (s : GState) : Prop := (∀ v ∈ s.Vals, i64 v) ∧ (∀ m ∈ s.In, i64 m.V)
theorem sendS_i64 {p val many : Int} {e : GEdge} (hv : i64 val) : i64 (sendS p val e many).1 := by
 rw [sendS]
 cases ieq p 1
 · cases ieq p 3
   · cases ieq p 5
     · exact hv
     · exact ratioS_i64
   · exact addS_i64
 · exact addS_i64
theorem sendA_i64 {p val many : Int} (hv : i64 val) : ∀ {l : List GEdge} {s r : List GMsg}, (∀ m ∈ s, i64 m.V) → sendA p val many l s = some r → ∀ m ∈ r, i64 m.V
 | [], s, r, hs, h => by injection h with h; subst h; exact hs
 | e :: l, s, r, hs, h => by
   rw [sendA] at h
   cases hq : (sendS p val e many).2
   · rw [hq] at h; cases h
   · rw [hq, cond_true] at h
     refine sendA_i64 hv (fun m hm => ?_) h
     rcases List.mem_append.1 hm with hm | hm
     · exact hs m hm
     · rw [List.mem_singleton.1 hm]; exact sendS_i64 hv
theorem sendO_i64 {p w many : Int} {b : Bool} {l : List GEdge} (hw : i64 w) : i64 (sendO b w (sendA p w many l [])).1 ∧ ∀ m ∈ (sendO b w (sendA p w many l [])).2.1, i64 m.V := by
 have h0 : i64 0 := by unfold i64; omega
 cases hq : sendA p w many l []
 · exact ⟨h0, fun m hm => absurd hm (List.not_mem_nil)⟩
 · exact ⟨hw, sendA_i64 hw (fun m hm => absurd hm (List.not_mem_nil)) hq⟩
theorem turn_i64 {g : GGraph} {j : GJob} {step v val got : Int} {sm : Bool} (hv : i64 val) (hg : i64 got) : i64 (turnS g j step v val got sm).1 ∧ ∀ m ∈ (turnS g j step v val got sm).2.1, i64 m.V := by
 have h0 : i64 0 := by unfold i64; omega
 have hn : ∀ m ∈ ([] : List GMsg), i64 m.V := fun m hm => absurd hm (List.not_mem_nil)
 rw [turnS]
 cases ieq (jcheck g j) 0
 · exact ⟨h0, hn⟩
 · cases ilt v 0
   · cases ile g.N v
     · cases ilt step 0
       · cases ilt 40 step
         · simp only [cond_true, cond_false]
           cases ieq j.Prog 5
           · have hw : i64 (turnV j.Prog val got sm) := by
               rw [turnV]
               cases sm
               · exact hv
               · exact foldS_i64 hv hg
             rw [cond_false, moveS]
             cases turnM j.Prog j.Source step v val (turnV j.Prog val got sm)
             · exact ⟨hw, hn⟩
             · exact sendO_i64 hw
           · have hw : i64 (rankW step val got sm).1 := by
               rw [rankW]
               cases ilt 0 step
               · exact hv
               · exact sumS_i64
             rw [cond_true, rankS]
             cases (rankW step val got sm).2
             · exact ⟨h0, hn⟩
             · cases ile 10 step
               · exact sendO_i64 hw
               · exact ⟨hw, hn⟩
         · exact ⟨h0, hn⟩
       · exact ⟨h0, hn⟩
     · exact ⟨h0, hn⟩
   · exact ⟨h0, hn⟩
theorem turn_outs {g : GGraph} {j : GJob} {step v val got : Int} {sm : Bool} : (turnS g j step v val got sm).2.1.length ≤ (g.Edges.filter fun e => ieq e.From v).length := by
 have ho : (outs g v).length ≤ (g.Edges.filter fun e => ieq e.From v).length := by
   rw [outs]
   cases ieq (gcheck g) 0
   · exact Nat.zero_le _
   · exact Nat.le_refl _
 cases h : ieq (turnS g j step v val got sm).2.2.2 0
 · rw [(turn_bad h).2]; exact Nat.zero_le _
 · rcases turn_out h with hz | hz
   · rw [hz]; exact Nat.zero_le _
   · have := congrArg List.length hz
     simp only [List.length_map] at this
     omega
theorem from_add (E : List GEdge) (v : Int) : (E.filter fun e => ilt e.From v).length + (E.filter fun e => ieq e.From v).length = (E.filter fun e => ilt e.From (v + 1)).length := by
 induction E with
 | nil => rfl
 | cons e E ih =>
   simp only [List.filter_cons]
   cases h1 : ilt e.From v
   · have h1' := ilt_f.1 h1
     cases h2 : ieq e.From v
     · have h2' := ieq_f.1 h2
       rw [ilt_f.2 (by omega : v + 1 ≤ e.From)]
       simpa using ih
     · have h2' := ieq_iff.1 h2
       rw [ilt_iff.2 (by omega : e.From < v + 1)]
       simp; omega
   · have h1' := ilt_iff.1 h1
     rw [ieq_f.2 (by omega : e.From ≠ v), ilt_iff.2 (by omega : e.From < v + 1)]
     simp; omega
theorem one_i64 {g : GGraph} {j : GJob} {s : GState} (hn : niceS s) {v : Nat} : i64 (oneS g j s v).1 ∧ ∀ m ∈ (oneS g j s v).2.1, i64 m.V := by
 have h0 : i64 0 := by unfold i64; omega
 have hx : i64 (s.Vals.getD v 0) := by
   rw [List.getD_eq_getElem?_getD]
   cases hq : s.Vals[v]? with
   | none => exact h0
   | some x => exact hn.1 x (List.mem_of_getElem? hq)
 rw [oneS]
 cases s.Rest.getD v false && !(atS s.In (v : Int)).2
 · exact turn_i64 hx (atS_i64 hn.2)
 · exact ⟨hx, fun m hm => absurd hm (List.not_mem_nil)⟩
theorem one_outs {g : GGraph} {j : GJob} {s : GState} {v : Nat} : (oneS g j s v).2.1.length ≤ (g.Edges.filter fun e => ieq e.From (v : Int)).length := by
 rw [oneS]
 cases s.Rest.getD v false && !(atS s.In (v : Int)).2
 · exact turn_outs
 · exact Nat.zero_le _
structure keepS (g : GGraph) (i : Nat) (a : List Int) (b : List Bool) (c : List GMsg) : Prop where
 la : a.length = i
 lb : b.length = i
 lc : c.length ≤ (g.Edges.filter fun e => ilt e.From (i : Int)).length
 va : ∀ v ∈ a, i64 v
 vc : ∀ m ∈ c, i64 m.V
theorem keep_next {g : GGraph} {j : GJob} {s : GState} (hn : niceS s) {i : Nat} {a : List Int} {b : List Bool} {c : List GMsg} (h : keepS g i a b c) :
   keepS g (i + 1) (a ++ [(oneS g j s i).1]) (b ++ [(oneS g j s i).2.2.1]) (c ++ (oneS g j s i).2.1) := by
 obtain ⟨o1, o2⟩ := one_i64 (g := g) (j := j) hn (v := i)
 refine ⟨by simp [h.la], by simp [h.lb], ?_, fun v hv => ?_, fun m hm => ?_⟩
 · have h1 := one_outs (g := g) (j := j) (s := s) (v := i)
   have h2 := from_add g.Edges (i : Int)
   have h3 := h.lc
   rw [List.length_append]
   show _ ≤ (g.Edges.filter fun e => ilt e.From ((i + 1 : Nat) : Int)).length
   have : ((i + 1 : Nat) : Int) = (i : Int) + 1 := by omega
   rw [this]; omega
 · rcases List.mem_append.1 hv with hv | hv
   · exact h.va v hv
   · rw [List.mem_singleton.1 hv]; exact o1
 · rcases List.mem_append.1 hm with hm | hm
   · exact h.vc m hm
   · exact o2 m hm
theorem keep_len {g : GGraph} {i : Nat} {a : List Int} {b : List Bool} {c : List GMsg} (h : keepS g i a b c) (he : g.Edges.length ≤ 80) : c.length ≤ 80 :=
 Nat.le_trans h.lc (Nat.le_trans (List.length_filter_le _ _) he)
theorem stepA_keep {g : GGraph} {j : GJob} {s : GState} (hn : niceS s) : ∀ (n i : Nat) (a : List Int) (b : List Bool) (c : List GMsg), keepS g i a b c → ∀ w, stepA g j s (List.range' i n) a b c = .inr w → keepS g (i + n) w.1 w.2.1 w.2.2 := by
 intro n
 induction n with
 | zero => intro i a b c h w hw; injection hw with hw; subst hw; exact h
 | succ n ih =>
   intro i a b c h w hw
   rw [List.range'_succ, stepA] at hw
   cases hq : ieq (oneS g j s i).2.2.2 0
   · rw [hq] at hw; cases hw
   · rw [hq] at hw
     have := ih (i + 1) _ _ _ (keep_next hn h) w hw
     rwa [show i + 1 + n = i + (n + 1) by omega] at this
def st130 (K : Nat) (g : GGraph) (j : GJob) (s : GState) (i : Nat) (w : Tri) (c : Tri → Option (Int ⊕ Tri)) : Option (Int ⊕ Tri) :=
 (F151 K s.In (i : Int)).bind fun r1873 =>
 bif (inr (i : Int) (len s.Vals)) then
 (elAt s.Vals (i : Int)).bind fun x1876 =>
 bif r1873.2 then
   ((F100 K g j s.Step (i : Int) x1876 r1873.1 r1873.2).bind fun r1879 =>
   bif (ieq r1879.E 0) then
     (bif (apok (len w.1) 1 8) then
     bif (apok (len w.2.1) 1 1) then
     bif (apok (len w.2.2) (len r1879.Out) 16) then
     c (appL w.1 [r1879.Val], appL w.2.1 [r1879.Rest], appL w.2.2 r1879.Out)
     else none
     else none
     else none)
   else
   some (.inl r1879.E))
 else
 bif (inr (i : Int) (len s.Rest)) then
 (elAt s.Rest (i : Int)).bind fun x1886 =>
 bif x1886 then
   (bif (apok (len w.1) 1 8) then
   bif (apok (len w.2.1) 1 1) then
   bif (apok (len w.2.2) 0 16) then
   c (appL w.1 [x1876], appL w.2.1 [true], appL w.2.2 [])
   else none
   else none
   else none)
 else
 (F100 K g j s.Step (i : Int) x1876 r1873.1 r1873.2).bind fun r1892 =>
 bif (ieq r1892.E 0) then
   (bif (apok (len w.1) 1 8) then
   bif (apok (len w.2.1) 1 1) then
   bif (apok (len w.2.2) (len r1892.Out) 16) then
   c (appL w.1 [r1892.Val], appL w.2.1 [r1892.Rest], appL w.2.2 r1892.Out)
   else none
   else none
   else none)
 else
 some (.inl r1892.E)
 else none
 else none
theorem elAt_get {α : Type} {l : List α} {i : Nat} (h : i < l.length) (d : α) : inr (i : Int) (len l) = true ∧ elAt l (i : Int) = some (l.getD i d) := by
 refine ⟨decide_eq_true ⟨by omega, by show (i : Int) < (l.length : Int); omega⟩, ?_⟩
 rw [elAt_nat, List.getElem?_eq_getElem h, List.getD_eq_getElem?_getD, List.getElem?_eq_getElem h]; rfl
theorem go130 {K : Nat} (hK : 1000 ≤ K) (g : GGraph) (j : GJob) (s : GState) (hr : stRight g j s = true) (hn : niceS s) : ∀ (n i : Nat) (a : List Int) (b : List Bool) (c : List GMsg), i + n = g.N.toNat → keepS g i a b c →
   goL (st130 K g j s) (fun w => some (.inr w)) (List.range' i n) (a, b, c) = some (stepA g j s (List.range' i n) a b c) := by
 obtain ⟨hc, s1, s2, s3, s4, s5⟩ := stRight_ok hr
 obtain ⟨hg, _⟩ := jcheck_ok hc
 obtain ⟨g1, g2, g3, _⟩ := gcheck_ok hg
 have hil := inSt_len s5 (by omega)
 intro n
 induction n with
 | zero => intro i a b c _ _; rfl
 | succ n ih =>
   intro i a b c hin h
   have hlc := keep_len h g3
   have hnx := keep_next (j := j) hn h
   have hlc2 := keep_len hnx g3
   rw [List.length_append] at hlc2
   obtain ⟨la, lb, _, _, _⟩ := h
   obtain ⟨v1, v2⟩ := elAt_get (l := s.Vals) (i := i) (by omega) 0
   obtain ⟨r1, r2⟩ := elAt_get (l := s.Rest) (i := i) (by omega) false
   have a1 : apok (len a) 1 8 = true := decide_eq_true ⟨by show a.length + 1 ≤ _; omega, by show (a.length + 1) * 8 ≤ _; omega⟩
   have a2 : apok (len b) 1 1 = true := decide_eq_true ⟨by show b.length + 1 ≤ _; omega, by show (b.length + 1) * 1 ≤ _; omega⟩
   have a3 : apok (len c) 0 16 = true := decide_eq_true ⟨by show c.length + 0 ≤ _; omega, by show (c.length + 0) * 16 ≤ _; omega⟩
   have a4 : apok (len c) (len (oneS g j s i).2.1) 16 = true := decide_eq_true ⟨by show c.length + (oneS g j s i).2.1.length ≤ _; omega, by show (c.length + (oneS g j s i).2.1.length) * 16 ≤ _; omega⟩
   have hx : i64 (s.Vals.getD i 0) := by
     rw [List.getD_eq_getElem?_getD]
     cases hq : s.Vals[i]? with
     | none => show i64 0; unfold i64; omega
     | some x => exact hn.1 x (List.mem_of_getElem? hq)
   have hat := atS_i64 (l := s.In) (v := (i : Int)) hn.2
   have nx := ih (i + 1) _ _ _ (by omega) hnx
   rw [List.range'_succ, goL, st130, stepA, F151_spec s.In (i : Int) (by omega) (by omega), v1, v2, r1, r2]
   have f100 := F100_spec (K := K) (by omega) g j s.Step (i : Int) (atS s.In (i : Int)).2 hx hat
   simp only [cond_true, Option.bind_some, f100, turned, a1, a2, a3]
   cases hs : (atS s.In (i : Int)).2
   · cases hy : s.Rest.getD i false
     · have hT : oneS g j s i = turnS g j s.Step (i : Int) (s.Vals.getD i 0) (atS s.In (i : Int)).1 false := by rw [oneS, hy, hs]; rfl
       rw [hT] at a4 nx ⊢
       simp only [cond_false, a4, cond_true]
       cases ieq (turnS g j s.Step (i : Int) (s.Vals.getD i 0) (atS s.In (i : Int)).1 false).2.2.2 0
       · rfl
       · exact nx
     · have hT : oneS g j s i = (s.Vals.getD i 0, [], true, 0) := by rw [oneS, hy, hs]; rfl
       rw [hT] at nx ⊢
       exact nx
   · have hT : oneS g j s i = turnS g j s.Step (i : Int) (s.Vals.getD i 0) (atS s.In (i : Int)).1 true := by rw [oneS, hs, Bool.not_true, Bool.and_false]; rfl
     rw [hT] at a4 nx ⊢
     simp only [cond_false, a4, cond_true]
     cases ieq (turnS g j s.Step (i : Int) (s.Vals.getD i 0) (atS s.In (i : Int)).1 true).2.2.2 0
     · rfl
     · exact nx
theorem keep0 (g : GGraph) : keepS g 0 [] [] [] := ⟨rfl, rfl, Nat.zero_le _, fun v hv => absurd hv (List.not_mem_nil), fun m hm => absurd hm (List.not_mem_nil)⟩
theorem F130_spec {K : Nat} (hK : 1000 ≤ K) (g : GGraph) (j : GJob) (s : GState) (hn : niceS s) (hl : s.In.length < 1000000) (hk : s.In.length < K) : F130 K g j s = some (stepS g j s) := by
 rw [F130, F59_spec (by omega), F88_spec hK g j s hl hk, Option.bind_some, Option.bind_some, stepS]
 cases hc : ieq (jcheck g j) 0
 · rfl
 · cases hr : stRight g j s
   · rfl
   · cases h40 : ieq s.Step 40
     · obtain ⟨_, s1, s2, s3, s4, s5⟩ := stRight_ok hr
       obtain ⟨hg, _⟩ := jcheck_ok hc
       obtain ⟨g1, g2, g3, _⟩ := gcheck_ok hg
       have h := scanN (N := g.N) (L := fun k (w : Tri) i => F130_l0_0 K g j s k w.1 w.2.1 w.2.2 i) (st130 K g j s) (fun w => some (.inr w)) (fun k w i _ => rfl) (by omega) (K := K) (by omega) ([], [], [])
       have h' : F130_l0_0 K g j s K [] [] [] 0 = some (stepA g j s (List.range g.N.toNat) [] [] []) := by
         rw [show F130_l0_0 K g j s K [] [] [] 0 = _ from h, List.range_eq_range']
         exact go130 hK g j s hr hn g.N.toNat 0 [] [] [] (by omega) (keep0 g)
       simp only [cond_true, cond_false, h', Option.bind_some]
       cases hA : stepA g j s (List.range g.N.toNat) [] [] [] with
       | inl e => rfl
       | inr w =>
         rw [List.range_eq_range'] at hA
         have kw := stepA_keep hn g.N.toNat 0 [] [] [] (keep0 g) w hA
         have hwl := keep_len kw g3
         have hw : wadd .i64 s.Step 1 = s.Step + 1 := wadd_i64 (by unfold i64; omega)
         simp only [Sum.elim_inr, F152_spec j.Prog w.2.2 kw.vc (show w.2.2.length < K by omega) (by omega), Option.bind_some, stepB, hw]
         cases ieq (boxS j.Prog w.2.2).2 0 <;> rfl
     · rfl
theorem foldC_rise (p : Int) : ∀ (r : List GMsg) (c : GMsg) (d w : List GMsg), foldC p r c d = .inr w → (∀ x ∈ r, c.To ≤ x.To) → r.Pairwise (fun a b => a.To ≤ b.To) → (d ++ [c]).Pairwise (fun a b => a.To < b.To) →
   w.Pairwise (fun a b => a.To < b.To) ∧ ∀ t ∈ w, ∃ s ∈ d ++ c :: r, s.To = t.To
 | [], c, d, w, h, _, _, hd => by
   injection h with h
   subst h
   exact ⟨hd, fun t ht => ⟨t, ht, rfl⟩⟩
 | x :: r, c, d, w, h, hc, hr, hd => by
   rw [foldC] at h
   obtain ⟨hx, hr'⟩ := List.pairwise_cons.1 hr
   cases h1 : ieq c.To x.To
   · rw [h1, cond_false] at h
     have hne := ieq_f.1 h1
     have hlt := hc x List.mem_cons_self
     obtain ⟨q1, q2⟩ := foldC_rise p r x (d ++ [c]) w h hx hr' (by
       refine List.pairwise_append.2 ⟨hd, List.pairwise_singleton _ _, fun u hu v hv => ?_⟩
       rw [List.mem_singleton.1 hv]
       rcases List.mem_append.1 hu with hu | hu
       · have := (List.pairwise_append.1 hd).2.2 u hu c (List.mem_singleton.2 rfl); omega
       · rw [List.mem_singleton.1 hu]; omega)
     exact ⟨q1, fun t ht => by
       obtain ⟨s, hs, e⟩ := q2 t ht
       exact ⟨s, by simpa using hs, e⟩⟩
   · rw [h1, cond_true] at h
     cases h2 : ieq (foldS p c.V x.V).2 0
     · rw [h2] at h; cases h
     · rw [h2, cond_true] at h
       obtain ⟨q1, q2⟩ := foldC_rise p r (GMsg.mk c.To (foldS p c.V x.V).1) d w h (fun y hy => hc y (List.mem_cons_of_mem _ hy)) hr' (by
         obtain ⟨a, b, e⟩ := List.pairwise_append.1 hd
         exact List.pairwise_append.2 ⟨a, List.pairwise_singleton _ _, fun u hu v hv => by rw [List.mem_singleton.1 hv]; exact e u hu c (List.mem_singleton.2 rfl)⟩)
       refine ⟨q1, fun t ht => ?_⟩
       obtain ⟨s, hs, e⟩ := q2 t ht
       rcases List.mem_append.1 hs with hs | hs
       · exact ⟨s, List.mem_append_left _ hs, e⟩
       · rcases List.mem_cons.1 hs with rfl | hs
         · exact ⟨c, List.mem_append_right _ List.mem_cons_self, e⟩
         · exact ⟨s, List.mem_append_right _ (List.mem_cons_of_mem _ (List.mem_cons_of_mem _ hs)), e⟩
theorem boxS_rise {p : Int} {l : List GMsg} : (boxS p l).1.Pairwise (fun a b => a.To < b.To) ∧ ∀ t ∈ (boxS p l).1, ∃ s ∈ l, s.To = t.To := by
 have hn : (([] : List GMsg).Pairwise (fun a b => a.To < b.To)) ∧ ∀ t ∈ ([] : List GMsg), ∃ s ∈ l, s.To = t.To := ⟨List.Pairwise.nil, fun t ht => absurd ht List.not_mem_nil⟩
 have hp := sortM_perm l
 have hs : (sortM l).Pairwise (fun a b => a.To ≤ b.To) := (sortM_srt l).imp fun {a b} h => by have := leM_iff.1 h; omega
 rw [boxS]
 cases pbad p
 · rw [cond_false]
   generalize sortM l = m at *
   cases m with
   | nil => exact hn
   | cons x r =>
     rw [foldO]
     cases hq : foldC p r x [] with
     | inl e => exact hn
     | inr w =>
       obtain ⟨h1, h2⟩ := List.pairwise_cons.1 hs
       obtain ⟨q1, q2⟩ := foldC_rise p r x [] w hq h1 h2 (List.pairwise_singleton _ _)
       exact ⟨q1, fun t ht => by
         obtain ⟨s, hs, e⟩ := q2 t ht
         exact ⟨s, hp.mem_iff.1 hs, e⟩⟩
 · exact hn
theorem outs_To {g : GGraph} {v : Int} {e : GEdge} (h : e ∈ outs g v) : 0 ≤ e.To ∧ e.To < g.N := by
 rw [outs] at h
 cases hc : ieq (gcheck g) 0
 · rw [hc] at h; cases h
 · obtain ⟨h1, h2, h3, h4⟩ := gcheck_ok hc
   rw [hc] at h
   have := badE_ok (gchk_mem h4 e (List.mem_filter.1 h).1)
   omega
theorem turn_To {g : GGraph} {j : GJob} {step v val got : Int} {sm : Bool} : ∀ m ∈ (turnS g j step v val got sm).2.1, 0 ≤ m.To ∧ m.To < g.N := by
 intro m hm
 cases h : ieq (turnS g j step v val got sm).2.2.2 0
 · rw [(turn_bad h).2] at hm; exact absurd hm List.not_mem_nil
 · rcases turn_out h with hz | hz
   · rw [hz] at hm; exact absurd hm List.not_mem_nil
   · have : m.To ∈ (turnS g j step v val got sm).2.1.map (·.To) := List.mem_map.2 ⟨m, hm, rfl⟩
     rw [hz] at this
     obtain ⟨e, he, q⟩ := List.mem_map.1 this
     rw [← q]; exact outs_To he
noncomputable def hn123 : Hint := { H 123 with nt := 19, prot := 0 }
noncomputable def c123_0 : Code := loopOf E 123 0
def F123_res (r1 : Bool) : Res := ⟨[(.one (.im (.lit (.bool r1))))], []⟩
def F123_l0_0 (K : Nat) (a1 : GPart) : Nat → Int → Option ((Unit) ⊕ (Unit))
 | 0, _ => none
 | k + 1, v2 =>
  bif (ilt v2 (nlen (len a1.Rest))) then
   (bif (inr v2 (len a1.Rest)) then
   (elAt a1.Rest v2).bind fun x3 =>
   bif x3 then
    (F123_l0_0 K a1 k (wadd .i64 v2 1))
   else
   some (.inl ())
   else none)
  else
  some (.inr ())
def F123_l0_0_S (a1 : GPart) (v2 : Int) : TS := .on [64, 65, 66, 67, 68, 69, 320, 384, 385, 448, 449, 512, 513] [(64, ⟨(.box 42 5), 0, nob⟩), (65, ⟨.im, 0, (.lit (.int .i64 a1.P))⟩), (66, ⟨.im, 0, (.lit (.int .i64 a1.Step))⟩), (67, ⟨.im, 0, (.sl (len a1.Vals) (flat (eInt .i64) a1.Vals))⟩), (68, ⟨.im, 0, (.sl (len a1.Rest) (flat eBool a1.Rest))⟩), (69, ⟨.im, 0, (.sl (len a1.In) (flat eGMsg a1.In))⟩), (320, ⟨(.ad 1 0 3), 0, nob⟩), (384, ⟨.one, 0, nob⟩), (385, ⟨.im, 0, (.sl (len a1.Rest) (flat eBool a1.Rest))⟩), (448, ⟨.one, 0, nob⟩), (449, ⟨.im, 0, (.lit (.int .i64 (nlen (len a1.Rest))))⟩), (512, ⟨.one, 0, nob⟩), (513, ⟨.im, 0, (.lit (.int .i64 v2))⟩)]
def F123_l0_0_X0 (a1 : GPart) (w2 : Unit) : TS := .on [128, 129] [(128, ⟨.one, 0, nob⟩), (129, ⟨.im, 0, (.lit (.bool false))⟩)]
def F123_l0_0_X1 (a1 : GPart) (w2 : Unit) : TS := .on [64, 65, 66, 67, 68, 69] [(64, ⟨(.box 42 5), 0, nob⟩), (65, ⟨.im, 0, (.lit (.int .i64 a1.P))⟩), (66, ⟨.im, 0, (.lit (.int .i64 a1.Step))⟩), (67, ⟨.im, 0, (.sl (len a1.Vals) (flat (eInt .i64) a1.Vals))⟩), (68, ⟨.im, 0, (.sl (len a1.Rest) (flat eBool a1.Rest))⟩), (69, ⟨.im, 0, (.sl (len a1.In) (flat eGMsg a1.In))⟩)]
theorem F123_l0_0_ok (K : Nat) (a1 : GPart) : ∀ (k : Nat) (v2 : Int) (r : (Unit) ⊕ (Unit)), F123_l0_0 K a1 k v2 = some r → (Sum.elim (fun w => LoopEv E H hn123 0 c123_0 (F123_l0_0_S a1 v2) .ret (F123_l0_0_X0 a1 w)) (fun w => LoopEv E H hn123 0 c123_0 (F123_l0_0_S a1 v2) (.exit 0) (F123_l0_0_X1 a1 w))) r := by
 intro k
 induction k with
 | zero => intro v2 r hF; cases hF
 | succ k ih =>
  intro v2 r hF
  rw [F123_l0_0] at hF
  refine cond_some hF (fun h3 hF => ?_) (fun h3 hF => ?_)
  ·
   refine cond_some hF (fun h4 hF => ?_) (fun _ hF => nomatch hF)
   refine bind_some hF (fun x5 h6 hF => ?_)
   have q8 : PQ hn123 fun l => (.test (ilt v2 (nlen (len a1.Rest))) true :: .test (inr v2 (len a1.Rest)) true :: .sub (flat eBool a1.Rest) (nidx v2 1) 1 [(.lit (.bool x5))] :: l) := fun z => ⟨h3, h4, ⟨rfl, sub_flat0 eBool_len h6 1 (by decide)⟩, z⟩
   refine cond_some hF (fun h7 hF => ?_) (fun h7 hF => ?_)
   ·
    have pz : HoldAll E H hn123 [.test (bnot x5) false, .int (wadd .i64 v2 1) (wadd .i64 v2 1)] := ⟨(bnot_t h7), rfl, trivial⟩
    have h0 := ih _ _ hF
    have hn := fun ex ts' => loop_nextC (h := hn123) (l := 0) (c := c123_0) (ts := F123_l0_0_S a1 v2) (ts1 := (F123_l0_0_S a1 (wadd .i64 v2 1))) (ex := ex) (ts' := ts') (q8 pz) (by kernel_rfl)
    cases r with
    | inl w => exact hn _ _ h0
    | inr w => exact hn _ _ h0
   obtain rfl := Option.some.inj hF
   have pz : HoldAll E H hn123 [.test (bnot x5) true] := ⟨(bnot_f h7), trivial⟩
   exact loop_endC (h := hn123) (l := 0) (c := c123_0) (ts := F123_l0_0_S a1 v2) (ts' := F123_l0_0_X0 a1 ()) (ex := .ret) (q8 pz) (by kernel_rfl) trivial
  obtain rfl := Option.some.inj hF
  have pz : HoldAll E H hn123 [.test (ilt v2 (nlen (len a1.Rest))) false] := ⟨h3, trivial⟩
  exact loop_endC (h := hn123) (l := 0) (c := c123_0) (ts := F123_l0_0_S a1 v2) (ts' := F123_l0_0_X1 a1 ()) (ex := (.exit 0)) pz (by kernel_rfl) trivial
def F123 (K : Nat) (a1 : GPart) : Option (Bool) :=
 (F123_l0_0 K a1 K 0).bind fun y2 =>
 Sum.elim (fun w3 =>
  some false)
  (fun w4 =>
  some (ieq (nlen (len a1.In)) 0)) y2
theorem F123_ok (K : Nat) (a1 : GPart) (r : Bool) (hF : F123 K a1 = some r) : Evt E H 123 [.agg (eGPart a1)] (F123_res r) := by
 rw [F123] at hF
 refine bind_some hF (fun y3 h2 hF => ?_)
 refine sum_some hF (fun w4 hx hF => ?_) (fun w5 hx hF => ?_)
 ·
  subst hx
  obtain rfl := Option.some.inj hF
  have pz : HoldAll E H hn123 [.int (nlen (len a1.Rest)) (nlen (len a1.Rest)), .loop 0 c123_0 (F123_l0_0_S a1 0) .ret (F123_l0_0_X0 a1 w4)] := ⟨rfl, (F123_l0_0_ok K a1 K 0 _ h2), trivial⟩
  exact fn_playC hn123 (r := F123_res false) pz (by kernel_rfl) (by kernel_rfl)
 subst hx
 obtain rfl := Option.some.inj hF
 have pz : HoldAll E H hn123 [.int (nlen (len a1.Rest)) (nlen (len a1.Rest)), .loop 0 c123_0 (F123_l0_0_S a1 0) (.exit 0) (F123_l0_0_X1 a1 w5), .int (nlen (len a1.In)) (nlen (len a1.In))] := ⟨rfl, (F123_l0_0_ok K a1 K 0 _ h2), rfl, trivial⟩
 exact fn_playC hn123 (r := F123_res (ieq (nlen (len a1.In)) 0)) pz (by kernel_rfl) (by kernel_rfl)
noncomputable def hn106 : Hint := { H 106 with nt := 21, prot := 0 }
noncomputable def c106_0 : Code := loopOf E 106 0
def F106_res (r1 : Bool) : Res := ⟨[(.one (.im (.lit (.bool r1))))], []⟩
def F106_l0_0 (K : Nat) (a1 : GState) : Nat → Int → Option ((Unit) ⊕ (Unit))
 | 0, _ => none
 | k + 1, v2 =>
  bif (ilt v2 (nlen (len a1.Rest))) then
   (bif (inr v2 (len a1.Rest)) then
   (elAt a1.Rest v2).bind fun x3 =>
   bif x3 then
    (F106_l0_0 K a1 k (wadd .i64 v2 1))
   else
   some (.inl ())
   else none)
  else
  some (.inr ())
def F106_l0_0_S (a1 : GState) (v2 : Int) : TS := .on [64, 65, 66, 67, 68, 192, 193] [(64, ⟨(.box 74 4), 0, nob⟩), (65, ⟨.im, 0, (.lit (.int .i64 a1.Step))⟩), (66, ⟨.im, 0, (.sl (len a1.Vals) (flat (eInt .i64) a1.Vals))⟩), (67, ⟨.im, 0, (.sl (len a1.Rest) (flat eBool a1.Rest))⟩), (68, ⟨.im, 0, (.sl (len a1.In) (flat eGMsg a1.In))⟩), (192, ⟨.one, 0, nob⟩), (193, ⟨.im, 0, (.lit (.int .i64 v2))⟩)]
def F106_l0_0_X0 (a1 : GState) (w2 : Unit) : TS := .on [128, 129] [(128, ⟨.one, 0, nob⟩), (129, ⟨.im, 0, (.lit (.bool false))⟩)]
def F106_l0_0_X1 (a1 : GState) (w2 : Unit) : TS := .on [64, 65, 66, 67, 68] [(64, ⟨(.box 74 4), 0, nob⟩), (65, ⟨.im, 0, (.lit (.int .i64 a1.Step))⟩), (66, ⟨.im, 0, (.sl (len a1.Vals) (flat (eInt .i64) a1.Vals))⟩), (67, ⟨.im, 0, (.sl (len a1.Rest) (flat eBool a1.Rest))⟩), (68, ⟨.im, 0, (.sl (len a1.In) (flat eGMsg a1.In))⟩)]
theorem F106_l0_0_ok (K : Nat) (a1 : GState) : ∀ (k : Nat) (v2 : Int) (r : (Unit) ⊕ (Unit)), F106_l0_0 K a1 k v2 = some r → (Sum.elim (fun w => LoopEv E H hn106 0 c106_0 (F106_l0_0_S a1 v2) .ret (F106_l0_0_X0 a1 w)) (fun w => LoopEv E H hn106 0 c106_0 (F106_l0_0_S a1 v2) (.exit 0) (F106_l0_0_X1 a1 w))) r := by
 intro k
 induction k with
 | zero => intro v2 r hF; cases hF
 | succ k ih =>
  intro v2 r hF
  rw [F106_l0_0] at hF
  refine cond_some hF (fun h3 hF => ?_) (fun h3 hF => ?_)
  ·
   refine cond_some hF (fun h4 hF => ?_) (fun _ hF => nomatch hF)
   refine bind_some hF (fun x5 h6 hF => ?_)
   have q8 : PQ hn106 fun l => (.int (nlen (len a1.Rest)) (nlen (len a1.Rest)) :: .test (ilt v2 (nlen (len a1.Rest))) true :: .test (inr v2 (len a1.Rest)) true :: .sub (flat eBool a1.Rest) (nidx v2 1) 1 [(.lit (.bool x5))] :: l) := fun z => ⟨rfl, h3, h4, ⟨rfl, sub_flat0 eBool_len h6 1 (by decide)⟩, z⟩
   refine cond_some hF (fun h7 hF => ?_) (fun h7 hF => ?_)
   ·
    have pz : HoldAll E H hn106 [.test (bnot x5) false, .int (wadd .i64 v2 1) (wadd .i64 v2 1)] := ⟨(bnot_t h7), rfl, trivial⟩
    have h0 := ih _ _ hF
    have hn := fun ex ts' => loop_nextC (h := hn106) (l := 0) (c := c106_0) (ts := F106_l0_0_S a1 v2) (ts1 := (F106_l0_0_S a1 (wadd .i64 v2 1))) (ex := ex) (ts' := ts') (q8 pz) (by kernel_rfl)
    cases r with
    | inl w => exact hn _ _ h0
    | inr w => exact hn _ _ h0
   obtain rfl := Option.some.inj hF
   have pz : HoldAll E H hn106 [.test (bnot x5) true] := ⟨(bnot_f h7), trivial⟩
   exact loop_endC (h := hn106) (l := 0) (c := c106_0) (ts := F106_l0_0_S a1 v2) (ts' := F106_l0_0_X0 a1 ()) (ex := .ret) (q8 pz) (by kernel_rfl) trivial
  obtain rfl := Option.some.inj hF
  have pz : HoldAll E H hn106 [.int (nlen (len a1.Rest)) (nlen (len a1.Rest)), .test (ilt v2 (nlen (len a1.Rest))) false] := ⟨rfl, h3, trivial⟩
  exact loop_endC (h := hn106) (l := 0) (c := c106_0) (ts := F106_l0_0_S a1 v2) (ts' := F106_l0_0_X1 a1 ()) (ex := (.exit 0)) pz (by kernel_rfl) trivial
def F106 (K : Nat) (a1 : GState) : Option (Bool) :=
 (F106_l0_0 K a1 K 0).bind fun y2 =>
 Sum.elim (fun w3 =>
  some false)
  (fun w4 =>
  some (ieq (nlen (len a1.In)) 0)) y2
theorem F106_ok (K : Nat) (a1 : GState) (r : Bool) (hF : F106 K a1 = some r) : Evt E H 106 [.agg (eGState a1)] (F106_res r) := by
 rw [F106] at hF
 refine bind_some hF (fun y3 h2 hF => ?_)
 refine sum_some hF (fun w4 hx hF => ?_) (fun w5 hx hF => ?_)
 ·
  subst hx
  obtain rfl := Option.some.inj hF
  have pz : HoldAll E H hn106 [.loop 0 c106_0 (F106_l0_0_S a1 0) .ret (F106_l0_0_X0 a1 w4)] := ⟨(F106_l0_0_ok K a1 K 0 _ h2), trivial⟩
  exact fn_playC hn106 (r := F106_res false) pz (by kernel_rfl) (by kernel_rfl)
 subst hx
 obtain rfl := Option.some.inj hF
 have pz : HoldAll E H hn106 [.loop 0 c106_0 (F106_l0_0_S a1 0) (.exit 0) (F106_l0_0_X1 a1 w5), .int (nlen (len a1.In)) (nlen (len a1.In))] := ⟨(F106_l0_0_ok K a1 K 0 _ h2), rfl, trivial⟩
 exact fn_playC hn106 (r := F106_res (ieq (nlen (len a1.In)) 0)) pz (by kernel_rfl) (by kernel_rfl)
def restsS (s : GState) : Bool := s.Rest.all id && ieq (nlen (len s.In)) 0
theorem rest_go (l : List Bool) : goL (fun r (_ : Unit) c => bif r then c () else some (.inl ())) (fun _ => some (.inr ())) l () = (some (sumU (l.all id)) : Option (Unit ⊕ Unit)) := by
 induction l with
 | nil => rfl
 | cons r l ih => cases r <;> simp [goL, ih, sumU]
theorem F106_specS (K : Nat) (x : GState) (h : x.Rest.length < 4611686018427387904) (hK : x.Rest.length < K) : F106 K x = some (restsS x) := by
 have e : F106_l0_0 K x K 0 = _ := scanL (L := fun k (_ : Unit) i => F106_l0_0 K x k i) (fun r _ c => bif r then c () else some (.inl ())) (fun _ => some (.inr ())) (fun k s i _ => rfl) h hK ()
 rw [F106, e, rest_go, restsS]
 cases x.Rest.all id <;> rfl
noncomputable def hn108 : Hint := { H 108 with nt := 27, prot := 0 }
noncomputable def c108_0 : Code := loopOf E 108 0
def F108_res (r1 : GState) : Res := ⟨[(.agg [(.im (.lit (.int .i64 r1.Step))), (.own 2 (.sl (len r1.Vals) (flat (eInt .i64) r1.Vals))), (.own 4 (.sl (len r1.Rest) (flat eBool r1.Rest))), (.own 130 (.sl (len r1.In) (flat eGMsg r1.In)))])], []⟩
def F108_l0_0 (K : Nat) (a1 : GGraph) (a2 : GJob) : Nat → List Int → List Bool → Int → Option (List Int × List Bool)
 | 0, _, _, _ => none
 | k + 1, v3, v4, v5 =>
  bif (ilt v5 a1.N) then
   ((F96 K a2 v5).bind fun r6 =>
   bif (apok (len v3) 1 8) then
   bif (apok (len v4) 1 1) then
   F108_l0_0 K a1 a2 k (appL v3 [r6]) (appL v4 [false]) (wadd .i64 v5 1)
   else none
   else none)
  else
  some (v3, v4)
def F108_l0_0_S (a1 : GGraph) (a2 : GJob) (v3 : List Int) (v4 : List Bool) (v5 : Int) : TS := .on [128, 129, 130, 192, 193, 194, 195, 196, 256, 257, 258, 259, 260, 320, 321, 322, 323, 324, 384, 385] [(128, ⟨(.box 62 2), 0, nob⟩), (129, ⟨.im, 0, (.lit (.int .i64 a1.N))⟩), (130, ⟨.im, 0, (.sl (len a1.Edges) (flat eGEdge a1.Edges))⟩), (192, ⟨(.box 64 4), 0, nob⟩), (193, ⟨.im, 0, (.lit (.int .i64 a2.Prog))⟩), (194, ⟨.im, 0, (.lit (.int .i64 a2.Source))⟩), (195, ⟨.im, 0, (.lit (.int .i64 a2.Limit))⟩), (196, ⟨.im, 0, (.lit (.int .i64 a2.Parts))⟩), (256, ⟨(.box 74 4), 0, nob⟩), (257, ⟨.im, 0, (.lit (.int .i64 0))⟩), (258, ⟨(.own 2), 0, (.sl 0 [])⟩), (259, ⟨(.own 4), 0, (.sl 0 [])⟩), (260, ⟨(.own 130), 0, (.sl 0 [])⟩), (320, ⟨(.box 74 4), 0, nob⟩), (321, ⟨.im, 0, (.lit (.int .i64 0))⟩), (322, ⟨(.own 2), 0, (.sl (len v3) (flat (eInt .i64) v3))⟩), (323, ⟨(.own 4), 0, (.sl (len v4) (flat eBool v4))⟩), (324, ⟨(.own 130), 0, (.sl 0 [])⟩), (384, ⟨.one, 0, nob⟩), (385, ⟨.im, 0, (.lit (.int .i64 v5))⟩)]
def F108_l0_0_X0 (a1 : GGraph) (a2 : GJob) (w3 : List Int × List Bool) : TS := .on [256, 257, 258, 259, 260, 320, 321, 322, 323, 324] [(256, ⟨(.box 74 4), 0, nob⟩), (257, ⟨.im, 0, (.lit (.int .i64 0))⟩), (258, ⟨(.own 2), 0, (.sl 0 [])⟩), (259, ⟨(.own 4), 0, (.sl 0 [])⟩), (260, ⟨(.own 130), 0, (.sl 0 [])⟩), (320, ⟨(.box 74 4), 0, nob⟩), (321, ⟨.im, 0, (.lit (.int .i64 0))⟩), (322, ⟨(.own 2), 0, (.sl (len w3.1) (flat (eInt .i64) w3.1))⟩), (323, ⟨(.own 4), 0, (.sl (len w3.2) (flat eBool w3.2))⟩), (324, ⟨(.own 130), 0, (.sl 0 [])⟩)]
theorem F108_l0_0_ok (K : Nat) (a1 : GGraph) (a2 : GJob) : ∀ (k : Nat) (v3 : List Int) (v4 : List Bool) (v5 : Int) (r : List Int × List Bool), F108_l0_0 K a1 a2 k v3 v4 v5 = some r → LoopEv E H hn108 0 c108_0 (F108_l0_0_S a1 a2 v3 v4 v5) (.exit 0) (F108_l0_0_X0 a1 a2 r) := by
 intro k
 induction k with
 | zero => intro v3 v4 v5 r hF; cases hF
 | succ k ih =>
  intro v3 v4 v5 r hF
  rw [F108_l0_0] at hF
  refine cond_some hF (fun h6 hF => ?_) (fun h6 hF => ?_)
  ·
   refine bind_some hF (fun r7 h8 hF => ?_)
   refine cond_some hF (fun h9 hF => ?_) (fun _ hF => nomatch hF)
   refine cond_some hF (fun h10 hF => ?_) (fun _ hF => nomatch hF)
   have pz : HoldAll E H hn108 [.test (ilt v5 a1.N) true, .call 96 [.agg (eGJob a2), .one (.lit (.int .i64 v5))] (F96_res r7), .test (leadsAny (Res.mk [(.one (.im (.lit (.int .i64 r7))))] [])) false, .test (leqm [(.lit (.int .i64 r7))] 1 1) true, .test (apok (len v3) 1 8) true, .sl (nadd (len v3) 1) (lapp (flat (eInt .i64) v3) [(.lit (.int .i64 r7))]) (len (α := Int) (appL v3 [r7])) (flat (eInt .i64) (appL v3 [r7])), .test (leqm [(.lit (.bool false))] 1 1) true, .test (apok (len v4) 1 1) true, .sl (nadd (len v4) 1) (lapp (flat eBool v4) [(.lit (.bool false))]) (len (α := Bool) (appL v4 [false])) (flat eBool (appL v4 [false])), .int (wadd .i64 v5 1) (wadd .i64 v5 1)] := ⟨h6, (F96_ok K a2 v5 _ h8), (leads_ok (by simp [leadsAny, RV.leads, RC.leads, leadsT, hasSl_lit, flat_ns (eInt_ns _), flat_ns eBool_ns, flat_ns eGJob_ns])), rfl, h9, (app_ok (enc := (eInt .i64)) (v3 : List Int) [r7]), rfl, h10, (app_ok (enc := eBool) (v4 : List Bool) [false]), rfl, trivial⟩
   have h0 := ih _ _ _ _ hF
   have hn := fun ex ts' => loop_nextC (h := hn108) (l := 0) (c := c108_0) (ts := F108_l0_0_S a1 a2 v3 v4 v5) (ts1 := (F108_l0_0_S a1 a2 (appL v3 [r7]) (appL v4 [false]) (wadd .i64 v5 1))) (ex := ex) (ts' := ts') pz (by kernel_rfl)
   exact hn _ _ h0
  obtain rfl := Option.some.inj hF
  have pz : HoldAll E H hn108 [.test (ilt v5 a1.N) false] := ⟨h6, trivial⟩
  exact loop_endC (h := hn108) (l := 0) (c := c108_0) (ts := F108_l0_0_S a1 a2 v3 v4 v5) (ts' := F108_l0_0_X0 a1 a2 (v3, v4)) (ex := (.exit 0)) pz (by kernel_rfl) trivial
def F108 (K : Nat) (a1 : GGraph) (a2 : GJob) : Option (GState) :=
 (F108_l0_0 K a1 a2 K [] [] 0).bind fun w3 =>
 some (GState.mk 0 w3.1 w3.2 [])
theorem F108_ok (K : Nat) (a1 : GGraph) (a2 : GJob) (r : GState) (hF : F108 K a1 a2 = some r) : Evt E H 108 [.agg (eGGraph a1), .agg (eGJob a2)] (F108_res r) := by
 rw [F108] at hF
 refine bind_some hF (fun w4 h3 hF => ?_)
 obtain rfl := Option.some.inj hF
 have pz : HoldAll E H hn108 [.loop 0 c108_0 (F108_l0_0_S a1 a2 [] [] 0) (.exit 0) (F108_l0_0_X0 a1 a2 w4)] := ⟨(F108_l0_0_ok K a1 a2 K [] [] 0 _ h3), trivial⟩
 exact fn_playC hn108 (r := F108_res (GState.mk 0 w4.1 w4.2 [])) pz (by kernel_rfl) (by kernel_rfl)
def beginS (g : GGraph) (j : GJob) : GState := GState.mk 0 ((List.range g.N.toNat).map fun (v : Nat) => startS j (v : Int)) (List.replicate g.N.toNat false) []
theorem F108_spec {K : Nat} (hK : 1000 ≤ K) (g : GGraph) (j : GJob) (hn : 0 ≤ g.N) (hn2 : g.N ≤ 24) : F108 K g j = some (beginS g j) := by
 rw [F108]
 let step : Nat → (List Int × List Bool) → ((List Int × List Bool) → Option (List Int × List Bool)) → Option (List Int × List Bool) := fun i s c => (F96 K j (i : Int)).bind fun r => bif (apok (len s.1) 1 8) then bif (apok (len s.2) 1 1) then c (appL s.1 [r], appL s.2 [false]) else none else none
 have h := scanN (N := g.N) (L := fun k (s : List Int × List Bool) i => F108_l0_0 K g j k s.1 s.2 i) step (fun s => some s) (fun k s i _ => rfl) (by omega) (K := K) (by omega) ([], [])
 have hw : ∀ (l : List Nat) (s : List Int × List Bool), s.1.length + l.length ≤ 1000 → s.2.length + l.length ≤ 1000 → (∀ v ∈ l, (v : Int) < g.N) → goL step (fun s => some s) l s = some (s.1 ++ (l.map fun (v : Nat) => startS j (v : Int)), s.2 ++ List.replicate l.length false) := by
   intro l
   induction l with
   | nil => intro s _ _ _; simp [goL]
   | cons v l ih =>
     intro s hs hs2 hm
     simp only [List.length_cons] at hs hs2
     have hv := hm v List.mem_cons_self
     rw [goL]
     show ((F96 K j (v : Int)).bind fun r => bif (apok (len s.1) 1 8) then bif (apok (len s.2) 1 1) then goL step (fun s => some s) l (appL s.1 [r], appL s.2 [false]) else none else none) = _
     have ha : apok (len s.1) 1 8 = true := decide_eq_true ⟨by show s.1.length + 1 ≤ _; omega, by show (s.1.length + 1) * 8 ≤ _; omega⟩
     have hb : apok (len s.2) 1 1 = true := decide_eq_true ⟨by show s.2.length + 1 ≤ _; omega, by show (s.2.length + 1) * 1 ≤ _; omega⟩
     rw [F96_spec K j (by omega) (by omega), Option.bind_some, ha, hb, cond_true, cond_true, ih _ (by simp [appL]; omega) (by simp [appL]; omega) (fun w hw => hm w (List.mem_cons_of_mem _ hw))]
     simp [appL, List.replicate_succ]
 have h' : F108_l0_0 K g j K [] [] 0 = some ((List.range g.N.toNat).map (fun (v : Nat) => startS j (v : Int)), List.replicate g.N.toNat false) := by
   rw [show F108_l0_0 K g j K [] [] 0 = _ from h, hw _ ([], []) (by simp; omega) (by simp; omega) (fun v hv => by have := List.mem_range.1 hv; omega)]; simp
 rw [h', Option.bind_some]; rfl
noncomputable def hn60 : Hint := { H 60 with nt := 61, prot := 0 }
noncomputable def c60_0 : Code := loopOf E 60 0
def F60_res (r1 : List GState × GAnswer) : Res := ⟨[(.one (.own 74 (.sl (len r1.1) (flat eGState r1.1)))), (.agg [(.im (.lit (.int .i64 r1.2.Kind))), (.im (.lit (.int .i64 r1.2.Step))), (.im (.sl (len r1.2.Vals) (flat (eInt .i64) r1.2.Vals)))])], []⟩
def F60_l0_0 (K : Nat) (a1 : GGraph) (a2 : GJob) : Nat → List Int → List GState → Option (((List GState × Int × Int × List Int)) ⊕ (List GState × Int))
 | 0, _, _ => none
 | k + 1, v3, v4 =>
  bif (inr (wsub .i64 (nlen (len v4)) 1) (len v4)) then
  (elAt v4 (wsub .i64 (nlen (len v4)) 1)).bind fun x5 =>
  (F106 K x5).bind fun r6 =>
  bif r6 then
   (some (.inl (v4, (1, (x5.Step, x5.Vals)))))
  else
  bif (ieq x5.Step a2.Limit) then
   (some (.inl (v4, (3, (x5.Step, x5.Vals)))))
  else
  (F130 K a1 a2 x5).bind fun r7 =>
  bif (ieq r7.2 0) then
   (bif (apok (len v4) 1 80) then
   F60_l0_0 K a1 a2 k v3 (appL v4 [r7.1])
   else none)
  else
  some (.inr (v4, x5.Step))
  else none
def F60_l0_0_S (a1 : GGraph) (a2 : GJob) (v3 : List Int) (v4 : List GState) : TS := .on [128, 129, 130, 192, 193, 194, 195, 196, 320, 321, 322, 323, 384, 385] [(128, ⟨(.box 62 2), 0, nob⟩), (129, ⟨.im, 0, (.lit (.int .i64 a1.N))⟩), (130, ⟨.im, 0, (.sl (len a1.Edges) (flat eGEdge a1.Edges))⟩), (192, ⟨(.box 64 4), 0, nob⟩), (193, ⟨.im, 0, (.lit (.int .i64 a2.Prog))⟩), (194, ⟨.im, 0, (.lit (.int .i64 a2.Source))⟩), (195, ⟨.im, 0, (.lit (.int .i64 a2.Limit))⟩), (196, ⟨.im, 0, (.lit (.int .i64 a2.Parts))⟩), (320, ⟨(.box 68 3), 0, nob⟩), (321, ⟨.im, 0, (.lit (.int .i64 0))⟩), (322, ⟨.im, 0, (.lit (.int .i64 0))⟩), (323, ⟨(.own 2), 0, (.sl (len v3) (flat (eInt .i64) v3))⟩), (384, ⟨.one, 0, nob⟩), (385, ⟨(.own 74), 0, (.sl (len v4) (flat eGState v4))⟩)]
def F60_l0_0_X0 (a1 : GGraph) (a2 : GJob) (w3 : List GState × Int × Int × List Int) : TS := .on [256, 257, 320, 321, 322, 323] [(256, ⟨.one, 0, nob⟩), (257, ⟨(.own 74), 0, (.sl (len w3.1) (flat eGState w3.1))⟩), (320, ⟨(.box 68 3), 0, nob⟩), (321, ⟨.im, 0, (.lit (.int .i64 w3.2.1))⟩), (322, ⟨.im, 0, (.lit (.int .i64 w3.2.2.1))⟩), (323, ⟨.im, 0, (.sl (len w3.2.2.2) (flat (eInt .i64) w3.2.2.2))⟩)]
def F60_l0_0_X1 (a1 : GGraph) (a2 : GJob) (w3 : List GState × Int) : TS := .on [256, 257, 320, 321, 322, 323] [(256, ⟨.one, 0, nob⟩), (257, ⟨(.own 74), 0, (.sl (len w3.1) (flat eGState w3.1))⟩), (320, ⟨(.box 68 3), 0, nob⟩), (321, ⟨.im, 0, (.lit (.int .i64 2))⟩), (322, ⟨.im, 0, (.lit (.int .i64 w3.2))⟩), (323, ⟨(.own 2), 0, (.sl 0 [])⟩)]
theorem F60_l0_0_ok (K : Nat) (a1 : GGraph) (a2 : GJob) : ∀ (k : Nat) (v3 : List Int) (v4 : List GState) (r : ((List GState × Int × Int × List Int)) ⊕ (List GState × Int)), F60_l0_0 K a1 a2 k v3 v4 = some r → (Sum.elim (fun w => LoopEv E H hn60 0 c60_0 (F60_l0_0_S a1 a2 v3 v4) .ret (F60_l0_0_X0 a1 a2 w)) (fun w => LoopEv E H hn60 0 c60_0 (F60_l0_0_S a1 a2 v3 v4) .ret (F60_l0_0_X1 a1 a2 w))) r := by
 intro k
 induction k with
 | zero => intro v3 v4 r hF; cases hF
 | succ k ih =>
  intro v3 v4 r hF
  rw [F60_l0_0] at hF
  refine cond_some hF (fun h5 hF => ?_) (fun _ hF => nomatch hF)
  refine bind_some hF (fun x6 h7 hF => ?_)
  refine bind_some hF (fun r8 h9 hF => ?_)
  have q16 : PQ hn60 fun l => (.int (nlen (len v4)) (nlen (len v4)) :: .int (wsub .i64 (nlen (len v4)) 1) (wsub .i64 (nlen (len v4)) 1) :: .test (inr (wsub .i64 (nlen (len v4)) 1) (len v4)) true :: .sub (flat eGState v4) (nidx (wsub .i64 (nlen (len v4)) 1) 4) 4 [(.lit (.int .i64 x6.Step)), (.sl (len x6.Vals) (flat (eInt .i64) x6.Vals)), (.sl (len x6.Rest) (flat eBool x6.Rest)), (.sl (len x6.In) (flat eGMsg x6.In))] :: .call 106 [.agg (eGState x6)] (F106_res r8) :: .test (leadsAny (Res.mk [(.one (.im (.lit (.bool r8))))] [])) false :: l) := fun z => ⟨rfl, rfl, h5, ⟨rfl, sub_flat0 eGState_len h7 4 (by decide)⟩, (F106_ok K x6 _ h9), (leads_ok (by simp [leadsAny, RV.leads, RC.leads, leadsT, hasSl_lit, flat_ns (eInt_ns _), flat_ns eBool_ns, flat_ns eGMsg_ns])), z⟩
  refine cond_some hF (fun h10 hF => ?_) (fun h10 hF => ?_)
  ·
   obtain rfl := Option.some.inj hF
   have pz : HoldAll E H hn60 [.test r8 true] := ⟨h10, trivial⟩
   exact loop_endC (h := hn60) (l := 0) (c := c60_0) (ts := F60_l0_0_S a1 a2 v3 v4) (ts' := F60_l0_0_X0 a1 a2 (v4, (1, (x6.Step, x6.Vals)))) (ex := .ret) (q16 pz) (by kernel_rfl) trivial
  refine cond_some hF (fun h11 hF => ?_) (fun h11 hF => ?_)
  ·
   obtain rfl := Option.some.inj hF
   have pz : HoldAll E H hn60 [.test r8 false, .test (ieq x6.Step a2.Limit) true] := ⟨h10, h11, trivial⟩
   exact loop_endC (h := hn60) (l := 0) (c := c60_0) (ts := F60_l0_0_S a1 a2 v3 v4) (ts' := F60_l0_0_X0 a1 a2 (v4, (3, (x6.Step, x6.Vals)))) (ex := .ret) (q16 pz) (by kernel_rfl) trivial
  refine bind_some hF (fun r12 h13 hF => ?_)
  have q17 : PQ hn60 fun l => (.test r8 false :: .test (ieq x6.Step a2.Limit) false :: .call 130 [.agg (eGGraph a1), .agg (eGJob a2), .agg (eGState x6)] (F130_res r12) :: .test (leadsAny (Res.mk [(.agg [(.im (.lit (.int .i64 r12.1.Step))), (.own 2 (.sl (len r12.1.Vals) (flat (eInt .i64) r12.1.Vals))), (.own 4 (.sl (len r12.1.Rest) (flat eBool r12.1.Rest))), (.own 130 (.sl (len r12.1.In) (flat eGMsg r12.1.In)))]), (.one (.im (.lit (.int .i64 r12.2))))] [])) false :: l) := fun z => ⟨h10, h11, (F130_ok K a1 a2 x6 _ h13), (leads_ok (by simp [leadsAny, RV.leads, RC.leads, leadsT, hasSl_lit, flat_ns (eInt_ns _), flat_ns eBool_ns, flat_ns eGJob_ns, flat_ns eGMsg_ns])), z⟩
  refine cond_some hF (fun h14 hF => ?_) (fun h14 hF => ?_)
  ·
   refine cond_some hF (fun h15 hF => ?_) (fun _ hF => nomatch hF)
   have pz : HoldAll E H hn60 [.test (ine r12.2 0) false, .test (leqm [(.lit (.int .i64 r12.1.Step)), (.sl (len r12.1.Vals) (flat (eInt .i64) r12.1.Vals)), (.sl (len r12.1.Rest) (flat eBool r12.1.Rest)), (.sl (len r12.1.In) (flat eGMsg r12.1.In))] 1 4) true, .test (apok (len v4) 1 80) true, .sl (nadd (len v4) 1) (lapp (flat eGState v4) [(.lit (.int .i64 r12.1.Step)), (.sl (len r12.1.Vals) (flat (eInt .i64) r12.1.Vals)), (.sl (len r12.1.Rest) (flat eBool r12.1.Rest)), (.sl (len r12.1.In) (flat eGMsg r12.1.In))]) (len (α := GState) (appL v4 [r12.1])) (flat eGState (appL v4 [r12.1]))] := ⟨(ine_t h14), rfl, h15, (app_ok (enc := eGState) (v4 : List GState) [r12.1]), trivial⟩
   have h0 := ih _ _ _ hF
   have hn := fun ex ts' => loop_nextC (h := hn60) (l := 0) (c := c60_0) (ts := F60_l0_0_S a1 a2 v3 v4) (ts1 := (F60_l0_0_S a1 a2 v3 (appL v4 [r12.1]))) (ex := ex) (ts' := ts') (q16 (q17 pz)) (by kernel_rfl)
   cases r with
   | inl w => exact hn _ _ h0
   | inr w => exact hn _ _ h0
  obtain rfl := Option.some.inj hF
  have pz : HoldAll E H hn60 [.test (ine r12.2 0) true] := ⟨(ine_f h14), trivial⟩
  exact loop_endC (h := hn60) (l := 0) (c := c60_0) (ts := F60_l0_0_S a1 a2 v3 v4) (ts' := F60_l0_0_X1 a1 a2 (v4, x6.Step)) (ex := .ret) (q16 (q17 pz)) (by kernel_rfl) trivial
def F60 (K : Nat) (a1 : GGraph) (a2 : GJob) : Option (List GState × GAnswer) :=
 (F59 K a1 a2).bind fun r3 =>
 bif (ieq r3 0) then
  ((F108 K a1 a2).bind fun r4 =>
  (F60_l0_0 K a1 a2 K [] [r4]).bind fun y5 =>
  Sum.elim (fun w6 =>
   some (w6.1, (GAnswer.mk w6.2.1 w6.2.2.1 w6.2.2.2)))
   (fun w7 =>
   some (w7.1, (GAnswer.mk 2 w7.2 []))) y5)
 else
 some ([], (GAnswer.mk 4 0 []))
theorem F60_ok (K : Nat) (a1 : GGraph) (a2 : GJob) (r : List GState × GAnswer) (hF : F60 K a1 a2 = some r) : Evt E H 60 [.agg (eGGraph a1), .agg (eGJob a2)] (F60_res r) := by
 rw [F60] at hF
 refine bind_some hF (fun r3 h4 hF => ?_)
 refine cond_some hF (fun h5 hF => ?_) (fun h5 hF => ?_)
 ·
  refine bind_some hF (fun r6 h7 hF => ?_)
  have q12 : PQ hn60 fun l => (.call 59 [.agg (eGGraph a1), .agg (eGJob a2)] (F59_res r3) :: .test (leadsAny (Res.mk [(.one (.im (.lit (.int .i64 r3))))] [])) false :: .test (ine r3 0) false :: .call 108 [.agg (eGGraph a1), .agg (eGJob a2)] (F108_res r6) :: .test (leadsAny (Res.mk [(.agg [(.im (.lit (.int .i64 r6.Step))), (.own 2 (.sl (len r6.Vals) (flat (eInt .i64) r6.Vals))), (.own 4 (.sl (len r6.Rest) (flat eBool r6.Rest))), (.own 130 (.sl (len r6.In) (flat eGMsg r6.In)))])] [])) false :: l) := fun z => ⟨(F59_ok K a1 a2 _ h4), (leads_ok (by simp [leadsAny, RV.leads, RC.leads, leadsT, hasSl_lit, flat_ns (eInt_ns _), flat_ns eBool_ns, flat_ns eGJob_ns, flat_ns eGMsg_ns])), (ine_t h5), (F108_ok K a1 a2 _ h7), (leads_ok (by simp [leadsAny, RV.leads, RC.leads, leadsT, hasSl_lit, flat_ns (eInt_ns _), flat_ns eBool_ns, flat_ns eGJob_ns, flat_ns eGMsg_ns])), z⟩
  refine bind_some hF (fun y9 h8 hF => ?_)
  refine sum_some hF (fun w10 hx hF => ?_) (fun w11 hx hF => ?_)
  ·
   subst hx
   obtain rfl := Option.some.inj hF
   have pz : HoldAll E H hn60 [.loop 0 c60_0 (F60_l0_0_S a1 a2 [] [r6]) .ret (F60_l0_0_X0 a1 a2 w10)] := ⟨(F60_l0_0_ok K a1 a2 K [] [r6] _ h8), trivial⟩
   exact fn_playC hn60 (r := F60_res (w10.1, (GAnswer.mk w10.2.1 w10.2.2.1 w10.2.2.2))) (q12 pz) (by kernel_rfl) (by kernel_rfl)
  subst hx
  obtain rfl := Option.some.inj hF
  have pz : HoldAll E H hn60 [.loop 0 c60_0 (F60_l0_0_S a1 a2 [] [r6]) .ret (F60_l0_0_X1 a1 a2 w11)] := ⟨(F60_l0_0_ok K a1 a2 K [] [r6] _ h8), trivial⟩
  exact fn_playC hn60 (r := F60_res (w11.1, (GAnswer.mk 2 w11.2 []))) (q12 pz) (by kernel_rfl) (by kernel_rfl)
 obtain rfl := Option.some.inj hF
 have pz : HoldAll E H hn60 [.call 59 [.agg (eGGraph a1), .agg (eGJob a2)] (F59_res r3), .test (leadsAny (Res.mk [(.one (.im (.lit (.int .i64 r3))))] [])) false, .test (ine r3 0) true] := ⟨(F59_ok K a1 a2 _ h4), (leads_ok (by simp [leadsAny, RV.leads, RC.leads, leadsT, hasSl_lit, flat_ns eGJob_ns])), (ine_f h5), trivial⟩
 exact fn_playC hn60 (r := F60_res ([], (GAnswer.mk 4 0 []))) pz (by kernel_rfl) (by kernel_rfl)
structure goodS (s : GState) : Prop where
 nice : niceS s
 lin : s.In.length ≤ 80
 lre : s.Rest.length ≤ 24
 lva : s.Vals.length ≤ 24
theorem foldC_ok (p : Int) : ∀ (r : List GMsg) (c : GMsg) (d w : List GMsg), foldC p r c d = .inr w → i64 c.V → (∀ x ∈ r, i64 x.V) → (∀ x ∈ d, i64 x.V) → w.length ≤ d.length + r.length + 1 ∧ ∀ x ∈ w, i64 x.V
 | [], c, d, w, h, hc, _, hd => by
   injection h with h
   subst h
   refine ⟨by simp, fun x hx => ?_⟩
   rcases List.mem_append.1 hx with hx | hx
   · exact hd x hx
   · rw [List.mem_singleton.1 hx]; exact hc
 | x :: r, c, d, w, h, hc, hr, hd => by
   rw [foldC] at h
   have hx := hr x List.mem_cons_self
   have hr' := fun y hy => hr y (List.mem_cons_of_mem _ hy)
   cases h1 : ieq c.To x.To
   · rw [h1, cond_false] at h
     have := foldC_ok p r x (d ++ [c]) w h hx hr' (fun y hy => by
       rcases List.mem_append.1 hy with hy | hy
       · exact hd y hy
       · rw [List.mem_singleton.1 hy]; exact hc)
     rw [List.length_append] at this
     simp only [List.length_singleton] at this
     exact ⟨by simp only [List.length_cons]; omega, this.2⟩
   · rw [h1, cond_true] at h
     cases h2 : ieq (foldS p c.V x.V).2 0
     · rw [h2] at h; cases h
     · rw [h2, cond_true] at h
       have := foldC_ok p r _ d w h (foldS_i64 hc hx) hr' hd
       exact ⟨by simp only [List.length_cons]; omega, this.2⟩
theorem boxS_ok {p : Int} {l : List GMsg} (hl : ∀ x ∈ l, i64 x.V) : (boxS p l).1.length ≤ l.length ∧ ∀ x ∈ (boxS p l).1, i64 x.V := by
 have hn : ∀ x ∈ ([] : List GMsg), i64 x.V := fun x hx => absurd hx List.not_mem_nil
 have hs : ∀ x ∈ sortM l, i64 x.V := fun x hx => hl x ((sortM_perm l).mem_iff.1 hx)
 have hsl := sortM_len l
 rw [boxS]
 cases pbad p
 · rw [cond_false]
   generalize sortM l = m at *
   cases m with
   | nil => exact ⟨Nat.zero_le _, hn⟩
   | cons x r =>
     rw [foldO]
     cases hq : foldC p r x [] with
     | inl e => exact ⟨Nat.zero_le _, hn⟩
     | inr w =>
       have := foldC_ok p r x [] w hq (hs x List.mem_cons_self) (fun y hy => hs y (List.mem_cons_of_mem _ hy)) hn
       simp only [List.length_cons, List.length_nil] at hsl this
       exact ⟨by show w.length ≤ _; omega, this.2⟩
 · exact ⟨Nat.zero_le _, hn⟩
theorem step_ok {g : GGraph} {j : GJob} {s : GState} (h : ieq (stepS g j s).2 0 = true) : ieq (jcheck g j) 0 = true ∧ stRight g j s = true ∧ ieq s.Step 40 = false ∧
   ∃ w, stepA g j s (List.range g.N.toNat) [] [] [] = .inr w ∧ ieq (boxS j.Prog w.2.2).2 0 = true ∧ (stepS g j s).1 = GState.mk (s.Step + 1) w.1 w.2.1 (boxS j.Prog w.2.2).1 := by
 rw [stepS] at h ⊢
 cases hc : ieq (jcheck g j) 0
 · rw [hc, cond_false] at h
   have h' : ieq (jcheck g j) 0 = true := h
   rw [hc] at h'; cases h'
 · rw [hc] at h
   cases hr : stRight g j s
   · rw [hr] at h; cases h
   · rw [hr] at h
     cases h40 : ieq s.Step 40
     · rw [h40] at h
       simp only [cond_true, cond_false] at h ⊢
       cases hA : stepA g j s (List.range g.N.toNat) [] [] [] with
       | inl e =>
         rw [hA] at h
         have he : ieq e 0 = true := h
         exfalso
         have hno : ∀ (l : List Nat) a b c e, stepA g j s l a b c = .inl e → ieq e 0 = false := by
           intro l
           induction l with
           | nil => intro a b c e h; cases h
           | cons v l ih =>
             intro a b c e h
             rw [stepA] at h
             cases hq : ieq (oneS g j s v).2.2.2 0
             · rw [hq] at h
               injection h with h
               rw [← h]; exact hq
             · rw [hq] at h; exact ih _ _ _ _ h
         rw [hno _ _ _ _ _ hA] at he; cases he
       | inr w =>
         rw [hA, stepB] at h
         rw [stepB]
         cases hb : ieq (boxS j.Prog w.2.2).2 0
         · rw [hb, cond_false] at h
           have h' : ieq (boxS j.Prog w.2.2).2 0 = true := h
           rw [hb] at h'; cases h'
         · exact ⟨trivial, trivial, trivial, w, rfl, hb, rfl⟩
     · rw [h40] at h; cases h
theorem step_good {g : GGraph} {j : GJob} {s : GState} (hg : goodS s) (h : ieq (stepS g j s).2 0 = true) : goodS (stepS g j s).1 ∧ (stepS g j s).1.Step = s.Step + 1 := by
 obtain ⟨hc, hr, h40, w, hA, hb, he⟩ := step_ok h
 obtain ⟨hgc, _⟩ := jcheck_ok hc
 obtain ⟨g1, g2, g3, _⟩ := gcheck_ok hgc
 rw [List.range_eq_range'] at hA
 have kw := stepA_keep hg.nice g.N.toNat 0 [] [] [] (keep0 g) w hA
 have hwl := keep_len kw g3
 obtain ⟨b1, b2⟩ := boxS_ok (p := j.Prog) kw.vc
 rw [he]
 refine ⟨⟨⟨kw.va, b2⟩, ?_, ?_, ?_⟩, rfl⟩
 · show (boxS j.Prog w.2.2).1.length ≤ 80; omega
 · show w.2.1.length ≤ 24; rw [kw.lb]; omega
 · show w.1.length ≤ 24; rw [kw.la]; omega
theorem startS_i64 {j : GJob} {v : Int} (h0 : 0 ≤ v) (h : v ≤ 1000) : i64 (startS j v) := by
 rw [startS]
 unfold i64
 cases ieq j.Prog 2
 · cases ieq j.Prog 4
   · cases ieq j.Prog 5
     · cases ieq v j.Source <;> simp
     · simp
   · simp only [cond_true, cond_false]; omega
 · simp only [cond_true]; omega
theorem begin_good {g : GGraph} {j : GJob} (hg : ieq (gcheck g) 0 = true) : goodS (beginS g j) ∧ (beginS g j).Step = 0 := by
 obtain ⟨g1, g2, g3, _⟩ := gcheck_ok hg
 refine ⟨⟨⟨fun v hv => ?_, fun m hm => absurd hm List.not_mem_nil⟩, Nat.zero_le _, by simp [beginS]; omega, by simp [beginS]; omega⟩, rfl⟩
 obtain ⟨n, hn, rfl⟩ := List.mem_map.1 (show v ∈ (List.range g.N.toNat).map fun (v : Nat) => startS j (v : Int) from hv)
 have := List.mem_range.1 hn
 exact startS_i64 (by omega) (by omega)
def runL (g : GGraph) (j : GJob) : Nat → GState → List GState × GAnswer
 | 0, s => ([s], GAnswer.mk 0 s.Step [])
 | f + 1, s => bif restsS s then ([s], GAnswer.mk 1 s.Step s.Vals) else bif ile j.Limit s.Step then ([s], GAnswer.mk 3 s.Step s.Vals)
   else bif ieq (stepS g j s).2 0 then (s :: (runL g j f (stepS g j s).1).1, (runL g j f (stepS g j s).1).2) else ([s], GAnswer.mk 2 s.Step [])
def runS (g : GGraph) (j : GJob) : List GState × GAnswer := bif ieq (jcheck g j) 0 then runL g j 50 (beginS g j) else ([], GAnswer.mk 4 0 [])
theorem F60_loop {K : Nat} (hK : 1000 ≤ K) (g : GGraph) (j : GJob) : ∀ (f k : Nat) (s : GState) (acc : List GState) (x : List Int), goodS s → s.Step ≤ j.Limit → j.Limit ≤ 40 → j.Limit - s.Step < f → f ≤ k → acc.length + (j.Limit - s.Step) ≤ 41 →
   (F60_l0_0 K g j k x (acc ++ [s])).bind (fun y => Sum.elim (fun (w : List GState × Int × Int × List Int) => some (w.1, GAnswer.mk w.2.1 w.2.2.1 w.2.2.2)) (fun (w : List GState × Int) => some (w.1, GAnswer.mk 2 w.2 [])) y) = some (acc ++ (runL g j f s).1, (runL g j f s).2) := by
 intro f
 induction f with
 | zero => intro k s acc x hs h0 h40 hf hk ha; omega
 | succ f ih =>
   intro k s acc x hs h0 h40 hf hk ha
   obtain ⟨k, rfl⟩ : ∃ q, k = q + 1 := ⟨k - 1, by omega⟩
   have l1 := hs.lin
   have l2 := hs.lre
   rcases put_last acc s s with ⟨q1, q2⟩ | q
   · obtain ⟨q2, _⟩ := q2 (by omega)
     have ap : apok (len (acc ++ [s])) 1 80 = true := decide_eq_true ⟨by show (acc ++ [s]).length + 1 ≤ _; rw [List.length_append]; simp only [List.length_singleton]; omega, by show ((acc ++ [s]).length + 1) * 80 ≤ _; rw [List.length_append]; simp only [List.length_singleton]; omega⟩
     rw [F60_l0_0, q1, q2, ap]
     simp only [cond_true, Option.bind_some, F106_specS K s (show s.Rest.length < 4611686018427387904 by omega) (show s.Rest.length < K by omega), F130_spec hK g j s hs.nice (show s.In.length < 1000000 by omega) (show s.In.length < K by omega), runL]
     cases h1 : restsS s
     · cases h2 : ile j.Limit s.Step
       · have h2' := ile_f.1 h2
         rw [ieq_f.2 (by omega : s.Step ≠ j.Limit)]
         cases h3 : ieq (stepS g j s).2 0
         · rfl
         · obtain ⟨g1, g2⟩ := step_good hs h3
           have := ih k (stepS g j s).1 (acc ++ [s]) x g1 (by omega) h40 (by omega) (by omega) (by rw [List.length_append]; simp only [List.length_singleton]; omega)
           simp only [cond_false, cond_true]
           rw [show appL (acc ++ [s]) [(stepS g j s).1] = acc ++ [s] ++ [(stepS g j s).1] from rfl, this, List.append_assoc]; rfl
       · have h2' := ile_iff.1 h2
         rw [ieq_iff.2 (by omega : s.Step = j.Limit)]; rfl
     · rfl
   · omega
theorem F60_spec {K : Nat} (hK : 1000 ≤ K) (g : GGraph) (j : GJob) : F60 K g j = some (runS g j) := by
 rw [F60, F59_spec (by omega), Option.bind_some, runS]
 cases hc : ieq (jcheck g j) 0
 · rfl
 · obtain ⟨hg, _, _, _, _, p5, p6, _⟩ := jcheck_ok hc
   obtain ⟨g1, g2, _⟩ := gcheck_ok hg
   obtain ⟨b1, b2⟩ := begin_good (j := j) hg
   rw [cond_true, cond_true, F108_spec hK g j (by omega) g2, Option.bind_some]
   have := F60_loop hK g j 50 K (beginS g j) [] [] b1 (by omega) p6 (by omega) (by omega) (by simp only [List.length_nil]; omega)
   exact this
theorem inSt_mk {n : Int} : ∀ {l : List GMsg} {v : Int}, l.Pairwise (fun a b => a.To < b.To) → (∀ m ∈ l, v < m.To ∧ m.To < n) → inSt n v l = true
 | [], v, _, _ => rfl
 | m :: l, v, hp, hm => by
   obtain ⟨a, b⟩ := List.pairwise_cons.1 hp
   have h1 := hm m List.mem_cons_self
   rw [inSt, ilt_iff.2 h1.1, ilt_iff.2 h1.2]
   exact inSt_mk b fun x hx => ⟨a x hx, (hm x (List.mem_cons_of_mem _ hx)).2⟩
theorem stRight_mk {g : GGraph} {j : GJob} {s : GState} (hc : ieq (jcheck g j) 0 = true) (h0 : 0 ≤ s.Step) (h40 : s.Step ≤ 40) (hv : (s.Vals.length : Int) = g.N) (hr : (s.Rest.length : Int) = g.N) (hi : inSt g.N (-1) s.In = true) : stRight g j s = true := by
 rw [stRight, hc, ile_iff.2 h0, ile_iff.2 h40, ieq_iff.2 hv, ieq_iff.2 hr, hi]; rfl
theorem begin_right {g : GGraph} {j : GJob} (hc : ieq (jcheck g j) 0 = true) : stRight g j (beginS g j) = true := by
 obtain ⟨hg, _⟩ := jcheck_ok hc
 obtain ⟨g1, g2, _⟩ := gcheck_ok hg
 exact stRight_mk hc (Int.le_refl _) (show (0 : Int) ≤ 40 by omega) (by simp [beginS]; omega) (by simp [beginS]; omega) rfl
theorem stepA_To {g : GGraph} {j : GJob} {s : GState} : ∀ (l : List Nat) (a : List Int) (b : List Bool) (c : List GMsg) (w : Tri), (∀ m ∈ c, 0 ≤ m.To ∧ m.To < g.N) → stepA g j s l a b c = .inr w → ∀ m ∈ w.2.2, 0 ≤ m.To ∧ m.To < g.N := by
 intro l
 induction l with
 | nil => intro a b c w h hw; injection hw with hw; subst hw; exact h
 | cons v l ih =>
   intro a b c w h hw
   rw [stepA] at hw
   cases hq : ieq (oneS g j s v).2.2.2 0
   · rw [hq] at hw; cases hw
   · rw [hq] at hw
     refine ih _ _ _ w (fun m hm => ?_) hw
     rcases List.mem_append.1 hm with hm | hm
     · exact h m hm
     · rw [oneS] at hm
       cases hz : s.Rest.getD v false && !(atS s.In (v : Int)).2
       · rw [hz] at hm; exact turn_To m hm
       · rw [hz] at hm; exact absurd hm List.not_mem_nil
theorem step_right {g : GGraph} {j : GJob} {s : GState} (hg : goodS s) (h : ieq (stepS g j s).2 0 = true) : stRight g j (stepS g j s).1 = true := by
 obtain ⟨hc, hr, h40, w, hA, hb, he⟩ := step_ok h
 obtain ⟨_, s1, s2, _⟩ := stRight_ok hr
 obtain ⟨hgc, _⟩ := jcheck_ok hc
 obtain ⟨g1, g2, g3, _⟩ := gcheck_ok hgc
 have ht := stepA_To _ [] [] [] w (fun m hm => absurd hm List.not_mem_nil) hA
 rw [List.range_eq_range'] at hA
 have kw := stepA_keep hg.nice g.N.toNat 0 [] [] [] (keep0 g) w hA
 have h1 := kw.la
 have h2 := kw.lb
 have hs := ieq_f.1 h40
 obtain ⟨r1, r2⟩ := boxS_rise (p := j.Prog) (l := w.2.2)
 rw [he]
 refine stRight_mk hc (show 0 ≤ s.Step + 1 by omega) (show s.Step + 1 ≤ 40 by omega) (show (w.1.length : Int) = _ by omega) (show (w.2.1.length : Int) = _ by omega) (inSt_mk r1 fun m hm => ?_)
 obtain ⟨u, hu, e⟩ := r2 m hm
 have := ht u hu
 omega
structure runAt (g : GGraph) (j : GJob) (L : List GState × GAnswer) (s0 : Int) (i : Nat) (t : GState) : Prop where
 good : goodS t
 rgt : stRight g j t = true
 step : t.Step = s0 + (i : Int)
 on : i + 1 < L.1.length ∨ L.2.Kind = 2 → restsS t = false ∧ ile j.Limit t.Step = false
 last : i + 1 = L.1.length → L.2.Kind = 2 ∨ (L.2.Step = t.Step ∧ L.2.Kind = bif restsS t then 1 else bif ile j.Limit t.Step then 3 else 0)
theorem run_at {g : GGraph} {j : GJob} : ∀ (f : Nat) (s : GState), goodS s → stRight g j s = true → s.Step ≤ j.Limit → j.Limit - s.Step < f → ((runL g j f s).1.length : Int) ≤ j.Limit - s.Step + 1 ∧ ∀ (i : Nat) (t : GState), (runL g j f s).1[i]? = some t → runAt g j (runL g j f s) s.Step i t := by
 intro f
 induction f with
 | zero => intro s _ _ h0 hf; omega
 | succ f ih =>
   intro s hs hr h0 hf
   rw [runL]
   have one : ∀ (A : GAnswer), (A.Kind = 2 → restsS s = false ∧ ile j.Limit s.Step = false) → (A.Kind = 2 ∨ (A.Step = s.Step ∧ A.Kind = bif restsS s then 1 else bif ile j.Limit s.Step then 3 else 0)) →
       ((([s], A) : List GState × GAnswer).1.length : Int) ≤ j.Limit - s.Step + 1 ∧ ∀ (i : Nat) (t : GState), (([s], A) : List GState × GAnswer).1[i]? = some t → runAt g j ([s], A) s.Step i t := by
     intro A hA hB
     refine ⟨by show ((1 : Nat) : Int) ≤ _; omega, fun i t ht => ?_⟩
     cases i with
     | zero =>
       have : s = t := Option.some.inj ht
       subst this
       exact ⟨hs, hr, by omega, fun h => h.elim (fun h => absurd h (by show ¬ (0 + 1 < 1); omega)) hA, fun _ => hB⟩
     | succ i => cases ht
   cases h1 : restsS s
   · cases h2 : ile j.Limit s.Step
     · cases h3 : ieq (stepS g j s).2 0
       · exact one _ (fun _ => ⟨h1, h2⟩) (.inl rfl)
       · obtain ⟨g1, g2⟩ := step_good hs h3
         have h2' := ile_f.1 h2
         obtain ⟨q1, q2⟩ := ih (stepS g j s).1 g1 (step_right hs h3) (by omega) (by omega)
         simp only [cond_false, cond_true]
         refine ⟨by simp only [List.length_cons]; omega, fun i t ht => ?_⟩
         cases i with
         | zero =>
           have : s = t := Option.some.inj ht
           subst this
           have hl : 0 < (runL g j f (stepS g j s).1).1.length := by
             cases f with
             | zero => exact Nat.zero_lt_one
             | succ f =>
               rw [runL]
               cases restsS (stepS g j s).1
               · cases ile j.Limit (stepS g j s).1.Step
                 · cases ieq (stepS g j (stepS g j s).1).2 0
                   · exact Nat.zero_lt_one
                   · exact Nat.succ_pos _
                 · exact Nat.zero_lt_one
               · exact Nat.zero_lt_one
           exact ⟨hs, hr, by omega, fun _ => ⟨h1, h2⟩, fun h => absurd h (by simp only [List.length_cons]; omega)⟩
         | succ i =>
           obtain ⟨a1, a2, a3, a4, a5⟩ := q2 i t (by simpa using ht)
           refine ⟨a1, a2, by omega, fun h => a4 ?_, fun h => a5 ?_⟩
           · simp only [List.length_cons] at h
             rcases h with h | h
             · left; omega
             · right; exact h
           · simp only [List.length_cons] at h; omega
     · exact one _ (fun h => by cases h) (.inr ⟨rfl, by rw [h1, h2]; rfl⟩)
   · exact one _ (fun h => by cases h) (.inr ⟨rfl, by rw [h1]; rfl⟩)
theorem runS_at {g : GGraph} {j : GJob} (hc : ieq (jcheck g j) 0 = true) : (runS g j).1.length ≤ 41 ∧ ∀ (i : Nat) (t : GState), (runS g j).1[i]? = some t → runAt g j (runS g j) 0 i t := by
 obtain ⟨hg, _, _, _, _, p5, p6, _⟩ := jcheck_ok hc
 obtain ⟨b1, b2⟩ := begin_good (j := j) hg
 obtain ⟨h1, h2⟩ := run_at (g := g) (j := j) 50 (beginS g j) b1 (begin_right hc) (by omega) (by omega)
 rw [b2] at h1 h2
 rw [runS, hc, cond_true]
 exact ⟨by omega, h2⟩
noncomputable def hn48 : Hint := { H 48 with nt := 63, prot := 0 }
noncomputable def c48_0 : Code := loopOf E 48 0
def F48_res (r43 : Bool) : Res := ⟨[(.one (.im (.lit (.bool r43))))], []⟩
def F48_l0_0 (K : Nat) (a6 : GBarrier) : Nat → Int → Int → Option ((Unit) ⊕ (Unit))
 | 0, _, _ => none
 | k + 1, v20, v21 =>
  bif (ilt v21 (nlen (len a6.Came))) then
   (bif (inr v21 (len a6.Came)) then
   (elAt a6.Came v21).bind fun x24 =>
   bif (ile x24.P v20) then
    (some (.inl ()))
   else
   bif (ile a6.Parts x24.P) then
    (some (.inl ()))
   else
   bif (ieq x24.Step (wadd .i64 a6.Step 1)) then
    (F48_l0_0 K a6 k x24.P (wadd .i64 v21 1))
   else
   some (.inl ())
   else none)
  else
  some (.inr ())
def F48_l0_0_S (a6 : GBarrier) (v20 : Int) (v21 : Int) : TS := .on [64, 65, 66, 67, 68, 69, 192, 193, 2176, 2240, 2241, 2304, 2305, 2368, 2369] [(64, ⟨(.box 24 5), 0, nob⟩), (65, ⟨.im, 0, (.lit (.int .i64 a6.Epoch))⟩), (66, ⟨.im, 0, (.lit (.int .i64 a6.Step))⟩), (67, ⟨.im, 0, (.lit (.int .i64 a6.Parts))⟩), (68, ⟨.im, 0, (.sl (len a6.Came) (flat eGPart a6.Came))⟩), (69, ⟨.im, 0, (.lit (.bool a6.Over))⟩), (192, ⟨.one, 0, nob⟩), (193, ⟨.im, 0, (.lit (.int .i64 v20))⟩), (2176, ⟨(.ad 1 0 3), 0, nob⟩), (2240, ⟨.one, 0, nob⟩), (2241, ⟨.im, 0, (.sl (len a6.Came) (flat eGPart a6.Came))⟩), (2304, ⟨.one, 0, nob⟩), (2305, ⟨.im, 0, (.lit (.int .i64 (nlen (len a6.Came))))⟩), (2368, ⟨.one, 0, nob⟩), (2369, ⟨.im, 0, (.lit (.int .i64 v21))⟩)]
def F48_l0_0_X0 (a6 : GBarrier) (w29 : Unit) : TS := .on [128, 129] [(128, ⟨.one, 0, nob⟩), (129, ⟨.im, 0, (.lit (.bool false))⟩)]
def F48_l0_0_X1 (a6 : GBarrier) (w30 : Unit) : TS := .on [] []
theorem F48_l0_0_ok (K : Nat) (a6 : GBarrier) : ∀ (k : Nat) (v20 : Int) (v21 : Int) (r : (Unit) ⊕ (Unit)), F48_l0_0 K a6 k v20 v21 = some r → (Sum.elim (fun w => LoopEv E H hn48 0 c48_0 (F48_l0_0_S a6 v20 v21) .ret (F48_l0_0_X0 a6 w)) (fun w => LoopEv E H hn48 0 c48_0 (F48_l0_0_S a6 v20 v21) (.exit 0) (F48_l0_0_X1 a6 w))) r := by
 intro k
 induction k with
 | zero => intro v20 v21 r hF; cases hF
 | succ k ih =>
  intro v20 v21 r hF
  rw [F48_l0_0] at hF
  refine cond_some hF (fun h22 hF => ?_) (fun h22 hF => ?_)
  ·
   refine cond_some hF (fun h23 hF => ?_) (fun _ hF => nomatch hF)
   refine bind_some hF (fun x24 h25 hF => ?_)
   have pq31 : PQ hn48 fun l => (.test (ilt v21 (nlen (len a6.Came))) true :: .test (inr v21 (len a6.Came)) true :: .sub (flat eGPart a6.Came) (nidx v21 5) 5 [(.lit (.int .i64 x24.P)), (.lit (.int .i64 x24.Step)), (.sl (len x24.Vals) (flat (eInt .i64) x24.Vals)), (.sl (len x24.Rest) (flat eBool x24.Rest)), (.sl (len x24.In) (flat eGMsg x24.In))] :: l) := fun z => ⟨h22, h23, ⟨rfl, sub_flat0 eGPart_len h25 5 (by decide)⟩, z⟩
   refine cond_some hF (fun h26 hF => ?_) (fun h26 hF => ?_)
   ·
    obtain rfl := Option.some.inj hF
    have pz : HoldAll E H hn48 [.test (beqb (ile x24.P v20) false) false, .test (beqb (ile x24.P v20) false) false, .test (beqb (ile x24.P v20) false) false, .test (beqb (ile x24.P v20) false) false, .test (beqb (ile x24.P v20) false) false, .test (ile x24.P v20) true, .test (beqb true false) false, .test (beqb true false) false, .test (beqb true false) false, .test (beqb true false) false, .test (beqb true false) false, .test (beqb true false) false, .test true true, .test true true] := ⟨(beqb_ft h26), (beqb_ft h26), (beqb_ft h26), (beqb_ft h26), (beqb_ft h26), h26, (beqb_ft rfl), (beqb_ft rfl), (beqb_ft rfl), (beqb_ft rfl), (beqb_ft rfl), (beqb_ft rfl), rfl, rfl, trivial⟩
    exact loop_endC (h := hn48) (l := 0) (c := c48_0) (ts := F48_l0_0_S a6 v20 v21) (ts' := F48_l0_0_X0 a6 ()) (ex := .ret) (pq31 pz) (by kernel_rfl) trivial
   have pq32 : PQ hn48 fun l => (.test (beqb (ile x24.P v20) false) true :: .test (beqb (ile x24.P v20) false) true :: .test (beqb (ile x24.P v20) false) true :: .test (beqb (ile x24.P v20) false) true :: .test (beqb (ile x24.P v20) false) true :: .test (ile x24.P v20) false :: l) := fun z => ⟨(beqb_ff h26), (beqb_ff h26), (beqb_ff h26), (beqb_ff h26), (beqb_ff h26), h26, z⟩
   refine cond_some hF (fun h27 hF => ?_) (fun h27 hF => ?_)
   ·
    obtain rfl := Option.some.inj hF
    have pz : HoldAll E H hn48 [.test (beqb (ige x24.P a6.Parts) false) false, .test (beqb (ige x24.P a6.Parts) false) false, .test (beqb (ige x24.P a6.Parts) false) false, .test (beqb (ige x24.P a6.Parts) false) false, .test (beqb (ige x24.P a6.Parts) false) false, .test (beqb (ige x24.P a6.Parts) false) false, .test (ige x24.P a6.Parts) true, .test true true] := ⟨(beqb_ft (ige_eq h27)), (beqb_ft (ige_eq h27)), (beqb_ft (ige_eq h27)), (beqb_ft (ige_eq h27)), (beqb_ft (ige_eq h27)), (beqb_ft (ige_eq h27)), (ige_eq h27), rfl, trivial⟩
    exact loop_endC (h := hn48) (l := 0) (c := c48_0) (ts := F48_l0_0_S a6 v20 v21) (ts' := F48_l0_0_X0 a6 ()) (ex := .ret) (pq31 (pq32 pz)) (by kernel_rfl) trivial
   have pq33 : PQ hn48 fun l => (.test (beqb (ige x24.P a6.Parts) false) true :: .test (beqb (ige x24.P a6.Parts) false) true :: .test (beqb (ige x24.P a6.Parts) false) true :: .test (beqb (ige x24.P a6.Parts) false) true :: .test (beqb (ige x24.P a6.Parts) false) true :: .int (wadd .i64 a6.Step 1) (wadd .i64 a6.Step 1) :: .test (beqb (ige x24.P a6.Parts) false) true :: .test (ige x24.P a6.Parts) false :: l) := fun z => ⟨(beqb_ff (ige_eq h27)), (beqb_ff (ige_eq h27)), (beqb_ff (ige_eq h27)), (beqb_ff (ige_eq h27)), (beqb_ff (ige_eq h27)), rfl, (beqb_ff (ige_eq h27)), (ige_eq h27), z⟩
   refine cond_some hF (fun h28 hF => ?_) (fun h28 hF => ?_)
   ·
    have pz : HoldAll E H hn48 [.test (ine x24.Step (wadd .i64 a6.Step 1)) false, .int (wadd .i64 v21 1) (wadd .i64 v21 1)] := ⟨(ine_t h28), rfl, trivial⟩
    have h0 := ih _ _ _ hF
    have hn := fun ex ts' => loop_nextC (h := hn48) (l := 0) (c := c48_0) (ts := F48_l0_0_S a6 v20 v21) (ts1 := (F48_l0_0_S a6 x24.P (wadd .i64 v21 1))) (ex := ex) (ts' := ts') (pq31 (pq32 (pq33 pz))) (by kernel_rfl)
    cases r with
    | inl w => exact hn _ _ h0
    | inr w => exact hn _ _ h0
   obtain rfl := Option.some.inj hF
   have pz : HoldAll E H hn48 [.test (ine x24.Step (wadd .i64 a6.Step 1)) true] := ⟨(ine_f h28), trivial⟩
   exact loop_endC (h := hn48) (l := 0) (c := c48_0) (ts := F48_l0_0_S a6 v20 v21) (ts' := F48_l0_0_X0 a6 ()) (ex := .ret) (pq31 (pq32 (pq33 pz))) (by kernel_rfl) trivial
  obtain rfl := Option.some.inj hF
  have pz : HoldAll E H hn48 [.test (ilt v21 (nlen (len a6.Came))) false] := ⟨h22, trivial⟩
  exact loop_endC (h := hn48) (l := 0) (c := c48_0) (ts := F48_l0_0_S a6 v20 v21) (ts' := F48_l0_0_X1 a6 ()) (ex := (.exit 0)) pz (by kernel_rfl) trivial
def F48 (K : Nat) (a6 : GBarrier) : Option (Bool) :=
 bif (ilt a6.Epoch 1) then
  (some false)
 else
 bif (ilt 1099511627776 a6.Epoch) then
  (some false)
 else
 bif (ilt a6.Step 0) then
  (some false)
 else
 bif (ile 40 a6.Step) then
  (some false)
 else
 bif (ilt a6.Parts 1) then
  (some false)
 else
 bif (ilt 6 a6.Parts) then
  (some false)
 else
 (F48_l0_0 K a6 K (-1) 0).bind fun y35 =>
 Sum.elim (fun w36 =>
  some false)
  (fun w37 =>
  some true) y35
theorem F48_ok (K : Nat) (a6 : GBarrier) (r : Bool) (hF : F48 K a6 = some r) : Evt E H 48 [.agg (eGBarrier a6)] (F48_res r) := by
 rw [F48] at hF
 refine cond_some hF (fun h7 hF => ?_) (fun h7 hF => ?_)
 ·
  obtain rfl := Option.some.inj hF
  have pz : HoldAll E H hn48 [.test (beqb (ilt a6.Epoch 1) false) false, .test (beqb (ilt a6.Epoch 1) false) false, .test (beqb (ilt a6.Epoch 1) false) false, .test (ilt a6.Epoch 1) true, .test (beqb true false) false, .test (beqb true false) false, .test (beqb true false) false, .test true true, .test (beqb true false) false, .test (beqb true false) false, .test (beqb true false) false, .test true true, .test (beqb true false) false, .test (beqb true false) false, .test (beqb true false) false, .test true true, .test (beqb true false) false, .test (beqb true false) false, .test (beqb true false) false, .test true true, .test true true] := ⟨(beqb_ft h7), (beqb_ft h7), (beqb_ft h7), h7, (beqb_ft rfl), (beqb_ft rfl), (beqb_ft rfl), rfl, (beqb_ft rfl), (beqb_ft rfl), (beqb_ft rfl), rfl, (beqb_ft rfl), (beqb_ft rfl), (beqb_ft rfl), rfl, (beqb_ft rfl), (beqb_ft rfl), (beqb_ft rfl), rfl, rfl, trivial⟩
  exact fn_playC hn48 (r := F48_res false) pz (by kernel_rfl) (by kernel_rfl)
 have pq38 : PQ hn48 fun l => (.test (beqb (ilt a6.Epoch 1) false) true :: .test (beqb (ilt a6.Epoch 1) false) true :: .test (beqb (ilt a6.Epoch 1) false) true :: .test (ilt a6.Epoch 1) false :: l) := fun z => ⟨(beqb_ff h7), (beqb_ff h7), (beqb_ff h7), h7, z⟩
 refine cond_some hF (fun h8 hF => ?_) (fun h8 hF => ?_)
 ·
  obtain rfl := Option.some.inj hF
  have pz : HoldAll E H hn48 [.test (beqb (igt a6.Epoch 1099511627776) false) false, .test (beqb (igt a6.Epoch 1099511627776) false) false, .test (beqb (igt a6.Epoch 1099511627776) false) false, .test (igt a6.Epoch 1099511627776) true, .test (beqb true false) false, .test (beqb true false) false, .test (beqb true false) false, .test true true, .test (beqb true false) false, .test (beqb true false) false, .test (beqb true false) false, .test true true, .test (beqb true false) false, .test (beqb true false) false, .test (beqb true false) false, .test true true, .test true true] := ⟨(beqb_ft (igt_eq h8)), (beqb_ft (igt_eq h8)), (beqb_ft (igt_eq h8)), (igt_eq h8), (beqb_ft rfl), (beqb_ft rfl), (beqb_ft rfl), rfl, (beqb_ft rfl), (beqb_ft rfl), (beqb_ft rfl), rfl, (beqb_ft rfl), (beqb_ft rfl), (beqb_ft rfl), rfl, rfl, trivial⟩
  exact fn_playC hn48 (r := F48_res false) (pq38 pz) (by kernel_rfl) (by kernel_rfl)
 have pq39 : PQ hn48 fun l => (.test (beqb (igt a6.Epoch 1099511627776) false) true :: .test (beqb (igt a6.Epoch 1099511627776) false) true :: .test (beqb (igt a6.Epoch 1099511627776) false) true :: .test (igt a6.Epoch 1099511627776) false :: l) := fun z => ⟨(beqb_ff (igt_eq h8)), (beqb_ff (igt_eq h8)), (beqb_ff (igt_eq h8)), (igt_eq h8), z⟩
 refine cond_some hF (fun h9 hF => ?_) (fun h9 hF => ?_)
 ·
  obtain rfl := Option.some.inj hF
  have pz : HoldAll E H hn48 [.test (beqb (ilt a6.Step 0) false) false, .test (beqb (ilt a6.Step 0) false) false, .test (beqb (ilt a6.Step 0) false) false, .test (ilt a6.Step 0) true, .test (beqb true false) false, .test (beqb true false) false, .test (beqb true false) false, .test true true, .test (beqb true false) false, .test (beqb true false) false, .test (beqb true false) false, .test true true, .test true true] := ⟨(beqb_ft h9), (beqb_ft h9), (beqb_ft h9), h9, (beqb_ft rfl), (beqb_ft rfl), (beqb_ft rfl), rfl, (beqb_ft rfl), (beqb_ft rfl), (beqb_ft rfl), rfl, rfl, trivial⟩
  exact fn_playC hn48 (r := F48_res false) (pq38 (pq39 pz)) (by kernel_rfl) (by kernel_rfl)
 have pq40 : PQ hn48 fun l => (.test (beqb (ilt a6.Step 0) false) true :: .test (beqb (ilt a6.Step 0) false) true :: .test (beqb (ilt a6.Step 0) false) true :: .test (ilt a6.Step 0) false :: l) := fun z => ⟨(beqb_ff h9), (beqb_ff h9), (beqb_ff h9), h9, z⟩
 refine cond_some hF (fun h10 hF => ?_) (fun h10 hF => ?_)
 ·
  obtain rfl := Option.some.inj hF
  have pz : HoldAll E H hn48 [.test (beqb (ige a6.Step 40) false) false, .test (beqb (ige a6.Step 40) false) false, .test (beqb (ige a6.Step 40) false) false, .test (ige a6.Step 40) true, .test (beqb true false) false, .test (beqb true false) false, .test (beqb true false) false, .test true true, .test true true] := ⟨(beqb_ft (ige_eq h10)), (beqb_ft (ige_eq h10)), (beqb_ft (ige_eq h10)), (ige_eq h10), (beqb_ft rfl), (beqb_ft rfl), (beqb_ft rfl), rfl, rfl, trivial⟩
  exact fn_playC hn48 (r := F48_res false) (pq38 (pq39 (pq40 pz))) (by kernel_rfl) (by kernel_rfl)
 have pq41 : PQ hn48 fun l => (.test (beqb (ige a6.Step 40) false) true :: .test (beqb (ige a6.Step 40) false) true :: .test (beqb (ige a6.Step 40) false) true :: .test (ige a6.Step 40) false :: l) := fun z => ⟨(beqb_ff (ige_eq h10)), (beqb_ff (ige_eq h10)), (beqb_ff (ige_eq h10)), (ige_eq h10), z⟩
 refine cond_some hF (fun h11 hF => ?_) (fun h11 hF => ?_)
 ·
  obtain rfl := Option.some.inj hF
  have pz : HoldAll E H hn48 [.test (beqb (ilt a6.Parts 1) false) false, .test (beqb (ilt a6.Parts 1) false) false, .test (beqb (ilt a6.Parts 1) false) false, .test (ilt a6.Parts 1) true, .test true true] := ⟨(beqb_ft h11), (beqb_ft h11), (beqb_ft h11), h11, rfl, trivial⟩
  exact fn_playC hn48 (r := F48_res false) (pq38 (pq39 (pq40 (pq41 pz)))) (by kernel_rfl) (by kernel_rfl)
 have pq42 : PQ hn48 fun l => (.test (beqb (ilt a6.Parts 1) false) true :: .test (beqb (ilt a6.Parts 1) false) true :: .test (beqb (ilt a6.Parts 1) false) true :: .test (ilt a6.Parts 1) false :: l) := fun z => ⟨(beqb_ff h11), (beqb_ff h11), (beqb_ff h11), h11, z⟩
 refine cond_some hF (fun h12 hF => ?_) (fun h12 hF => ?_)
 ·
  obtain rfl := Option.some.inj hF
  have pz : HoldAll E H hn48 [.test (igt a6.Parts 6) true] := ⟨(igt_eq h12), trivial⟩
  exact fn_playC hn48 (r := F48_res false) (pq38 (pq39 (pq40 (pq41 (pq42 pz))))) (by kernel_rfl) (by kernel_rfl)
 refine bind_some hF (fun y35 h34 hF => ?_)
 refine sum_some hF (fun w36 hx hF => ?_) (fun w37 hx hF => ?_)
 ·
  subst hx
  obtain rfl := Option.some.inj hF
  have pz : HoldAll E H hn48 [.test (igt a6.Parts 6) false, .int (nlen (len a6.Came)) (nlen (len a6.Came)), .loop 0 c48_0 (F48_l0_0_S a6 (-1) 0) .ret (F48_l0_0_X0 a6 w36)] := ⟨(igt_eq h12), rfl, (F48_l0_0_ok K a6 K (-1) 0 _ h34), trivial⟩
  exact fn_playC hn48 (r := F48_res false) (pq38 (pq39 (pq40 (pq41 (pq42 pz))))) (by kernel_rfl) (by kernel_rfl)
 subst hx
 obtain rfl := Option.some.inj hF
 have pz : HoldAll E H hn48 [.test (igt a6.Parts 6) false, .int (nlen (len a6.Came)) (nlen (len a6.Came)), .loop 0 c48_0 (F48_l0_0_S a6 (-1) 0) (.exit 0) (F48_l0_0_X1 a6 w37)] := ⟨(igt_eq h12), rfl, (F48_l0_0_ok K a6 K (-1) 0 _ h34), trivial⟩
 exact fn_playC hn48 (r := F48_res true) (pq38 (pq39 (pq40 (pq41 (pq42 pz))))) (by kernel_rfl) (by kernel_rfl)
noncomputable def hn41 : Hint := { H 41 with nt := 18, prot := 0 }
def F41_res (r47 : GBarrier × Int) : Res := ⟨[(.agg [(.im (.lit (.int .i64 r47.1.Epoch))), (.im (.lit (.int .i64 r47.1.Step))), (.im (.lit (.int .i64 r47.1.Parts))), (.own 42 (.sl (len r47.1.Came) (flat eGPart r47.1.Came))), (.im (.lit (.bool r47.1.Over)))]), (.one (.im (.lit (.int .i64 r47.2))))], []⟩
def F41 (K : Nat) (a3 : Int) (a4 : Int) (a5 : Int) : Option (GBarrier × Int) :=
 (F48 K (GBarrier.mk a3 a4 a5 [] false)).bind fun r44 =>
 bif r44 then
  (some ((GBarrier.mk a3 a4 a5 [] false), 0))
 else
 some ((GBarrier.mk 0 0 0 [] false), 1)
theorem F41_ok (K : Nat) (a3 : Int) (a4 : Int) (a5 : Int) (r : GBarrier × Int) (hF : F41 K a3 a4 a5 = some r) : Evt E H 41 [.one (.lit (.int .i64 a3)), .one (.lit (.int .i64 a4)), .one (.lit (.int .i64 a5))] (F41_res r) := by
 rw [F41] at hF
 refine bind_some hF (fun r44 h45 hF => ?_)
 refine cond_some hF (fun h46 hF => ?_) (fun h46 hF => ?_)
 ·
  obtain rfl := Option.some.inj hF
  have pz : HoldAll E H hn41 [.call 48 [.agg (eGBarrier (GBarrier.mk a3 a4 a5 [] false))] (F48_res r44), .test (leadsAny (Res.mk [(.one (.im (.lit (.bool r44))))] [])) false, .test (bnot r44) false] := ⟨(F48_ok K (GBarrier.mk a3 a4 a5 [] false) _ h45), (leads_ok (by simp [leadsAny, RV.leads, RC.leads, leadsT, hasSl_lit])), (bnot_t h46), trivial⟩
  exact fn_playC hn41 (r := F41_res ((GBarrier.mk a3 a4 a5 [] false), 0)) pz (by kernel_rfl) (by kernel_rfl)
 obtain rfl := Option.some.inj hF
 have pz : HoldAll E H hn41 [.call 48 [.agg (eGBarrier (GBarrier.mk a3 a4 a5 [] false))] (F48_res r44), .test (leadsAny (Res.mk [(.one (.im (.lit (.bool r44))))] [])) false, .test (bnot r44) true] := ⟨(F48_ok K (GBarrier.mk a3 a4 a5 [] false) _ h45), (leads_ok (by simp [leadsAny, RV.leads, RC.leads, leadsT, hasSl_lit])), (bnot_f h46), trivial⟩
 exact fn_playC hn41 (r := F41_res ((GBarrier.mk 0 0 0 [] false), 1)) pz (by kernel_rfl) (by kernel_rfl)
theorem ilt_not (a b : Int) : ilt a b = !(ile b a) := by
 unfold ilt ile
 by_cases h : a < b <;> simp [h] <;> omega
def goodE (a b c : Int) : Bool := ile 1 a && ile a 1099511627776 && ile 0 b && ile b 39 && ile 1 c && ile c 6
def chain (parts step : Int) : Int → List GPart → Bool
 | _, [] => true
 | v, x :: l => !(ile x.P v) && !(ile parts x.P) && ieq x.Step (wadd .i64 step 1) && chain parts step x.P l
theorem F48_loop (K : Nat) (a : GBarrier) (hlen : a.Came.length < 1152921504606846976) : ∀ (k i : Nat) (v : Int), a.Came.length - i < k →
   F48_l0_0 K a k v i = some (bif chain a.Parts a.Step v (a.Came.drop i) then .inr () else .inl ()) := by
 intro k
 induction k with
 | zero =>
   intro i v h
   omega
 | succ k ih =>
   intro i v h
   rw [F48_l0_0]
   rcases at_idx a.Came i with ⟨x, e1, e2, e3, e4⟩ | ⟨e1, e2⟩
   · have hi : i < a.Came.length := by
       rcases Nat.lt_or_ge i a.Came.length with g | g
       · exact g
       · rw [List.drop_eq_nil_of_le g] at e1; cases e1
     rw [e1, e2, e3, e4, cond_true, cond_true, Option.bind_some, wadd_nat (by omega)]
     simp only [chain]
     cases ile x.P v
     · cases ile a.Parts x.P
       · cases ieq x.Step (wadd .i64 a.Step 1)
         · rfl
         · exact ih (i + 1) x.P (by omega)
       · rfl
     · rfl
   · rw [e1, e2]; rfl
def right (a : GBarrier) : Bool := goodE a.Epoch a.Step a.Parts && chain a.Parts a.Step (-1) a.Came
theorem F48_spec (K : Nat) (a : GBarrier) (hlen : a.Came.length < 1152921504606846976) (hK : a.Came.length + 1 < K) : F48 K a = some (right a) := by
 have e1 : ile 40 a.Step = !(ile a.Step 39) := by
   unfold ile; by_cases h : a.Step ≤ 39 <;> simp [h] <;> omega
 have e2 : ilt 6 a.Parts = !(ile a.Parts 6) := ilt_not _ _
 have e3 := F48_loop K a hlen K 0 (-1) (by omega)
 have e4 : F48_l0_0 K a K (-1) 0 = some (bif chain a.Parts a.Step (-1) a.Came then .inr () else .inl ()) := e3
 simp only [F48, e1, e4, ilt_not, right, goodE]
 cases ile 1 a.Epoch <;> cases ile a.Epoch 1099511627776 <;> cases ile 0 a.Step <;> cases ile a.Step 39 <;> cases ile 1 a.Parts <;> cases ile a.Parts 6 <;> cases chain a.Parts a.Step (-1) a.Came <;> rfl
noncomputable def hn50 : Hint := { H 50 with nt := 13, prot := 0 }
def F50_res (r1 : Bool) : Res := ⟨[(.one (.im (.lit (.bool r1))))], []⟩
def F50 (K : Nat) (a1 : GBarrier) : Option (Bool) :=
 (F48 K a1).bind fun r2 =>
 bif r2 then
  (some (ieq (nlen (len a1.Came)) a1.Parts))
 else
 some false
theorem F50_ok (K : Nat) (a1 : GBarrier) (r : Bool) (hF : F50 K a1 = some r) : Evt E H 50 [.agg (eGBarrier a1)] (F50_res r) := by
 rw [F50] at hF
 refine bind_some hF (fun r2 h3 hF => ?_)
 refine cond_some hF (fun h4 hF => ?_) (fun h4 hF => ?_)
 ·
  obtain rfl := Option.some.inj hF
  have pz : HoldAll E H hn50 [.call 48 [.agg (eGBarrier a1)] (F48_res r2), .test (leadsAny (Res.mk [(.one (.im (.lit (.bool r2))))] [])) false, .test (beqb r2 true) true, .test (beqb r2 true) true, .test (beqb r2 true) true, .int (nlen (len a1.Came)) (nlen (len a1.Came)), .test (beqb r2 true) true, .test (beqb r2 true) true, .test (beqb r2 true) true, .test r2 true] := ⟨(F48_ok K a1 _ h3), (leads_ok (by simp [leadsAny, RV.leads, RC.leads, leadsT, hasSl_lit])), (beqb_t h4), (beqb_t h4), (beqb_t h4), rfl, (beqb_t h4), (beqb_t h4), (beqb_t h4), h4, trivial⟩
  exact fn_playC hn50 (r := F50_res (ieq (nlen (len a1.Came)) a1.Parts)) pz (by kernel_rfl) (by kernel_rfl)
 obtain rfl := Option.some.inj hF
 have pz : HoldAll E H hn50 [.call 48 [.agg (eGBarrier a1)] (F48_res r2), .test (leadsAny (Res.mk [(.one (.im (.lit (.bool r2))))] [])) false, .test (beqb r2 true) false, .test (beqb r2 true) false, .test (beqb r2 true) false, .test (beqb r2 true) false, .test (beqb r2 true) false, .test (beqb r2 true) false, .test r2 false] := ⟨(F48_ok K a1 _ h3), (leads_ok (by simp [leadsAny, RV.leads, RC.leads, leadsT, hasSl_lit])), (beqb_t h4), (beqb_t h4), (beqb_t h4), (beqb_t h4), (beqb_t h4), (beqb_t h4), h4, trivial⟩
 exact fn_playC hn50 (r := F50_res false) pz (by kernel_rfl) (by kernel_rfl)
noncomputable def hn129 : Hint := { H 129 with nt := 38, prot := 0 }
def F129_res (r1 : GPart) : Res := ⟨[(.agg [(.im (.lit (.int .i64 r1.P))), (.im (.lit (.int .i64 r1.Step))), (.own 2 (.sl (len r1.Vals) (flat (eInt .i64) r1.Vals))), (.own 4 (.sl (len r1.Rest) (flat eBool r1.Rest))), (.own 130 (.sl (len r1.In) (flat eGMsg r1.In)))])], []⟩
def F129 (K : Nat) (a1 : GPart) : Option (GPart) :=
 bif (mkok (nlen (len a1.Vals)) (nlen (len a1.Vals)) 8) then
 bif (mkok (nlen (len a1.Rest)) (nlen (len a1.Rest)) 1) then
 bif (mkok (nlen (len a1.In)) (nlen (len a1.In)) 16) then
 some (GPart.mk a1.P a1.Step (copyL a1.Vals (repL (α := Int) (nlen (len a1.Vals)) 0)) (copyL a1.Rest (repL (α := Bool) (nlen (len a1.Rest)) false)) (copyL a1.In (repL (α := GMsg) (nlen (len a1.In)) (GMsg.mk 0 0))))
 else none
 else none
 else none
theorem F129_ok (K : Nat) (a1 : GPart) (r : GPart) (hF : F129 K a1 = some r) : Evt E H 129 [.agg (eGPart a1)] (F129_res r) := by
 rw [F129] at hF
 refine cond_some hF (fun h2 hF => ?_) (fun _ hF => nomatch hF)
 refine cond_some hF (fun h3 hF => ?_) (fun _ hF => nomatch hF)
 refine cond_some hF (fun h4 hF => ?_) (fun _ hF => nomatch hF)
 obtain rfl := Option.some.inj hF
 have pz : HoldAll E H hn129 [.int (nlen (len a1.Vals)) (nlen (len a1.Vals)), .test (mkok (nlen (len a1.Vals)) (nlen (len a1.Vals)) 8) true, .sl (nint (nlen (len a1.Vals))) (lrep (nlen (len a1.Vals)) [(.lit (.int .i64 0))]) (len (α := Int) (repL (α := Int) (nlen (len a1.Vals)) 0)) (flat (eInt .i64) (repL (α := Int) (nlen (len a1.Vals)) 0)), .int (nlen (len a1.Rest)) (nlen (len a1.Rest)), .test (mkok (nlen (len a1.Rest)) (nlen (len a1.Rest)) 1) true, .sl (nint (nlen (len a1.Rest))) (lrep (nlen (len a1.Rest)) [(.lit (.bool false))]) (len (α := Bool) (repL (α := Bool) (nlen (len a1.Rest)) false)) (flat eBool (repL (α := Bool) (nlen (len a1.Rest)) false)), .int (nlen (len a1.In)) (nlen (len a1.In)), .test (mkok (nlen (len a1.In)) (nlen (len a1.In)) 16) true, .sl (nint (nlen (len a1.In))) (lrep (nlen (len a1.In)) [(.lit (.int .i64 0)), (.lit (.int .i64 0))]) (len (α := GMsg) (repL (α := GMsg) (nlen (len a1.In)) (GMsg.mk 0 0))) (flat eGMsg (repL (α := GMsg) (nlen (len a1.In)) (GMsg.mk 0 0))), .test (leqm (flat (eInt .i64) a1.Vals) (len a1.Vals) 1) true, .sl (len (α := Int) (repL (α := Int) (nlen (len a1.Vals)) 0)) (lcopy (flat (eInt .i64) a1.Vals) (flat (eInt .i64) (repL (α := Int) (nlen (len a1.Vals)) 0)) (len a1.Vals) (len (α := Int) (repL (α := Int) (nlen (len a1.Vals)) 0)) 1) (len (α := Int) (copyL a1.Vals (repL (α := Int) (nlen (len a1.Vals)) 0))) (flat (eInt .i64) (copyL a1.Vals (repL (α := Int) (nlen (len a1.Vals)) 0))), .int (nmin (len a1.Vals) (len (α := Int) (repL (α := Int) (nlen (len a1.Vals)) 0))) (nmin (len a1.Vals) (len (α := Int) (repL (α := Int) (nlen (len a1.Vals)) 0))), .test (leqm (flat eBool a1.Rest) (len a1.Rest) 1) true, .sl (len (α := Bool) (repL (α := Bool) (nlen (len a1.Rest)) false)) (lcopy (flat eBool a1.Rest) (flat eBool (repL (α := Bool) (nlen (len a1.Rest)) false)) (len a1.Rest) (len (α := Bool) (repL (α := Bool) (nlen (len a1.Rest)) false)) 1) (len (α := Bool) (copyL a1.Rest (repL (α := Bool) (nlen (len a1.Rest)) false))) (flat eBool (copyL a1.Rest (repL (α := Bool) (nlen (len a1.Rest)) false))), .int (nmin (len a1.Rest) (len (α := Bool) (repL (α := Bool) (nlen (len a1.Rest)) false))) (nmin (len a1.Rest) (len (α := Bool) (repL (α := Bool) (nlen (len a1.Rest)) false))), .test (leqm (flat eGMsg a1.In) (len a1.In) 2) true, .sl (len (α := GMsg) (repL (α := GMsg) (nlen (len a1.In)) (GMsg.mk 0 0))) (lcopy (flat eGMsg a1.In) (flat eGMsg (repL (α := GMsg) (nlen (len a1.In)) (GMsg.mk 0 0))) (len a1.In) (len (α := GMsg) (repL (α := GMsg) (nlen (len a1.In)) (GMsg.mk 0 0))) 2) (len (α := GMsg) (copyL a1.In (repL (α := GMsg) (nlen (len a1.In)) (GMsg.mk 0 0)))) (flat eGMsg (copyL a1.In (repL (α := GMsg) (nlen (len a1.In)) (GMsg.mk 0 0)))), .int (nmin (len a1.In) (len (α := GMsg) (repL (α := GMsg) (nlen (len a1.In)) (GMsg.mk 0 0)))) (nmin (len a1.In) (len (α := GMsg) (repL (α := GMsg) (nlen (len a1.In)) (GMsg.mk 0 0))))] := ⟨rfl, h2, (rep_okC (enc := (eInt .i64)) (n := (nlen (len a1.Vals))) (x := 0) rfl), rfl, h3, (rep_okC (enc := eBool) (n := (nlen (len a1.Rest))) (x := false) rfl), rfl, h4, (rep_okC (enc := eGMsg) (n := (nlen (len a1.In))) (x := (GMsg.mk 0 0)) rfl), (leqm_flat (eInt_len _) _), (copy_ok (enc := (eInt .i64)) (eInt_len _) a1.Vals (repL (α := Int) (nlen (len a1.Vals)) 0)), rfl, (leqm_flat eBool_len _), (copy_ok (enc := eBool) eBool_len a1.Rest (repL (α := Bool) (nlen (len a1.Rest)) false)), rfl, (leqm_flat eGMsg_len _), (copy_ok (enc := eGMsg) eGMsg_len a1.In (repL (α := GMsg) (nlen (len a1.In)) (GMsg.mk 0 0))), rfl, trivial⟩
 exact fn_playC hn129 (r := F129_res (GPart.mk a1.P a1.Step (copyL a1.Vals (repL (α := Int) (nlen (len a1.Vals)) 0)) (copyL a1.Rest (repL (α := Bool) (nlen (len a1.Rest)) false)) (copyL a1.In (repL (α := GMsg) (nlen (len a1.In)) (GMsg.mk 0 0))))) pz (by kernel_rfl) (by kernel_rfl)
noncomputable def hn127 : Hint := { H 127 with nt := 27, prot := 0 }
noncomputable def c127_0 : Code := loopOf E 127 0
def F127_res (r1 : GBarrier) : Res := ⟨[(.agg [(.im (.lit (.int .i64 r1.Epoch))), (.im (.lit (.int .i64 r1.Step))), (.im (.lit (.int .i64 r1.Parts))), (.own 42 (.sl (len r1.Came) (flat eGPart r1.Came))), (.im (.lit (.bool r1.Over)))])], []⟩
def F127_l0_0 (K : Nat) (a1 : GBarrier) : Nat → List GPart → Int → Option (List GPart)
 | 0, _, _ => none
 | k + 1, v2, v3 =>
  bif (ilt v3 (nlen (len (α := GPart) (repL (α := GPart) (nlen (len a1.Came)) (GPart.mk 0 0 [] [] []))))) then
   (bif (inr v3 (len a1.Came)) then
   (elAt a1.Came v3).bind fun x4 =>
   (F129 K x4).bind fun r5 =>
   bif (inr v3 (len v2)) then
   (elAt v2 v3).bind fun x6 =>
   F127_l0_0 K a1 k (putAt v2 v3 r5) (wadd .i64 v3 1)
   else none
   else none)
  else
  some v2
def F127_l0_0_S (a1 : GBarrier) (v2 : List GPart) (v3 : Int) : TS := .on [64, 65, 66, 67, 68, 69, 128, 129, 130, 131, 132, 133, 192, 193, 640, 641, 704, 705] [(64, ⟨(.box 24 5), 0, nob⟩), (65, ⟨.im, 0, (.lit (.int .i64 a1.Epoch))⟩), (66, ⟨.im, 0, (.lit (.int .i64 a1.Step))⟩), (67, ⟨.im, 0, (.lit (.int .i64 a1.Parts))⟩), (68, ⟨.im, 0, (.sl (len a1.Came) (flat eGPart a1.Came))⟩), (69, ⟨.im, 0, (.lit (.bool a1.Over))⟩), (128, ⟨(.box 24 5), 0, nob⟩), (129, ⟨.im, 0, (.lit (.int .i64 0))⟩), (130, ⟨.im, 0, (.lit (.int .i64 0))⟩), (131, ⟨.im, 0, (.lit (.int .i64 0))⟩), (132, ⟨(.own 42), 0, (.sl 0 [])⟩), (133, ⟨.im, 0, (.lit (.bool false))⟩), (192, ⟨.one, 0, nob⟩), (193, ⟨(.own 42), 0, (.sl (len v2) (flat eGPart v2))⟩), (640, ⟨.one, 0, nob⟩), (641, ⟨.im, 0, (.lit (.int .i64 (nlen (len (α := GPart) (repL (α := GPart) (nlen (len a1.Came)) (GPart.mk 0 0 [] [] []))))))⟩), (704, ⟨.one, 0, nob⟩), (705, ⟨.im, 0, (.lit (.int .i64 v3))⟩)]
def F127_l0_0_X0 (a1 : GBarrier) (w2 : List GPart) : TS := .on [64, 65, 66, 67, 68, 69, 128, 129, 130, 131, 132, 133, 192, 193] [(64, ⟨(.box 24 5), 0, nob⟩), (65, ⟨.im, 0, (.lit (.int .i64 a1.Epoch))⟩), (66, ⟨.im, 0, (.lit (.int .i64 a1.Step))⟩), (67, ⟨.im, 0, (.lit (.int .i64 a1.Parts))⟩), (68, ⟨.im, 0, (.sl (len a1.Came) (flat eGPart a1.Came))⟩), (69, ⟨.im, 0, (.lit (.bool a1.Over))⟩), (128, ⟨(.box 24 5), 0, nob⟩), (129, ⟨.im, 0, (.lit (.int .i64 0))⟩), (130, ⟨.im, 0, (.lit (.int .i64 0))⟩), (131, ⟨.im, 0, (.lit (.int .i64 0))⟩), (132, ⟨(.own 42), 0, (.sl 0 [])⟩), (133, ⟨.im, 0, (.lit (.bool false))⟩), (192, ⟨.one, 0, nob⟩), (193, ⟨(.own 42), 0, (.sl (len w2) (flat eGPart w2))⟩)]
theorem F127_l0_0_ok (K : Nat) (a1 : GBarrier) : ∀ (k : Nat) (v2 : List GPart) (v3 : Int) (r : List GPart), F127_l0_0 K a1 k v2 v3 = some r → LoopEv E H hn127 0 c127_0 (F127_l0_0_S a1 v2 v3) (.exit 0) (F127_l0_0_X0 a1 r) := by
 intro k
 induction k with
 | zero => intro v2 v3 r hF; cases hF
 | succ k ih =>
  intro v2 v3 r hF
  rw [F127_l0_0] at hF
  refine cond_some hF (fun h4 hF => ?_) (fun h4 hF => ?_)
  ·
   refine cond_some hF (fun h5 hF => ?_) (fun _ hF => nomatch hF)
   refine bind_some hF (fun x6 h7 hF => ?_)
   refine bind_some hF (fun r8 h9 hF => ?_)
   refine cond_some hF (fun h10 hF => ?_) (fun _ hF => nomatch hF)
   refine bind_some hF (fun x11 h12 hF => ?_)
   have pz : HoldAll E H hn127 [.test (ilt v3 (nlen (len (α := GPart) (repL (α := GPart) (nlen (len a1.Came)) (GPart.mk 0 0 [] [] []))))) true, .test (inr v3 (len a1.Came)) true, .sub (flat eGPart a1.Came) (nidx v3 5) 5 [(.lit (.int .i64 x6.P)), (.lit (.int .i64 x6.Step)), (.sl (len x6.Vals) (flat (eInt .i64) x6.Vals)), (.sl (len x6.Rest) (flat eBool x6.Rest)), (.sl (len x6.In) (flat eGMsg x6.In))], .call 129 [.agg (eGPart x6)] (F129_res r8), .test (leadsAny (Res.mk [(.agg [(.im (.lit (.int .i64 r8.P))), (.im (.lit (.int .i64 r8.Step))), (.own 2 (.sl (len r8.Vals) (flat (eInt .i64) r8.Vals))), (.own 4 (.sl (len r8.Rest) (flat eBool r8.Rest))), (.own 130 (.sl (len r8.In) (flat eGMsg r8.In)))])] [])) false, .test (inr v3 (len v2)) true, .test (lfits (nidx v3 5) 5 (flat eGPart v2)) true, .sl (len v2) (lset (flat eGPart v2) (nidx v3 5) [(.lit (.int .i64 r8.P)), (.lit (.int .i64 r8.Step)), (.sl (len r8.Vals) (flat (eInt .i64) r8.Vals)), (.sl (len r8.Rest) (flat eBool r8.Rest)), (.sl (len r8.In) (flat eGMsg r8.In))]) (len (α := GPart) (putAt v2 v3 r8)) (flat eGPart (putAt v2 v3 r8)), .int (wadd .i64 v3 1) (wadd .i64 v3 1)] := ⟨h4, h5, ⟨rfl, sub_flat0 eGPart_len h7 5 (by decide)⟩, (F129_ok K x6 _ h9), (leads_ok (by simp [leadsAny, RV.leads, RC.leads, leadsT, hasSl_lit, flat_ns (eInt_ns _), flat_ns eBool_ns, flat_ns eGMsg_ns])), h10, (lfits_flat0 eGPart_len h12 _ (by decide)), (set_ok0 eGPart_len h12 _ (by simp) rfl), rfl, trivial⟩
   have h0 := ih _ _ _ hF
   have hn := fun ex ts' => loop_nextC (h := hn127) (l := 0) (c := c127_0) (ts := F127_l0_0_S a1 v2 v3) (ts1 := (F127_l0_0_S a1 (putAt v2 v3 r8) (wadd .i64 v3 1))) (ex := ex) (ts' := ts') pz (by kernel_rfl)
   exact hn _ _ h0
  obtain rfl := Option.some.inj hF
  have pz : HoldAll E H hn127 [.test (ilt v3 (nlen (len (α := GPart) (repL (α := GPart) (nlen (len a1.Came)) (GPart.mk 0 0 [] [] []))))) false] := ⟨h4, trivial⟩
  exact loop_endC (h := hn127) (l := 0) (c := c127_0) (ts := F127_l0_0_S a1 v2 v3) (ts' := F127_l0_0_X0 a1 v2) (ex := (.exit 0)) pz (by kernel_rfl) trivial
def F127 (K : Nat) (a1 : GBarrier) : Option (GBarrier) :=
 bif (mkok (nlen (len a1.Came)) (nlen (len a1.Came)) 88) then
 (F127_l0_0 K a1 K (repL (α := GPart) (nlen (len a1.Came)) (GPart.mk 0 0 [] [] [])) 0).bind fun w2 =>
 some (GBarrier.mk a1.Epoch a1.Step a1.Parts w2 a1.Over)
 else none
theorem F127_ok (K : Nat) (a1 : GBarrier) (r : GBarrier) (hF : F127 K a1 = some r) : Evt E H 127 [.agg (eGBarrier a1)] (F127_res r) := by
 rw [F127] at hF
 refine cond_some hF (fun h2 hF => ?_) (fun _ hF => nomatch hF)
 refine bind_some hF (fun w4 h3 hF => ?_)
 obtain rfl := Option.some.inj hF
 have pz : HoldAll E H hn127 [.int (nlen (len a1.Came)) (nlen (len a1.Came)), .test (mkok (nlen (len a1.Came)) (nlen (len a1.Came)) 88) true, .sl (nint (nlen (len a1.Came))) (lrep (nlen (len a1.Came)) [(.lit (.int .i64 0)), (.lit (.int .i64 0)), (.sl 0 []), (.sl 0 []), (.sl 0 [])]) (len (α := GPart) (repL (α := GPart) (nlen (len a1.Came)) (GPart.mk 0 0 [] [] []))) (flat eGPart (repL (α := GPart) (nlen (len a1.Came)) (GPart.mk 0 0 [] [] []))), .int (nlen (len (α := GPart) (repL (α := GPart) (nlen (len a1.Came)) (GPart.mk 0 0 [] [] [])))) (nlen (len (α := GPart) (repL (α := GPart) (nlen (len a1.Came)) (GPart.mk 0 0 [] [] [])))), .loop 0 c127_0 (F127_l0_0_S a1 (repL (α := GPart) (nlen (len a1.Came)) (GPart.mk 0 0 [] [] [])) 0) (.exit 0) (F127_l0_0_X0 a1 w4)] := ⟨rfl, h2, (rep_okC (enc := eGPart) (n := (nlen (len a1.Came))) (x := (GPart.mk 0 0 [] [] [])) rfl), rfl, (F127_l0_0_ok K a1 K (repL (α := GPart) (nlen (len a1.Came)) (GPart.mk 0 0 [] [] [])) 0 _ h3), trivial⟩
 exact fn_playC hn127 (r := F127_res (GBarrier.mk a1.Epoch a1.Step a1.Parts w4 a1.Over)) pz (by kernel_rfl) (by kernel_rfl)
noncomputable def hn128 : Hint := { H 128 with nt := 21, prot := 0 }
noncomputable def c128_0 : Code := loopOf E 128 0
def F128_res (r1 : GPart × Bool) : Res := ⟨[(.agg [(.im (.lit (.int .i64 r1.1.P))), (.im (.lit (.int .i64 r1.1.Step))), (.im (.sl (len r1.1.Vals) (flat (eInt .i64) r1.1.Vals))), (.im (.sl (len r1.1.Rest) (flat eBool r1.1.Rest))), (.im (.sl (len r1.1.In) (flat eGMsg r1.1.In)))]), (.one (.im (.lit (.bool r1.2))))], []⟩
def F128_l0_0 (K : Nat) (a1 : List GPart) (a2 : Int) : Nat → Int → Option (((Int × Int × List Int × List Bool × List GMsg)) ⊕ (Unit))
 | 0, _ => none
 | k + 1, v3 =>
  bif (ilt v3 (nlen (len a1))) then
   (bif (inr v3 (len a1)) then
   (elAt a1 v3).bind fun x4 =>
   bif (ieq x4.P a2) then
    (some (.inl (x4.P, (x4.Step, (x4.Vals, (x4.Rest, x4.In))))))
   else
   F128_l0_0 K a1 a2 k (wadd .i64 v3 1)
   else none)
  else
  some (.inr ())
def F128_l0_0_S (a1 : List GPart) (a2 : Int) (v3 : Int) : TS := .on [0, 1, 64, 65, 256, 257, 258, 259, 260, 261, 512, 513, 576, 577, 640, 641] [(0, ⟨.one, 0, nob⟩), (1, ⟨.im, 0, (.sl (len a1) (flat eGPart a1))⟩), (64, ⟨.one, 0, nob⟩), (65, ⟨.im, 0, (.lit (.int .i64 a2))⟩), (256, ⟨(.box 42 5), 0, nob⟩), (257, ⟨.im, 0, (.lit (.int .i64 0))⟩), (258, ⟨.im, 0, (.lit (.int .i64 0))⟩), (259, ⟨(.own 2), 0, (.sl 0 [])⟩), (260, ⟨(.own 4), 0, (.sl 0 [])⟩), (261, ⟨(.own 130), 0, (.sl 0 [])⟩), (512, ⟨.one, 0, nob⟩), (513, ⟨.im, 0, (.sl (len a1) (flat eGPart a1))⟩), (576, ⟨.one, 0, nob⟩), (577, ⟨.im, 0, (.lit (.int .i64 (nlen (len a1))))⟩), (640, ⟨.one, 0, nob⟩), (641, ⟨.im, 0, (.lit (.int .i64 v3))⟩)]
def F128_l0_0_X0 (a1 : List GPart) (a2 : Int) (w3 : Int × Int × List Int × List Bool × List GMsg) : TS := .on [256, 257, 258, 259, 260, 261, 320, 321] [(256, ⟨(.box 42 5), 0, nob⟩), (257, ⟨.im, 0, (.lit (.int .i64 w3.1))⟩), (258, ⟨.im, 0, (.lit (.int .i64 w3.2.1))⟩), (259, ⟨.im, 0, (.sl (len w3.2.2.1) (flat (eInt .i64) w3.2.2.1))⟩), (260, ⟨.im, 0, (.sl (len w3.2.2.2.1) (flat eBool w3.2.2.2.1))⟩), (261, ⟨.im, 0, (.sl (len w3.2.2.2.2) (flat eGMsg w3.2.2.2.2))⟩), (320, ⟨.one, 0, nob⟩), (321, ⟨.im, 0, (.lit (.bool true))⟩)]
def F128_l0_0_X1 (a1 : List GPart) (a2 : Int) (w3 : Unit) : TS := .on [256, 257, 258, 259, 260, 261] [(256, ⟨(.box 42 5), 0, nob⟩), (257, ⟨.im, 0, (.lit (.int .i64 0))⟩), (258, ⟨.im, 0, (.lit (.int .i64 0))⟩), (259, ⟨(.own 2), 0, (.sl 0 [])⟩), (260, ⟨(.own 4), 0, (.sl 0 [])⟩), (261, ⟨(.own 130), 0, (.sl 0 [])⟩)]
theorem F128_l0_0_ok (K : Nat) (a1 : List GPart) (a2 : Int) : ∀ (k : Nat) (v3 : Int) (r : ((Int × Int × List Int × List Bool × List GMsg)) ⊕ (Unit)), F128_l0_0 K a1 a2 k v3 = some r → (Sum.elim (fun w => LoopEv E H hn128 0 c128_0 (F128_l0_0_S a1 a2 v3) .ret (F128_l0_0_X0 a1 a2 w)) (fun w => LoopEv E H hn128 0 c128_0 (F128_l0_0_S a1 a2 v3) (.exit 0) (F128_l0_0_X1 a1 a2 w))) r := by
 intro k
 induction k with
 | zero => intro v3 r hF; cases hF
 | succ k ih =>
  intro v3 r hF
  rw [F128_l0_0] at hF
  refine cond_some hF (fun h4 hF => ?_) (fun h4 hF => ?_)
  ·
   refine cond_some hF (fun h5 hF => ?_) (fun _ hF => nomatch hF)
   refine bind_some hF (fun x6 h7 hF => ?_)
   have q9 : PQ hn128 fun l => (.test (ilt v3 (nlen (len a1))) true :: .test (inr v3 (len a1)) true :: .sub (flat eGPart a1) (nidx v3 5) 5 [(.lit (.int .i64 x6.P)), (.lit (.int .i64 x6.Step)), (.sl (len x6.Vals) (flat (eInt .i64) x6.Vals)), (.sl (len x6.Rest) (flat eBool x6.Rest)), (.sl (len x6.In) (flat eGMsg x6.In))] :: l) := fun z => ⟨h4, h5, ⟨rfl, sub_flat0 eGPart_len h7 5 (by decide)⟩, z⟩
   refine cond_some hF (fun h8 hF => ?_) (fun h8 hF => ?_)
   ·
    obtain rfl := Option.some.inj hF
    have pz : HoldAll E H hn128 [.test (ieq x6.P a2) true] := ⟨h8, trivial⟩
    exact loop_endC (h := hn128) (l := 0) (c := c128_0) (ts := F128_l0_0_S a1 a2 v3) (ts' := F128_l0_0_X0 a1 a2 (x6.P, (x6.Step, (x6.Vals, (x6.Rest, x6.In))))) (ex := .ret) (q9 pz) (by kernel_rfl) trivial
   have pz : HoldAll E H hn128 [.test (ieq x6.P a2) false, .int (wadd .i64 v3 1) (wadd .i64 v3 1)] := ⟨h8, rfl, trivial⟩
   have h0 := ih _ _ hF
   have hn := fun ex ts' => loop_nextC (h := hn128) (l := 0) (c := c128_0) (ts := F128_l0_0_S a1 a2 v3) (ts1 := (F128_l0_0_S a1 a2 (wadd .i64 v3 1))) (ex := ex) (ts' := ts') (q9 pz) (by kernel_rfl)
   cases r with
   | inl w => exact hn _ _ h0
   | inr w => exact hn _ _ h0
  obtain rfl := Option.some.inj hF
  have pz : HoldAll E H hn128 [.test (ilt v3 (nlen (len a1))) false] := ⟨h4, trivial⟩
  exact loop_endC (h := hn128) (l := 0) (c := c128_0) (ts := F128_l0_0_S a1 a2 v3) (ts' := F128_l0_0_X1 a1 a2 ()) (ex := (.exit 0)) pz (by kernel_rfl) trivial
def F128 (K : Nat) (a1 : List GPart) (a2 : Int) : Option (GPart × Bool) :=
 (F128_l0_0 K a1 a2 K 0).bind fun y3 =>
 Sum.elim (fun w4 =>
  some ((GPart.mk w4.1 w4.2.1 w4.2.2.1 w4.2.2.2.1 w4.2.2.2.2), true))
  (fun w5 =>
  some ((GPart.mk 0 0 [] [] []), false)) y3
theorem F128_ok (K : Nat) (a1 : List GPart) (a2 : Int) (r : GPart × Bool) (hF : F128 K a1 a2 = some r) : Evt E H 128 [.one (.sl (len a1) (flat eGPart a1)), .one (.lit (.int .i64 a2))] (F128_res r) := by
 rw [F128] at hF
 refine bind_some hF (fun y4 h3 hF => ?_)
 refine sum_some hF (fun w5 hx hF => ?_) (fun w6 hx hF => ?_)
 ·
  subst hx
  obtain rfl := Option.some.inj hF
  have pz : HoldAll E H hn128 [.int (nlen (len a1)) (nlen (len a1)), .loop 0 c128_0 (F128_l0_0_S a1 a2 0) .ret (F128_l0_0_X0 a1 a2 w5)] := ⟨rfl, (F128_l0_0_ok K a1 a2 K 0 _ h3), trivial⟩
  exact fn_playC hn128 (r := F128_res ((GPart.mk w5.1 w5.2.1 w5.2.2.1 w5.2.2.2.1 w5.2.2.2.2), true)) pz (by kernel_rfl) (by kernel_rfl)
 subst hx
 obtain rfl := Option.some.inj hF
 have pz : HoldAll E H hn128 [.int (nlen (len a1)) (nlen (len a1)), .loop 0 c128_0 (F128_l0_0_S a1 a2 0) (.exit 0) (F128_l0_0_X1 a1 a2 w6)] := ⟨rfl, (F128_l0_0_ok K a1 a2 K 0 _ h3), trivial⟩
 exact fn_playC hn128 (r := F128_res ((GPart.mk 0 0 [] [] []), false)) pz (by kernel_rfl) (by kernel_rfl)
noncomputable def hn52 : Hint := { H 52 with nt := 84, prot := 0 }
noncomputable def c52_0 : Code := loopOf E 52 0
def F52_res (r1 : GBarrier × Int) : Res := ⟨[(.agg [(.im (.lit (.int .i64 r1.1.Epoch))), (.im (.lit (.int .i64 r1.1.Step))), (.im (.lit (.int .i64 r1.1.Parts))), (.own 42 (.sl (len r1.1.Came) (flat eGPart r1.1.Came))), (.im (.lit (.bool r1.1.Over)))]), (.one (.im (.lit (.int .i64 r1.2))))], []⟩
def F52_l0_0 (K : Nat) (a1 : GBarrier) (r2 : GBarrier) (r3 : GPart) : Nat → List GPart → Int → Option (List GPart)
 | 0, _, _ => none
 | k + 1, v4, v5 =>
  bif (ilt v5 a1.Parts) then
   ((F128 K (appL r2.Came [r3]) v5).bind fun r6 =>
   bif r6.2 then
    (bif (apok (len v4) 1 88) then
    F52_l0_0 K a1 r2 r3 k (appL v4 [r6.1]) (wadd .i64 v5 1)
    else none)
   else
   F52_l0_0 K a1 r2 r3 k v4 (wadd .i64 v5 1))
  else
  some v4
def F52_l0_0_S (a1 : GBarrier) (r2 : GBarrier) (r3 : GPart) (v4 : List GPart) (v5 : Int) : TS := .on [384, 385, 386, 387, 388, 389, 512, 513, 514, 515, 516, 517, 704, 705, 768, 769, 4160, 4161, 4224, 4225] [(384, ⟨(.box 24 5), 0, nob⟩), (385, ⟨.im, 0, (.lit (.int .i64 0))⟩), (386, ⟨.im, 0, (.lit (.int .i64 0))⟩), (387, ⟨.im, 0, (.lit (.int .i64 0))⟩), (388, ⟨(.own 42), 0, (.sl 0 [])⟩), (389, ⟨.im, 0, (.lit (.bool false))⟩), (512, ⟨(.box 24 5), 0, nob⟩), (513, ⟨.im, 0, (.lit (.int .i64 r2.Epoch))⟩), (514, ⟨.im, 0, (.lit (.int .i64 r2.Step))⟩), (515, ⟨.im, 0, (.lit (.int .i64 r2.Parts))⟩), (516, ⟨.dead, 0, nob⟩), (517, ⟨.im, 0, (.lit (.bool r2.Over))⟩), (704, ⟨.one, 0, nob⟩), (705, ⟨.im, 0, (.sl (len (α := GPart) (appL r2.Came [r3])) (flat eGPart (appL r2.Came [r3])))⟩), (768, ⟨.one, 0, nob⟩), (769, ⟨(.own 42), 0, (.sl (len v4) (flat eGPart v4))⟩), (4160, ⟨.one, 0, nob⟩), (4161, ⟨.im, 0, (.lit (.int .i64 a1.Parts))⟩), (4224, ⟨.one, 0, nob⟩), (4225, ⟨.im, 0, (.lit (.int .i64 v5))⟩)]
def F52_l0_0_X0 (a1 : GBarrier) (r2 : GBarrier) (r3 : GPart) (w4 : List GPart) : TS := .on [384, 385, 386, 387, 388, 389, 512, 513, 514, 515, 516, 517, 768, 769] [(384, ⟨(.box 24 5), 0, nob⟩), (385, ⟨.im, 0, (.lit (.int .i64 0))⟩), (386, ⟨.im, 0, (.lit (.int .i64 0))⟩), (387, ⟨.im, 0, (.lit (.int .i64 0))⟩), (388, ⟨(.own 42), 0, (.sl 0 [])⟩), (389, ⟨.im, 0, (.lit (.bool false))⟩), (512, ⟨(.box 24 5), 0, nob⟩), (513, ⟨.im, 0, (.lit (.int .i64 r2.Epoch))⟩), (514, ⟨.im, 0, (.lit (.int .i64 r2.Step))⟩), (515, ⟨.im, 0, (.lit (.int .i64 r2.Parts))⟩), (516, ⟨.dead, 0, nob⟩), (517, ⟨.im, 0, (.lit (.bool r2.Over))⟩), (768, ⟨.one, 0, nob⟩), (769, ⟨(.own 42), 0, (.sl (len w4) (flat eGPart w4))⟩)]
theorem F52_l0_0_ok (K : Nat) (a1 : GBarrier) (r2 : GBarrier) (r3 : GPart) : ∀ (k : Nat) (v4 : List GPart) (v5 : Int) (r : List GPart), F52_l0_0 K a1 r2 r3 k v4 v5 = some r → LoopEv E H hn52 1 c52_0 (F52_l0_0_S a1 r2 r3 v4 v5) (.exit 1) (F52_l0_0_X0 a1 r2 r3 r) := by
 intro k
 induction k with
 | zero => intro v4 v5 r hF; cases hF
 | succ k ih =>
  intro v4 v5 r hF
  rw [F52_l0_0] at hF
  refine cond_some hF (fun h6 hF => ?_) (fun h6 hF => ?_)
  ·
   refine bind_some hF (fun r7 h8 hF => ?_)
   refine cond_some hF (fun h9 hF => ?_) (fun h9 hF => ?_)
   ·
    refine cond_some hF (fun h10 hF => ?_) (fun _ hF => nomatch hF)
    have pz : HoldAll E H hn52 [.test (ilt v5 a1.Parts) true, .call 128 [.one (.sl (len (α := GPart) (appL r2.Came [r3])) (flat eGPart (appL r2.Came [r3]))), .one (.lit (.int .i64 v5))] (F128_res r7), .test r7.2 true, .test (leqm [(.lit (.int .i64 r7.1.P)), (.lit (.int .i64 r7.1.Step)), (.sl (len r7.1.Vals) (flat (eInt .i64) r7.1.Vals)), (.sl (len r7.1.Rest) (flat eBool r7.1.Rest)), (.sl (len r7.1.In) (flat eGMsg r7.1.In))] 1 5) true, .test (apok (len v4) 1 88) true, .sl (nadd (len v4) 1) (lapp (flat eGPart v4) [(.lit (.int .i64 r7.1.P)), (.lit (.int .i64 r7.1.Step)), (.sl (len r7.1.Vals) (flat (eInt .i64) r7.1.Vals)), (.sl (len r7.1.Rest) (flat eBool r7.1.Rest)), (.sl (len r7.1.In) (flat eGMsg r7.1.In))]) (len (α := GPart) (appL v4 [r7.1])) (flat eGPart (appL v4 [r7.1])), .int (wadd .i64 v5 1) (wadd .i64 v5 1)] := ⟨h6, (F128_ok K (appL r2.Came [r3]) v5 _ h8), h9, rfl, h10, (app_ok (enc := eGPart) (v4 : List GPart) [r7.1]), rfl, trivial⟩
    have h0 := ih _ _ _ hF
    have hn := fun ex ts' => loop_nextC (h := hn52) (l := 1) (c := c52_0) (ts := F52_l0_0_S a1 r2 r3 v4 v5) (ts1 := (F52_l0_0_S a1 r2 r3 (appL v4 [r7.1]) (wadd .i64 v5 1))) (ex := ex) (ts' := ts') pz (by kernel_rfl)
    exact hn _ _ h0
   have pz : HoldAll E H hn52 [.test (ilt v5 a1.Parts) true, .call 128 [.one (.sl (len (α := GPart) (appL r2.Came [r3])) (flat eGPart (appL r2.Came [r3]))), .one (.lit (.int .i64 v5))] (F128_res r7), .test r7.2 false, .int (wadd .i64 v5 1) (wadd .i64 v5 1)] := ⟨h6, (F128_ok K (appL r2.Came [r3]) v5 _ h8), h9, rfl, trivial⟩
   have h0 := ih _ _ _ hF
   have hn := fun ex ts' => loop_nextC (h := hn52) (l := 1) (c := c52_0) (ts := F52_l0_0_S a1 r2 r3 v4 v5) (ts1 := (F52_l0_0_S a1 r2 r3 v4 (wadd .i64 v5 1))) (ex := ex) (ts' := ts') pz (by kernel_rfl)
   exact hn _ _ h0
  obtain rfl := Option.some.inj hF
  have pz : HoldAll E H hn52 [.test (ilt v5 a1.Parts) false] := ⟨h6, trivial⟩
  exact loop_endC (h := hn52) (l := 1) (c := c52_0) (ts := F52_l0_0_S a1 r2 r3 v4 v5) (ts' := F52_l0_0_X0 a1 r2 r3 v4) (ex := (.exit 1)) pz (by kernel_rfl) trivial
def F52 (K : Nat) (a1 : GBarrier) (a2 : Int) (a3 : GPart) : Option (GBarrier × Int) :=
 (F48 K a1).bind fun r4 =>
 bif r4 then
  ((F127 K a1).bind fun r5 =>
  bif (ieq a2 a1.Epoch) then
   (bif (ieq a3.Step (wadd .i64 a1.Step 1)) then
    (bif (ilt a3.P 0) then
     (some (r5, 4))
    else
    bif (ile a1.Parts a3.P) then
     (some (r5, 4))
    else
    (F128 K a1.Came a3.P).bind fun r6 =>
    bif r6.2 then
     (some (r5, 5))
    else
    (F129 K a3).bind fun r7 =>
    bif (apok (len r5.Came) 1 88) then
    (F52_l0_0 K a1 r5 r7 K [] 0).bind fun w8 =>
    some ((GBarrier.mk r5.Epoch r5.Step r5.Parts w8 r5.Over), 0)
    else none)
   else
   some (r5, 9))
  else
  some (r5, 9))
 else
 some ((GBarrier.mk 0 0 0 [] false), 1)
theorem F52_ok (K : Nat) (a1 : GBarrier) (a2 : Int) (a3 : GPart) (r : GBarrier × Int) (hF : F52 K a1 a2 a3 = some r) : Evt E H 52 [.agg (eGBarrier a1), .one (.lit (.int .i64 a2)), .agg (eGPart a3)] (F52_res r) := by
 rw [F52] at hF
 refine bind_some hF (fun r4 h5 hF => ?_)
 refine cond_some hF (fun h6 hF => ?_) (fun h6 hF => ?_)
 ·
  refine bind_some hF (fun r7 h8 hF => ?_)
  have q21 : PQ hn52 fun l => (.call 48 [.agg (eGBarrier a1)] (F48_res r4) :: .test (leadsAny (Res.mk [(.one (.im (.lit (.bool r4))))] [])) false :: .test (bnot r4) false :: .call 127 [.agg (eGBarrier a1)] (F127_res r7) :: l) := fun z => ⟨(F48_ok K a1 _ h5), (leads_ok (by simp [leadsAny, RV.leads, RC.leads, leadsT, hasSl_lit])), (bnot_t h6), (F127_ok K a1 _ h8), z⟩
  refine cond_some hF (fun h9 hF => ?_) (fun h9 hF => ?_)
  ·
   have q22 : PQ hn52 fun l => (.test (beqb (ine a2 a1.Epoch) false) true :: .test (beqb (ine a2 a1.Epoch) false) true :: .test (beqb (ine a2 a1.Epoch) false) true :: .test (beqb (ine a2 a1.Epoch) false) true :: .test (beqb (ine a2 a1.Epoch) false) true :: .int (wadd .i64 a1.Step 1) (wadd .i64 a1.Step 1) :: .test (beqb (ine a2 a1.Epoch) false) true :: .test (ine a2 a1.Epoch) false :: l) := fun z => ⟨(beqb_ff (ine_t h9)), (beqb_ff (ine_t h9)), (beqb_ff (ine_t h9)), (beqb_ff (ine_t h9)), (beqb_ff (ine_t h9)), rfl, (beqb_ff (ine_t h9)), (ine_t h9), z⟩
   refine cond_some hF (fun h10 hF => ?_) (fun h10 hF => ?_)
   ·
    refine cond_some hF (fun h11 hF => ?_) (fun h11 hF => ?_)
    ·
     obtain rfl := Option.some.inj hF
     have pz : HoldAll E H hn52 [.test (ine a3.Step (wadd .i64 a1.Step 1)) false, .test (beqb (ilt a3.P 0) false) false, .test (beqb (ilt a3.P 0) false) false, .test (beqb (ilt a3.P 0) false) false, .test (beqb (ilt a3.P 0) false) false, .test (beqb (ilt a3.P 0) false) false, .test (ilt a3.P 0) true, .test true true] := ⟨(ine_t h10), (beqb_ft h11), (beqb_ft h11), (beqb_ft h11), (beqb_ft h11), (beqb_ft h11), h11, rfl, trivial⟩
     exact fn_playC hn52 (r := F52_res (r7, 4)) (q21 (q22 pz)) (by kernel_rfl) (by kernel_rfl)
    have q23 : PQ hn52 fun l => (.test (ine a3.Step (wadd .i64 a1.Step 1)) false :: .test (beqb (ilt a3.P 0) false) true :: .test (beqb (ilt a3.P 0) false) true :: .test (beqb (ilt a3.P 0) false) true :: .test (beqb (ilt a3.P 0) false) true :: .test (beqb (ilt a3.P 0) false) true :: .test (ilt a3.P 0) false :: l) := fun z => ⟨(ine_t h10), (beqb_ff h11), (beqb_ff h11), (beqb_ff h11), (beqb_ff h11), (beqb_ff h11), h11, z⟩
    refine cond_some hF (fun h12 hF => ?_) (fun h12 hF => ?_)
    ·
     obtain rfl := Option.some.inj hF
     have pz : HoldAll E H hn52 [.test (ige a3.P a1.Parts) true] := ⟨(ige_eq h12), trivial⟩
     exact fn_playC hn52 (r := F52_res (r7, 4)) (q21 (q22 (q23 pz))) (by kernel_rfl) (by kernel_rfl)
    refine bind_some hF (fun r13 h14 hF => ?_)
    refine cond_some hF (fun h15 hF => ?_) (fun h15 hF => ?_)
    ·
     obtain rfl := Option.some.inj hF
     have pz : HoldAll E H hn52 [.test (ige a3.P a1.Parts) false, .call 128 [.one (.sl (len a1.Came) (flat eGPart a1.Came)), .one (.lit (.int .i64 a3.P))] (F128_res r13), .test r13.2 true] := ⟨(ige_eq h12), (F128_ok K a1.Came a3.P _ h14), h15, trivial⟩
     exact fn_playC hn52 (r := F52_res (r7, 5)) (q21 (q22 (q23 pz))) (by kernel_rfl) (by kernel_rfl)
    refine bind_some hF (fun r16 h17 hF => ?_)
    refine cond_some hF (fun h18 hF => ?_) (fun _ hF => nomatch hF)
    refine bind_some hF (fun w20 h19 hF => ?_)
    obtain rfl := Option.some.inj hF
    have pz : HoldAll E H hn52 [.test (ige a3.P a1.Parts) false, .call 128 [.one (.sl (len a1.Came) (flat eGPart a1.Came)), .one (.lit (.int .i64 a3.P))] (F128_res r13), .test r13.2 false, .call 129 [.agg (eGPart a3)] (F129_res r16), .test (leadsAny (Res.mk [(.agg [(.im (.lit (.int .i64 r16.P))), (.im (.lit (.int .i64 r16.Step))), (.own 2 (.sl (len r16.Vals) (flat (eInt .i64) r16.Vals))), (.own 4 (.sl (len r16.Rest) (flat eBool r16.Rest))), (.own 130 (.sl (len r16.In) (flat eGMsg r16.In)))])] [])) false, .test (leqm [(.lit (.int .i64 r16.P)), (.lit (.int .i64 r16.Step)), (.sl (len r16.Vals) (flat (eInt .i64) r16.Vals)), (.sl (len r16.Rest) (flat eBool r16.Rest)), (.sl (len r16.In) (flat eGMsg r16.In))] 1 5) true, .test (apok (len r7.Came) 1 88) true, .sl (nadd (len r7.Came) 1) (lapp (flat eGPart r7.Came) [(.lit (.int .i64 r16.P)), (.lit (.int .i64 r16.Step)), (.sl (len r16.Vals) (flat (eInt .i64) r16.Vals)), (.sl (len r16.Rest) (flat eBool r16.Rest)), (.sl (len r16.In) (flat eGMsg r16.In))]) (len (α := GPart) (appL r7.Came [r16])) (flat eGPart (appL r7.Came [r16])), .loop 1 c52_0 (F52_l0_0_S a1 r7 r16 [] 0) (.exit 1) (F52_l0_0_X0 a1 r7 r16 w20)] := ⟨(ige_eq h12), (F128_ok K a1.Came a3.P _ h14), h15, (F129_ok K a3 _ h17), (leads_ok (by simp [leadsAny, RV.leads, RC.leads, leadsT, hasSl_lit, flat_ns (eInt_ns _), flat_ns eBool_ns, flat_ns eGMsg_ns])), rfl, h18, (app_ok (enc := eGPart) (r7.Came : List GPart) [r16]), (F52_l0_0_ok K a1 r7 r16 K [] 0 _ h19), trivial⟩
    exact fn_playC hn52 (r := F52_res ((GBarrier.mk r7.Epoch r7.Step r7.Parts w20 r7.Over), 0)) (q21 (q22 (q23 pz))) (by kernel_rfl) (by kernel_rfl)
   obtain rfl := Option.some.inj hF
   have pz : HoldAll E H hn52 [.test (ine a3.Step (wadd .i64 a1.Step 1)) true] := ⟨(ine_f h10), trivial⟩
   exact fn_playC hn52 (r := F52_res (r7, 9)) (q21 (q22 pz)) (by kernel_rfl) (by kernel_rfl)
  obtain rfl := Option.some.inj hF
  have pz : HoldAll E H hn52 [.test (beqb (ine a2 a1.Epoch) false) false, .test (beqb (ine a2 a1.Epoch) false) false, .test (beqb (ine a2 a1.Epoch) false) false, .test (beqb (ine a2 a1.Epoch) false) false, .test (beqb (ine a2 a1.Epoch) false) false, .test (beqb (ine a2 a1.Epoch) false) false, .test (ine a2 a1.Epoch) true, .test true true] := ⟨(beqb_ft (ine_f h9)), (beqb_ft (ine_f h9)), (beqb_ft (ine_f h9)), (beqb_ft (ine_f h9)), (beqb_ft (ine_f h9)), (beqb_ft (ine_f h9)), (ine_f h9), rfl, trivial⟩
  exact fn_playC hn52 (r := F52_res (r7, 9)) (q21 pz) (by kernel_rfl) (by kernel_rfl)
 obtain rfl := Option.some.inj hF
 have pz : HoldAll E H hn52 [.call 48 [.agg (eGBarrier a1)] (F48_res r4), .test (leadsAny (Res.mk [(.one (.im (.lit (.bool r4))))] [])) false, .test (bnot r4) true] := ⟨(F48_ok K a1 _ h5), (leads_ok (by simp [leadsAny, RV.leads, RC.leads, leadsT, hasSl_lit])), (bnot_f h6), trivial⟩
 exact fn_playC hn52 (r := F52_res ((GBarrier.mk 0 0 0 [] false), 1)) pz (by kernel_rfl) (by kernel_rfl)
theorem copyL_rep {α : Type} (l : List α) (z : α) : copyL l (repL (nlen (len l)) z) = l := by
 simp [copyL, repL, len, nlen]
theorem mkok_nat {α : Type} (l : List α) (z : Nat) (h : l.length ≤ 1099511627776) (hz : z ≤ 96) : mkok (nlen (len l)) (nlen (len l)) z = true := by
 refine decide_eq_true ⟨?_, Int.le_refl _, ?_, ?_⟩
 · show (0 : Int) ≤ (l.length : Int); omega
 · show (l.length : Int) ≤ _; omega
 · show (l.length : Int) * (z : Int) ≤ _
   have : (l.length : Int) * (z : Int) ≤ 1099511627776 * 96 := Int.mul_le_mul (by omega) (by omega) (by omega) (by omega)
   omega
def smallP (x : GPart) : Prop := x.Vals.length ≤ 1099511627776 ∧ x.Rest.length ≤ 1099511627776 ∧ x.In.length ≤ 1099511627776
theorem F129_spec (K : Nat) (x : GPart) (h : smallP x) : F129 K x = some x := by
 simp only [F129, copyL_rep, mkok_nat x.Vals 8 h.1 (by omega), mkok_nat x.Rest 1 h.2.1 (by omega), mkok_nat x.In 16 h.2.2 (by omega), cond_true]
theorem F127_loop (K : Nat) (a : GBarrier) (hlen : a.Came.length ≤ 1099511627776) (hs : ∀ x ∈ a.Came, smallP x) : ∀ (k i : Nat) (v : List GPart), a.Came.length - i < k → i ≤ a.Came.length → v.length = a.Came.length → v.take i = a.Came.take i →
   F127_l0_0 K a k v i = some a.Came := by
 intro k
 induction k with
 | zero => intro i v h; omega
 | succ k ih =>
   intro i v h hi hv ht
   rw [F127_l0_0]
   have hl : nlen (len (α := GPart) (repL (α := GPart) (nlen (len a.Came)) (GPart.mk 0 0 [] [] []))) = nlen (len a.Came) := by simp [nlen, len, repL]
   rw [hl]
   rcases at_idx a.Came i with ⟨x, e1, e2, e3, e4⟩ | ⟨e1, e2⟩
   · have hi : i < a.Came.length := by
       rcases Nat.lt_or_ge i a.Came.length with g | g
       · exact g
       · rw [List.drop_eq_nil_of_le g] at e1; cases e1
     have hx : a.Came[i]? = some x := by rw [← elAt_nat]; exact e4
     have hx' : a.Came[i] = x := by rw [List.getElem?_eq_getElem hi] at hx; exact Option.some.inj hx
     have hm : x ∈ a.Came := by rw [← hx']; exact List.getElem_mem hi
     have y1 : inr (i : Int) (len v) = true := by simp [inr, len, hv]; omega
     have y2 : elAt v (i : Int) = some v[i] := by rw [elAt_nat]; simp [hv, hi]
     rw [e2, cond_true, e3, cond_true, e4, Option.bind_some, F129_spec K x (hs x hm), Option.bind_some, y1, cond_true, y2, Option.bind_some, wadd_nat (by omega)]
     refine ih (i + 1) _ (by omega) (by omega) (by simp [putAt, hv]) ?_
     have e : putAt v (i : Int) x = v.set i x := by simp [putAt]
     rw [e, List.take_set, List.take_add_one, List.take_add_one, ht]
     rw [List.getElem?_eq_getElem hi, List.getElem?_eq_getElem (by omega : i < v.length)]
     rw [List.set_append]
     simp [hx', Nat.min_eq_left (Nat.le_of_lt hi)]
   · have hge : a.Came.length ≤ i := List.drop_eq_nil_iff.1 e1
     rw [e2, cond_false]
     have : i = a.Came.length := by omega
     subst this
     rw [List.take_length, ← hv, List.take_length] at ht
     rw [ht]
theorem F127_spec (K : Nat) (a : GBarrier) (hlen : a.Came.length ≤ 1099511627776) (hK : a.Came.length < K) (hs : ∀ x ∈ a.Came, smallP x) : F127 K a = some a := by
 have e := F127_loop K a hlen hs K 0 (repL (nlen (len a.Came)) (GPart.mk 0 0 [] [] [])) (by omega) (by omega) (by simp [repL, nlen, len]) rfl
 have e' : F127_l0_0 K a K (repL (nlen (len a.Came)) (GPart.mk 0 0 [] [] [])) 0 = some a.Came := e
 simp only [F127, mkok_nat a.Came 88 hlen (by omega), cond_true, e', Option.bind_some]
theorem lt_of_drop {α : Type} {l r : List α} {i : Nat} {x : α} (h : l.drop i = x :: r) : i < l.length := by
 rcases Nat.lt_or_ge i l.length with g | g
 · exact g
 · rw [List.drop_eq_nil_of_le g] at h; cases h
theorem F128_loop (K : Nat) (l : List GPart) (p : Int) (hlen : l.length ≤ 1099511627776) : ∀ (k i : Nat), l.length - i < k →
   F128_l0_0 K l p k i = some (match (l.drop i).find? (fun y => ieq y.P p) with | some x => .inl (x.P, (x.Step, (x.Vals, (x.Rest, x.In)))) | none => .inr ()) := by
 intro k
 induction k with
 | zero => intro i h; omega
 | succ k ih =>
   intro i h
   rw [F128_l0_0]
   rcases at_idx l i with ⟨x, e1, e2, e3, e4⟩ | ⟨e1, e2⟩
   · have hi := lt_of_drop e1
     rw [e1, e2, e3, e4]
     simp only [cond_true, Option.bind_some]
     rw [wadd_nat (by omega), List.find?_cons]
     cases hq : ieq x.P p
     · rw [cond_false]; exact ih (i + 1) (by omega)
     · rfl
   · rw [e1, e2]; rfl
def zeroP : GPart := GPart.mk 0 0 [] [] []
theorem F128_spec (K : Nat) (l : List GPart) (p : Int) (hlen : l.length ≤ 1099511627776) (hK : l.length < K) :
   F128 K l p = some (match l.find? (fun y => ieq y.P p) with | some x => (x, true) | none => (zeroP, false)) := by
 have e : F128_l0_0 K l p K 0 = _ := F128_loop K l p hlen K 0 (by omega)
 rw [List.drop_zero] at e
 rw [F128, e, Option.bind_some]
 cases l.find? (fun y => ieq y.P p) <;> rfl
def ins (x : GPart) : List GPart → List GPart
 | [] => [x]
 | y :: l => bif ilt x.P y.P then x :: y :: l else y :: ins x l
def anyGt (x : GPart) (l : List GPart) : Bool := l.any fun y => ilt x.P y.P
def anyEq (x : GPart) (l : List GPart) : Bool := l.any fun y => ieq y.P x.P
theorem ins_none {x : GPart} : ∀ {l : List GPart}, anyGt x l = false → ins x l = l ++ [x]
 | [], _ => rfl
 | y :: l, h => by
   have h' : (ilt x.P y.P || anyGt x l) = false := h
   rw [Bool.or_eq_false_iff] at h'
   rw [ins, h'.1, cond_false, ins_none h'.2]; rfl
theorem apok_nat (n m : Nat) (h : n + m ≤ 1099511627776) : apok n m 88 = true := by
 refine decide_eq_true ⟨by omega, by omega⟩
def srt : Int → List GPart → Prop
 | _, [] => True
 | v, y :: l => v < y.P ∧ srt y.P l
theorem srt_find : ∀ {l : List GPart} {v q : Int}, srt v l → q ≤ v → l.find? (fun y => ieq y.P q) = none
 | [], _, _, _, _ => rfl
 | y :: l, v, q, h, hq => by
   have : ieq y.P q = false := by simp only [ieq, beq_eq_false_iff_ne]; have := h.1; omega
   rw [List.find?_cons, this]
   exact srt_find h.2 (by have := h.1; omega)
theorem find_ins {x : GPart} {q : Int} : ∀ {l : List GPart}, anyEq x l = false → (l ++ [x]).find? (fun y => ieq y.P q) = (ins x l).find? (fun y => ieq y.P q)
 | [], _ => rfl
 | y :: l, h => by
   have h' : (ieq y.P x.P || anyEq x l) = false := h
   rw [Bool.or_eq_false_iff] at h'
   rw [ins]
   cases hl : ilt x.P y.P
   · rw [cond_false, List.cons_append, List.find?_cons, List.find?_cons]
     cases ieq y.P q
     · exact find_ins h'.2
     · rfl
   · rw [cond_true, List.find?_append]
     cases hx : ieq x.P q
     · have n1 : [x].find? (fun y => ieq y.P q) = none := by rw [List.find?_cons, hx]; rfl
       have n2 : (x :: y :: l).find? (fun y => ieq y.P q) = (y :: l).find? (fun y => ieq y.P q) := by rw [List.find?_cons, hx]
       rw [n1, n2, Option.or_none]
     · have e : x.P = q := by simpa [ieq] using hx
       have n : (y :: l).find? (fun y => ieq y.P q) = none := by
         rw [List.find?_eq_none]
         intro z hz hc
         subst e
         have : anyEq x (y :: l) = true := List.any_eq_true.2 ⟨z, hz, hc⟩
         rw [h] at this; cases this
       have n3 : [x].find? (fun y => ieq y.P q) = some x := by rw [List.find?_cons, hx]
       have n4 : (x :: y :: l).find? (fun y => ieq y.P q) = some x := by rw [List.find?_cons, hx]
       rw [n, n3, n4]; rfl
theorem F52_loop (K : Nat) (a r : GBarrier) (x : GPart) (hr : r.Came.length ≤ 274877906944) (hK : r.Came.length + 1 < K) : ∀ (k : Nat) (p : Int) (out rest : List GPart), 0 ≤ p → p ≤ 100 → a.Parts ≤ 100 → (a.Parts - p).toNat < k →
   srt (p - 1) rest → (∀ y ∈ rest, y.P < a.Parts) → (∀ q, p ≤ q → (r.Came ++ [x]).find? (fun y => ieq y.P q) = rest.find? (fun y => ieq y.P q)) → (out.length : Int) ≤ p →
   F52_l0_0 K a r x k out p = some (out ++ rest) := by
 intro k
 induction k with
 | zero => intro p out rest _ _ _ h; omega
 | succ k ih =>
   intro p out rest h0 h1 h2 hk hs hp hf ho
   rw [F52_l0_0]
   have hw : wadd .i64 p 1 = p + 1 := wadd_ok (by omega) (by omega)
   cases hc : ilt p a.Parts
   · rw [cond_false]
     have hge : a.Parts ≤ p := by simpa [ilt] using hc
     cases rest with
     | nil => simp
     | cons y l =>
       have h3 := hs.1
       have h4 := hp y List.mem_cons_self
       omega
   · have hlt : p < a.Parts := by simpa [ilt] using hc
     rw [cond_true, hw]
     have e1 : F128 K (appL r.Came [x]) p = _ := F128_spec K (r.Came ++ [x]) p (by simp; omega) (by simp; omega)
     rw [e1, hf p (Int.le_refl _), Option.bind_some]
     cases rest with
     | nil =>
       rw [List.find?_nil]
       exact ih (p + 1) out [] (by omega) (by omega) h2 (by omega) trivial hp (fun q hq => hf q (by omega)) (by omega)
     | cons y l =>
       rw [List.find?_cons]
       cases hy : ieq y.P p
       · have hne : y.P ≠ p := by simpa [ieq] using hy
         have h3 := hs.1
         have hs' : srt p (y :: l) := ⟨by omega, hs.2⟩
         have hn : l.find? (fun y => ieq y.P p) = none := srt_find hs.2 (by have := hs'.1; omega)
         dsimp only
         rw [hn]
         exact ih (p + 1) out (y :: l) (by omega) (by omega) h2 (by omega) (by rw [Int.add_sub_cancel]; exact hs') hp (fun q hq => hf q (by omega)) (by omega)
       · have he : y.P = p := by simpa [ieq] using hy
         have e5 : apok (len out) 1 88 = true := apok_nat _ _ (by show out.length + 1 ≤ _; omega)
         dsimp only
         rw [cond_true, e5, cond_true]
         have := ih (p + 1) (appL out [y]) l (by omega) (by omega) h2 (by omega) (by rw [Int.add_sub_cancel, ← he]; exact hs.2) (fun z hz => hp z (List.mem_cons_of_mem _ hz)) (fun q hq => by
           rw [hf q (by omega), List.find?_cons]
           have : ieq y.P q = false := by simp only [ieq, beq_eq_false_iff_ne]; omega
           rw [this]) (by simp [appL]; omega)
         rw [this]; simp [appL]
def noB : GBarrier := GBarrier.mk 0 0 0 [] false
def pput (a : GBarrier) (e : Int) (x : GPart) : GBarrier × Int :=
 bif right a then bif ieq e a.Epoch then bif ieq x.Step (wadd .i64 a.Step 1) then bif ilt x.P 0 then (a, 4) else bif ile a.Parts x.P then (a, 4) else
   bif anyEq x a.Came then (a, 5) else (GBarrier.mk a.Epoch a.Step a.Parts (ins x a.Came) a.Over, 0) else (a, 9) else (a, 9) else (noB, 1)
theorem chain_srt {parts step : Int} : ∀ {l : List GPart} {v : Int}, chain parts step v l = true → srt v l ∧ ∀ y ∈ l, y.P < parts
 | [], _, _ => ⟨trivial, fun y h => by cases h⟩
 | x :: l, v, h => by
   simp only [chain, Bool.and_eq_true, Bool.not_eq_true'] at h
   obtain ⟨⟨⟨h1, h2⟩, _⟩, h4⟩ := h
   obtain ⟨g1, g2⟩ := chain_srt h4
   have a1 : v < x.P := by have := of_decide_eq_false h1; omega
   have a2 : x.P < parts := by have := of_decide_eq_false h2; omega
   exact ⟨⟨a1, g1⟩, fun y hy => by rcases List.mem_cons.1 hy with e | e; subst e; exact a2; exact g2 y e⟩
theorem ins_srt {x : GPart} : ∀ {l : List GPart} {v : Int}, srt v l → v < x.P → anyEq x l = false → srt v (ins x l)
 | [], _, _, hx, _ => ⟨hx, trivial⟩
 | y :: l, v, h, hx, hq => by
   have h' : (ieq y.P x.P || anyEq x l) = false := hq
   rw [Bool.or_eq_false_iff] at h'
   have hne : y.P ≠ x.P := by simpa [ieq] using h'.1
   rw [ins]
   cases hl : ilt x.P y.P
   · have := of_decide_eq_false hl
     exact ⟨h.1, ins_srt h.2 (by omega) h'.2⟩
   · have := of_decide_eq_true hl
     exact ⟨hx, this, h.2⟩
theorem ins_mem {x : GPart} : ∀ {l : List GPart} {y : GPart}, y ∈ ins x l → y = x ∨ y ∈ l
 | [], y, h => by simp [ins] at h; exact .inl h
 | z :: l, y, h => by
   rw [ins] at h
   cases hl : ilt x.P z.P
   · rw [hl, cond_false] at h
     rcases List.mem_cons.1 h with e | e
     · subst e; exact .inr List.mem_cons_self
     · exact (ins_mem e).imp id (List.mem_cons_of_mem _)
   · rw [hl, cond_true] at h
     exact List.mem_cons.1 h
theorem find_anyEq (x : GPart) (l : List GPart) : (l.find? (fun y => ieq y.P x.P) = none) = (anyEq x l = false) := by
 simp [anyEq, List.find?_eq_none]
theorem F52_spec (K : Nat) (a : GBarrier) (e : Int) (x : GPart) (hlen : a.Came.length ≤ 274877906944) (hK : a.Came.length + 1 < K) (hK' : 200 < K) (hs : ∀ y ∈ a.Came, smallP y) (hx : smallP x) : F52 K a e x = some (pput a e x) := by
 rw [F52, F48_spec K a (by omega) hK, Option.bind_some, pput]
 cases hR : right a
 · rfl
 · rw [cond_true, cond_true, F127_spec K a (by omega) (by omega) hs, Option.bind_some]
   cases ieq e a.Epoch
   · rfl
   · rw [cond_true, cond_true]
     cases ieq x.Step (wadd .i64 a.Step 1)
     · rfl
     · rw [cond_true, cond_true]
       cases hx0 : ilt x.P 0
       · rw [cond_false, cond_false]
         cases hx1 : ile a.Parts x.P
         · rw [cond_false, cond_false, F128_spec K a.Came x.P (by omega) (by omega), Option.bind_some]
           cases hq : anyEq x a.Came
           · have hn : a.Came.find? (fun y => ieq y.P x.P) = none := by rw [find_anyEq]; exact hq
             have e5 : apok (len a.Came) 1 88 = true := apok_nat _ _ (by show a.Came.length + 1 ≤ _; omega)
             have p0 := of_decide_eq_false hx0
             have p1 := of_decide_eq_false hx1
             simp only [right, goodE, Bool.and_eq_true] at hR
             obtain ⟨⟨_, h6⟩, hc⟩ := hR
             have h6' := of_decide_eq_true h6
             obtain ⟨g1, g2⟩ := chain_srt hc
             have lp : F52_l0_0 K a a x K [] 0 = _ := F52_loop K a a x hlen hK K 0 [] (ins x a.Came) (by omega) (by omega) (by omega) (by omega) (ins_srt (by simpa using g1) (by omega) hq) (fun y hy => by
               rcases ins_mem hy with r | r
               · subst r; omega
               · exact g2 y r) (fun q _ => find_ins hq) (by simp)
             rw [hn]
             dsimp only
             rw [cond_false, cond_false, F129_spec K x hx, Option.bind_some, e5, cond_true, lp, Option.bind_some]
             rfl
           · have hn : ∃ y, a.Came.find? (fun y => ieq y.P x.P) = some y := by
               cases hf : a.Came.find? (fun y => ieq y.P x.P) with
               | some y => exact ⟨y, rfl⟩
               | none => rw [find_anyEq, hq] at hf; cases hf
             obtain ⟨y, hy⟩ := hn
             rw [hy]; rfl
         · rfl
       · rfl
theorem F50_spec (K : Nat) (a : GBarrier) (hlen : a.Came.length ≤ 274877906944) (hK : a.Came.length + 1 < K) : F50 K a = some (right a && ieq (nlen (len a.Came)) a.Parts) := by
 rw [F50, F48_spec K a (by omega) hK, Option.bind_some]
 cases right a <;> rfl
noncomputable def hn56 : Hint := { H 56 with nt := 38, prot := 0 }
noncomputable def c56_0 : Code := loopOf E 56 0
def F56_res (r1 : Int × Bool) : Res := ⟨[(.one (.im (.lit (.int .i64 r1.1)))), (.one (.im (.lit (.bool r1.2))))], []⟩
def F56_l0_0 (K : Nat) (a1 : GBarrier) (a2 : Int) : Nat → Bool → Int → Option (Bool)
 | 0, _, _ => none
 | k + 1, v3, v4 =>
  bif (ilt v4 (nlen (len a1.Came))) then
   (bif (inr v4 (len a1.Came)) then
   (elAt a1.Came v4).bind fun x5 =>
   bif v3 then
    ((F123 K x5).bind fun r6 =>
    F56_l0_0 K a1 a2 k r6 (wadd .i64 v4 1))
   else
   F56_l0_0 K a1 a2 k false (wadd .i64 v4 1)
   else none)
  else
  some v3
def F56_l0_0_S (a1 : GBarrier) (a2 : Int) (v3 : Bool) (v4 : Int) : TS := .on [64, 65, 128, 129, 130, 131, 132, 133, 384, 385, 1088, 1152, 1153, 1216, 1217, 1280, 1281] [(64, ⟨.one, 0, nob⟩), (65, ⟨.im, 0, (.lit (.int .i64 a2))⟩), (128, ⟨(.box 24 5), 0, nob⟩), (129, ⟨.im, 0, (.lit (.int .i64 a1.Epoch))⟩), (130, ⟨.im, 0, (.lit (.int .i64 a1.Step))⟩), (131, ⟨.im, 0, (.lit (.int .i64 a1.Parts))⟩), (132, ⟨.im, 0, (.sl (len a1.Came) (flat eGPart a1.Came))⟩), (133, ⟨.im, 0, (.lit (.bool a1.Over))⟩), (384, ⟨.one, 0, nob⟩), (385, ⟨.im, 0, (.lit (.bool v3))⟩), (1088, ⟨(.ad 2 0 3), 0, nob⟩), (1152, ⟨.one, 0, nob⟩), (1153, ⟨.im, 0, (.sl (len a1.Came) (flat eGPart a1.Came))⟩), (1216, ⟨.one, 0, nob⟩), (1217, ⟨.im, 0, (.lit (.int .i64 (nlen (len a1.Came))))⟩), (1280, ⟨.one, 0, nob⟩), (1281, ⟨.im, 0, (.lit (.int .i64 v4))⟩)]
def F56_l0_0_X0 (a1 : GBarrier) (a2 : Int) (w3 : Bool) : TS := .on [64, 65, 128, 129, 130, 131, 132, 133, 384, 385] [(64, ⟨.one, 0, nob⟩), (65, ⟨.im, 0, (.lit (.int .i64 a2))⟩), (128, ⟨(.box 24 5), 0, nob⟩), (129, ⟨.im, 0, (.lit (.int .i64 a1.Epoch))⟩), (130, ⟨.im, 0, (.lit (.int .i64 a1.Step))⟩), (131, ⟨.im, 0, (.lit (.int .i64 a1.Parts))⟩), (132, ⟨.im, 0, (.sl (len a1.Came) (flat eGPart a1.Came))⟩), (133, ⟨.im, 0, (.lit (.bool a1.Over))⟩), (384, ⟨.one, 0, nob⟩), (385, ⟨.im, 0, (.lit (.bool w3))⟩)]
theorem F56_l0_0_ok (K : Nat) (a1 : GBarrier) (a2 : Int) : ∀ (k : Nat) (v3 : Bool) (v4 : Int) (r : Bool), F56_l0_0 K a1 a2 k v3 v4 = some r → LoopEv E H hn56 0 c56_0 (F56_l0_0_S a1 a2 v3 v4) (.exit 0) (F56_l0_0_X0 a1 a2 r) := by
 intro k
 induction k with
 | zero => intro v3 v4 r hF; cases hF
 | succ k ih =>
  intro v3 v4 r hF
  rw [F56_l0_0] at hF
  refine cond_some hF (fun h5 hF => ?_) (fun h5 hF => ?_)
  ·
   refine cond_some hF (fun h6 hF => ?_) (fun _ hF => nomatch hF)
   refine bind_some hF (fun x7 h8 hF => ?_)
   have q12 : PQ hn56 fun l => (.test (ilt v4 (nlen (len a1.Came))) true :: .test (inr v4 (len a1.Came)) true :: .sub (flat eGPart a1.Came) (nidx v4 5) 5 [(.lit (.int .i64 x7.P)), (.lit (.int .i64 x7.Step)), (.sl (len x7.Vals) (flat (eInt .i64) x7.Vals)), (.sl (len x7.Rest) (flat eBool x7.Rest)), (.sl (len x7.In) (flat eGMsg x7.In))] :: l) := fun z => ⟨h5, h6, ⟨rfl, sub_flat0 eGPart_len h8 5 (by decide)⟩, z⟩
   refine cond_some hF (fun h9 hF => ?_) (fun h9 hF => ?_)
   ·
    refine bind_some hF (fun r10 h11 hF => ?_)
    have pz : HoldAll E H hn56 [.test (beqb v3 true) true, .test (beqb v3 true) true, .call 123 [.agg (eGPart x7)] (F123_res r10), .test (leadsAny (Res.mk [(.one (.im (.lit (.bool r10))))] [])) false, .test v3 true, .int (wadd .i64 v4 1) (wadd .i64 v4 1)] := ⟨(beqb_t h9), (beqb_t h9), (F123_ok K x7 _ h11), (leads_ok (by simp [leadsAny, RV.leads, RC.leads, leadsT, hasSl_lit])), h9, rfl, trivial⟩
    have h0 := ih _ _ _ hF
    have hn := fun ex ts' => loop_nextC (h := hn56) (l := 0) (c := c56_0) (ts := F56_l0_0_S a1 a2 v3 v4) (ts1 := (F56_l0_0_S a1 a2 r10 (wadd .i64 v4 1))) (ex := ex) (ts' := ts') (q12 pz) (by kernel_rfl)
    exact hn _ _ h0
   have pz : HoldAll E H hn56 [.test (beqb v3 true) false, .test (beqb v3 true) false, .test v3 false, .int (wadd .i64 v4 1) (wadd .i64 v4 1)] := ⟨(beqb_t h9), (beqb_t h9), h9, rfl, trivial⟩
   have h0 := ih _ _ _ hF
   have hn := fun ex ts' => loop_nextC (h := hn56) (l := 0) (c := c56_0) (ts := F56_l0_0_S a1 a2 v3 v4) (ts1 := (F56_l0_0_S a1 a2 false (wadd .i64 v4 1))) (ex := ex) (ts' := ts') (q12 pz) (by kernel_rfl)
   exact hn _ _ h0
  obtain rfl := Option.some.inj hF
  have pz : HoldAll E H hn56 [.test (ilt v4 (nlen (len a1.Came))) false] := ⟨h5, trivial⟩
  exact loop_endC (h := hn56) (l := 0) (c := c56_0) (ts := F56_l0_0_S a1 a2 v3 v4) (ts' := F56_l0_0_X0 a1 a2 v3) (ex := (.exit 0)) pz (by kernel_rfl) trivial
def F56 (K : Nat) (a1 : GBarrier) (a2 : Int) : Option (Int × Bool) :=
 (F48 K a1).bind fun r3 =>
 bif r3 then
  (bif a1.Over then
   (some (2, true))
  else
  (F50 K a1).bind fun r4 =>
  bif r4 then
   ((F56_l0_0 K a1 a2 K true 0).bind fun w5 =>
   bif w5 then
    (some (1, true))
   else
   bif (ile a2 (wadd .i64 a1.Step 1)) then
    (some (3, true))
   else
   some (0, true))
  else
  some (0, false))
 else
 some (0, false)
theorem F56_ok (K : Nat) (a1 : GBarrier) (a2 : Int) (r : Int × Bool) (hF : F56 K a1 a2 = some r) : Evt E H 56 [.agg (eGBarrier a1), .one (.lit (.int .i64 a2))] (F56_res r) := by
 rw [F56] at hF
 refine bind_some hF (fun r3 h4 hF => ?_)
 refine cond_some hF (fun h5 hF => ?_) (fun h5 hF => ?_)
 ·
  have q14 : PQ hn56 fun l => (.call 48 [.agg (eGBarrier a1)] (F48_res r3) :: .test (leadsAny (Res.mk [(.one (.im (.lit (.bool r3))))] [])) false :: .test (bnot r3) false :: l) := fun z => ⟨(F48_ok K a1 _ h4), (leads_ok (by simp [leadsAny, RV.leads, RC.leads, leadsT, hasSl_lit])), (bnot_t h5), z⟩
  refine cond_some hF (fun h6 hF => ?_) (fun h6 hF => ?_)
  ·
   obtain rfl := Option.some.inj hF
   have pz : HoldAll E H hn56 [.test a1.Over true] := ⟨h6, trivial⟩
   exact fn_playC hn56 (r := F56_res (2, true)) (q14 pz) (by kernel_rfl) (by kernel_rfl)
  refine bind_some hF (fun r7 h8 hF => ?_)
  have q15 : PQ hn56 fun l => (.test a1.Over false :: .call 50 [.agg (eGBarrier a1)] (F50_res r7) :: .test (leadsAny (Res.mk [(.one (.im (.lit (.bool r7))))] [])) false :: l) := fun z => ⟨h6, (F50_ok K a1 _ h8), (leads_ok (by simp [leadsAny, RV.leads, RC.leads, leadsT, hasSl_lit])), z⟩
  refine cond_some hF (fun h9 hF => ?_) (fun h9 hF => ?_)
  ·
   refine bind_some hF (fun w11 h10 hF => ?_)
   have q16 : PQ hn56 fun l => (.test (bnot r7) false :: .int (nlen (len a1.Came)) (nlen (len a1.Came)) :: .loop 0 c56_0 (F56_l0_0_S a1 a2 true 0) (.exit 0) (F56_l0_0_X0 a1 a2 w11) :: l) := fun z => ⟨(bnot_t h9), rfl, (F56_l0_0_ok K a1 a2 K true 0 _ h10), z⟩
   refine cond_some hF (fun h12 hF => ?_) (fun h12 hF => ?_)
   ·
    obtain rfl := Option.some.inj hF
    have pz : HoldAll E H hn56 [.test w11 true] := ⟨h12, trivial⟩
    exact fn_playC hn56 (r := F56_res (1, true)) (q14 (q15 (q16 pz))) (by kernel_rfl) (by kernel_rfl)
   refine cond_some hF (fun h13 hF => ?_) (fun h13 hF => ?_)
   ·
    obtain rfl := Option.some.inj hF
    have pz : HoldAll E H hn56 [.test w11 false, .int (wadd .i64 a1.Step 1) (wadd .i64 a1.Step 1), .test (ige (wadd .i64 a1.Step 1) a2) true] := ⟨h12, rfl, (ige_eq h13), trivial⟩
    exact fn_playC hn56 (r := F56_res (3, true)) (q14 (q15 (q16 pz))) (by kernel_rfl) (by kernel_rfl)
   obtain rfl := Option.some.inj hF
   have pz : HoldAll E H hn56 [.test w11 false, .int (wadd .i64 a1.Step 1) (wadd .i64 a1.Step 1), .test (ige (wadd .i64 a1.Step 1) a2) false] := ⟨h12, rfl, (ige_eq h13), trivial⟩
   exact fn_playC hn56 (r := F56_res (0, true)) (q14 (q15 (q16 pz))) (by kernel_rfl) (by kernel_rfl)
  obtain rfl := Option.some.inj hF
  have pz : HoldAll E H hn56 [.test (bnot r7) true] := ⟨(bnot_f h9), trivial⟩
  exact fn_playC hn56 (r := F56_res (0, false)) (q14 (q15 pz)) (by kernel_rfl) (by kernel_rfl)
 obtain rfl := Option.some.inj hF
 have pz : HoldAll E H hn56 [.call 48 [.agg (eGBarrier a1)] (F48_res r3), .test (leadsAny (Res.mk [(.one (.im (.lit (.bool r3))))] [])) false, .test (bnot r3) true] := ⟨(F48_ok K a1 _ h4), (leads_ok (by simp [leadsAny, RV.leads, RC.leads, leadsT, hasSl_lit])), (bnot_f h5), trivial⟩
 exact fn_playC hn56 (r := F56_res (0, false)) pz (by kernel_rfl) (by kernel_rfl)
def rests (rest : List Bool) (n : Nat) : Bool := rest.all id && ieq (nlen n) 0
def quiet (x : GPart) : Bool := rests x.Rest (len x.In)
theorem F123_spec (K : Nat) (x : GPart) (h : x.Rest.length < 4611686018427387904) (hK : x.Rest.length < K) : F123 K x = some (quiet x) := by
 have e : F123_l0_0 K x K 0 = _ := scanL (L := fun k (_ : Unit) i => F123_l0_0 K x k i) (fun r _ c => bif r then c () else some (.inl ())) (fun _ => some (.inr ())) (fun k s i _ => rfl) h hK ()
 have e2 : ∀ l : List Bool, goL (fun r (_ : Unit) c => bif r then c () else some (.inl ())) (fun _ => some (.inr ())) l () = (some (bif l.all id then .inr () else .inl ()) : Option (Unit ⊕ Unit)) := by
   intro l
   induction l with
   | nil => rfl
   | cons r l ih => cases r <;> simp [goL, ih]
 rw [F123, e, e2]
 unfold quiet rests
 cases x.Rest.all id <;> rfl
def roomR (K : Nat) (a : GBarrier) : Prop := a.Came.length < 1000000 ∧ a.Came.length + 1 < K ∧ ∀ y ∈ a.Came, y.Rest.length < 1099511627776 ∧ y.Rest.length < K
theorem F56_spec (K : Nat) (a : GBarrier) (lim : Int) (h : roomR K a) :
   F56 K a lim = some (bif right a then (bif a.Over then (2, true) else bif ieq (nlen (len a.Came)) a.Parts then (bif a.Came.all quiet then (1, true) else bif ile lim (wadd .i64 a.Step 1) then (3, true) else (0, true)) else (0, false)) else (0, false)) := by
 obtain ⟨h1, h2, h3⟩ := h
 have e : F56_l0_0 K a lim K true 0 = _ := scanL (L := fun k s i => F56_l0_0 K a lim k s i) (fun x s c => bif s then (F123 K x).bind c else c false) (fun s => some s) (fun k s i _ => rfl) (by omega) (by omega) true
 have e2 : ∀ (l : List GPart) (s : Bool), (∀ y ∈ l, y.Rest.length < 1099511627776 ∧ y.Rest.length < K) → goL (fun x s c => bif s then (F123 K x).bind c else c false) (fun s => some s) l s = some (s && l.all quiet) := by
   intro l
   induction l with
   | nil => intro s _; cases s <;> rfl
   | cons x l ih =>
     intro s hl
     have hx := hl x List.mem_cons_self
     have ih := fun s => ih s fun y hy => hl y (List.mem_cons_of_mem _ hy)
     cases s
     · simp [goL, ih]
     · simp [goL, ih, F123_spec K x (by omega) hx.2]
 rw [e2 _ _ h3] at e
 have f48 : F48 K a = some (right a) := F48_spec K a (by omega) (by omega)
 rw [F56, f48, F50_spec K a (by omega) (by omega), e]
 cases right a <;> cases a.Over <;> cases ieq (nlen (len a.Came)) a.Parts <;> cases a.Came.all quiet <;> cases ile lim (wadd .i64 a.Step 1) <;> rfl
def pk (n : Nat) (x : Int) : Nat := (x % 18446744073709551616 % (n : Int)).toNat
theorem pk_lt {n : Nat} (h : 0 < n) (x : Int) : pk n x < n := by
 have h1 : 0 ≤ x % 18446744073709551616 % (n : Int) := Int.emod_nonneg _ (by omega)
 have h2 : x % 18446744073709551616 % (n : Int) < (n : Int) := Int.emod_lt_of_pos _ (by omega)
 unfold pk; omega
noncomputable def hn8 : Hint := { H 8 with nt := 142, prot := 0 }
noncomputable def c8_0 : Code := loopOf E 8 0
def F8_res (r1 : Bool) : Res := ⟨[(.one (.im (.lit (.bool r1))))], []⟩
def F8_l0_0 (K : Nat) (a1 : GJob) (a2 : Int) (r3 : List GState × GAnswer) (r4 : List GPart × Int) : Nat → Int → Int → Int → List GPart → Bool → Int → Option ((Unit) ⊕ (Int × Int × Int × List GPart × Bool))
 | 0, _, _, _, _, _, _ => none
 | k + 1, v5, v6, v7, v8, v9, v10 =>
  bif (ilt v10 (nlen (len r4.1))) then
   ((F56 K (GBarrier.mk v5 v6 v7 v8 v9) a1.Limit).bind fun r11 =>
   bif (ieq r11.1 0) then
    (bif r11.2 then
     (some (.inl ()))
    else
    bif (inr v10 (len r4.1)) then
    (elAt r4.1 v10).bind fun x12 =>
    (F52 K (GBarrier.mk v5 v6 v7 v8 v9) 1 x12).bind fun r13 =>
    bif (ieq r13.2 0) then
     (F8_l0_0 K a1 a2 r3 r4 k r13.1.Epoch r13.1.Step r13.1.Parts r13.1.Came r13.1.Over (wadd .i64 v10 1))
    else
    some (.inl ())
    else none)
   else
   some (.inl ()))
  else
  some (.inr (v5, (v6, (v7, (v8, v9)))))
def F8_l0_0_S (a1 : GJob) (a2 : Int) (r3 : List GState × GAnswer) (r4 : List GPart × Int) (v5 : Int) (v6 : Int) (v7 : Int) (v8 : List GPart) (v9 : Bool) (v10 : Int) : TS := .on [256, 257, 258, 259, 260, 448, 449, 512, 513, 514, 515, 576, 577, 640, 641, 642, 643, 644, 645, 768, 769, 896, 897] [(256, ⟨(.box 64 4), 0, nob⟩), (257, ⟨.im, 0, (.lit (.int .i64 a1.Prog))⟩), (258, ⟨.im, 0, (.lit (.int .i64 a1.Source))⟩), (259, ⟨.im, 0, (.lit (.int .i64 a1.Limit))⟩), (260, ⟨.im, 0, (.lit (.int .i64 a1.Parts))⟩), (448, ⟨.one, 0, nob⟩), (449, ⟨(.own 74), 0, (.sl (len r3.1) (flat eGState r3.1))⟩), (512, ⟨(.box 68 3), 0, nob⟩), (513, ⟨.im, 0, (.lit (.int .i64 r3.2.Kind))⟩), (514, ⟨.im, 0, (.lit (.int .i64 r3.2.Step))⟩), (515, ⟨.im, 0, (.sl (len r3.2.Vals) (flat (eInt .i64) r3.2.Vals))⟩), (576, ⟨.one, 0, nob⟩), (577, ⟨.im, 0, (.lit (.int .i64 (wadd .i64 1 (wconv .i64 (wrem (wconv .u64 a2) (wconv .u64 (wsub .i64 (nlen (len r3.1)) 1)))))))⟩), (640, ⟨(.box 24 5), 0, nob⟩), (641, ⟨.im, 0, (.lit (.int .i64 v5))⟩), (642, ⟨.im, 0, (.lit (.int .i64 v6))⟩), (643, ⟨.im, 0, (.lit (.int .i64 v7))⟩), (644, ⟨(.own 42), 0, (.sl (len v8) (flat eGPart v8))⟩), (645, ⟨.im, 0, (.lit (.bool v9))⟩), (768, ⟨.one, 0, nob⟩), (769, ⟨(.own 42), 0, (.sl (len r4.1) (flat eGPart r4.1))⟩), (896, ⟨.one, 0, nob⟩), (897, ⟨.im, 0, (.lit (.int .i64 v10))⟩)]
def F8_l0_0_X0 (a1 : GJob) (a2 : Int) (r3 : List GState × GAnswer) (r4 : List GPart × Int) (w5 : Unit) : TS := .on [384, 385] [(384, ⟨.one, 0, nob⟩), (385, ⟨.im, 0, (.lit (.bool false))⟩)]
def F8_l0_0_X1 (a1 : GJob) (a2 : Int) (r3 : List GState × GAnswer) (r4 : List GPart × Int) (w5 : Int × Int × Int × List GPart × Bool) : TS := .on [256, 257, 258, 259, 260, 448, 449, 512, 513, 514, 515, 576, 577, 640, 641, 642, 643, 644, 645] [(256, ⟨(.box 64 4), 0, nob⟩), (257, ⟨.im, 0, (.lit (.int .i64 a1.Prog))⟩), (258, ⟨.im, 0, (.lit (.int .i64 a1.Source))⟩), (259, ⟨.im, 0, (.lit (.int .i64 a1.Limit))⟩), (260, ⟨.im, 0, (.lit (.int .i64 a1.Parts))⟩), (448, ⟨.one, 0, nob⟩), (449, ⟨(.own 74), 0, (.sl (len r3.1) (flat eGState r3.1))⟩), (512, ⟨(.box 68 3), 0, nob⟩), (513, ⟨.im, 0, (.lit (.int .i64 r3.2.Kind))⟩), (514, ⟨.im, 0, (.lit (.int .i64 r3.2.Step))⟩), (515, ⟨.im, 0, (.sl (len r3.2.Vals) (flat (eInt .i64) r3.2.Vals))⟩), (576, ⟨.one, 0, nob⟩), (577, ⟨.im, 0, (.lit (.int .i64 (wadd .i64 1 (wconv .i64 (wrem (wconv .u64 a2) (wconv .u64 (wsub .i64 (nlen (len r3.1)) 1)))))))⟩), (640, ⟨(.box 24 5), 0, nob⟩), (641, ⟨.im, 0, (.lit (.int .i64 w5.1))⟩), (642, ⟨.im, 0, (.lit (.int .i64 w5.2.1))⟩), (643, ⟨.im, 0, (.lit (.int .i64 w5.2.2.1))⟩), (644, ⟨(.own 42), 0, (.sl (len w5.2.2.2.1) (flat eGPart w5.2.2.2.1))⟩), (645, ⟨.im, 0, (.lit (.bool w5.2.2.2.2))⟩)]
theorem F8_l0_0_ok (K : Nat) (a1 : GJob) (a2 : Int) (r3 : List GState × GAnswer) (r4 : List GPart × Int) : ∀ (k : Nat) (v5 : Int) (v6 : Int) (v7 : Int) (v8 : List GPart) (v9 : Bool) (v10 : Int) (r : (Unit) ⊕ (Int × Int × Int × List GPart × Bool)), F8_l0_0 K a1 a2 r3 r4 k v5 v6 v7 v8 v9 v10 = some r → (Sum.elim (fun w => LoopEv E H hn8 0 c8_0 (F8_l0_0_S a1 a2 r3 r4 v5 v6 v7 v8 v9 v10) .ret (F8_l0_0_X0 a1 a2 r3 r4 w)) (fun w => LoopEv E H hn8 0 c8_0 (F8_l0_0_S a1 a2 r3 r4 v5 v6 v7 v8 v9 v10) (.exit 0) (F8_l0_0_X1 a1 a2 r3 r4 w))) r := by
 intro k
 induction k with
 | zero => intro v5 v6 v7 v8 v9 v10 r hF; cases hF
 | succ k ih =>
  intro v5 v6 v7 v8 v9 v10 r hF
  rw [F8_l0_0] at hF
  refine cond_some hF (fun h11 hF => ?_) (fun h11 hF => ?_)
  ·
   refine bind_some hF (fun r12 h13 hF => ?_)
   have q22 : PQ hn8 fun l => (.int (nlen (len r4.1)) (nlen (len r4.1)) :: .test (ilt v10 (nlen (len r4.1))) true :: .call 56 [.agg (eGBarrier (GBarrier.mk v5 v6 v7 v8 v9)), .one (.lit (.int .i64 a1.Limit))] (F56_res r12) :: .test (leadsAny (Res.mk [(.one (.im (.lit (.int .i64 r12.1)))), (.one (.im (.lit (.bool r12.2))))] [])) false :: l) := fun z => ⟨rfl, h11, (F56_ok K (GBarrier.mk v5 v6 v7 v8 v9) a1.Limit _ h13), (leads_ok (by simp [leadsAny, RV.leads, RC.leads, leadsT, hasSl_lit])), z⟩
   refine cond_some hF (fun h14 hF => ?_) (fun h14 hF => ?_)
   ·
    refine cond_some hF (fun h15 hF => ?_) (fun h15 hF => ?_)
    ·
     obtain rfl := Option.some.inj hF
     have pz : HoldAll E H hn8 [.test (beqb (ine r12.1 0) false) true, .test (ine r12.1 0) false, .test r12.2 true] := ⟨(beqb_ff (ine_t h14)), (ine_t h14), h15, trivial⟩
     exact loop_endC (h := hn8) (l := 0) (c := c8_0) (ts := F8_l0_0_S a1 a2 r3 r4 v5 v6 v7 v8 v9 v10) (ts' := F8_l0_0_X0 a1 a2 r3 r4 ()) (ex := .ret) (q22 pz) (by kernel_rfl) trivial
    refine cond_some hF (fun h16 hF => ?_) (fun _ hF => nomatch hF)
    refine bind_some hF (fun x17 h18 hF => ?_)
    refine bind_some hF (fun r19 h20 hF => ?_)
    have q23 : PQ hn8 fun l => (.test (beqb (ine r12.1 0) false) true :: .test (ine r12.1 0) false :: .test r12.2 false :: .test (inr v10 (len r4.1)) true :: .sub (flat eGPart r4.1) (nidx v10 5) 5 [(.lit (.int .i64 x17.P)), (.lit (.int .i64 x17.Step)), (.sl (len x17.Vals) (flat (eInt .i64) x17.Vals)), (.sl (len x17.Rest) (flat eBool x17.Rest)), (.sl (len x17.In) (flat eGMsg x17.In))] :: .call 52 [.agg (eGBarrier (GBarrier.mk v5 v6 v7 v8 v9)), .one (.lit (.int .i64 1)), .agg (eGPart x17)] (F52_res r19) :: l) := fun z => ⟨(beqb_ff (ine_t h14)), (ine_t h14), h15, h16, ⟨rfl, sub_flat0 eGPart_len h18 5 (by decide)⟩, (F52_ok K (GBarrier.mk v5 v6 v7 v8 v9) 1 x17 _ h20), z⟩
    refine cond_some hF (fun h21 hF => ?_) (fun h21 hF => ?_)
    ·
     have pz : HoldAll E H hn8 [.test (ine r19.2 0) false, .int (wadd .i64 v10 1) (wadd .i64 v10 1)] := ⟨(ine_t h21), rfl, trivial⟩
     have h0 := ih _ _ _ _ _ _ _ hF
     have hn := fun ex ts' => loop_nextC (h := hn8) (l := 0) (c := c8_0) (ts := F8_l0_0_S a1 a2 r3 r4 v5 v6 v7 v8 v9 v10) (ts1 := (F8_l0_0_S a1 a2 r3 r4 r19.1.Epoch r19.1.Step r19.1.Parts r19.1.Came r19.1.Over (wadd .i64 v10 1))) (ex := ex) (ts' := ts') (q22 (q23 pz)) (by kernel_rfl)
     cases r with
     | inl w => exact hn _ _ h0
     | inr w => exact hn _ _ h0
    obtain rfl := Option.some.inj hF
    have pz : HoldAll E H hn8 [.test (ine r19.2 0) true] := ⟨(ine_f h21), trivial⟩
    exact loop_endC (h := hn8) (l := 0) (c := c8_0) (ts := F8_l0_0_S a1 a2 r3 r4 v5 v6 v7 v8 v9 v10) (ts' := F8_l0_0_X0 a1 a2 r3 r4 ()) (ex := .ret) (q22 (q23 pz)) (by kernel_rfl) trivial
   obtain rfl := Option.some.inj hF
   have pz : HoldAll E H hn8 [.test (beqb (ine r12.1 0) false) false, .test (ine r12.1 0) true, .test true true] := ⟨(beqb_ft (ine_f h14)), (ine_f h14), rfl, trivial⟩
   exact loop_endC (h := hn8) (l := 0) (c := c8_0) (ts := F8_l0_0_S a1 a2 r3 r4 v5 v6 v7 v8 v9 v10) (ts' := F8_l0_0_X0 a1 a2 r3 r4 ()) (ex := .ret) (q22 pz) (by kernel_rfl) trivial
  obtain rfl := Option.some.inj hF
  have pz : HoldAll E H hn8 [.int (nlen (len r4.1)) (nlen (len r4.1)), .test (ilt v10 (nlen (len r4.1))) false] := ⟨rfl, h11, trivial⟩
  exact loop_endC (h := hn8) (l := 0) (c := c8_0) (ts := F8_l0_0_S a1 a2 r3 r4 v5 v6 v7 v8 v9 v10) (ts' := F8_l0_0_X1 a1 a2 r3 r4 (v5, (v6, (v7, (v8, v9))))) (ex := (.exit 0)) pz (by kernel_rfl) trivial
def F8 (K : Nat) (a1 : GGraph) (a2 : GJob) (a3 : Int) : Option (Bool) :=
 bif (ilt 200 (nlen (len a1.Edges))) then
  (some true)
 else
 (F59 K a1 a2).bind fun r4 =>
 bif (ieq r4 0) then
  ((F60 K a1 a2).bind fun r5 =>
  bif (ilt (nlen (len r5.1)) 2) then
   (some true)
  else
  bif (izero (wconv .u64 (wsub .i64 (nlen (len r5.1)) 1))) then none else
  (F41 K 1 (wsub .i64 (wadd .i64 1 (wconv .i64 (wrem (wconv .u64 a3) (wconv .u64 (wsub .i64 (nlen (len r5.1)) 1))))) 1) a2.Parts).bind fun r6 =>
  bif (ieq r6.2 0) then
   (bif (inr (wadd .i64 1 (wconv .i64 (wrem (wconv .u64 a3) (wconv .u64 (wsub .i64 (nlen (len r5.1)) 1))))) (len r5.1)) then
   (elAt r5.1 (wadd .i64 1 (wconv .i64 (wrem (wconv .u64 a3) (wconv .u64 (wsub .i64 (nlen (len r5.1)) 1)))))).bind fun x7 =>
   (F61 K a1 a2 x7).bind fun r8 =>
   (F8_l0_0 K a2 a3 r5 r8 K r6.1.Epoch r6.1.Step r6.1.Parts r6.1.Came r6.1.Over 0).bind fun y9 =>
   Sum.elim (fun w10 =>
    some false)
    (fun w11 =>
    (F56 K (GBarrier.mk w11.1 w11.2.1 w11.2.2.1 w11.2.2.2.1 w11.2.2.2.2) a2.Limit).bind fun r12 =>
    bif (ilt (wadd .i64 1 (wconv .i64 (wrem (wconv .u64 a3) (wconv .u64 (wsub .i64 (nlen (len r5.1)) 1))))) (wsub .i64 (nlen (len r5.1)) 1)) then
     (bif (ieq r12.1 0) then
      (bif r12.2 then
       (some true)
      else
      some false)
     else
     some false)
    else
    bif (ieq r5.2.Kind 2) then
     (bif (ieq r12.1 0) then
      (bif r12.2 then
       (some true)
      else
      some false)
     else
     some false)
    else
    bif (ieq r12.1 r5.2.Kind) then
     (bif r12.2 then
      (bif (ieq r5.2.Step (wadd .i64 1 (wconv .i64 (wrem (wconv .u64 a3) (wconv .u64 (wsub .i64 (nlen (len r5.1)) 1)))))) then
       (some true)
      else
      some false)
     else
     some false)
    else
    some false) y9
   else none)
  else
  some false)
 else
 some true
theorem F8_ok (K : Nat) (a1 : GGraph) (a2 : GJob) (a3 : Int) (r : Bool) (hF : F8 K a1 a2 a3 = some r) : Evt E H 8 [.agg (eGGraph a1), .agg (eGJob a2), .one (.lit (.int .i64 a3))] (F8_res r) := by
 rw [F8] at hF
 refine cond_some hF (fun h4 hF => ?_) (fun h4 hF => ?_)
 ·
  obtain rfl := Option.some.inj hF
  have pz : HoldAll E H hn8 [.int (nlen (len a1.Edges)) (nlen (len a1.Edges)), .test (beqb (igt (nlen (len a1.Edges)) 200) false) false, .test (beqb (igt (nlen (len a1.Edges)) 200) false) false, .test (beqb (igt (nlen (len a1.Edges)) 200) false) false, .test (beqb (igt (nlen (len a1.Edges)) 200) false) false, .test (igt (nlen (len a1.Edges)) 200) true, .test true true, .call 45 [] (Res.mk [(.one (.im (.lit (.bool true))))] []), .test (leadsAny (Res.mk [(.one (.im (.lit (.bool true))))] [])) false] := ⟨rfl, (beqb_ft (igt_eq h4)), (beqb_ft (igt_eq h4)), (beqb_ft (igt_eq h4)), (beqb_ft (igt_eq h4)), (igt_eq h4), rfl, knows45, (leads_ok (by simp [leadsAny, RV.leads, RC.leads, leadsT, hasSl_lit])), trivial⟩
  exact fn_playC hn8 (r := F8_res true) pz (by kernel_rfl) (by kernel_rfl)
 refine bind_some hF (fun r5 h6 hF => ?_)
 have q35 : PQ hn8 fun l => (.int (nlen (len a1.Edges)) (nlen (len a1.Edges)) :: .test (beqb (igt (nlen (len a1.Edges)) 200) false) true :: .test (beqb (igt (nlen (len a1.Edges)) 200) false) true :: .test (beqb (igt (nlen (len a1.Edges)) 200) false) true :: .call 59 [.agg (eGGraph a1), .agg (eGJob a2)] (F59_res r5) :: .test (leadsAny (Res.mk [(.one (.im (.lit (.int .i64 r5))))] [])) false :: .test (beqb (igt (nlen (len a1.Edges)) 200) false) true :: .test (igt (nlen (len a1.Edges)) 200) false :: l) := fun z => ⟨rfl, (beqb_ff (igt_eq h4)), (beqb_ff (igt_eq h4)), (beqb_ff (igt_eq h4)), (F59_ok K a1 a2 _ h6), (leads_ok (by simp [leadsAny, RV.leads, RC.leads, leadsT, hasSl_lit, flat_ns eGJob_ns])), (beqb_ff (igt_eq h4)), (igt_eq h4), z⟩
 refine cond_some hF (fun h7 hF => ?_) (fun h7 hF => ?_)
 ·
  refine bind_some hF (fun r8 h9 hF => ?_)
  have q36 : PQ hn8 fun l => (.test (ine r5 0) false :: .call 60 [.agg (eGGraph a1), .agg (eGJob a2)] (F60_res r8) :: .int (nlen (len r8.1)) (nlen (len r8.1)) :: l) := fun z => ⟨(ine_t h7), (F60_ok K a1 a2 _ h9), rfl, z⟩
  refine cond_some hF (fun h10 hF => ?_) (fun h10 hF => ?_)
  ·
   obtain rfl := Option.some.inj hF
   have pz : HoldAll E H hn8 [.test (ilt (nlen (len r8.1)) 2) true, .call 45 [] (Res.mk [(.one (.im (.lit (.bool true))))] []), .test (leadsAny (Res.mk [(.one (.im (.lit (.bool true))))] [])) false] := ⟨h10, knows45, (leads_ok (by simp [leadsAny, RV.leads, RC.leads, leadsT, hasSl_lit])), trivial⟩
   exact fn_playC hn8 (r := F8_res true) (q35 (q36 pz)) (by kernel_rfl) (by kernel_rfl)
  refine cond_some hF (fun _ hF => nomatch hF) (fun h11 hF => ?_)
  refine bind_some hF (fun r12 h13 hF => ?_)
  have q37 : PQ hn8 fun l => (.test (ilt (nlen (len r8.1)) 2) false :: .int (wconv .u64 a3) (wconv .u64 a3) :: .int (nlen (len r8.1)) (nlen (len r8.1)) :: .int (wsub .i64 (nlen (len r8.1)) 1) (wsub .i64 (nlen (len r8.1)) 1) :: .int (wconv .u64 (wsub .i64 (nlen (len r8.1)) 1)) (wconv .u64 (wsub .i64 (nlen (len r8.1)) 1)) :: .test (izero (wconv .u64 (wsub .i64 (nlen (len r8.1)) 1))) false :: .int (wrem (wconv .u64 a3) (wconv .u64 (wsub .i64 (nlen (len r8.1)) 1))) (wrem (wconv .u64 a3) (wconv .u64 (wsub .i64 (nlen (len r8.1)) 1))) :: .int (wconv .i64 (wrem (wconv .u64 a3) (wconv .u64 (wsub .i64 (nlen (len r8.1)) 1)))) (wconv .i64 (wrem (wconv .u64 a3) (wconv .u64 (wsub .i64 (nlen (len r8.1)) 1)))) :: .int (wadd .i64 1 (wconv .i64 (wrem (wconv .u64 a3) (wconv .u64 (wsub .i64 (nlen (len r8.1)) 1))))) (wadd .i64 1 (wconv .i64 (wrem (wconv .u64 a3) (wconv .u64 (wsub .i64 (nlen (len r8.1)) 1))))) :: .int (wsub .i64 (wadd .i64 1 (wconv .i64 (wrem (wconv .u64 a3) (wconv .u64 (wsub .i64 (nlen (len r8.1)) 1))))) 1) (wsub .i64 (wadd .i64 1 (wconv .i64 (wrem (wconv .u64 a3) (wconv .u64 (wsub .i64 (nlen (len r8.1)) 1))))) 1) :: .call 41 [.one (.lit (.int .i64 1)), .one (.lit (.int .i64 (wsub .i64 (wadd .i64 1 (wconv .i64 (wrem (wconv .u64 a3) (wconv .u64 (wsub .i64 (nlen (len r8.1)) 1))))) 1))), .one (.lit (.int .i64 a2.Parts))] (F41_res r12) :: l) := fun z => ⟨h10, rfl, rfl, rfl, rfl, h11, rfl, rfl, rfl, rfl, (F41_ok K 1 (wsub .i64 (wadd .i64 1 (wconv .i64 (wrem (wconv .u64 a3) (wconv .u64 (wsub .i64 (nlen (len r8.1)) 1))))) 1) a2.Parts _ h13), z⟩
  refine cond_some hF (fun h14 hF => ?_) (fun h14 hF => ?_)
  ·
   refine cond_some hF (fun h15 hF => ?_) (fun _ hF => nomatch hF)
   refine bind_some hF (fun x16 h17 hF => ?_)
   refine bind_some hF (fun r18 h19 hF => ?_)
   have q38 : PQ hn8 fun l => (.test (ine r12.2 0) false :: .test (inr (wadd .i64 1 (wconv .i64 (wrem (wconv .u64 a3) (wconv .u64 (wsub .i64 (nlen (len r8.1)) 1))))) (len r8.1)) true :: .sub (flat eGState r8.1) (nidx (wadd .i64 1 (wconv .i64 (wrem (wconv .u64 a3) (wconv .u64 (wsub .i64 (nlen (len r8.1)) 1))))) 4) 4 [(.lit (.int .i64 x16.Step)), (.sl (len x16.Vals) (flat (eInt .i64) x16.Vals)), (.sl (len x16.Rest) (flat eBool x16.Rest)), (.sl (len x16.In) (flat eGMsg x16.In))] :: .call 61 [.agg (eGGraph a1), .agg (eGJob a2), .agg (eGState x16)] (F61_res r18) :: l) := fun z => ⟨(ine_t h14), h15, ⟨rfl, sub_flat0 eGState_len h17 4 (by decide)⟩, (F61_ok K a1 a2 x16 _ h19), z⟩
   refine bind_some hF (fun y21 h20 hF => ?_)
   refine sum_some hF (fun w22 hx hF => ?_) (fun w23 hx hF => ?_)
   ·
    subst hx
    obtain rfl := Option.some.inj hF
    have pz : HoldAll E H hn8 [.loop 0 c8_0 (F8_l0_0_S a2 a3 r8 r18 r12.1.Epoch r12.1.Step r12.1.Parts r12.1.Came r12.1.Over 0) .ret (F8_l0_0_X0 a2 a3 r8 r18 w22)] := ⟨(F8_l0_0_ok K a2 a3 r8 r18 K r12.1.Epoch r12.1.Step r12.1.Parts r12.1.Came r12.1.Over 0 _ h20), trivial⟩
    exact fn_playC hn8 (r := F8_res false) (q35 (q36 (q37 (q38 pz)))) (by kernel_rfl) (by kernel_rfl)
   subst hx
   refine bind_some hF (fun r24 h25 hF => ?_)
   have q39 : PQ hn8 fun l => (.loop 0 c8_0 (F8_l0_0_S a2 a3 r8 r18 r12.1.Epoch r12.1.Step r12.1.Parts r12.1.Came r12.1.Over 0) (.exit 0) (F8_l0_0_X1 a2 a3 r8 r18 w23) :: .call 56 [.agg (eGBarrier (GBarrier.mk w23.1 w23.2.1 w23.2.2.1 w23.2.2.2.1 w23.2.2.2.2)), .one (.lit (.int .i64 a2.Limit))] (F56_res r24) :: .test (leadsAny (Res.mk [(.one (.im (.lit (.int .i64 r24.1)))), (.one (.im (.lit (.bool r24.2))))] [])) false :: .int (nlen (len r8.1)) (nlen (len r8.1)) :: .int (wsub .i64 (nlen (len r8.1)) 1) (wsub .i64 (nlen (len r8.1)) 1) :: l) := fun z => ⟨(F8_l0_0_ok K a2 a3 r8 r18 K r12.1.Epoch r12.1.Step r12.1.Parts r12.1.Came r12.1.Over 0 _ h20), (F56_ok K (GBarrier.mk w23.1 w23.2.1 w23.2.2.1 w23.2.2.2.1 w23.2.2.2.2) a2.Limit _ h25), (leads_ok (by simp [leadsAny, RV.leads, RC.leads, leadsT, hasSl_lit])), rfl, rfl, z⟩
   refine cond_some hF (fun h26 hF => ?_) (fun h26 hF => ?_)
   ·
    have q40 : PQ hn8 fun l => (.test (beqb (ilt (wadd .i64 1 (wconv .i64 (wrem (wconv .u64 a3) (wconv .u64 (wsub .i64 (nlen (len r8.1)) 1))))) (wsub .i64 (nlen (len r8.1)) 1)) false) false :: .test (beqb (ilt (wadd .i64 1 (wconv .i64 (wrem (wconv .u64 a3) (wconv .u64 (wsub .i64 (nlen (len r8.1)) 1))))) (wsub .i64 (nlen (len r8.1)) 1)) false) false :: .test (beqb (ilt (wadd .i64 1 (wconv .i64 (wrem (wconv .u64 a3) (wconv .u64 (wsub .i64 (nlen (len r8.1)) 1))))) (wsub .i64 (nlen (len r8.1)) 1)) false) false :: .test (ilt (wadd .i64 1 (wconv .i64 (wrem (wconv .u64 a3) (wconv .u64 (wsub .i64 (nlen (len r8.1)) 1))))) (wsub .i64 (nlen (len r8.1)) 1)) true :: .test true true :: l) := fun z => ⟨(beqb_ft h26), (beqb_ft h26), (beqb_ft h26), h26, rfl, z⟩
    refine cond_some hF (fun h27 hF => ?_) (fun h27 hF => ?_)
    ·
     refine cond_some hF (fun h28 hF => ?_) (fun h28 hF => ?_)
     ·
      obtain rfl := Option.some.inj hF
      have pz : HoldAll E H hn8 [.test (beqb (ieq r24.1 0) true) true, .test (ieq r24.1 0) true, .test (beqb r24.2 true) true, .call 45 [] (Res.mk [(.one (.im (.lit (.bool true))))] []), .test (leadsAny (Res.mk [(.one (.im (.lit (.bool true))))] [])) false, .test r24.2 true] := ⟨(beqb_t h27), h27, (beqb_t h28), knows45, (leads_ok (by simp [leadsAny, RV.leads, RC.leads, leadsT, hasSl_lit])), h28, trivial⟩
      exact fn_playC hn8 (r := F8_res true) (q35 (q36 (q37 (q38 (q39 (q40 pz)))))) (by kernel_rfl) (by kernel_rfl)
     obtain rfl := Option.some.inj hF
     have pz : HoldAll E H hn8 [.test (beqb (ieq r24.1 0) true) true, .test (ieq r24.1 0) true, .test (beqb r24.2 true) false, .test r24.2 false] := ⟨(beqb_t h27), h27, (beqb_t h28), h28, trivial⟩
     exact fn_playC hn8 (r := F8_res false) (q35 (q36 (q37 (q38 (q39 (q40 pz)))))) (by kernel_rfl) (by kernel_rfl)
    obtain rfl := Option.some.inj hF
    have pz : HoldAll E H hn8 [.test (beqb (ieq r24.1 0) true) false, .test (ieq r24.1 0) false, .test (beqb false true) false, .test false false] := ⟨(beqb_t h27), h27, (beqb_t rfl), rfl, trivial⟩
    exact fn_playC hn8 (r := F8_res false) (q35 (q36 (q37 (q38 (q39 (q40 pz)))))) (by kernel_rfl) (by kernel_rfl)
   have q41 : PQ hn8 fun l => (.test (beqb (ilt (wadd .i64 1 (wconv .i64 (wrem (wconv .u64 a3) (wconv .u64 (wsub .i64 (nlen (len r8.1)) 1))))) (wsub .i64 (nlen (len r8.1)) 1)) false) true :: .test (beqb (ilt (wadd .i64 1 (wconv .i64 (wrem (wconv .u64 a3) (wconv .u64 (wsub .i64 (nlen (len r8.1)) 1))))) (wsub .i64 (nlen (len r8.1)) 1)) false) true :: .test (beqb (ilt (wadd .i64 1 (wconv .i64 (wrem (wconv .u64 a3) (wconv .u64 (wsub .i64 (nlen (len r8.1)) 1))))) (wsub .i64 (nlen (len r8.1)) 1)) false) true :: .test (ilt (wadd .i64 1 (wconv .i64 (wrem (wconv .u64 a3) (wconv .u64 (wsub .i64 (nlen (len r8.1)) 1))))) (wsub .i64 (nlen (len r8.1)) 1)) false :: l) := fun z => ⟨(beqb_ff h26), (beqb_ff h26), (beqb_ff h26), h26, z⟩
   refine cond_some hF (fun h29 hF => ?_) (fun h29 hF => ?_)
   ·
    refine cond_some hF (fun h30 hF => ?_) (fun h30 hF => ?_)
    ·
     have q42 : PQ hn8 fun l => (.test (ieq r8.2.Kind 2) true :: .test (beqb (ieq r24.1 0) true) true :: .test (ieq r24.1 0) true :: l) := fun z => ⟨h29, (beqb_t h30), h30, z⟩
     refine cond_some hF (fun h31 hF => ?_) (fun h31 hF => ?_)
     ·
      obtain rfl := Option.some.inj hF
      have pz : HoldAll E H hn8 [.test (beqb r24.2 true) true, .call 45 [] (Res.mk [(.one (.im (.lit (.bool true))))] []), .test (leadsAny (Res.mk [(.one (.im (.lit (.bool true))))] [])) false, .test r24.2 true] := ⟨(beqb_t h31), knows45, (leads_ok (by simp [leadsAny, RV.leads, RC.leads, leadsT, hasSl_lit])), h31, trivial⟩
      exact fn_playC hn8 (r := F8_res true) (q35 (q36 (q37 (q38 (q39 (q41 (q42 pz))))))) (by kernel_rfl) (by kernel_rfl)
     obtain rfl := Option.some.inj hF
     have pz : HoldAll E H hn8 [.test (beqb r24.2 true) false, .test r24.2 false] := ⟨(beqb_t h31), h31, trivial⟩
     exact fn_playC hn8 (r := F8_res false) (q35 (q36 (q37 (q38 (q39 (q41 (q42 pz))))))) (by kernel_rfl) (by kernel_rfl)
    obtain rfl := Option.some.inj hF
    have pz : HoldAll E H hn8 [.test (ieq r8.2.Kind 2) true, .test (beqb (ieq r24.1 0) true) false, .test (ieq r24.1 0) false, .test (beqb false true) false, .test false false] := ⟨h29, (beqb_t h30), h30, (beqb_t rfl), rfl, trivial⟩
    exact fn_playC hn8 (r := F8_res false) (q35 (q36 (q37 (q38 (q39 (q41 pz)))))) (by kernel_rfl) (by kernel_rfl)
   refine cond_some hF (fun h32 hF => ?_) (fun h32 hF => ?_)
   ·
    have q43 : PQ hn8 fun l => (.test (ieq r8.2.Kind 2) false :: .test (beqb (ieq r24.1 r8.2.Kind) true) true :: .test (ieq r24.1 r8.2.Kind) true :: l) := fun z => ⟨h29, (beqb_t h32), h32, z⟩
    refine cond_some hF (fun h33 hF => ?_) (fun h33 hF => ?_)
    ·
     have q44 : PQ hn8 fun l => (.test (beqb r24.2 true) true :: .test (beqb r24.2 true) true :: .test (beqb r24.2 true) true :: .test (beqb r24.2 true) true :: .test r24.2 true :: l) := fun z => ⟨(beqb_t h33), (beqb_t h33), (beqb_t h33), (beqb_t h33), h33, z⟩
     refine cond_some hF (fun h34 hF => ?_) (fun h34 hF => ?_)
     ·
      obtain rfl := Option.some.inj hF
      have pz : HoldAll E H hn8 [.test (beqb (ieq r8.2.Step (wadd .i64 1 (wconv .i64 (wrem (wconv .u64 a3) (wconv .u64 (wsub .i64 (nlen (len r8.1)) 1)))))) true) true, .call 45 [] (Res.mk [(.one (.im (.lit (.bool true))))] []), .test (leadsAny (Res.mk [(.one (.im (.lit (.bool true))))] [])) false, .test (ieq r8.2.Step (wadd .i64 1 (wconv .i64 (wrem (wconv .u64 a3) (wconv .u64 (wsub .i64 (nlen (len r8.1)) 1)))))) true] := ⟨(beqb_t h34), knows45, (leads_ok (by simp [leadsAny, RV.leads, RC.leads, leadsT, hasSl_lit])), h34, trivial⟩
      exact fn_playC hn8 (r := F8_res true) (q35 (q36 (q37 (q38 (q39 (q41 (q43 (q44 pz)))))))) (by kernel_rfl) (by kernel_rfl)
     obtain rfl := Option.some.inj hF
     have pz : HoldAll E H hn8 [.test (beqb (ieq r8.2.Step (wadd .i64 1 (wconv .i64 (wrem (wconv .u64 a3) (wconv .u64 (wsub .i64 (nlen (len r8.1)) 1)))))) true) false, .test (ieq r8.2.Step (wadd .i64 1 (wconv .i64 (wrem (wconv .u64 a3) (wconv .u64 (wsub .i64 (nlen (len r8.1)) 1)))))) false] := ⟨(beqb_t h34), h34, trivial⟩
     exact fn_playC hn8 (r := F8_res false) (q35 (q36 (q37 (q38 (q39 (q41 (q43 (q44 pz)))))))) (by kernel_rfl) (by kernel_rfl)
    obtain rfl := Option.some.inj hF
    have pz : HoldAll E H hn8 [.test (beqb r24.2 true) false, .test (beqb r24.2 true) false, .test (beqb r24.2 true) false, .test (beqb r24.2 true) false, .test r24.2 false, .test (beqb false true) false, .test false false] := ⟨(beqb_t h33), (beqb_t h33), (beqb_t h33), (beqb_t h33), h33, (beqb_t rfl), rfl, trivial⟩
    exact fn_playC hn8 (r := F8_res false) (q35 (q36 (q37 (q38 (q39 (q41 (q43 pz))))))) (by kernel_rfl) (by kernel_rfl)
   obtain rfl := Option.some.inj hF
   have pz : HoldAll E H hn8 [.test (ieq r8.2.Kind 2) false, .test (beqb (ieq r24.1 r8.2.Kind) true) false, .test (ieq r24.1 r8.2.Kind) false, .test (beqb false true) false, .test (beqb false true) false, .test (beqb false true) false, .test (beqb false true) false, .test false false, .test (beqb false true) false, .test false false] := ⟨h29, (beqb_t h32), h32, (beqb_t rfl), (beqb_t rfl), (beqb_t rfl), (beqb_t rfl), rfl, (beqb_t rfl), rfl, trivial⟩
   exact fn_playC hn8 (r := F8_res false) (q35 (q36 (q37 (q38 (q39 (q41 pz)))))) (by kernel_rfl) (by kernel_rfl)
  obtain rfl := Option.some.inj hF
  have pz : HoldAll E H hn8 [.test (ine r12.2 0) true] := ⟨(ine_f h14), trivial⟩
  exact fn_playC hn8 (r := F8_res false) (q35 (q36 (q37 pz))) (by kernel_rfl) (by kernel_rfl)
 obtain rfl := Option.some.inj hF
 have pz : HoldAll E H hn8 [.test (ine r5 0) true, .call 45 [] (Res.mk [(.one (.im (.lit (.bool true))))] []), .test (leadsAny (Res.mk [(.one (.im (.lit (.bool true))))] [])) false] := ⟨(ine_f h7), knows45, (leads_ok (by simp [leadsAny, RV.leads, RC.leads, leadsT, hasSl_lit])), trivial⟩
 exact fn_playC hn8 (r := F8_res true) (q35 pz) (by kernel_rfl) (by kernel_rfl)
theorem pk_eq' {n : Nat} (h : 0 < n) (hn : n ≤ 1000) (x : Int) : wconv .i64 (wrem (wconv .u64 x) (wconv .u64 (n : Int))) = ((pk n x : Nat) : Int) := by
 have w1 : wconv .u64 x = x % 18446744073709551616 := by
   show IntKind.u64.wrap x = _
   simp [IntKind.wrap, IntKind.signed, IntKind.bits]
 have w2 : wconv .u64 (n : Int) = (n : Int) := by
   show IntKind.u64.wrap (n : Int) = _
   simp [IntKind.wrap, IntKind.signed, IntKind.bits]
   omega
 have h0 : 0 ≤ x % 18446744073709551616 := Int.emod_nonneg _ (by omega)
 have h1 : 0 ≤ x % 18446744073709551616 % (n : Int) := Int.emod_nonneg _ (by omega)
 have h2 : x % 18446744073709551616 % (n : Int) < (n : Int) := Int.emod_lt_of_pos _ (by omega)
 have w3 : wrem (wconv .u64 x) (wconv .u64 (n : Int)) = x % 18446744073709551616 % (n : Int) := by
   rw [w1, w2]
   show Int.tmod _ _ = _
   exact Int.tmod_eq_emod_of_nonneg h0
 rw [w3]
 show IntKind.i64.wrap _ = _
 rw [IntKind.wrap_i64]
 unfold pk
 omega
theorem zero_u64 {n : Nat} (h : 0 < n) (hn : n ≤ 1000) : izero (wconv .u64 (n : Int)) = false := by
 have w2 : wconv .u64 (n : Int) = (n : Int) := by
   show IntKind.u64.wrap (n : Int) = _
   simp [IntKind.wrap, IntKind.signed, IntKind.bits]
   omega
 rw [w2]; exact decide_eq_false (by omega)
theorem quiet_iff {x : GPart} : quiet x = true ↔ (∀ b ∈ x.Rest, b = true) ∧ x.In = [] := by
 rw [quiet, rests, Bool.and_eq_true, List.all_eq_true, ieq_iff]
 refine and_congr Iff.rfl ?_
 show ((x.In.length : Nat) : Int) = 0 ↔ x.In = []
 rw [← List.length_eq_zero_iff]; omega
theorem restsS_iff {s : GState} : restsS s = true ↔ (∀ b ∈ s.Rest, b = true) ∧ s.In = [] := by
 rw [restsS, Bool.and_eq_true, List.all_eq_true, ieq_iff]
 refine and_congr Iff.rfl ?_
 show ((s.In.length : Nat) : Int) = 0 ↔ s.In = []
 rw [← List.length_eq_zero_iff]; omega
theorem split_quiet {g : GGraph} {j : GJob} {s : GState} (h : stRight g j s = true) : (splitS g j s).all quiet = restsS s := by
 obtain ⟨hc, s1, s2, s3, s4, s5⟩ := stRight_ok h
 obtain ⟨hg, p1, p2, p3, p4, p5, p6, p7, p8⟩ := jcheck_ok hc
 obtain ⟨q1, q2⟩ := inSt_ok s5
 rw [Bool.eq_iff_iff, restsS_iff, List.all_eq_true]
 constructor
 · intro hq
   have hp : ∀ p : Nat, p < j.Parts.toNat → quiet (cutS g j s (p : Int)) = true := fun p hp => hq _ (List.mem_map.2 ⟨p, List.mem_range.2 hp, rfl⟩)
   refine ⟨fun b hb => ?_, ?_⟩
   · obtain ⟨v, hv, e⟩ := List.getElem_of_mem hb
     have hm0 : 0 ≤ (v : Int) % j.Parts := Int.emod_nonneg _ (by omega)
     have hm1 : (v : Int) % j.Parts < j.Parts := Int.emod_lt_of_pos _ (by omega)
     have hpp := (quiet_iff.1 (hp ((v : Int) % j.Parts).toNat (by omega))).1
     rw [show (((v : Int) % j.Parts).toNat : Int) = (v : Int) % j.Parts by omega] at hpp
     have hvm : v ∈ vertsS g j ((v : Int) % j.Parts) := (mem_verts p7).2 ⟨by omega, rfl⟩
     have := hpp (s.Rest.getD v false) (List.mem_map.2 ⟨v, hvm, rfl⟩)
     rw [List.getD_eq_getElem?_getD, List.getElem?_eq_getElem hv, Option.getD_some, e] at this
     exact this
   · cases hI : s.In with
     | nil => rfl
     | cons m r =>
       exfalso
       have hm : m ∈ s.In := by rw [hI]; exact List.mem_cons_self
       have hm0 : 0 ≤ m.To % j.Parts := Int.emod_nonneg _ (by omega)
       have hm1 : m.To % j.Parts < j.Parts := Int.emod_lt_of_pos _ (by omega)
       have hpp := (quiet_iff.1 (hp (m.To % j.Parts).toNat (by omega))).2
       rw [show ((m.To % j.Parts).toNat : Int) = m.To % j.Parts by omega] at hpp
       have hin : m ∈ (cutS g j s (m.To % j.Parts)).In := List.mem_filter.2 ⟨hm, ieq_refl _⟩
       rw [hpp] at hin
       exact absurd hin List.not_mem_nil
 · rintro ⟨h1, h2⟩ x hx
   obtain ⟨p, hp, rfl⟩ := List.mem_map.1 hx
   refine quiet_iff.2 ⟨fun b hb => ?_, by simp [cutS, h2]⟩
   obtain ⟨v, hv, rfl⟩ := List.mem_map.1 hb
   have hvl : v < s.Rest.length := by have := ((mem_verts p7).1 hv).1; omega
   rw [List.getD_eq_getElem?_getD, List.getElem?_eq_getElem hvl]
   exact h1 _ (List.getElem_mem hvl)
def barT (g : GGraph) (j : GJob) (t : GState) (n : Int) (i : Nat) : GBarrier := GBarrier.mk 1 n j.Parts ((List.range i).map fun (p : Nat) => cutS g j t (p : Int)) false
theorem chain_cut {g : GGraph} {j : GJob} {t : GState} {n : Int} (ht : t.Step = n + 1) (hn : 0 ≤ n ∧ n ≤ 39) : ∀ (k a : Nat) (v : Int), v < (a : Int) → ((a + k : Nat) : Int) ≤ j.Parts → chain j.Parts n v ((List.range' a k).map fun (p : Nat) => cutS g j t (p : Int)) = true
 | 0, a, v, _, _ => rfl
 | k + 1, a, v, hv, ha => by
   have hw : wadd .i64 n 1 = n + 1 := wadd_i64 (by unfold i64; omega)
   rw [List.range'_succ, List.map_cons, chain, hw, ile_f.2 (show v < (cutS g j t (a : Int)).P from hv), ile_f.2 (show (cutS g j t (a : Int)).P < j.Parts by show (a : Int) < _; omega), ieq_iff.2 (show (cutS g j t (a : Int)).Step = n + 1 from ht)]
   exact chain_cut ht hn k (a + 1) (a : Int) (by omega) (by omega)
theorem right_barT {g : GGraph} {j : GJob} {t : GState} {n : Int} (ht : t.Step = n + 1) (hn : 0 ≤ n ∧ n ≤ 39) (h1 : 1 ≤ j.Parts) (h6 : j.Parts ≤ 6) {i : Nat} (hi : (i : Int) ≤ j.Parts) : right (barT g j t n i) = true := by
 have hg : goodE 1 n j.Parts = true := by
   simp only [goodE, Bool.and_eq_true, ile_iff]
   exact ⟨⟨⟨⟨⟨by omega, by omega⟩, hn.1⟩, hn.2⟩, h1⟩, h6⟩
 show (goodE 1 n j.Parts && chain j.Parts n (-1) ((List.range i).map fun (p : Nat) => cutS g j t (p : Int))) = true
 rw [hg, List.range_eq_range', chain_cut ht hn i 0 (-1) (by omega) (by omega)]; rfl
theorem cut_small (g : GGraph) (j : GJob) (t : GState) (p : Int) (hn : g.N ≤ 24) (hi : t.In.length ≤ 80) : smallP (cutS g j t p) ∧ (cutS g j t p).Rest.length ≤ 24 := by
 have := verts_len g j hn p
 have h2 : (t.In.filter fun m => ieq (m.To % j.Parts) p).length ≤ t.In.length := List.length_filter_le _ _
 exact ⟨⟨by simp only [cutS, List.length_map]; omega, by simp only [cutS, List.length_map]; omega, by simp only [cutS]; omega⟩, by simp only [cutS, List.length_map]; omega⟩
theorem put_barT {K : Nat} (hK : 1000 ≤ K) {g : GGraph} {j : GJob} {t : GState} {n : Int} (ht : t.Step = n + 1) (hn : 0 ≤ n ∧ n ≤ 39) (h1 : 1 ≤ j.Parts) (h6 : j.Parts ≤ 6) (hN : g.N ≤ 24) (hI : t.In.length ≤ 80) {i : Nat} (hi : (i : Int) < j.Parts) :
   F52 K (barT g j t n i) 1 (cutS g j t (i : Int)) = some (barT g j t n (i + 1), 0) := by
 have hlen : (barT g j t n i).Came.length = i := by simp [barT]
 have hw : wadd .i64 n 1 = n + 1 := wadd_i64 (by unfold i64; omega)
 rw [F52_spec K (barT g j t n i) 1 (cutS g j t (i : Int)) (by omega) (by omega) (by omega) (fun y hy => by
   obtain ⟨p, _, rfl⟩ := List.mem_map.1 hy
   exact (cut_small g j t _ hN hI).1) (cut_small g j t _ hN hI).1]
 have hE : anyEq (cutS g j t (i : Int)) (barT g j t n i).Came = false := by
   rw [anyEq, List.any_eq_false]
   intro y hy
   obtain ⟨p, hp, rfl⟩ := List.mem_map.1 hy
   have := List.mem_range.1 hp
   rw [ieq_f.2 (show (cutS g j t (p : Int)).P ≠ (cutS g j t (i : Int)).P by show (p : Int) ≠ (i : Int); omega)]; exact Bool.false_ne_true
 have hG : anyGt (cutS g j t (i : Int)) (barT g j t n i).Came = false := by
   rw [anyGt, List.any_eq_false]
   intro y hy
   obtain ⟨p, hp, rfl⟩ := List.mem_map.1 hy
   have := List.mem_range.1 hp
   rw [ilt_f.2 (show (cutS g j t (p : Int)).P ≤ (cutS g j t (i : Int)).P by show (p : Int) ≤ (i : Int); omega)]; exact Bool.false_ne_true
 have e2 : ieq (cutS g j t (i : Int)).Step (wadd .i64 (barT g j t n i).Step 1) = true := ieq_iff.2 (by show t.Step = wadd .i64 n 1; rw [hw, ht])
 have e3 : ilt (cutS g j t (i : Int)).P 0 = false := ilt_f.2 (by show (0 : Int) ≤ (i : Int); omega)
 have e4 : ile (barT g j t n i).Parts (cutS g j t (i : Int)).P = false := ile_f.2 (by show (i : Int) < j.Parts; omega)
 have e5 : ieq 1 (barT g j t n i).Epoch = true := rfl
 rw [pput, right_barT ht hn h1 h6 (by omega), e5, e2, e3, e4, hE, ins_none hG]
 have : (barT g j t n i).Came ++ [cutS g j t (i : Int)] = (barT g j t n (i + 1)).Came := by simp [barT, List.range_succ]
 rw [this]; rfl
theorem say_barT {K : Nat} (hK : 1000 ≤ K) {g : GGraph} {j : GJob} {t : GState} {n : Int} (ht : t.Step = n + 1) (hn : 0 ≤ n ∧ n ≤ 39) (h1 : 1 ≤ j.Parts) (h6 : j.Parts ≤ 6) (hN : g.N ≤ 24) (hI : t.In.length ≤ 80) {i : Nat} (hi : (i : Int) ≤ j.Parts) :
   F56 K (barT g j t n i) j.Limit = some (bif ieq (i : Int) j.Parts then (bif (barT g j t n i).Came.all quiet then (1, true) else bif ile j.Limit t.Step then (3, true) else (0, true)) else (0, false)) := by
 have hlen : (barT g j t n i).Came.length = i := by simp [barT]
 have hw : wadd .i64 (barT g j t n i).Step 1 = t.Step := by rw [ht]; exact wadd_i64 (by unfold i64; show _ ≤ n + 1 ∧ n + 1 ≤ _; omega)
 rw [F56_spec K (barT g j t n i) j.Limit ⟨by omega, by omega, fun y hy => by
   obtain ⟨p, _, rfl⟩ := List.mem_map.1 hy
   have := (cut_small g j t (p : Int) hN hI).2
   omega⟩, right_barT ht hn h1 h6 hi, hw]
 have : nlen (len (barT g j t n i).Came) = (i : Int) := by show (((barT g j t n i).Came.length : Nat) : Int) = _; rw [hlen]
 rw [this]; rfl
theorem F8_loop {K : Nat} (hK : 1000 ≤ K) {g : GGraph} {j : GJob} {t : GState} (x : Int) (R : List GState × GAnswer) {n : Int} (ht : t.Step = n + 1) (hn : 0 ≤ n ∧ n ≤ 39) (h1 : 1 ≤ j.Parts) (h6 : j.Parts ≤ 6) (hN : g.N ≤ 24) (hI : t.In.length ≤ 80) :
   ∀ (m k i : Nat), i + m = j.Parts.toNat → m < k → F8_l0_0 K j x R (splitS g j t, 0) k (barT g j t n i).Epoch (barT g j t n i).Step (barT g j t n i).Parts (barT g j t n i).Came (barT g j t n i).Over (i : Int) =
     some (.inr ((barT g j t n j.Parts.toNat).Epoch, ((barT g j t n j.Parts.toNat).Step, ((barT g j t n j.Parts.toNat).Parts, ((barT g j t n j.Parts.toNat).Came, (barT g j t n j.Parts.toNat).Over))))) := by
 have hlen : (splitS g j t).length = j.Parts.toNat := by simp [splitS]
 intro m
 induction m with
 | zero =>
   intro k i hi hk
   obtain ⟨k, rfl⟩ : ∃ q, k = q + 1 := ⟨k - 1, by omega⟩
   have : i = j.Parts.toNat := by omega
   subst this
   rw [F8_l0_0, ilt_f.2 (by show (((splitS g j t).length : Nat) : Int) ≤ _; omega)]; rfl
 | succ m ih =>
   intro k i hi hk
   obtain ⟨k, rfl⟩ : ∃ q, k = q + 1 := ⟨k - 1, by omega⟩
   have hget : (splitS g j t)[i]? = some (cutS g j t (i : Int)) := by
     rw [splitS, List.getElem?_map, List.getElem?_range (by omega)]; rfl
   have r1 : inr (i : Int) (len (splitS g j t)) = true := decide_eq_true ⟨by omega, by show (i : Int) < (((splitS g j t).length : Nat) : Int); omega⟩
   have r2 : elAt (splitS g j t) (i : Int) = some (cutS g j t (i : Int)) := by rw [elAt_nat]; exact hget
   have eb : GBarrier.mk (barT g j t n i).Epoch (barT g j t n i).Step (barT g j t n i).Parts (barT g j t n i).Came (barT g j t n i).Over = barT g j t n i := rfl
   have z : ieq 0 0 = true := rfl
   rw [F8_l0_0, ilt_iff.2 (by show (i : Int) < (((splitS g j t).length : Nat) : Int); omega), eb, say_barT hK ht hn h1 h6 hN hI (by omega), ieq_f.2 (by omega : (i : Int) ≠ j.Parts), r1, r2]
   simp only [cond_true, cond_false, Option.bind_some, z, put_barT hK ht hn h1 h6 hN hI (by omega : (i : Int) < j.Parts), wadd_nat (show i < 4611686018427387904 by omega)]
   exact ih k (i + 1) (by omega) (by omega)
theorem law8 (g : GGraph) (j : GJob) (x : Int) (_ : WGGraph g) (_ : WGJob j) (_ : (Lit.int .i64 x).wf = true) : F8 1000 g j x = some true := by
 generalize hq : 1000 = K
 have hK : 1000 ≤ K := by omega
 rw [F8, F59_spec (by omega), F60_spec hK, Option.bind_some, Option.bind_some]
 cases ilt 200 (nlen (len g.Edges))
 · cases hc : ieq (jcheck g j) 0
   · rfl
   · obtain ⟨hg, _, _, _, _, p5, p6, p7, p8⟩ := jcheck_ok hc
     obtain ⟨g1, g2, g3, _⟩ := gcheck_ok hg
     obtain ⟨hl, ha⟩ := runS_at hc
     rw [cond_false, cond_true]
     cases h2 : ilt (nlen (len (runS g j).1)) 2
     · have h2' : 2 ≤ (runS g j).1.length := by have := ilt_f.1 h2; simp only [nlen, len] at this; omega
       obtain ⟨m, hm⟩ : ∃ m, (runS g j).1.length = m + 1 := ⟨(runS g j).1.length - 1, by omega⟩
       have e1 : wsub .i64 (nlen (len (runS g j).1)) 1 = (m : Int) := by
         show IntKind.i64.wrap ((((runS g j).1.length : Nat) : Int) - 1) = _
         rw [IntKind.wrap_i64]; omega
       have hpk := pk_lt (show 0 < m by omega) x
       generalize hp : pk m x = p at hpk
       have e2 : wadd .i64 1 (p : Int) = ((p + 1 : Nat) : Int) := by rw [wadd_i64 (by unfold i64; omega)]; omega
       have e3 : wsub .i64 ((p + 1 : Nat) : Int) 1 = (p : Int) := by show IntKind.i64.wrap _ = _; rw [IntKind.wrap_i64]; omega
       have hlt : p + 1 < (runS g j).1.length := by omega
       obtain ⟨t, ht⟩ : ∃ t, (runS g j).1[p + 1]? = some t := ⟨_, List.getElem?_eq_getElem hlt⟩
       have r1 : inr ((p + 1 : Nat) : Int) (len (runS g j).1) = true := decide_eq_true ⟨by omega, by show ((p + 1 : Nat) : Int) < (((runS g j).1.length : Nat) : Int); omega⟩
       have r2 : elAt (runS g j).1 ((p + 1 : Nat) : Int) = some t := by rw [elAt_nat]; exact ht
       obtain ⟨a1, a2, a3, a4, a5⟩ := ha (p + 1) t ht
       have hts : t.Step = (p : Int) + 1 := by omega
       have hn : (0 : Int) ≤ (p : Int) ∧ (p : Int) ≤ 39 := ⟨by omega, by omega⟩
       have hI := a1.lin
       have e41 : F41 K 1 (p : Int) j.Parts = some (barT g j t (p : Int) 0, 0) := by
         rw [F41, F48_spec K _ (by show 0 < _; omega) (by show 0 + 1 < K; omega), show GBarrier.mk 1 (p : Int) j.Parts [] false = barT g j t (p : Int) 0 from rfl, right_barT hts hn p7 p8 (by omega)]; rfl
       have esp : F61 K g j t = some (splitS g j t, 0) := by
         rw [F61_spec hK g j t (by omega), splitR, hc, a2]; rfl
       have elp := F8_loop hK x (runS g j) hts hn p7 p8 g2 hI j.Parts.toNat K 0 (by omega) (by omega)
       have efin := say_barT hK hts hn p7 p8 g2 hI (i := j.Parts.toNat) (by omega)
       have hquiet : (barT g j t (p : Int) j.Parts.toNat).Came.all quiet = restsS t := split_quiet a2
       rw [ieq_iff.2 (show ((j.Parts.toNat : Nat) : Int) = j.Parts by omega), cond_true, hquiet] at efin
       have eb : GBarrier.mk (barT g j t (p : Int) j.Parts.toNat).Epoch (barT g j t (p : Int) j.Parts.toNat).Step (barT g j t (p : Int) j.Parts.toNat).Parts (barT g j t (p : Int) j.Parts.toNat).Came (barT g j t (p : Int) j.Parts.toNat).Over = barT g j t (p : Int) j.Parts.toNat := rfl
       have elp' : F8_l0_0 K j x (runS g j) (splitS g j t, 0) K (barT g j t (p : Int) 0).Epoch (barT g j t (p : Int) 0).Step (barT g j t (p : Int) 0).Parts (barT g j t (p : Int) 0).Came (barT g j t (p : Int) 0).Over 0 = _ := elp
       have z : ieq 0 0 = true := rfl
       rw [cond_false, e1, zero_u64 (by omega) (by omega), cond_false, pk_eq' (by omega) (by omega), hp, e2, e3, e41]
       simp only [Option.bind_some, z, cond_true, r1, r2, esp, elp', Sum.elim_inr, eb, efin]
       cases hlast : ilt ((p + 1 : Nat) : Int) (m : Int)
       · have hlast' := ilt_f.1 hlast
         have hl5 := a5 (by omega)
         rw [cond_false]
         cases hk2 : ieq (runS g j).2.Kind 2
         · have hk2' := ieq_f.1 hk2
           rcases hl5 with hl5 | ⟨b1, b2⟩
           · exact absurd hl5 hk2'
           · rw [b2, b1, cond_false, ieq_iff.2 (show t.Step = ((p + 1 : Nat) : Int) by omega)]
             cases restsS t
             · cases ile j.Limit t.Step <;> rfl
             · rfl
         · obtain ⟨b1, b2⟩ := a4 (.inr (ieq_iff.1 hk2))
           rw [b1, b2]; rfl
       · have hlast' := ilt_iff.1 hlast
         obtain ⟨b1, b2⟩ := a4 (.inl (by omega))
         rw [b1, b2]; rfl
     · rfl
 · rfl
end Go.Proofs.Ytnjanliihnadjaa.Tm

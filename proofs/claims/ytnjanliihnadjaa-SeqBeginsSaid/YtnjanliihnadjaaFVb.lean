/- Printed by program: what each function computes, and that the machine answers so. Conditions: none. -/
import Derived.Test.YtnjanliihnadjaaTy
import Derived.Test.YtnjanliihnadjaaTab
import Derived.Test.YtnjanliihnadjaaKn
import Derived.Test.YtnjanliihnadjaaFP
import Derived.Test.YtnjanliihnadjaaFSa
import Derived.KernelRfl
set_option linter.unusedVariables false
set_option linter.unusedSimpArgs false
namespace Go.Proofs.Ytnjanliihnadjaa.Tm
open Go
/-! ### haywain/seq.Begin -/
noncomputable def hn107 : Hint := { H 107 with nt := 42, prot := 0 }
noncomputable def c107_0 : Code := loopOf E 107 0
def F107_res (r5121 : GState × Int) : Res := ⟨[(.agg [(.im (.lit (.int .i64 r5121.1.Step))), (.own 2 (.sl (len r5121.1.Vals) (flat (eInt .i64) r5121.1.Vals))), (.own 4 (.sl (len r5121.1.Rest) (flat eBool r5121.1.Rest))), (.own 130 (.sl (len r5121.1.In) (flat eGMsg r5121.1.In)))]), (.one (.im (.lit (.int .i64 r5121.2))))], []⟩
def F107_l0_0 (K : Nat) (a5099 : GGraph) (a5100 : GJob) : Nat → List Int → Int → Option (List Int)
  | 0, _, _ => none
  | k + 1, v5109, v5110 =>
    bif (ilt v5110 a5099.N) then
      ((F95 K a5099 a5100 v5110).bind fun r5112 =>
      bif (apok (len v5109) 1 8) then
      F107_l0_0 K a5099 a5100 k (appL v5109 [r5112.1]) (wadd .i64 v5110 1)
      else none)
    else
    some v5109
def F107_l0_0_S (a5099 : GGraph) (a5100 : GJob) (v5109 : List Int) (v5110 : Int) : TS := .on [128, 129, 130, 192, 193, 194, 195, 196, 256, 257, 258, 259, 260, 448, 449, 450, 451, 452, 1472, 1473, 1536, 1537] [(128, ⟨(.box 62 2), 0, nob⟩), (129, ⟨.im, 0, (.lit (.int .i64 a5099.N))⟩), (130, ⟨.im, 0, (.sl (len a5099.Edges) (flat eGEdge a5099.Edges))⟩), (192, ⟨(.box 64 4), 0, nob⟩), (193, ⟨.im, 0, (.lit (.int .i64 a5100.Prog))⟩), (194, ⟨.im, 0, (.lit (.int .i64 a5100.Source))⟩), (195, ⟨.im, 0, (.lit (.int .i64 a5100.Limit))⟩), (196, ⟨.im, 0, (.lit (.int .i64 a5100.Parts))⟩), (256, ⟨(.box 74 4), 0, nob⟩), (257, ⟨.im, 0, (.lit (.int .i64 0))⟩), (258, ⟨(.own 2), 0, (.sl 0 [])⟩), (259, ⟨(.own 4), 0, (.sl 0 [])⟩), (260, ⟨(.own 130), 0, (.sl 0 [])⟩), (448, ⟨(.box 74 4), 0, nob⟩), (449, ⟨.im, 0, (.lit (.int .i64 0))⟩), (450, ⟨(.own 2), 0, (.sl (len v5109) (flat (eInt .i64) v5109))⟩), (451, ⟨(.own 4), 0, (.sl (len (α := Bool) (repL (α := Bool) a5099.N false)) (flat eBool (repL (α := Bool) a5099.N false)))⟩), (452, ⟨(.own 130), 0, (.sl 0 [])⟩), (1472, ⟨.one, 0, nob⟩), (1473, ⟨.im, 0, (.lit (.int .i64 a5099.N))⟩), (1536, ⟨.one, 0, nob⟩), (1537, ⟨.im, 0, (.lit (.int .i64 v5110))⟩)]
def F107_l0_0_X0 (a5099 : GGraph) (a5100 : GJob) (w5115 : List Int) : TS := .on [256, 257, 258, 259, 260, 448, 449, 450, 451, 452] [(256, ⟨(.box 74 4), 0, nob⟩), (257, ⟨.im, 0, (.lit (.int .i64 0))⟩), (258, ⟨(.own 2), 0, (.sl 0 [])⟩), (259, ⟨(.own 4), 0, (.sl 0 [])⟩), (260, ⟨(.own 130), 0, (.sl 0 [])⟩), (448, ⟨(.box 74 4), 0, nob⟩), (449, ⟨.im, 0, (.lit (.int .i64 0))⟩), (450, ⟨(.own 2), 0, (.sl (len w5115) (flat (eInt .i64) w5115))⟩), (451, ⟨(.own 4), 0, (.sl (len (α := Bool) (repL (α := Bool) a5099.N false)) (flat eBool (repL (α := Bool) a5099.N false)))⟩), (452, ⟨(.own 130), 0, (.sl 0 [])⟩)]
theorem F107_l0_0_ok (K : Nat) (a5099 : GGraph) (a5100 : GJob) : ∀ (k : Nat) (v5109 : List Int) (v5110 : Int) (r : List Int), F107_l0_0 K a5099 a5100 k v5109 v5110 = some r → LoopEv E H hn107 0 c107_0 (F107_l0_0_S a5099 a5100 v5109 v5110) (.exit 0) (F107_l0_0_X0 a5099 a5100 r) := by
  intro k
  induction k with
  | zero => intro v5109 v5110 r hF; cases hF
  | succ k ih =>
    intro v5109 v5110 r hF
    rw [F107_l0_0] at hF
    refine cond_some hF (fun h5111 hF => ?_) (fun h5111 hF => ?_)
    ·
      refine bind_some hF (fun r5112 h5113 hF => ?_)
      refine cond_some hF (fun h5114 hF => ?_) (fun _ hF => nomatch hF)
      have pz : HoldAll E H hn107 [.test (ilt v5110 a5099.N) true, .call 95 [.agg (eGGraph a5099), .agg (eGJob a5100), .one (.lit (.int .i64 v5110))] (F95_res r5112), .test (leadsAny (Res.mk [(.one (.im (.lit (.int .i64 r5112.1)))), (.one (.im (.lit (.int .i64 r5112.2))))] [])) false, .test (leqm [(.lit (.int .i64 r5112.1))] 1 1) true, .test (apok (len v5109) 1 8) true, .sl (nadd (len v5109) 1) (lapp (flat (eInt .i64) v5109) [(.lit (.int .i64 r5112.1))]) (len (α := Int) (appL v5109 [r5112.1])) (flat (eInt .i64) (appL v5109 [r5112.1])), .int (wadd .i64 v5110 1) (wadd .i64 v5110 1)] := ⟨h5111, (F95_ok K a5099 a5100 v5110 _ h5113), (leads_ok (by simp only [leadsAny, List.any_cons, List.any_nil, RV.leads, RC.leads, leadsT, hasSl_lit, Bool.or_false, flat_ns (eInt_ns _), flat_ns eBool_ns, flat_ns eStr_ns, flat_ns eGJob_ns, flat_ns eGEdge_ns, flat_ns eGAsked_ns, flat_ns eGMsg_ns, flat_ns eGrule_ns, flat_ns eGA199_ns, flat_ns eGA202_ns])), rfl, h5114, (app_ok (enc := (eInt .i64)) (v5109 : List Int) [r5112.1]), rfl, trivial⟩
      have h0 := ih _ _ _ hF
      have hn := fun ex ts' => loop_nextC (h := hn107) (l := 0) (c := c107_0) (ts := F107_l0_0_S a5099 a5100 v5109 v5110) (ts1 := (F107_l0_0_S a5099 a5100 (appL v5109 [r5112.1]) (wadd .i64 v5110 1))) (ex := ex) (ts' := ts') pz (by kernel_rfl)
      exact hn _ _ h0
    have hr := Option.some.inj hF
    subst hr
    have pz : HoldAll E H hn107 [.test (ilt v5110 a5099.N) false] := ⟨h5111, trivial⟩
    exact loop_endC (h := hn107) (l := 0) (c := c107_0) (ts := F107_l0_0_S a5099 a5100 v5109 v5110) (ts' := F107_l0_0_X0 a5099 a5100 v5109) (ex := (.exit 0)) pz (by kernel_rfl) trivial

def F107 (K : Nat) (a5099 : GGraph) (a5100 : GJob) : Option (GState × Int) :=
  (F94 K a5099 a5100).bind fun r5101 =>
  bif (ieq r5101 0) then
    (bif (mkok a5099.N a5099.N 1) then
    (F107_l0_0 K a5099 a5100 K [] 0).bind fun w5119 =>
    some ((GState.mk 0 w5119 (repL (α := Bool) a5099.N false) []), 0)
    else none)
  else
  some ((GState.mk 0 [] [] []), r5101)
theorem F107_ok (K : Nat) (a5099 : GGraph) (a5100 : GJob) (r : GState × Int) (hF : F107 K a5099 a5100 = some r) : Evt E H 107 [.agg (eGGraph a5099), .agg (eGJob a5100)] (F107_res r) := by
  rw [F107] at hF
  refine bind_some hF (fun r5101 h5102 hF => ?_)
  refine cond_some hF (fun h5103 hF => ?_) (fun h5103 hF => ?_)
  ·
    refine cond_some hF (fun h5104 hF => ?_) (fun _ hF => nomatch hF)
    refine bind_some hF (fun w5119 h5117 hF => ?_)
    have hr := Option.some.inj hF
    subst hr
    have pz : HoldAll E H hn107 [.call 94 [.agg (eGGraph a5099), .agg (eGJob a5100)] (F94_res r5101), .test (leadsAny (Res.mk [(.one (.im (.lit (.int .i64 r5101))))] [])) false, .test (ine r5101 0) false, .test (mkok a5099.N a5099.N 1) true, .sl (nint a5099.N) (lrep a5099.N [(.lit (.bool false))]) (len (α := Bool) (repL (α := Bool) a5099.N false)) (flat eBool (repL (α := Bool) a5099.N false)), .loop 0 c107_0 (F107_l0_0_S a5099 a5100 [] 0) (.exit 0) (F107_l0_0_X0 a5099 a5100 w5119)] := ⟨(F94_ok K a5099 a5100 _ h5102), (leads_ok (by simp only [leadsAny, List.any_cons, List.any_nil, RV.leads, RC.leads, leadsT, hasSl_lit, Bool.or_false, flat_ns (eInt_ns _), flat_ns eBool_ns, flat_ns eStr_ns, flat_ns eGJob_ns, flat_ns eGEdge_ns, flat_ns eGAsked_ns, flat_ns eGMsg_ns, flat_ns eGrule_ns, flat_ns eGA199_ns, flat_ns eGA202_ns])), (ine_t h5103), h5104, (rep_okC (enc := eBool) (n := a5099.N) (x := false) rfl), (F107_l0_0_ok K a5099 a5100 K [] 0 _ h5117), trivial⟩
    exact fn_playC hn107 (f := 107) (ads := [.agg (eGGraph a5099), .agg (eGJob a5100)]) (r := F107_res ((GState.mk 0 w5119 (repL (α := Bool) a5099.N false) []), 0)) pz (by kernel_rfl) (by kernel_rfl)
  have hr := Option.some.inj hF
  subst hr
  have pz : HoldAll E H hn107 [.call 94 [.agg (eGGraph a5099), .agg (eGJob a5100)] (F94_res r5101), .test (leadsAny (Res.mk [(.one (.im (.lit (.int .i64 r5101))))] [])) false, .test (ine r5101 0) true] := ⟨(F94_ok K a5099 a5100 _ h5102), (leads_ok (by simp only [leadsAny, List.any_cons, List.any_nil, RV.leads, RC.leads, leadsT, hasSl_lit, Bool.or_false, flat_ns (eInt_ns _), flat_ns eBool_ns, flat_ns eStr_ns, flat_ns eGJob_ns, flat_ns eGEdge_ns, flat_ns eGAsked_ns, flat_ns eGMsg_ns, flat_ns eGrule_ns, flat_ns eGA199_ns, flat_ns eGA202_ns])), (ine_f h5103), trivial⟩
  exact fn_playC hn107 (f := 107) (ads := [.agg (eGGraph a5099), .agg (eGJob a5100)]) (r := F107_res ((GState.mk 0 [] [] []), r5101)) pz (by kernel_rfl) (by kernel_rfl)

end Go.Proofs.Ytnjanliihnadjaa.Tm

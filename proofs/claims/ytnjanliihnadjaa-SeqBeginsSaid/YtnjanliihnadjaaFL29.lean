/- Printed by program: what each function computes, and that the machine answers so. Conditions: none. -/
import Derived.Test.YtnjanliihnadjaaTy
import Derived.Test.YtnjanliihnadjaaTab
import Derived.Test.YtnjanliihnadjaaKn
import Derived.Test.YtnjanliihnadjaaFE
import Derived.Test.YtnjanliihnadjaaFP
import Derived.Test.YtnjanliihnadjaaFVa
import Derived.Test.YtnjanliihnadjaaFVb
import Derived.Test.YtnjanliihnadjaaFXa
import Derived.KernelRfl
set_option linter.unusedVariables false
set_option linter.unusedSimpArgs false
namespace Go.Proofs.Ytnjanliihnadjaa.Tm
open Go
/-! ### haywain/haywainlaw06.SeqBegins -/
noncomputable def hn29 : Hint := { H 29 with nt := 45, prot := 0 }
def F29_res (r5140 : Bool) : Res := ⟨[(.one (.im (.lit (.bool r5140))))], []⟩
def F29 (K : Nat) (a5094 : GGraph) (a5095 : GJob) : Option (Bool) :=
  (F101 K a5094).bind fun r5096 =>
  bif r5096 then
    (some true)
  else
  (F107 K a5094 a5095).bind fun r5122 =>
  (F59 K a5094 a5095).bind fun r5124 =>
  bif (ieq r5124 0) then
    (bif (ieq r5122.2 0) then
      ((F108 K a5094 a5095).bind fun r5128 =>
      (F87 K r5122.1 r5128).bind fun r5130 =>
      bif r5130 then
        (some true)
      else
      some false)
    else
    some false)
  else
  bif (ieq r5122.2 r5124) then
    ((F87 K r5122.1 (GState.mk 0 [] [] [])).bind fun r5134 =>
    bif r5134 then
      (some true)
    else
    some false)
  else
  some false
theorem F29_ok (K : Nat) (a5094 : GGraph) (a5095 : GJob) (r : Bool) (hF : F29 K a5094 a5095 = some r) : Evt E H 29 [.agg (eGGraph a5094), .agg (eGJob a5095)] (F29_res r) := by
  rw [F29] at hF
  refine bind_some hF (fun r5096 h5097 hF => ?_)
  refine cond_some hF (fun h5098 hF => ?_) (fun h5098 hF => ?_)
  ·
    have hr := Option.some.inj hF
    subst hr
    have pz : HoldAll E H hn29 [.call 101 [.agg (eGGraph a5094)] (F101_res r5096), .test (leadsAny (Res.mk [(.one (.im (.lit (.bool r5096))))] [])) false, .test r5096 true, .call 103 [] (Res.mk [(.one (.im (.lit (.bool true))))] []), .test (leadsAny (Res.mk [(.one (.im (.lit (.bool true))))] [])) false] := ⟨(F101_ok K a5094 _ h5097), (leads_ok (by simp only [leadsAny, List.any_cons, List.any_nil, RV.leads, RC.leads, leadsT, hasSl_lit, Bool.or_false, flat_ns (eInt_ns _), flat_ns eBool_ns, flat_ns eStr_ns, flat_ns eGJob_ns, flat_ns eGEdge_ns, flat_ns eGAsked_ns, flat_ns eGMsg_ns, flat_ns eGrule_ns, flat_ns eGA199_ns, flat_ns eGA202_ns])), h5098, knows103, (leads_ok (by simp only [leadsAny, List.any_cons, List.any_nil, RV.leads, RC.leads, leadsT, hasSl_lit, Bool.or_false, flat_ns (eInt_ns _), flat_ns eBool_ns, flat_ns eStr_ns, flat_ns eGJob_ns, flat_ns eGEdge_ns, flat_ns eGAsked_ns, flat_ns eGMsg_ns, flat_ns eGrule_ns, flat_ns eGA199_ns, flat_ns eGA202_ns])), trivial⟩
    exact fn_playC hn29 (f := 29) (ads := [.agg (eGGraph a5094), .agg (eGJob a5095)]) (r := F29_res true) pz (by kernel_rfl) (by kernel_rfl)
  refine bind_some hF (fun r5122 h5123 hF => ?_)
  refine bind_some hF (fun r5124 h5125 hF => ?_)
  have pq5137 : ∀ {l : List Cond}, HoldAll E H hn29 l → HoldAll E H hn29 (.call 101 [.agg (eGGraph a5094)] (F101_res r5096) :: .test (leadsAny (Res.mk [(.one (.im (.lit (.bool r5096))))] [])) false :: .test r5096 false :: .call 107 [.agg (eGGraph a5094), .agg (eGJob a5095)] (F107_res r5122) :: .test (leadsAny (Res.mk [(.agg [(.im (.lit (.int .i64 r5122.1.Step))), (.own 2 (.sl (len r5122.1.Vals) (flat (eInt .i64) r5122.1.Vals))), (.own 4 (.sl (len r5122.1.Rest) (flat eBool r5122.1.Rest))), (.own 130 (.sl (len r5122.1.In) (flat eGMsg r5122.1.In)))]), (.one (.im (.lit (.int .i64 r5122.2))))] [])) false :: .call 59 [.agg (eGGraph a5094), .agg (eGJob a5095)] (F59_res r5124) :: .test (leadsAny (Res.mk [(.one (.im (.lit (.int .i64 r5124))))] [])) false :: l) := fun z => ⟨(F101_ok K a5094 _ h5097), (leads_ok (by simp only [leadsAny, List.any_cons, List.any_nil, RV.leads, RC.leads, leadsT, hasSl_lit, Bool.or_false, flat_ns (eInt_ns _), flat_ns eBool_ns, flat_ns eStr_ns, flat_ns eGJob_ns, flat_ns eGEdge_ns, flat_ns eGAsked_ns, flat_ns eGMsg_ns, flat_ns eGrule_ns, flat_ns eGA199_ns, flat_ns eGA202_ns])), h5098, (F107_ok K a5094 a5095 _ h5123), (leads_ok (by simp only [leadsAny, List.any_cons, List.any_nil, RV.leads, RC.leads, leadsT, hasSl_lit, Bool.or_false, flat_ns (eInt_ns _), flat_ns eBool_ns, flat_ns eStr_ns, flat_ns eGJob_ns, flat_ns eGEdge_ns, flat_ns eGAsked_ns, flat_ns eGMsg_ns, flat_ns eGrule_ns, flat_ns eGA199_ns, flat_ns eGA202_ns])), (F59_ok K a5094 a5095 _ h5125), (leads_ok (by simp only [leadsAny, List.any_cons, List.any_nil, RV.leads, RC.leads, leadsT, hasSl_lit, Bool.or_false, flat_ns (eInt_ns _), flat_ns eBool_ns, flat_ns eStr_ns, flat_ns eGJob_ns, flat_ns eGEdge_ns, flat_ns eGAsked_ns, flat_ns eGMsg_ns, flat_ns eGrule_ns, flat_ns eGA199_ns, flat_ns eGA202_ns])), z⟩
  refine cond_some hF (fun h5126 hF => ?_) (fun h5126 hF => ?_)
  ·
    refine cond_some hF (fun h5127 hF => ?_) (fun h5127 hF => ?_)
    ·
      refine bind_some hF (fun r5128 h5129 hF => ?_)
      refine bind_some hF (fun r5130 h5131 hF => ?_)
      have pq5138 : ∀ {l : List Cond}, HoldAll E H hn29 l → HoldAll E H hn29 (.test (ine r5124 0) false :: .test (beqb (ieq r5122.2 0) true) true :: .test (beqb (ieq r5122.2 0) true) true :: .test (beqb (ieq r5122.2 0) true) true :: .test (beqb (ieq r5122.2 0) true) true :: .call 108 [.agg (eGGraph a5094), .agg (eGJob a5095)] (F108_res r5128) :: .test (leadsAny (Res.mk [(.agg [(.im (.lit (.int .i64 r5128.Step))), (.own 2 (.sl (len r5128.Vals) (flat (eInt .i64) r5128.Vals))), (.own 4 (.sl (len r5128.Rest) (flat eBool r5128.Rest))), (.own 130 (.sl (len r5128.In) (flat eGMsg r5128.In)))])] [])) false :: .test (beqb (ieq r5122.2 0) true) true :: .call 87 [.agg (eGState r5122.1), .agg (eGState r5128)] (F87_res r5130) :: .test (leadsAny (Res.mk [(.one (.im (.lit (.bool r5130))))] [])) false :: .test (ieq r5122.2 0) true :: l) := fun z => ⟨(ine_t h5126), (beqb_t h5127), (beqb_t h5127), (beqb_t h5127), (beqb_t h5127), (F108_ok K a5094 a5095 _ h5129), (leads_ok (by simp only [leadsAny, List.any_cons, List.any_nil, RV.leads, RC.leads, leadsT, hasSl_lit, Bool.or_false, flat_ns (eInt_ns _), flat_ns eBool_ns, flat_ns eStr_ns, flat_ns eGJob_ns, flat_ns eGEdge_ns, flat_ns eGAsked_ns, flat_ns eGMsg_ns, flat_ns eGrule_ns, flat_ns eGA199_ns, flat_ns eGA202_ns])), (beqb_t h5127), (F87_ok K r5122.1 r5128 _ h5131), (leads_ok (by simp only [leadsAny, List.any_cons, List.any_nil, RV.leads, RC.leads, leadsT, hasSl_lit, Bool.or_false, flat_ns (eInt_ns _), flat_ns eBool_ns, flat_ns eStr_ns, flat_ns eGJob_ns, flat_ns eGEdge_ns, flat_ns eGAsked_ns, flat_ns eGMsg_ns, flat_ns eGrule_ns, flat_ns eGA199_ns, flat_ns eGA202_ns])), h5127, z⟩
      refine cond_some hF (fun h5132 hF => ?_) (fun h5132 hF => ?_)
      ·
        have hr := Option.some.inj hF
        subst hr
        have pz : HoldAll E H hn29 [.test (beqb r5130 true) true, .call 103 [] (Res.mk [(.one (.im (.lit (.bool true))))] []), .test (leadsAny (Res.mk [(.one (.im (.lit (.bool true))))] [])) false, .test r5130 true] := ⟨(beqb_t h5132), knows103, (leads_ok (by simp only [leadsAny, List.any_cons, List.any_nil, RV.leads, RC.leads, leadsT, hasSl_lit, Bool.or_false, flat_ns (eInt_ns _), flat_ns eBool_ns, flat_ns eStr_ns, flat_ns eGJob_ns, flat_ns eGEdge_ns, flat_ns eGAsked_ns, flat_ns eGMsg_ns, flat_ns eGrule_ns, flat_ns eGA199_ns, flat_ns eGA202_ns])), h5132, trivial⟩
        exact fn_playC hn29 (f := 29) (ads := [.agg (eGGraph a5094), .agg (eGJob a5095)]) (r := F29_res true) (pq5137 (pq5138 pz)) (by kernel_rfl) (by kernel_rfl)
      have hr := Option.some.inj hF
      subst hr
      have pz : HoldAll E H hn29 [.test (beqb r5130 true) false, .test r5130 false] := ⟨(beqb_t h5132), h5132, trivial⟩
      exact fn_playC hn29 (f := 29) (ads := [.agg (eGGraph a5094), .agg (eGJob a5095)]) (r := F29_res false) (pq5137 (pq5138 pz)) (by kernel_rfl) (by kernel_rfl)
    have hr := Option.some.inj hF
    subst hr
    have pz : HoldAll E H hn29 [.test (ine r5124 0) false, .test (beqb (ieq r5122.2 0) true) false, .test (beqb (ieq r5122.2 0) true) false, .test (beqb (ieq r5122.2 0) true) false, .test (beqb (ieq r5122.2 0) true) false, .test (beqb (ieq r5122.2 0) true) false, .test (ieq r5122.2 0) false, .test (beqb false true) false, .test false false] := ⟨(ine_t h5126), (beqb_t h5127), (beqb_t h5127), (beqb_t h5127), (beqb_t h5127), (beqb_t h5127), h5127, (beqb_t rfl), rfl, trivial⟩
    exact fn_playC hn29 (f := 29) (ads := [.agg (eGGraph a5094), .agg (eGJob a5095)]) (r := F29_res false) (pq5137 pz) (by kernel_rfl) (by kernel_rfl)
  refine cond_some hF (fun h5133 hF => ?_) (fun h5133 hF => ?_)
  ·
    refine bind_some hF (fun r5134 h5135 hF => ?_)
    have pq5139 : ∀ {l : List Cond}, HoldAll E H hn29 l → HoldAll E H hn29 (.test (ine r5124 0) true :: .test (beqb (ieq r5122.2 r5124) true) true :: .test (beqb (ieq r5122.2 r5124) true) true :: .test (beqb (ieq r5122.2 r5124) true) true :: .call 87 [.agg (eGState r5122.1), .agg (eGState (GState.mk 0 [] [] []))] (F87_res r5134) :: .test (leadsAny (Res.mk [(.one (.im (.lit (.bool r5134))))] [])) false :: .test (ieq r5122.2 r5124) true :: l) := fun z => ⟨(ine_f h5126), (beqb_t h5133), (beqb_t h5133), (beqb_t h5133), (F87_ok K r5122.1 (GState.mk 0 [] [] []) _ h5135), (leads_ok (by simp only [leadsAny, List.any_cons, List.any_nil, RV.leads, RC.leads, leadsT, hasSl_lit, Bool.or_false, flat_ns (eInt_ns _), flat_ns eBool_ns, flat_ns eStr_ns, flat_ns eGJob_ns, flat_ns eGEdge_ns, flat_ns eGAsked_ns, flat_ns eGMsg_ns, flat_ns eGrule_ns, flat_ns eGA199_ns, flat_ns eGA202_ns])), h5133, z⟩
    refine cond_some hF (fun h5136 hF => ?_) (fun h5136 hF => ?_)
    ·
      have hr := Option.some.inj hF
      subst hr
      have pz : HoldAll E H hn29 [.test (beqb r5134 true) true, .call 103 [] (Res.mk [(.one (.im (.lit (.bool true))))] []), .test (leadsAny (Res.mk [(.one (.im (.lit (.bool true))))] [])) false, .test r5134 true] := ⟨(beqb_t h5136), knows103, (leads_ok (by simp only [leadsAny, List.any_cons, List.any_nil, RV.leads, RC.leads, leadsT, hasSl_lit, Bool.or_false, flat_ns (eInt_ns _), flat_ns eBool_ns, flat_ns eStr_ns, flat_ns eGJob_ns, flat_ns eGEdge_ns, flat_ns eGAsked_ns, flat_ns eGMsg_ns, flat_ns eGrule_ns, flat_ns eGA199_ns, flat_ns eGA202_ns])), h5136, trivial⟩
      exact fn_playC hn29 (f := 29) (ads := [.agg (eGGraph a5094), .agg (eGJob a5095)]) (r := F29_res true) (pq5137 (pq5139 pz)) (by kernel_rfl) (by kernel_rfl)
    have hr := Option.some.inj hF
    subst hr
    have pz : HoldAll E H hn29 [.test (beqb r5134 true) false, .test r5134 false] := ⟨(beqb_t h5136), h5136, trivial⟩
    exact fn_playC hn29 (f := 29) (ads := [.agg (eGGraph a5094), .agg (eGJob a5095)]) (r := F29_res false) (pq5137 (pq5139 pz)) (by kernel_rfl) (by kernel_rfl)
  have hr := Option.some.inj hF
  subst hr
  have pz : HoldAll E H hn29 [.test (ine r5124 0) true, .test (beqb (ieq r5122.2 r5124) true) false, .test (beqb (ieq r5122.2 r5124) true) false, .test (beqb (ieq r5122.2 r5124) true) false, .test (ieq r5122.2 r5124) false, .test (beqb false true) false, .test false false] := ⟨(ine_f h5126), (beqb_t h5133), (beqb_t h5133), (beqb_t h5133), h5133, (beqb_t rfl), rfl, trivial⟩
  exact fn_playC hn29 (f := 29) (ads := [.agg (eGGraph a5094), .agg (eGJob a5095)]) (r := F29_res false) (pq5137 pz) (by kernel_rfl) (by kernel_rfl)

end Go.Proofs.Ytnjanliihnadjaa.Tm

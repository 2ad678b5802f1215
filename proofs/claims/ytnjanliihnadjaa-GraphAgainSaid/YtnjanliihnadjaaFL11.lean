/- Printed by program: what each function computes, and that the machine answers so. Conditions: none. -/
import Derived.Test.YtnjanliihnadjaaTy
import Derived.Test.YtnjanliihnadjaaTab
import Derived.Test.YtnjanliihnadjaaKn
import Derived.Test.YtnjanliihnadjaaFG
import Derived.KernelRfl
set_option linter.unusedVariables false
set_option linter.unusedSimpArgs false
namespace Go.Proofs.Ytnjanliihnadjaa.Tm
open Go
/-! ### haywain/haywainlaw03.GraphOuts -/
noncomputable def hn11 : Hint := { H 11 with nt := 24, prot := 0 }
def F11_res (r2662 : Bool) : Res := ⟨[(.one (.im (.lit (.bool r2662))))], []⟩
def F11 (K : Nat) (a2588 : GGraph) (a2589 : Int) : Option (Bool) :=
  (F62 K a2588).bind fun r2590 =>
  bif r2590 then
    (some true)
  else
  (F68 K a2588 a2589).bind fun r2620 =>
  (F69 K a2588 a2589).bind fun r2622 =>
  (F70 K (GGraph.mk 0 r2620) (GGraph.mk 0 r2622)).bind fun r2658 =>
  bif r2658 then
    (some true)
  else
  some false
theorem F11_ok (K : Nat) (a2588 : GGraph) (a2589 : Int) (r : Bool) (hF : F11 K a2588 a2589 = some r) : Evt E H 11 [.agg (eGGraph a2588), .one (.lit (.int .i64 a2589))] (F11_res r) := by
  rw [F11] at hF
  refine bind_some hF (fun r2590 h2591 hF => ?_)
  refine cond_some hF (fun h2592 hF => ?_) (fun h2592 hF => ?_)
  ·
    have hr := Option.some.inj hF
    subst hr
    have pz : HoldAll E H hn11 [.call 62 [.agg (eGGraph a2588)] (F62_res r2590), .test (leadsAny (Res.mk [(.one (.im (.lit (.bool r2590))))] [])) false, .test r2590 true, .call 63 [] (Res.mk [(.one (.im (.lit (.bool true))))] []), .test (leadsAny (Res.mk [(.one (.im (.lit (.bool true))))] [])) false] := ⟨(F62_ok K a2588 _ h2591), (leads_ok (by simp only [leadsAny, List.any_cons, List.any_nil, RV.leads, RC.leads, leadsT, hasSl_lit, Bool.or_false, flat_ns (eInt_ns _), flat_ns eBool_ns, flat_ns eStr_ns, flat_ns eGJob_ns, flat_ns eGEdge_ns, flat_ns eGAsked_ns, flat_ns eGMsg_ns, flat_ns eGrule_ns, flat_ns eGA199_ns, flat_ns eGA202_ns])), h2592, knows63, (leads_ok (by simp only [leadsAny, List.any_cons, List.any_nil, RV.leads, RC.leads, leadsT, hasSl_lit, Bool.or_false, flat_ns (eInt_ns _), flat_ns eBool_ns, flat_ns eStr_ns, flat_ns eGJob_ns, flat_ns eGEdge_ns, flat_ns eGAsked_ns, flat_ns eGMsg_ns, flat_ns eGrule_ns, flat_ns eGA199_ns, flat_ns eGA202_ns])), trivial⟩
    exact fn_playC hn11 (f := 11) (ads := [.agg (eGGraph a2588), .one (.lit (.int .i64 a2589))]) (r := F11_res true) pz (by kernel_rfl) (by kernel_rfl)
  refine bind_some hF (fun r2620 h2621 hF => ?_)
  refine bind_some hF (fun r2622 h2623 hF => ?_)
  refine bind_some hF (fun r2658 h2659 hF => ?_)
  have pq2661 : ∀ {l : List Cond}, HoldAll E H hn11 l → HoldAll E H hn11 (.call 62 [.agg (eGGraph a2588)] (F62_res r2590) :: .test (leadsAny (Res.mk [(.one (.im (.lit (.bool r2590))))] [])) false :: .test r2590 false :: .call 68 [.agg (eGGraph a2588), .one (.lit (.int .i64 a2589))] (F68_res r2620) :: .test (leadsAny (Res.mk [(.one (.own 89 (.sl (len r2620) (flat eGEdge r2620))))] [])) false :: .call 69 [.agg (eGGraph a2588), .one (.lit (.int .i64 a2589))] (F69_res r2622) :: .test (leadsAny (Res.mk [(.one (.own 89 (.sl (len r2622) (flat eGEdge r2622))))] [])) false :: .call 70 [.agg (eGGraph (GGraph.mk 0 r2620)), .agg (eGGraph (GGraph.mk 0 r2622))] (F70_res r2658) :: .test (leadsAny (Res.mk [(.one (.im (.lit (.bool r2658))))] [])) false :: l) := fun z => ⟨(F62_ok K a2588 _ h2591), (leads_ok (by simp only [leadsAny, List.any_cons, List.any_nil, RV.leads, RC.leads, leadsT, hasSl_lit, Bool.or_false, flat_ns (eInt_ns _), flat_ns eBool_ns, flat_ns eStr_ns, flat_ns eGJob_ns, flat_ns eGEdge_ns, flat_ns eGAsked_ns, flat_ns eGMsg_ns, flat_ns eGrule_ns, flat_ns eGA199_ns, flat_ns eGA202_ns])), h2592, (F68_ok K a2588 a2589 _ h2621), (leads_ok (by simp only [leadsAny, List.any_cons, List.any_nil, RV.leads, RC.leads, leadsT, hasSl_lit, Bool.or_false, flat_ns (eInt_ns _), flat_ns eBool_ns, flat_ns eStr_ns, flat_ns eGJob_ns, flat_ns eGEdge_ns, flat_ns eGAsked_ns, flat_ns eGMsg_ns, flat_ns eGrule_ns, flat_ns eGA199_ns, flat_ns eGA202_ns])), (F69_ok K a2588 a2589 _ h2623), (leads_ok (by simp only [leadsAny, List.any_cons, List.any_nil, RV.leads, RC.leads, leadsT, hasSl_lit, Bool.or_false, flat_ns (eInt_ns _), flat_ns eBool_ns, flat_ns eStr_ns, flat_ns eGJob_ns, flat_ns eGEdge_ns, flat_ns eGAsked_ns, flat_ns eGMsg_ns, flat_ns eGrule_ns, flat_ns eGA199_ns, flat_ns eGA202_ns])), (F70_ok K (GGraph.mk 0 r2620) (GGraph.mk 0 r2622) _ h2659), (leads_ok (by simp only [leadsAny, List.any_cons, List.any_nil, RV.leads, RC.leads, leadsT, hasSl_lit, Bool.or_false, flat_ns (eInt_ns _), flat_ns eBool_ns, flat_ns eStr_ns, flat_ns eGJob_ns, flat_ns eGEdge_ns, flat_ns eGAsked_ns, flat_ns eGMsg_ns, flat_ns eGrule_ns, flat_ns eGA199_ns, flat_ns eGA202_ns])), z⟩
  refine cond_some hF (fun h2660 hF => ?_) (fun h2660 hF => ?_)
  ·
    have hr := Option.some.inj hF
    subst hr
    have pz : HoldAll E H hn11 [.test (beqb r2658 true) true, .call 63 [] (Res.mk [(.one (.im (.lit (.bool true))))] []), .test (leadsAny (Res.mk [(.one (.im (.lit (.bool true))))] [])) false, .test r2658 true] := ⟨(beqb_t h2660), knows63, (leads_ok (by simp only [leadsAny, List.any_cons, List.any_nil, RV.leads, RC.leads, leadsT, hasSl_lit, Bool.or_false, flat_ns (eInt_ns _), flat_ns eBool_ns, flat_ns eStr_ns, flat_ns eGJob_ns, flat_ns eGEdge_ns, flat_ns eGAsked_ns, flat_ns eGMsg_ns, flat_ns eGrule_ns, flat_ns eGA199_ns, flat_ns eGA202_ns])), h2660, trivial⟩
    exact fn_playC hn11 (f := 11) (ads := [.agg (eGGraph a2588), .one (.lit (.int .i64 a2589))]) (r := F11_res true) (pq2661 pz) (by kernel_rfl) (by kernel_rfl)
  have hr := Option.some.inj hF
  subst hr
  have pz : HoldAll E H hn11 [.test (beqb r2658 true) false, .test r2658 false] := ⟨(beqb_t h2660), h2660, trivial⟩
  exact fn_playC hn11 (f := 11) (ads := [.agg (eGGraph a2588), .one (.lit (.int .i64 a2589))]) (r := F11_res false) (pq2661 pz) (by kernel_rfl) (by kernel_rfl)

end Go.Proofs.Ytnjanliihnadjaa.Tm

/- Printed by program: what each function computes, and that the machine answers so. Conditions: none. -/
import Derived.Test.YtnjanliihnadjaaTy
import Derived.Test.YtnjanliihnadjaaTab
import Derived.Test.YtnjanliihnadjaaKn
import Derived.Test.YtnjanliihnadjaaFG
import Derived.KernelRfl
set_option linter.unusedVariables false
set_option linter.unusedSimpArgs false
namespace Go.Proofs.Ytnjanliihnadjaa.Tm
open Go
/-! ### haywain/haywainlaw03.GraphChecks -/
noncomputable def hn9 : Hint := { H 9 with nt := 14, prot := 0 }
def F9_res (r2447 : Bool) : Res := ⟨[(.one (.im (.lit (.bool r2447))))], []⟩
def F9 (K : Nat) (a2378 : GGraph) : Option (Bool) :=
  (F62 K a2378).bind fun r2381 =>
  bif r2381 then
    (some true)
  else
  (F64 K a2378).bind fun r2441 =>
  (F65 K a2378).bind fun r2443 =>
  bif (ieq r2441 r2443) then
    (some true)
  else
  some false
theorem F9_ok (K : Nat) (a2378 : GGraph) (r : Bool) (hF : F9 K a2378 = some r) : Evt E H 9 [.agg (eGGraph a2378)] (F9_res r) := by
  rw [F9] at hF
  refine bind_some hF (fun r2381 h2382 hF => ?_)
  refine cond_some hF (fun h2383 hF => ?_) (fun h2383 hF => ?_)
  ·
    have hr := Option.some.inj hF
    subst hr
    have pz : HoldAll E H hn9 [.call 62 [.agg (eGGraph a2378)] (F62_res r2381), .test (leadsAny (Res.mk [(.one (.im (.lit (.bool r2381))))] [])) false, .test r2381 true, .call 63 [] (Res.mk [(.one (.im (.lit (.bool true))))] []), .test (leadsAny (Res.mk [(.one (.im (.lit (.bool true))))] [])) false] := ⟨(F62_ok K a2378 _ h2382), (leads_ok (by simp only [leadsAny, List.any_cons, List.any_nil, RV.leads, RC.leads, leadsT, hasSl_lit, Bool.or_false, flat_ns (eInt_ns _), flat_ns eBool_ns, flat_ns eStr_ns, flat_ns eGJob_ns, flat_ns eGEdge_ns, flat_ns eGAsked_ns, flat_ns eGMsg_ns, flat_ns eGrule_ns, flat_ns eGA199_ns, flat_ns eGA202_ns])), h2383, knows63, (leads_ok (by simp only [leadsAny, List.any_cons, List.any_nil, RV.leads, RC.leads, leadsT, hasSl_lit, Bool.or_false, flat_ns (eInt_ns _), flat_ns eBool_ns, flat_ns eStr_ns, flat_ns eGJob_ns, flat_ns eGEdge_ns, flat_ns eGAsked_ns, flat_ns eGMsg_ns, flat_ns eGrule_ns, flat_ns eGA199_ns, flat_ns eGA202_ns])), trivial⟩
    exact fn_playC hn9 (f := 9) (ads := [.agg (eGGraph a2378)]) (r := F9_res true) pz (by kernel_rfl) (by kernel_rfl)
  refine bind_some hF (fun r2441 h2442 hF => ?_)
  refine bind_some hF (fun r2443 h2444 hF => ?_)
  have pq2446 : ∀ {l : List Cond}, HoldAll E H hn9 l → HoldAll E H hn9 (.call 62 [.agg (eGGraph a2378)] (F62_res r2381) :: .test (leadsAny (Res.mk [(.one (.im (.lit (.bool r2381))))] [])) false :: .test r2381 false :: .call 64 [.agg (eGGraph a2378)] (F64_res r2441) :: .test (leadsAny (Res.mk [(.one (.im (.lit (.int .i64 r2441))))] [])) false :: .call 65 [.agg (eGGraph a2378)] (F65_res r2443) :: .test (leadsAny (Res.mk [(.one (.im (.lit (.int .i64 r2443))))] [])) false :: l) := fun z => ⟨(F62_ok K a2378 _ h2382), (leads_ok (by simp only [leadsAny, List.any_cons, List.any_nil, RV.leads, RC.leads, leadsT, hasSl_lit, Bool.or_false, flat_ns (eInt_ns _), flat_ns eBool_ns, flat_ns eStr_ns, flat_ns eGJob_ns, flat_ns eGEdge_ns, flat_ns eGAsked_ns, flat_ns eGMsg_ns, flat_ns eGrule_ns, flat_ns eGA199_ns, flat_ns eGA202_ns])), h2383, (F64_ok K a2378 _ h2442), (leads_ok (by simp only [leadsAny, List.any_cons, List.any_nil, RV.leads, RC.leads, leadsT, hasSl_lit, Bool.or_false, flat_ns (eInt_ns _), flat_ns eBool_ns, flat_ns eStr_ns, flat_ns eGJob_ns, flat_ns eGEdge_ns, flat_ns eGAsked_ns, flat_ns eGMsg_ns, flat_ns eGrule_ns, flat_ns eGA199_ns, flat_ns eGA202_ns])), (F65_ok K a2378 _ h2444), (leads_ok (by simp only [leadsAny, List.any_cons, List.any_nil, RV.leads, RC.leads, leadsT, hasSl_lit, Bool.or_false, flat_ns (eInt_ns _), flat_ns eBool_ns, flat_ns eStr_ns, flat_ns eGJob_ns, flat_ns eGEdge_ns, flat_ns eGAsked_ns, flat_ns eGMsg_ns, flat_ns eGrule_ns, flat_ns eGA199_ns, flat_ns eGA202_ns])), z⟩
  refine cond_some hF (fun h2445 hF => ?_) (fun h2445 hF => ?_)
  ·
    have hr := Option.some.inj hF
    subst hr
    have pz : HoldAll E H hn9 [.test (beqb (ieq r2441 r2443) true) true, .call 63 [] (Res.mk [(.one (.im (.lit (.bool true))))] []), .test (leadsAny (Res.mk [(.one (.im (.lit (.bool true))))] [])) false, .test (ieq r2441 r2443) true] := ⟨(beqb_t h2445), knows63, (leads_ok (by simp only [leadsAny, List.any_cons, List.any_nil, RV.leads, RC.leads, leadsT, hasSl_lit, Bool.or_false, flat_ns (eInt_ns _), flat_ns eBool_ns, flat_ns eStr_ns, flat_ns eGJob_ns, flat_ns eGEdge_ns, flat_ns eGAsked_ns, flat_ns eGMsg_ns, flat_ns eGrule_ns, flat_ns eGA199_ns, flat_ns eGA202_ns])), h2445, trivial⟩
    exact fn_playC hn9 (f := 9) (ads := [.agg (eGGraph a2378)]) (r := F9_res true) (pq2446 pz) (by kernel_rfl) (by kernel_rfl)
  have hr := Option.some.inj hF
  subst hr
  have pz : HoldAll E H hn9 [.test (beqb (ieq r2441 r2443) true) false, .test (ieq r2441 r2443) false] := ⟨(beqb_t h2445), h2445, trivial⟩
  exact fn_playC hn9 (f := 9) (ads := [.agg (eGGraph a2378)]) (r := F9_res false) (pq2446 pz) (by kernel_rfl) (by kernel_rfl)

end Go.Proofs.Ytnjanliihnadjaa.Tm

/- Printed by program: what each function computes, and that the machine answers so. Conditions: none. -/
import Derived.Test.YtnjanliihnadjaaTy
import Derived.Test.YtnjanliihnadjaaTab
import Derived.Test.YtnjanliihnadjaaKn
import Derived.Test.YtnjanliihnadjaaFP
import Derived.Test.YtnjanliihnadjaaFS
import Derived.KernelRfl
set_option linter.unusedVariables false
set_option linter.unusedSimpArgs false
namespace Go.Proofs.Ytnjanliihnadjaa.Tm
open Go
/-! ### haywain/haywainlaw04.ProgChecks -/
noncomputable def hn21 : Hint := { H 21 with nt := 18, prot := 0 }
def F21_res (r4070 : Bool) : Res := ⟨[(.one (.im (.lit (.bool r4070))))], []⟩
def F21 (K : Nat) (a4057 : GGraph) (a4058 : GJob) : Option (Bool) :=
  (F92 K a4057).bind fun r4061 =>
  bif r4061 then
    (some true)
  else
  (F94 K a4057 a4058).bind fun r4064 =>
  (F59 K a4057 a4058).bind fun r4066 =>
  bif (ieq r4064 r4066) then
    (some true)
  else
  some false
theorem F21_ok (K : Nat) (a4057 : GGraph) (a4058 : GJob) (r : Bool) (hF : F21 K a4057 a4058 = some r) : Evt E H 21 [.agg (eGGraph a4057), .agg (eGJob a4058)] (F21_res r) := by
  rw [F21] at hF
  refine bind_some hF (fun r4061 h4062 hF => ?_)
  refine cond_some hF (fun h4063 hF => ?_) (fun h4063 hF => ?_)
  ·
    have hr := Option.some.inj hF
    subst hr
    have pz : HoldAll E H hn21 [.call 92 [.agg (eGGraph a4057)] (F92_res r4061), .test (leadsAny (Res.mk [(.one (.im (.lit (.bool r4061))))] [])) false, .test r4061 true, .call 93 [] (Res.mk [(.one (.im (.lit (.bool true))))] []), .test (leadsAny (Res.mk [(.one (.im (.lit (.bool true))))] [])) false] := ⟨(F92_ok K a4057 _ h4062), (leads_ok (by simp only [leadsAny, List.any_cons, List.any_nil, RV.leads, RC.leads, leadsT, hasSl_lit, Bool.or_false, flat_ns (eInt_ns _), flat_ns eBool_ns, flat_ns eStr_ns, flat_ns eGJob_ns, flat_ns eGEdge_ns, flat_ns eGAsked_ns, flat_ns eGMsg_ns, flat_ns eGrule_ns, flat_ns eGA199_ns, flat_ns eGA202_ns])), h4063, knows93, (leads_ok (by simp only [leadsAny, List.any_cons, List.any_nil, RV.leads, RC.leads, leadsT, hasSl_lit, Bool.or_false, flat_ns (eInt_ns _), flat_ns eBool_ns, flat_ns eStr_ns, flat_ns eGJob_ns, flat_ns eGEdge_ns, flat_ns eGAsked_ns, flat_ns eGMsg_ns, flat_ns eGrule_ns, flat_ns eGA199_ns, flat_ns eGA202_ns])), trivial⟩
    exact fn_playC hn21 (f := 21) (ads := [.agg (eGGraph a4057), .agg (eGJob a4058)]) (r := F21_res true) pz (by kernel_rfl) (by kernel_rfl)
  refine bind_some hF (fun r4064 h4065 hF => ?_)
  refine bind_some hF (fun r4066 h4067 hF => ?_)
  have pq4069 : ∀ {l : List Cond}, HoldAll E H hn21 l → HoldAll E H hn21 (.call 92 [.agg (eGGraph a4057)] (F92_res r4061) :: .test (leadsAny (Res.mk [(.one (.im (.lit (.bool r4061))))] [])) false :: .test r4061 false :: .call 94 [.agg (eGGraph a4057), .agg (eGJob a4058)] (F94_res r4064) :: .test (leadsAny (Res.mk [(.one (.im (.lit (.int .i64 r4064))))] [])) false :: .call 59 [.agg (eGGraph a4057), .agg (eGJob a4058)] (F59_res r4066) :: .test (leadsAny (Res.mk [(.one (.im (.lit (.int .i64 r4066))))] [])) false :: l) := fun z => ⟨(F92_ok K a4057 _ h4062), (leads_ok (by simp only [leadsAny, List.any_cons, List.any_nil, RV.leads, RC.leads, leadsT, hasSl_lit, Bool.or_false, flat_ns (eInt_ns _), flat_ns eBool_ns, flat_ns eStr_ns, flat_ns eGJob_ns, flat_ns eGEdge_ns, flat_ns eGAsked_ns, flat_ns eGMsg_ns, flat_ns eGrule_ns, flat_ns eGA199_ns, flat_ns eGA202_ns])), h4063, (F94_ok K a4057 a4058 _ h4065), (leads_ok (by simp only [leadsAny, List.any_cons, List.any_nil, RV.leads, RC.leads, leadsT, hasSl_lit, Bool.or_false, flat_ns (eInt_ns _), flat_ns eBool_ns, flat_ns eStr_ns, flat_ns eGJob_ns, flat_ns eGEdge_ns, flat_ns eGAsked_ns, flat_ns eGMsg_ns, flat_ns eGrule_ns, flat_ns eGA199_ns, flat_ns eGA202_ns])), (F59_ok K a4057 a4058 _ h4067), (leads_ok (by simp only [leadsAny, List.any_cons, List.any_nil, RV.leads, RC.leads, leadsT, hasSl_lit, Bool.or_false, flat_ns (eInt_ns _), flat_ns eBool_ns, flat_ns eStr_ns, flat_ns eGJob_ns, flat_ns eGEdge_ns, flat_ns eGAsked_ns, flat_ns eGMsg_ns, flat_ns eGrule_ns, flat_ns eGA199_ns, flat_ns eGA202_ns])), z⟩
  refine cond_some hF (fun h4068 hF => ?_) (fun h4068 hF => ?_)
  ·
    have hr := Option.some.inj hF
    subst hr
    have pz : HoldAll E H hn21 [.test (beqb (ieq r4064 r4066) true) true, .call 93 [] (Res.mk [(.one (.im (.lit (.bool true))))] []), .test (leadsAny (Res.mk [(.one (.im (.lit (.bool true))))] [])) false, .test (ieq r4064 r4066) true] := ⟨(beqb_t h4068), knows93, (leads_ok (by simp only [leadsAny, List.any_cons, List.any_nil, RV.leads, RC.leads, leadsT, hasSl_lit, Bool.or_false, flat_ns (eInt_ns _), flat_ns eBool_ns, flat_ns eStr_ns, flat_ns eGJob_ns, flat_ns eGEdge_ns, flat_ns eGAsked_ns, flat_ns eGMsg_ns, flat_ns eGrule_ns, flat_ns eGA199_ns, flat_ns eGA202_ns])), h4068, trivial⟩
    exact fn_playC hn21 (f := 21) (ads := [.agg (eGGraph a4057), .agg (eGJob a4058)]) (r := F21_res true) (pq4069 pz) (by kernel_rfl) (by kernel_rfl)
  have hr := Option.some.inj hF
  subst hr
  have pz : HoldAll E H hn21 [.test (beqb (ieq r4064 r4066) true) false, .test (ieq r4064 r4066) false] := ⟨(beqb_t h4068), h4068, trivial⟩
  exact fn_playC hn21 (f := 21) (ads := [.agg (eGGraph a4057), .agg (eGJob a4058)]) (r := F21_res false) (pq4069 pz) (by kernel_rfl) (by kernel_rfl)

end Go.Proofs.Ytnjanliihnadjaa.Tm

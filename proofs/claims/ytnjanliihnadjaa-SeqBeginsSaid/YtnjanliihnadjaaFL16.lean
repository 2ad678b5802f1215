/- Printed by program: what each function computes, and that the machine answers so. Conditions: none. -/
import Derived.Test.YtnjanliihnadjaaTy
import Derived.Test.YtnjanliihnadjaaTab
import Derived.Test.YtnjanliihnadjaaKn
import Derived.Test.YtnjanliihnadjaaFQ
import Derived.Test.YtnjanliihnadjaaFQr
import Derived.KernelRfl
set_option linter.unusedVariables false
set_option linter.unusedSimpArgs false
namespace Go.Proofs.Ytnjanliihnadjaa.Tm
open Go
/-! ### haywain/haywainlaw07.PartRights -/
noncomputable def hn16 : Hint := { H 16 with nt := 26, prot := 0 }
def F16_res (r3413 : Bool) : Res := ⟨[(.one (.im (.lit (.bool r3413))))], []⟩
def F16 (K : Nat) (a3264 : GGraph) (a3265 : GJob) (a3266 : GPart) : Option (Bool) :=
  (F73 K a3264).bind fun r3267 =>
  bif r3267 then
    (some true)
  else
  (F79 K a3266).bind fun r3275 =>
  bif r3275 then
    (some true)
  else
  (F80 K a3264 a3265 a3266).bind fun r3326 =>
  (F81 K a3264 a3265 a3266).bind fun r3408 =>
  bif (beqb r3326 r3408) then
    (some true)
  else
  some false
theorem F16_ok (K : Nat) (a3264 : GGraph) (a3265 : GJob) (a3266 : GPart) (r : Bool) (hF : F16 K a3264 a3265 a3266 = some r) : Evt E H 16 [.agg (eGGraph a3264), .agg (eGJob a3265), .agg (eGPart a3266)] (F16_res r) := by
  rw [F16] at hF
  refine bind_some hF (fun r3267 h3268 hF => ?_)
  refine cond_some hF (fun h3269 hF => ?_) (fun h3269 hF => ?_)
  ·
    have hr := Option.some.inj hF
    subst hr
    have pz : HoldAll E H hn16 [.call 73 [.agg (eGGraph a3264)] (F73_res r3267), .test (leadsAny (Res.mk [(.one (.im (.lit (.bool r3267))))] [])) false, .test (beqb r3267 false) false, .test (beqb r3267 false) false, .test r3267 true, .test true true, .call 74 [] (Res.mk [(.one (.im (.lit (.bool true))))] []), .test (leadsAny (Res.mk [(.one (.im (.lit (.bool true))))] [])) false] := ⟨(F73_ok K a3264 _ h3268), (leads_ok (by simp only [leadsAny, List.any_cons, List.any_nil, RV.leads, RC.leads, leadsT, hasSl_lit, Bool.or_false, flat_ns (eInt_ns _), flat_ns eBool_ns, flat_ns eStr_ns, flat_ns eGJob_ns, flat_ns eGEdge_ns, flat_ns eGAsked_ns, flat_ns eGMsg_ns, flat_ns eGrule_ns, flat_ns eGA199_ns, flat_ns eGA202_ns])), (beqb_ft h3269), (beqb_ft h3269), h3269, rfl, knows74, (leads_ok (by simp only [leadsAny, List.any_cons, List.any_nil, RV.leads, RC.leads, leadsT, hasSl_lit, Bool.or_false, flat_ns (eInt_ns _), flat_ns eBool_ns, flat_ns eStr_ns, flat_ns eGJob_ns, flat_ns eGEdge_ns, flat_ns eGAsked_ns, flat_ns eGMsg_ns, flat_ns eGrule_ns, flat_ns eGA199_ns, flat_ns eGA202_ns])), trivial⟩
    exact fn_playC hn16 (f := 16) (ads := [.agg (eGGraph a3264), .agg (eGJob a3265), .agg (eGPart a3266)]) (r := F16_res true) pz (by kernel_rfl) (by kernel_rfl)
  refine bind_some hF (fun r3275 h3276 hF => ?_)
  have pq3411 : ∀ {l : List Cond}, HoldAll E H hn16 l → HoldAll E H hn16 (.call 73 [.agg (eGGraph a3264)] (F73_res r3267) :: .test (leadsAny (Res.mk [(.one (.im (.lit (.bool r3267))))] [])) false :: .test (beqb r3267 false) true :: .test (beqb r3267 false) true :: .call 79 [.agg (eGPart a3266)] (F79_res r3275) :: .test (leadsAny (Res.mk [(.one (.im (.lit (.bool r3275))))] [])) false :: .test r3267 false :: l) := fun z => ⟨(F73_ok K a3264 _ h3268), (leads_ok (by simp only [leadsAny, List.any_cons, List.any_nil, RV.leads, RC.leads, leadsT, hasSl_lit, Bool.or_false, flat_ns (eInt_ns _), flat_ns eBool_ns, flat_ns eStr_ns, flat_ns eGJob_ns, flat_ns eGEdge_ns, flat_ns eGAsked_ns, flat_ns eGMsg_ns, flat_ns eGrule_ns, flat_ns eGA199_ns, flat_ns eGA202_ns])), (beqb_ff h3269), (beqb_ff h3269), (F79_ok K a3266 _ h3276), (leads_ok (by simp only [leadsAny, List.any_cons, List.any_nil, RV.leads, RC.leads, leadsT, hasSl_lit, Bool.or_false, flat_ns (eInt_ns _), flat_ns eBool_ns, flat_ns eStr_ns, flat_ns eGJob_ns, flat_ns eGEdge_ns, flat_ns eGAsked_ns, flat_ns eGMsg_ns, flat_ns eGrule_ns, flat_ns eGA199_ns, flat_ns eGA202_ns])), h3269, z⟩
  refine cond_some hF (fun h3277 hF => ?_) (fun h3277 hF => ?_)
  ·
    have hr := Option.some.inj hF
    subst hr
    have pz : HoldAll E H hn16 [.test r3275 true, .call 74 [] (Res.mk [(.one (.im (.lit (.bool true))))] []), .test (leadsAny (Res.mk [(.one (.im (.lit (.bool true))))] [])) false] := ⟨h3277, knows74, (leads_ok (by simp only [leadsAny, List.any_cons, List.any_nil, RV.leads, RC.leads, leadsT, hasSl_lit, Bool.or_false, flat_ns (eInt_ns _), flat_ns eBool_ns, flat_ns eStr_ns, flat_ns eGJob_ns, flat_ns eGEdge_ns, flat_ns eGAsked_ns, flat_ns eGMsg_ns, flat_ns eGrule_ns, flat_ns eGA199_ns, flat_ns eGA202_ns])), trivial⟩
    exact fn_playC hn16 (f := 16) (ads := [.agg (eGGraph a3264), .agg (eGJob a3265), .agg (eGPart a3266)]) (r := F16_res true) (pq3411 pz) (by kernel_rfl) (by kernel_rfl)
  refine bind_some hF (fun r3326 h3327 hF => ?_)
  refine bind_some hF (fun r3408 h3409 hF => ?_)
  have pq3412 : ∀ {l : List Cond}, HoldAll E H hn16 l → HoldAll E H hn16 (.test r3275 false :: .call 80 [.agg (eGGraph a3264), .agg (eGJob a3265), .agg (eGPart a3266)] (F80_res r3326) :: .test (leadsAny (Res.mk [(.one (.im (.lit (.bool r3326))))] [])) false :: .call 81 [.agg (eGGraph a3264), .agg (eGJob a3265), .agg (eGPart a3266)] (F81_res r3408) :: .test (leadsAny (Res.mk [(.one (.im (.lit (.bool r3408))))] [])) false :: l) := fun z => ⟨h3277, (F80_ok K a3264 a3265 a3266 _ h3327), (leads_ok (by simp only [leadsAny, List.any_cons, List.any_nil, RV.leads, RC.leads, leadsT, hasSl_lit, Bool.or_false, flat_ns (eInt_ns _), flat_ns eBool_ns, flat_ns eStr_ns, flat_ns eGJob_ns, flat_ns eGEdge_ns, flat_ns eGAsked_ns, flat_ns eGMsg_ns, flat_ns eGrule_ns, flat_ns eGA199_ns, flat_ns eGA202_ns])), (F81_ok K a3264 a3265 a3266 _ h3409), (leads_ok (by simp only [leadsAny, List.any_cons, List.any_nil, RV.leads, RC.leads, leadsT, hasSl_lit, Bool.or_false, flat_ns (eInt_ns _), flat_ns eBool_ns, flat_ns eStr_ns, flat_ns eGJob_ns, flat_ns eGEdge_ns, flat_ns eGAsked_ns, flat_ns eGMsg_ns, flat_ns eGrule_ns, flat_ns eGA199_ns, flat_ns eGA202_ns])), z⟩
  refine cond_some hF (fun h3410 hF => ?_) (fun h3410 hF => ?_)
  ·
    have hr := Option.some.inj hF
    subst hr
    have pz : HoldAll E H hn16 [.test (beqb (beqb r3326 r3408) true) true, .call 74 [] (Res.mk [(.one (.im (.lit (.bool true))))] []), .test (leadsAny (Res.mk [(.one (.im (.lit (.bool true))))] [])) false, .test (beqb r3326 r3408) true] := ⟨(beqb_t h3410), knows74, (leads_ok (by simp only [leadsAny, List.any_cons, List.any_nil, RV.leads, RC.leads, leadsT, hasSl_lit, Bool.or_false, flat_ns (eInt_ns _), flat_ns eBool_ns, flat_ns eStr_ns, flat_ns eGJob_ns, flat_ns eGEdge_ns, flat_ns eGAsked_ns, flat_ns eGMsg_ns, flat_ns eGrule_ns, flat_ns eGA199_ns, flat_ns eGA202_ns])), h3410, trivial⟩
    exact fn_playC hn16 (f := 16) (ads := [.agg (eGGraph a3264), .agg (eGJob a3265), .agg (eGPart a3266)]) (r := F16_res true) (pq3411 (pq3412 pz)) (by kernel_rfl) (by kernel_rfl)
  have hr := Option.some.inj hF
  subst hr
  have pz : HoldAll E H hn16 [.test (beqb (beqb r3326 r3408) true) false, .test (beqb r3326 r3408) false] := ⟨(beqb_t h3410), h3410, trivial⟩
  exact fn_playC hn16 (f := 16) (ads := [.agg (eGGraph a3264), .agg (eGJob a3265), .agg (eGPart a3266)]) (r := F16_res false) (pq3411 (pq3412 pz)) (by kernel_rfl) (by kernel_rfl)

end Go.Proofs.Ytnjanliihnadjaa.Tm

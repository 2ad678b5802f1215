/- Printed by program: what each function computes, and that the machine answers so. Conditions: none. -/
import Derived.Test.YtnjanliihnadjaaTy
import Derived.Test.YtnjanliihnadjaaTab
import Derived.Test.YtnjanliihnadjaaKn
import Derived.Test.YtnjanliihnadjaaFE
import Derived.Test.YtnjanliihnadjaaFQ
import Derived.Test.YtnjanliihnadjaaFQs
import Derived.KernelRfl
set_option linter.unusedVariables false
set_option linter.unusedSimpArgs false
namespace Go.Proofs.Ytnjanliihnadjaa.Tm
open Go
/-! ### haywain/haywainlaw07.PartSplits -/
noncomputable def hn17 : Hint := { H 17 with nt := 43, prot := 0 }
def F17_res (r3603 : Bool) : Res := ⟨[(.one (.im (.lit (.bool r3603))))], []⟩
def F17 (K : Nat) (a3414 : GGraph) (a3415 : GJob) (a3416 : GState) : Option (Bool) :=
  (F73 K a3414).bind fun r3417 =>
  bif r3417 then
    (some true)
  else
  (F82 K a3416).bind fun r3425 =>
  bif r3425 then
    (some true)
  else
  (F83 K a3414 a3415 a3416).bind fun r3592 =>
  (F61 K a3414 a3415 a3416).bind fun r3594 =>
  (F84 K r3592.1 r3594.1).bind fun r3596 =>
  bif r3596 then
    (bif (ieq r3592.2 r3594.2) then
      (some true)
    else
    some false)
  else
  some false
theorem F17_ok (K : Nat) (a3414 : GGraph) (a3415 : GJob) (a3416 : GState) (r : Bool) (hF : F17 K a3414 a3415 a3416 = some r) : Evt E H 17 [.agg (eGGraph a3414), .agg (eGJob a3415), .agg (eGState a3416)] (F17_res r) := by
  rw [F17] at hF
  refine bind_some hF (fun r3417 h3418 hF => ?_)
  refine cond_some hF (fun h3419 hF => ?_) (fun h3419 hF => ?_)
  ·
    have hr := Option.some.inj hF
    subst hr
    have pz : HoldAll E H hn17 [.call 73 [.agg (eGGraph a3414)] (F73_res r3417), .test (leadsAny (Res.mk [(.one (.im (.lit (.bool r3417))))] [])) false, .test (beqb r3417 false) false, .test (beqb r3417 false) false, .test r3417 true, .test true true, .call 74 [] (Res.mk [(.one (.im (.lit (.bool true))))] []), .test (leadsAny (Res.mk [(.one (.im (.lit (.bool true))))] [])) false] := ⟨(F73_ok K a3414 _ h3418), (leads_ok (by simp only [leadsAny, List.any_cons, List.any_nil, RV.leads, RC.leads, leadsT, hasSl_lit, Bool.or_false, flat_ns (eInt_ns _), flat_ns eBool_ns, flat_ns eStr_ns, flat_ns eGJob_ns, flat_ns eGEdge_ns, flat_ns eGAsked_ns, flat_ns eGMsg_ns, flat_ns eGrule_ns, flat_ns eGA199_ns, flat_ns eGA202_ns])), (beqb_ft h3419), (beqb_ft h3419), h3419, rfl, knows74, (leads_ok (by simp only [leadsAny, List.any_cons, List.any_nil, RV.leads, RC.leads, leadsT, hasSl_lit, Bool.or_false, flat_ns (eInt_ns _), flat_ns eBool_ns, flat_ns eStr_ns, flat_ns eGJob_ns, flat_ns eGEdge_ns, flat_ns eGAsked_ns, flat_ns eGMsg_ns, flat_ns eGrule_ns, flat_ns eGA199_ns, flat_ns eGA202_ns])), trivial⟩
    exact fn_playC hn17 (f := 17) (ads := [.agg (eGGraph a3414), .agg (eGJob a3415), .agg (eGState a3416)]) (r := F17_res true) pz (by kernel_rfl) (by kernel_rfl)
  refine bind_some hF (fun r3425 h3426 hF => ?_)
  have pq3600 : ∀ {l : List Cond}, HoldAll E H hn17 l → HoldAll E H hn17 (.call 73 [.agg (eGGraph a3414)] (F73_res r3417) :: .test (leadsAny (Res.mk [(.one (.im (.lit (.bool r3417))))] [])) false :: .test (beqb r3417 false) true :: .test (beqb r3417 false) true :: .call 82 [.agg (eGState a3416)] (F82_res r3425) :: .test (leadsAny (Res.mk [(.one (.im (.lit (.bool r3425))))] [])) false :: .test r3417 false :: l) := fun z => ⟨(F73_ok K a3414 _ h3418), (leads_ok (by simp only [leadsAny, List.any_cons, List.any_nil, RV.leads, RC.leads, leadsT, hasSl_lit, Bool.or_false, flat_ns (eInt_ns _), flat_ns eBool_ns, flat_ns eStr_ns, flat_ns eGJob_ns, flat_ns eGEdge_ns, flat_ns eGAsked_ns, flat_ns eGMsg_ns, flat_ns eGrule_ns, flat_ns eGA199_ns, flat_ns eGA202_ns])), (beqb_ff h3419), (beqb_ff h3419), (F82_ok K a3416 _ h3426), (leads_ok (by simp only [leadsAny, List.any_cons, List.any_nil, RV.leads, RC.leads, leadsT, hasSl_lit, Bool.or_false, flat_ns (eInt_ns _), flat_ns eBool_ns, flat_ns eStr_ns, flat_ns eGJob_ns, flat_ns eGEdge_ns, flat_ns eGAsked_ns, flat_ns eGMsg_ns, flat_ns eGrule_ns, flat_ns eGA199_ns, flat_ns eGA202_ns])), h3419, z⟩
  refine cond_some hF (fun h3427 hF => ?_) (fun h3427 hF => ?_)
  ·
    have hr := Option.some.inj hF
    subst hr
    have pz : HoldAll E H hn17 [.test r3425 true, .call 74 [] (Res.mk [(.one (.im (.lit (.bool true))))] []), .test (leadsAny (Res.mk [(.one (.im (.lit (.bool true))))] [])) false] := ⟨h3427, knows74, (leads_ok (by simp only [leadsAny, List.any_cons, List.any_nil, RV.leads, RC.leads, leadsT, hasSl_lit, Bool.or_false, flat_ns (eInt_ns _), flat_ns eBool_ns, flat_ns eStr_ns, flat_ns eGJob_ns, flat_ns eGEdge_ns, flat_ns eGAsked_ns, flat_ns eGMsg_ns, flat_ns eGrule_ns, flat_ns eGA199_ns, flat_ns eGA202_ns])), trivial⟩
    exact fn_playC hn17 (f := 17) (ads := [.agg (eGGraph a3414), .agg (eGJob a3415), .agg (eGState a3416)]) (r := F17_res true) (pq3600 pz) (by kernel_rfl) (by kernel_rfl)
  refine bind_some hF (fun r3592 h3593 hF => ?_)
  refine bind_some hF (fun r3594 h3595 hF => ?_)
  refine bind_some hF (fun r3596 h3597 hF => ?_)
  have pq3601 : ∀ {l : List Cond}, HoldAll E H hn17 l → HoldAll E H hn17 (.test r3425 false :: .call 83 [.agg (eGGraph a3414), .agg (eGJob a3415), .agg (eGState a3416)] (F83_res r3592) :: .call 61 [.agg (eGGraph a3414), .agg (eGJob a3415), .agg (eGState a3416)] (F61_res r3594) :: .call 84 [.one (.sl (len r3592.1) (flat eGPart r3592.1)), .one (.sl (len r3594.1) (flat eGPart r3594.1))] (F84_res r3596) :: .test (leadsAny (Res.mk [(.one (.im (.lit (.bool r3596))))] [])) false :: l) := fun z => ⟨h3427, (F83_ok K a3414 a3415 a3416 _ h3593), (F61_ok K a3414 a3415 a3416 _ h3595), (F84_ok K r3592.1 r3594.1 _ h3597), (leads_ok (by simp only [leadsAny, List.any_cons, List.any_nil, RV.leads, RC.leads, leadsT, hasSl_lit, Bool.or_false, flat_ns (eInt_ns _), flat_ns eBool_ns, flat_ns eStr_ns, flat_ns eGJob_ns, flat_ns eGEdge_ns, flat_ns eGAsked_ns, flat_ns eGMsg_ns, flat_ns eGrule_ns, flat_ns eGA199_ns, flat_ns eGA202_ns])), z⟩
  refine cond_some hF (fun h3598 hF => ?_) (fun h3598 hF => ?_)
  ·
    have pq3602 : ∀ {l : List Cond}, HoldAll E H hn17 l → HoldAll E H hn17 (.test (beqb r3596 true) true :: .test (beqb r3596 true) true :: .test (beqb r3596 true) true :: .test r3596 true :: l) := fun z => ⟨(beqb_t h3598), (beqb_t h3598), (beqb_t h3598), h3598, z⟩
    refine cond_some hF (fun h3599 hF => ?_) (fun h3599 hF => ?_)
    ·
      have hr := Option.some.inj hF
      subst hr
      have pz : HoldAll E H hn17 [.test (beqb (ieq r3592.2 r3594.2) true) true, .call 74 [] (Res.mk [(.one (.im (.lit (.bool true))))] []), .test (leadsAny (Res.mk [(.one (.im (.lit (.bool true))))] [])) false, .test (ieq r3592.2 r3594.2) true] := ⟨(beqb_t h3599), knows74, (leads_ok (by simp only [leadsAny, List.any_cons, List.any_nil, RV.leads, RC.leads, leadsT, hasSl_lit, Bool.or_false, flat_ns (eInt_ns _), flat_ns eBool_ns, flat_ns eStr_ns, flat_ns eGJob_ns, flat_ns eGEdge_ns, flat_ns eGAsked_ns, flat_ns eGMsg_ns, flat_ns eGrule_ns, flat_ns eGA199_ns, flat_ns eGA202_ns])), h3599, trivial⟩
      exact fn_playC hn17 (f := 17) (ads := [.agg (eGGraph a3414), .agg (eGJob a3415), .agg (eGState a3416)]) (r := F17_res true) (pq3600 (pq3601 (pq3602 pz))) (by kernel_rfl) (by kernel_rfl)
    have hr := Option.some.inj hF
    subst hr
    have pz : HoldAll E H hn17 [.test (beqb (ieq r3592.2 r3594.2) true) false, .test (ieq r3592.2 r3594.2) false] := ⟨(beqb_t h3599), h3599, trivial⟩
    exact fn_playC hn17 (f := 17) (ads := [.agg (eGGraph a3414), .agg (eGJob a3415), .agg (eGState a3416)]) (r := F17_res false) (pq3600 (pq3601 (pq3602 pz))) (by kernel_rfl) (by kernel_rfl)
  have hr := Option.some.inj hF
  subst hr
  have pz : HoldAll E H hn17 [.test (beqb r3596 true) false, .test (beqb r3596 true) false, .test (beqb r3596 true) false, .test r3596 false, .test (beqb false true) false, .test false false] := ⟨(beqb_t h3598), (beqb_t h3598), (beqb_t h3598), h3598, (beqb_t rfl), rfl, trivial⟩
  exact fn_playC hn17 (f := 17) (ads := [.agg (eGGraph a3414), .agg (eGJob a3415), .agg (eGState a3416)]) (r := F17_res false) (pq3600 (pq3601 pz)) (by kernel_rfl) (by kernel_rfl)

end Go.Proofs.Ytnjanliihnadjaa.Tm

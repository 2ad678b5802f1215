/- Printed by program: what each function computes, and that the machine answers so. Conditions: none. -/
import Derived.Test.YtnjanliihnadjaaTy
import Derived.Test.YtnjanliihnadjaaTab
import Derived.Test.YtnjanliihnadjaaKn
import Derived.Test.YtnjanliihnadjaaFQ
import Derived.KernelRfl
set_option linter.unusedVariables false
set_option linter.unusedSimpArgs false
namespace Go.Proofs.Ytnjanliihnadjaa.Tm
open Go
/-! ### haywain/haywainlaw07.PartHomes -/
noncomputable def hn15 : Hint := { H 15 with nt := 33, prot := 0 }
def F15_res (r3263 : Bool) : Res := ⟨[(.one (.im (.lit (.bool r3263))))], []⟩
def F15 (K : Nat) (a3095 : GGraph) (a3096 : GJob) (a3097 : Int) (a3098 : Int) : Option (Bool) :=
  (F73 K a3095).bind fun r3101 =>
  bif r3101 then
    (some true)
  else
  (F75 K a3096 a3097).bind fun r3113 =>
  (F76 K a3096 a3097).bind fun r3124 =>
  bif (ieq r3113 r3124) then
    ((F77 K a3095 a3096 a3098).bind fun r3247 =>
    (F78 K a3095 a3096 a3098).bind fun r3258 =>
    bif (ieq r3247 r3258) then
      (some true)
    else
    some false)
  else
  some false
theorem F15_ok (K : Nat) (a3095 : GGraph) (a3096 : GJob) (a3097 : Int) (a3098 : Int) (r : Bool) (hF : F15 K a3095 a3096 a3097 a3098 = some r) : Evt E H 15 [.agg (eGGraph a3095), .agg (eGJob a3096), .one (.lit (.int .i64 a3097)), .one (.lit (.int .i64 a3098))] (F15_res r) := by
  rw [F15] at hF
  refine bind_some hF (fun r3101 h3102 hF => ?_)
  refine cond_some hF (fun h3103 hF => ?_) (fun h3103 hF => ?_)
  ·
    have hr := Option.some.inj hF
    subst hr
    have pz : HoldAll E H hn15 [.call 73 [.agg (eGGraph a3095)] (F73_res r3101), .test (leadsAny (Res.mk [(.one (.im (.lit (.bool r3101))))] [])) false, .test r3101 true, .call 74 [] (Res.mk [(.one (.im (.lit (.bool true))))] []), .test (leadsAny (Res.mk [(.one (.im (.lit (.bool true))))] [])) false] := ⟨(F73_ok K a3095 _ h3102), (leads_ok (by simp only [leadsAny, List.any_cons, List.any_nil, RV.leads, RC.leads, leadsT, hasSl_lit, Bool.or_false, flat_ns (eInt_ns _), flat_ns eBool_ns, flat_ns eStr_ns, flat_ns eGJob_ns, flat_ns eGEdge_ns, flat_ns eGAsked_ns, flat_ns eGMsg_ns, flat_ns eGrule_ns, flat_ns eGA199_ns, flat_ns eGA202_ns])), h3103, knows74, (leads_ok (by simp only [leadsAny, List.any_cons, List.any_nil, RV.leads, RC.leads, leadsT, hasSl_lit, Bool.or_false, flat_ns (eInt_ns _), flat_ns eBool_ns, flat_ns eStr_ns, flat_ns eGJob_ns, flat_ns eGEdge_ns, flat_ns eGAsked_ns, flat_ns eGMsg_ns, flat_ns eGrule_ns, flat_ns eGA199_ns, flat_ns eGA202_ns])), trivial⟩
    exact fn_playC hn15 (f := 15) (ads := [.agg (eGGraph a3095), .agg (eGJob a3096), .one (.lit (.int .i64 a3097)), .one (.lit (.int .i64 a3098))]) (r := F15_res true) pz (by kernel_rfl) (by kernel_rfl)
  refine bind_some hF (fun r3113 h3114 hF => ?_)
  refine bind_some hF (fun r3124 h3125 hF => ?_)
  have pq3261 : ∀ {l : List Cond}, HoldAll E H hn15 l → HoldAll E H hn15 (.call 73 [.agg (eGGraph a3095)] (F73_res r3101) :: .test (leadsAny (Res.mk [(.one (.im (.lit (.bool r3101))))] [])) false :: .test r3101 false :: .call 75 [.agg (eGJob a3096), .one (.lit (.int .i64 a3097))] (F75_res r3113) :: .test (leadsAny (Res.mk [(.one (.im (.lit (.int .i64 r3113))))] [])) false :: .call 76 [.agg (eGJob a3096), .one (.lit (.int .i64 a3097))] (F76_res r3124) :: .test (leadsAny (Res.mk [(.one (.im (.lit (.int .i64 r3124))))] [])) false :: l) := fun z => ⟨(F73_ok K a3095 _ h3102), (leads_ok (by simp only [leadsAny, List.any_cons, List.any_nil, RV.leads, RC.leads, leadsT, hasSl_lit, Bool.or_false, flat_ns (eInt_ns _), flat_ns eBool_ns, flat_ns eStr_ns, flat_ns eGJob_ns, flat_ns eGEdge_ns, flat_ns eGAsked_ns, flat_ns eGMsg_ns, flat_ns eGrule_ns, flat_ns eGA199_ns, flat_ns eGA202_ns])), h3103, (F75_ok K a3096 a3097 _ h3114), (leads_ok (by simp only [leadsAny, List.any_cons, List.any_nil, RV.leads, RC.leads, leadsT, hasSl_lit, Bool.or_false, flat_ns (eInt_ns _), flat_ns eBool_ns, flat_ns eStr_ns, flat_ns eGJob_ns, flat_ns eGEdge_ns, flat_ns eGAsked_ns, flat_ns eGMsg_ns, flat_ns eGrule_ns, flat_ns eGA199_ns, flat_ns eGA202_ns])), (F76_ok K a3096 a3097 _ h3125), (leads_ok (by simp only [leadsAny, List.any_cons, List.any_nil, RV.leads, RC.leads, leadsT, hasSl_lit, Bool.or_false, flat_ns (eInt_ns _), flat_ns eBool_ns, flat_ns eStr_ns, flat_ns eGJob_ns, flat_ns eGEdge_ns, flat_ns eGAsked_ns, flat_ns eGMsg_ns, flat_ns eGrule_ns, flat_ns eGA199_ns, flat_ns eGA202_ns])), z⟩
  refine cond_some hF (fun h3126 hF => ?_) (fun h3126 hF => ?_)
  ·
    refine bind_some hF (fun r3247 h3248 hF => ?_)
    refine bind_some hF (fun r3258 h3259 hF => ?_)
    have pq3262 : ∀ {l : List Cond}, HoldAll E H hn15 l → HoldAll E H hn15 (.test (beqb (ieq r3113 r3124) true) true :: .test (beqb (ieq r3113 r3124) true) true :: .test (beqb (ieq r3113 r3124) true) true :: .test (beqb (ieq r3113 r3124) true) true :: .call 77 [.agg (eGGraph a3095), .agg (eGJob a3096), .one (.lit (.int .i64 a3098))] (F77_res r3247) :: .test (leadsAny (Res.mk [(.one (.im (.lit (.int .i64 r3247))))] [])) false :: .test (beqb (ieq r3113 r3124) true) true :: .test (beqb (ieq r3113 r3124) true) true :: .test (beqb (ieq r3113 r3124) true) true :: .test (beqb (ieq r3113 r3124) true) true :: .call 78 [.agg (eGGraph a3095), .agg (eGJob a3096), .one (.lit (.int .i64 a3098))] (F78_res r3258) :: .test (leadsAny (Res.mk [(.one (.im (.lit (.int .i64 r3258))))] [])) false :: .test (beqb (ieq r3113 r3124) true) true :: .test (ieq r3113 r3124) true :: l) := fun z => ⟨(beqb_t h3126), (beqb_t h3126), (beqb_t h3126), (beqb_t h3126), (F77_ok K a3095 a3096 a3098 _ h3248), (leads_ok (by simp only [leadsAny, List.any_cons, List.any_nil, RV.leads, RC.leads, leadsT, hasSl_lit, Bool.or_false, flat_ns (eInt_ns _), flat_ns eBool_ns, flat_ns eStr_ns, flat_ns eGJob_ns, flat_ns eGEdge_ns, flat_ns eGAsked_ns, flat_ns eGMsg_ns, flat_ns eGrule_ns, flat_ns eGA199_ns, flat_ns eGA202_ns])), (beqb_t h3126), (beqb_t h3126), (beqb_t h3126), (beqb_t h3126), (F78_ok K a3095 a3096 a3098 _ h3259), (leads_ok (by simp only [leadsAny, List.any_cons, List.any_nil, RV.leads, RC.leads, leadsT, hasSl_lit, Bool.or_false, flat_ns (eInt_ns _), flat_ns eBool_ns, flat_ns eStr_ns, flat_ns eGJob_ns, flat_ns eGEdge_ns, flat_ns eGAsked_ns, flat_ns eGMsg_ns, flat_ns eGrule_ns, flat_ns eGA199_ns, flat_ns eGA202_ns])), (beqb_t h3126), h3126, z⟩
    refine cond_some hF (fun h3260 hF => ?_) (fun h3260 hF => ?_)
    ·
      have hr := Option.some.inj hF
      subst hr
      have pz : HoldAll E H hn15 [.test (beqb (ieq r3247 r3258) true) true, .call 74 [] (Res.mk [(.one (.im (.lit (.bool true))))] []), .test (leadsAny (Res.mk [(.one (.im (.lit (.bool true))))] [])) false, .test (ieq r3247 r3258) true] := ⟨(beqb_t h3260), knows74, (leads_ok (by simp only [leadsAny, List.any_cons, List.any_nil, RV.leads, RC.leads, leadsT, hasSl_lit, Bool.or_false, flat_ns (eInt_ns _), flat_ns eBool_ns, flat_ns eStr_ns, flat_ns eGJob_ns, flat_ns eGEdge_ns, flat_ns eGAsked_ns, flat_ns eGMsg_ns, flat_ns eGrule_ns, flat_ns eGA199_ns, flat_ns eGA202_ns])), h3260, trivial⟩
      exact fn_playC hn15 (f := 15) (ads := [.agg (eGGraph a3095), .agg (eGJob a3096), .one (.lit (.int .i64 a3097)), .one (.lit (.int .i64 a3098))]) (r := F15_res true) (pq3261 (pq3262 pz)) (by kernel_rfl) (by kernel_rfl)
    have hr := Option.some.inj hF
    subst hr
    have pz : HoldAll E H hn15 [.test (beqb (ieq r3247 r3258) true) false, .test (ieq r3247 r3258) false] := ⟨(beqb_t h3260), h3260, trivial⟩
    exact fn_playC hn15 (f := 15) (ads := [.agg (eGGraph a3095), .agg (eGJob a3096), .one (.lit (.int .i64 a3097)), .one (.lit (.int .i64 a3098))]) (r := F15_res false) (pq3261 (pq3262 pz)) (by kernel_rfl) (by kernel_rfl)
  have hr := Option.some.inj hF
  subst hr
  have pz : HoldAll E H hn15 [.test (beqb (ieq r3113 r3124) true) false, .test (beqb (ieq r3113 r3124) true) false, .test (beqb (ieq r3113 r3124) true) false, .test (beqb (ieq r3113 r3124) true) false, .test (beqb (ieq r3113 r3124) true) false, .test (beqb (ieq r3113 r3124) true) false, .test (beqb (ieq r3113 r3124) true) false, .test (beqb (ieq r3113 r3124) true) false, .test (beqb (ieq r3113 r3124) true) false, .test (ieq r3113 r3124) false, .test (beqb false true) false, .test false false] := ⟨(beqb_t h3126), (beqb_t h3126), (beqb_t h3126), (beqb_t h3126), (beqb_t h3126), (beqb_t h3126), (beqb_t h3126), (beqb_t h3126), (beqb_t h3126), h3126, (beqb_t rfl), rfl, trivial⟩
  exact fn_playC hn15 (f := 15) (ads := [.agg (eGGraph a3095), .agg (eGJob a3096), .one (.lit (.int .i64 a3097)), .one (.lit (.int .i64 a3098))]) (r := F15_res false) (pq3261 pz) (by kernel_rfl) (by kernel_rfl)

end Go.Proofs.Ytnjanliihnadjaa.Tm

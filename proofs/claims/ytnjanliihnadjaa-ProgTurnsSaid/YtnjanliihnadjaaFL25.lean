/- Printed by program: what each function computes, and that the machine answers so. Conditions: none. -/
import Derived.Test.YtnjanliihnadjaaTy
import Derived.Test.YtnjanliihnadjaaTab
import Derived.Test.YtnjanliihnadjaaKn
import Derived.Test.YtnjanliihnadjaaFE
import Derived.Test.YtnjanliihnadjaaFSa
import Derived.Test.YtnjanliihnadjaaFSt
import Derived.Test.YtnjanliihnadjaaFTt
import Derived.KernelRfl
set_option linter.unusedVariables false
set_option linter.unusedSimpArgs false
namespace Go.Proofs.Ytnjanliihnadjaa.Tm
open Go
/-! ### haywain/haywainlaw04.ProgTurns -/
noncomputable def hn25 : Hint := { H 25 with nt := 71, prot := 0 }
def F25_res (r4886 : Bool) : Res := ⟨[(.one (.im (.lit (.bool r4886))))], []⟩
def F25 (K : Nat) (a4239 : GGraph) (a4240 : GJob) (a4241 : GAsked) : Option (Bool) :=
  (F92 K a4239).bind fun r4242 =>
  bif r4242 then
    (some true)
  else
  (F99 K a4239 a4240 a4241.Step a4241.V a4241.Val a4241.Got a4241.Some).bind fun r4872 =>
  (F100 K a4239 a4240 a4241.Step a4241.V a4241.Val a4241.Got a4241.Some).bind fun r4874 =>
  bif (ieq r4872.1 r4874.Val) then
    ((F89 K r4872.2.1 r4874.Out).bind fun r4877 =>
    bif r4877 then
      (bif (beqb r4872.2.2.1 r4874.Rest) then
        (bif (ieq r4872.2.2.2 r4874.E) then
          (some true)
        else
        some false)
      else
      some false)
    else
    some false)
  else
  some false
theorem F25_ok (K : Nat) (a4239 : GGraph) (a4240 : GJob) (a4241 : GAsked) (r : Bool) (hF : F25 K a4239 a4240 a4241 = some r) : Evt E H 25 [.agg (eGGraph a4239), .agg (eGJob a4240), .agg (eGAsked a4241)] (F25_res r) := by
  rw [F25] at hF
  refine bind_some hF (fun r4242 h4243 hF => ?_)
  refine cond_some hF (fun h4244 hF => ?_) (fun h4244 hF => ?_)
  ·
    have hr := Option.some.inj hF
    subst hr
    have pz : HoldAll E H hn25 [.call 92 [.agg (eGGraph a4239)] (F92_res r4242), .test (leadsAny (Res.mk [(.one (.im (.lit (.bool r4242))))] [])) false, .test r4242 true, .call 93 [] (Res.mk [(.one (.im (.lit (.bool true))))] []), .test (leadsAny (Res.mk [(.one (.im (.lit (.bool true))))] [])) false] := ⟨(F92_ok K a4239 _ h4243), (leads_ok (by simp only [leadsAny, List.any_cons, List.any_nil, RV.leads, RC.leads, leadsT, hasSl_lit, Bool.or_false, flat_ns (eInt_ns _), flat_ns eBool_ns, flat_ns eStr_ns, flat_ns eGJob_ns, flat_ns eGEdge_ns, flat_ns eGAsked_ns, flat_ns eGMsg_ns, flat_ns eGrule_ns, flat_ns eGA199_ns, flat_ns eGA202_ns])), h4244, knows93, (leads_ok (by simp only [leadsAny, List.any_cons, List.any_nil, RV.leads, RC.leads, leadsT, hasSl_lit, Bool.or_false, flat_ns (eInt_ns _), flat_ns eBool_ns, flat_ns eStr_ns, flat_ns eGJob_ns, flat_ns eGEdge_ns, flat_ns eGAsked_ns, flat_ns eGMsg_ns, flat_ns eGrule_ns, flat_ns eGA199_ns, flat_ns eGA202_ns])), trivial⟩
    exact fn_playC hn25 (f := 25) (ads := [.agg (eGGraph a4239), .agg (eGJob a4240), .agg (eGAsked a4241)]) (r := F25_res true) pz (by kernel_rfl) (by kernel_rfl)
  refine bind_some hF (fun r4872 h4873 hF => ?_)
  refine bind_some hF (fun r4874 h4875 hF => ?_)
  have pq4882 : ∀ {l : List Cond}, HoldAll E H hn25 l → HoldAll E H hn25 (.call 92 [.agg (eGGraph a4239)] (F92_res r4242) :: .test (leadsAny (Res.mk [(.one (.im (.lit (.bool r4242))))] [])) false :: .test r4242 false :: .call 99 [.agg (eGGraph a4239), .agg (eGJob a4240), .one (.lit (.int .i64 a4241.Step)), .one (.lit (.int .i64 a4241.V)), .one (.lit (.int .i64 a4241.Val)), .one (.lit (.int .i64 a4241.Got)), .one (.lit (.bool a4241.Some))] (F99_res r4872) :: .test (leadsAny (Res.mk [(.one (.im (.lit (.int .i64 r4872.1)))), (.one (.own 130 (.sl (len r4872.2.1) (flat eGMsg r4872.2.1)))), (.one (.im (.lit (.bool r4872.2.2.1)))), (.one (.im (.lit (.int .i64 r4872.2.2.2))))] [])) false :: .call 100 [.agg (eGGraph a4239), .agg (eGJob a4240), .one (.lit (.int .i64 a4241.Step)), .one (.lit (.int .i64 a4241.V)), .one (.lit (.int .i64 a4241.Val)), .one (.lit (.int .i64 a4241.Got)), .one (.lit (.bool a4241.Some))] (F100_res r4874) :: .test (leadsAny (Res.mk [(.agg [(.im (.lit (.int .i64 r4874.Val))), (.own 130 (.sl (len r4874.Out) (flat eGMsg r4874.Out))), (.im (.lit (.bool r4874.Rest))), (.im (.lit (.int .i64 r4874.E)))])] [])) false :: l) := fun z => ⟨(F92_ok K a4239 _ h4243), (leads_ok (by simp only [leadsAny, List.any_cons, List.any_nil, RV.leads, RC.leads, leadsT, hasSl_lit, Bool.or_false, flat_ns (eInt_ns _), flat_ns eBool_ns, flat_ns eStr_ns, flat_ns eGJob_ns, flat_ns eGEdge_ns, flat_ns eGAsked_ns, flat_ns eGMsg_ns, flat_ns eGrule_ns, flat_ns eGA199_ns, flat_ns eGA202_ns])), h4244, (F99_ok K a4239 a4240 a4241.Step a4241.V a4241.Val a4241.Got a4241.Some _ h4873), (leads_ok (by simp only [leadsAny, List.any_cons, List.any_nil, RV.leads, RC.leads, leadsT, hasSl_lit, Bool.or_false, flat_ns (eInt_ns _), flat_ns eBool_ns, flat_ns eStr_ns, flat_ns eGJob_ns, flat_ns eGEdge_ns, flat_ns eGAsked_ns, flat_ns eGMsg_ns, flat_ns eGrule_ns, flat_ns eGA199_ns, flat_ns eGA202_ns])), (F100_ok K a4239 a4240 a4241.Step a4241.V a4241.Val a4241.Got a4241.Some _ h4875), (leads_ok (by simp only [leadsAny, List.any_cons, List.any_nil, RV.leads, RC.leads, leadsT, hasSl_lit, Bool.or_false, flat_ns (eInt_ns _), flat_ns eBool_ns, flat_ns eStr_ns, flat_ns eGJob_ns, flat_ns eGEdge_ns, flat_ns eGAsked_ns, flat_ns eGMsg_ns, flat_ns eGrule_ns, flat_ns eGA199_ns, flat_ns eGA202_ns])), z⟩
  refine cond_some hF (fun h4876 hF => ?_) (fun h4876 hF => ?_)
  ·
    refine bind_some hF (fun r4877 h4878 hF => ?_)
    have pq4883 : ∀ {l : List Cond}, HoldAll E H hn25 l → HoldAll E H hn25 (.test (beqb (ieq r4872.1 r4874.Val) true) true :: .test (beqb (ieq r4872.1 r4874.Val) true) true :: .test (beqb (ieq r4872.1 r4874.Val) true) true :: .test (beqb (ieq r4872.1 r4874.Val) true) true :: .call 89 [.one (.sl (len r4872.2.1) (flat eGMsg r4872.2.1)), .one (.sl (len r4874.Out) (flat eGMsg r4874.Out))] (F89_res r4877) :: .test (leadsAny (Res.mk [(.one (.im (.lit (.bool r4877))))] [])) false :: .test (ieq r4872.1 r4874.Val) true :: l) := fun z => ⟨(beqb_t h4876), (beqb_t h4876), (beqb_t h4876), (beqb_t h4876), (F89_ok K r4872.2.1 r4874.Out _ h4878), (leads_ok (by simp only [leadsAny, List.any_cons, List.any_nil, RV.leads, RC.leads, leadsT, hasSl_lit, Bool.or_false, flat_ns (eInt_ns _), flat_ns eBool_ns, flat_ns eStr_ns, flat_ns eGJob_ns, flat_ns eGEdge_ns, flat_ns eGAsked_ns, flat_ns eGMsg_ns, flat_ns eGrule_ns, flat_ns eGA199_ns, flat_ns eGA202_ns])), h4876, z⟩
    refine cond_some hF (fun h4879 hF => ?_) (fun h4879 hF => ?_)
    ·
      have pq4884 : ∀ {l : List Cond}, HoldAll E H hn25 l → HoldAll E H hn25 (.test (beqb r4877 true) true :: .test (beqb r4877 true) true :: .test (beqb r4877 true) true :: .test (beqb r4877 true) true :: .test r4877 true :: l) := fun z => ⟨(beqb_t h4879), (beqb_t h4879), (beqb_t h4879), (beqb_t h4879), h4879, z⟩
      refine cond_some hF (fun h4880 hF => ?_) (fun h4880 hF => ?_)
      ·
        have pq4885 : ∀ {l : List Cond}, HoldAll E H hn25 l → HoldAll E H hn25 (.test (beqb (beqb r4872.2.2.1 r4874.Rest) true) true :: .test (beqb (beqb r4872.2.2.1 r4874.Rest) true) true :: .test (beqb (beqb r4872.2.2.1 r4874.Rest) true) true :: .test (beqb (beqb r4872.2.2.1 r4874.Rest) true) true :: .test (beqb r4872.2.2.1 r4874.Rest) true :: l) := fun z => ⟨(beqb_t h4880), (beqb_t h4880), (beqb_t h4880), (beqb_t h4880), h4880, z⟩
        refine cond_some hF (fun h4881 hF => ?_) (fun h4881 hF => ?_)
        ·
          have hr := Option.some.inj hF
          subst hr
          have pz : HoldAll E H hn25 [.test (beqb (ieq r4872.2.2.2 r4874.E) true) true, .call 93 [] (Res.mk [(.one (.im (.lit (.bool true))))] []), .test (leadsAny (Res.mk [(.one (.im (.lit (.bool true))))] [])) false, .test (ieq r4872.2.2.2 r4874.E) true] := ⟨(beqb_t h4881), knows93, (leads_ok (by simp only [leadsAny, List.any_cons, List.any_nil, RV.leads, RC.leads, leadsT, hasSl_lit, Bool.or_false, flat_ns (eInt_ns _), flat_ns eBool_ns, flat_ns eStr_ns, flat_ns eGJob_ns, flat_ns eGEdge_ns, flat_ns eGAsked_ns, flat_ns eGMsg_ns, flat_ns eGrule_ns, flat_ns eGA199_ns, flat_ns eGA202_ns])), h4881, trivial⟩
          exact fn_playC hn25 (f := 25) (ads := [.agg (eGGraph a4239), .agg (eGJob a4240), .agg (eGAsked a4241)]) (r := F25_res true) (pq4882 (pq4883 (pq4884 (pq4885 pz)))) (by kernel_rfl) (by kernel_rfl)
        have hr := Option.some.inj hF
        subst hr
        have pz : HoldAll E H hn25 [.test (beqb (ieq r4872.2.2.2 r4874.E) true) false, .test (ieq r4872.2.2.2 r4874.E) false] := ⟨(beqb_t h4881), h4881, trivial⟩
        exact fn_playC hn25 (f := 25) (ads := [.agg (eGGraph a4239), .agg (eGJob a4240), .agg (eGAsked a4241)]) (r := F25_res false) (pq4882 (pq4883 (pq4884 (pq4885 pz)))) (by kernel_rfl) (by kernel_rfl)
      have hr := Option.some.inj hF
      subst hr
      have pz : HoldAll E H hn25 [.test (beqb (beqb r4872.2.2.1 r4874.Rest) true) false, .test (beqb (beqb r4872.2.2.1 r4874.Rest) true) false, .test (beqb (beqb r4872.2.2.1 r4874.Rest) true) false, .test (beqb (beqb r4872.2.2.1 r4874.Rest) true) false, .test (beqb r4872.2.2.1 r4874.Rest) false, .test (beqb false true) false, .test false false] := ⟨(beqb_t h4880), (beqb_t h4880), (beqb_t h4880), (beqb_t h4880), h4880, (beqb_t rfl), rfl, trivial⟩
      exact fn_playC hn25 (f := 25) (ads := [.agg (eGGraph a4239), .agg (eGJob a4240), .agg (eGAsked a4241)]) (r := F25_res false) (pq4882 (pq4883 (pq4884 pz))) (by kernel_rfl) (by kernel_rfl)
    have hr := Option.some.inj hF
    subst hr
    have pz : HoldAll E H hn25 [.test (beqb r4877 true) false, .test (beqb r4877 true) false, .test (beqb r4877 true) false, .test (beqb r4877 true) false, .test r4877 false, .test (beqb false true) false, .test (beqb false true) false, .test (beqb false true) false, .test (beqb false true) false, .test false false, .test (beqb false true) false, .test false false] := ⟨(beqb_t h4879), (beqb_t h4879), (beqb_t h4879), (beqb_t h4879), h4879, (beqb_t rfl), (beqb_t rfl), (beqb_t rfl), (beqb_t rfl), rfl, (beqb_t rfl), rfl, trivial⟩
    exact fn_playC hn25 (f := 25) (ads := [.agg (eGGraph a4239), .agg (eGJob a4240), .agg (eGAsked a4241)]) (r := F25_res false) (pq4882 (pq4883 pz)) (by kernel_rfl) (by kernel_rfl)
  have hr := Option.some.inj hF
  subst hr
  have pz : HoldAll E H hn25 [.test (beqb (ieq r4872.1 r4874.Val) true) false, .test (beqb (ieq r4872.1 r4874.Val) true) false, .test (beqb (ieq r4872.1 r4874.Val) true) false, .test (beqb (ieq r4872.1 r4874.Val) true) false, .test (ieq r4872.1 r4874.Val) false, .test (beqb false true) false, .test (beqb false true) false, .test (beqb false true) false, .test (beqb false true) false, .test false false, .test (beqb false true) false, .test (beqb false true) false, .test (beqb false true) false, .test (beqb false true) false, .test false false, .test (beqb false true) false, .test false false] := ⟨(beqb_t h4876), (beqb_t h4876), (beqb_t h4876), (beqb_t h4876), h4876, (beqb_t rfl), (beqb_t rfl), (beqb_t rfl), (beqb_t rfl), rfl, (beqb_t rfl), (beqb_t rfl), (beqb_t rfl), (beqb_t rfl), rfl, (beqb_t rfl), rfl, trivial⟩
  exact fn_playC hn25 (f := 25) (ads := [.agg (eGGraph a4239), .agg (eGJob a4240), .agg (eGAsked a4241)]) (r := F25_res false) (pq4882 pz) (by kernel_rfl) (by kernel_rfl)

end Go.Proofs.Ytnjanliihnadjaa.Tm

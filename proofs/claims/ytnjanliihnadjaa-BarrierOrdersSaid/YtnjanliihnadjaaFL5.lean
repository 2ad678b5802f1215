/- Printed by program: what each function computes, and that the machine answers so. Conditions: none. -/
import Derived.Test.YtnjanliihnadjaaTy
import Derived.Test.YtnjanliihnadjaaTab
import Derived.Test.YtnjanliihnadjaaKn
import Derived.Test.YtnjanliihnadjaaFA
import Derived.Test.YtnjanliihnadjaaFB
import Derived.Test.YtnjanliihnadjaaFC
import Derived.KernelRfl
set_option linter.unusedVariables false
set_option linter.unusedSimpArgs false
namespace Go.Proofs.Ytnjanliihnadjaa.Tm
open Go
/-! ### haywain/haywainlaw19.BarrierSays -/
noncomputable def hn5 : Hint := { H 5 with nt := 36, prot := 0 }
def F5_res (r748 : Bool) : Res := ⟨[(.one (.im (.lit (.bool r748))))], []⟩
def F5 (K : Nat) (a616 : GBarrier) (a617 : Int) : Option (Bool) :=
  (F46 K a616).bind fun r618 =>
  bif r618 then
    (some true)
  else
  (F56 K a616 a617).bind fun r678 =>
  (F44 K a616).bind fun r680 =>
  (F57 K r680 a617).bind fun r742 =>
  bif (ieq r678.1 r742.1) then
    (bif (beqb r678.2 r742.2) then
      (some true)
    else
    some false)
  else
  some false
theorem F5_ok (K : Nat) (a616 : GBarrier) (a617 : Int) (r : Bool) (hF : F5 K a616 a617 = some r) : Evt E H 5 [.agg (eGBarrier a616), .one (.lit (.int .i64 a617))] (F5_res r) := by
  rw [F5] at hF
  refine bind_some hF (fun r618 h619 hF => ?_)
  refine cond_some hF (fun h620 hF => ?_) (fun h620 hF => ?_)
  ·
    have hr := Option.some.inj hF
    subst hr
    have pz : HoldAll E H hn5 [.call 46 [.agg (eGBarrier a616)] (F46_res r618), .test (leadsAny (Res.mk [(.one (.im (.lit (.bool r618))))] [])) false, .test r618 true, .call 45 [] (Res.mk [(.one (.im (.lit (.bool true))))] []), .test (leadsAny (Res.mk [(.one (.im (.lit (.bool true))))] [])) false] := ⟨(F46_ok K a616 _ h619), (leads_ok (by simp only [leadsAny, List.any_cons, List.any_nil, RV.leads, RC.leads, leadsT, hasSl_lit, Bool.or_false, flat_ns (eInt_ns _), flat_ns eBool_ns, flat_ns eStr_ns, flat_ns eGJob_ns, flat_ns eGEdge_ns, flat_ns eGAsked_ns, flat_ns eGMsg_ns, flat_ns eGrule_ns, flat_ns eGA199_ns, flat_ns eGA202_ns])), h620, knows45, (leads_ok (by simp only [leadsAny, List.any_cons, List.any_nil, RV.leads, RC.leads, leadsT, hasSl_lit, Bool.or_false, flat_ns (eInt_ns _), flat_ns eBool_ns, flat_ns eStr_ns, flat_ns eGJob_ns, flat_ns eGEdge_ns, flat_ns eGAsked_ns, flat_ns eGMsg_ns, flat_ns eGrule_ns, flat_ns eGA199_ns, flat_ns eGA202_ns])), trivial⟩
    exact fn_playC hn5 (f := 5) (ads := [.agg (eGBarrier a616), .one (.lit (.int .i64 a617))]) (r := F5_res true) pz (by kernel_rfl) (by kernel_rfl)
  refine bind_some hF (fun r678 h679 hF => ?_)
  refine bind_some hF (fun r680 h681 hF => ?_)
  refine bind_some hF (fun r742 h743 hF => ?_)
  have pq746 : ∀ {l : List Cond}, HoldAll E H hn5 l → HoldAll E H hn5 (.call 46 [.agg (eGBarrier a616)] (F46_res r618) :: .test (leadsAny (Res.mk [(.one (.im (.lit (.bool r618))))] [])) false :: .test r618 false :: .call 56 [.agg (eGBarrier a616), .one (.lit (.int .i64 a617))] (F56_res r678) :: .test (leadsAny (Res.mk [(.one (.im (.lit (.int .i64 r678.1)))), (.one (.im (.lit (.bool r678.2))))] [])) false :: .call 44 [.agg (eGBarrier a616)] (F44_res r680) :: .call 57 [.agg (eGBarrier r680), .one (.lit (.int .i64 a617))] (F57_res r742) :: .test (leadsAny (Res.mk [(.one (.im (.lit (.int .i64 r742.1)))), (.one (.im (.lit (.bool r742.2))))] [])) false :: l) := fun z => ⟨(F46_ok K a616 _ h619), (leads_ok (by simp only [leadsAny, List.any_cons, List.any_nil, RV.leads, RC.leads, leadsT, hasSl_lit, Bool.or_false, flat_ns (eInt_ns _), flat_ns eBool_ns, flat_ns eStr_ns, flat_ns eGJob_ns, flat_ns eGEdge_ns, flat_ns eGAsked_ns, flat_ns eGMsg_ns, flat_ns eGrule_ns, flat_ns eGA199_ns, flat_ns eGA202_ns])), h620, (F56_ok K a616 a617 _ h679), (leads_ok (by simp only [leadsAny, List.any_cons, List.any_nil, RV.leads, RC.leads, leadsT, hasSl_lit, Bool.or_false, flat_ns (eInt_ns _), flat_ns eBool_ns, flat_ns eStr_ns, flat_ns eGJob_ns, flat_ns eGEdge_ns, flat_ns eGAsked_ns, flat_ns eGMsg_ns, flat_ns eGrule_ns, flat_ns eGA199_ns, flat_ns eGA202_ns])), (F44_ok K a616 _ h681), (F57_ok K r680 a617 _ h743), (leads_ok (by simp only [leadsAny, List.any_cons, List.any_nil, RV.leads, RC.leads, leadsT, hasSl_lit, Bool.or_false, flat_ns (eInt_ns _), flat_ns eBool_ns, flat_ns eStr_ns, flat_ns eGJob_ns, flat_ns eGEdge_ns, flat_ns eGAsked_ns, flat_ns eGMsg_ns, flat_ns eGrule_ns, flat_ns eGA199_ns, flat_ns eGA202_ns])), z⟩
  refine cond_some hF (fun h744 hF => ?_) (fun h744 hF => ?_)
  ·
    have pq747 : ∀ {l : List Cond}, HoldAll E H hn5 l → HoldAll E H hn5 (.test (beqb (ieq r678.1 r742.1) true) true :: .test (beqb (ieq r678.1 r742.1) true) true :: .test (beqb (ieq r678.1 r742.1) true) true :: .test (ieq r678.1 r742.1) true :: l) := fun z => ⟨(beqb_t h744), (beqb_t h744), (beqb_t h744), h744, z⟩
    refine cond_some hF (fun h745 hF => ?_) (fun h745 hF => ?_)
    ·
      have hr := Option.some.inj hF
      subst hr
      have pz : HoldAll E H hn5 [.test (beqb (beqb r678.2 r742.2) true) true, .call 45 [] (Res.mk [(.one (.im (.lit (.bool true))))] []), .test (leadsAny (Res.mk [(.one (.im (.lit (.bool true))))] [])) false, .test (beqb r678.2 r742.2) true] := ⟨(beqb_t h745), knows45, (leads_ok (by simp only [leadsAny, List.any_cons, List.any_nil, RV.leads, RC.leads, leadsT, hasSl_lit, Bool.or_false, flat_ns (eInt_ns _), flat_ns eBool_ns, flat_ns eStr_ns, flat_ns eGJob_ns, flat_ns eGEdge_ns, flat_ns eGAsked_ns, flat_ns eGMsg_ns, flat_ns eGrule_ns, flat_ns eGA199_ns, flat_ns eGA202_ns])), h745, trivial⟩
      exact fn_playC hn5 (f := 5) (ads := [.agg (eGBarrier a616), .one (.lit (.int .i64 a617))]) (r := F5_res true) (pq746 (pq747 pz)) (by kernel_rfl) (by kernel_rfl)
    have hr := Option.some.inj hF
    subst hr
    have pz : HoldAll E H hn5 [.test (beqb (beqb r678.2 r742.2) true) false, .test (beqb r678.2 r742.2) false] := ⟨(beqb_t h745), h745, trivial⟩
    exact fn_playC hn5 (f := 5) (ads := [.agg (eGBarrier a616), .one (.lit (.int .i64 a617))]) (r := F5_res false) (pq746 (pq747 pz)) (by kernel_rfl) (by kernel_rfl)
  have hr := Option.some.inj hF
  subst hr
  have pz : HoldAll E H hn5 [.test (beqb (ieq r678.1 r742.1) true) false, .test (beqb (ieq r678.1 r742.1) true) false, .test (beqb (ieq r678.1 r742.1) true) false, .test (ieq r678.1 r742.1) false, .test (beqb false true) false, .test false false] := ⟨(beqb_t h744), (beqb_t h744), (beqb_t h744), h744, (beqb_t rfl), rfl, trivial⟩
  exact fn_playC hn5 (f := 5) (ads := [.agg (eGBarrier a616), .one (.lit (.int .i64 a617))]) (r := F5_res false) (pq746 pz) (by kernel_rfl) (by kernel_rfl)

end Go.Proofs.Ytnjanliihnadjaa.Tm

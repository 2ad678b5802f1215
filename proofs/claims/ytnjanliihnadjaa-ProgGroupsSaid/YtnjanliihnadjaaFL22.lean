/- Printed by program: what each function computes, and that the machine answers so. Conditions: none. -/
import Derived.Test.YtnjanliihnadjaaTy
import Derived.Test.YtnjanliihnadjaaTab
import Derived.Test.YtnjanliihnadjaaKn
import Derived.Test.YtnjanliihnadjaaFP
import Derived.Test.YtnjanliihnadjaaFS
import Derived.Test.YtnjanliihnadjaaFT
import Derived.KernelRfl
set_option linter.unusedVariables false
set_option linter.unusedSimpArgs false
namespace Go.Proofs.Ytnjanliihnadjaa.Tm
open Go
/-! ### haywain/haywainlaw04.ProgStarts -/
noncomputable def hn22 : Hint := { H 22 with nt := 64, prot := 0 }
def F22_res (r4144 : Bool) : Res := ⟨[(.one (.im (.lit (.bool r4144))))], []⟩
def F22 (K : Nat) (a4071 : GGraph) (a4072 : GJob) (a4073 : Int) : Option (Bool) :=
  (F92 K a4071).bind fun r4074 =>
  bif r4074 then
    (some true)
  else
  (F95 K a4071 a4072 a4073).bind fun r4119 =>
  (F59 K a4071 a4072).bind fun r4121 =>
  bif (ieq r4121 0) then
    (bif (ilt a4073 0) then
      (bif (ieq r4119.1 0) then
        (bif (ieq r4119.2 4) then
          (some true)
        else
        some false)
      else
      some false)
    else
    bif (ile a4071.N a4073) then
      (bif (ieq r4119.1 0) then
        (bif (ieq r4119.2 4) then
          (some true)
        else
        some false)
      else
      some false)
    else
    (F96 K a4072 a4073).bind fun r4130 =>
    bif (ieq r4119.1 r4130) then
      (bif (ieq r4119.2 0) then
        (some true)
      else
      some false)
    else
    some false)
  else
  bif (ieq r4119.1 0) then
    (bif (ieq r4119.2 r4121) then
      (some true)
    else
    some false)
  else
  some false
theorem F22_ok (K : Nat) (a4071 : GGraph) (a4072 : GJob) (a4073 : Int) (r : Bool) (hF : F22 K a4071 a4072 a4073 = some r) : Evt E H 22 [.agg (eGGraph a4071), .agg (eGJob a4072), .one (.lit (.int .i64 a4073))] (F22_res r) := by
  rw [F22] at hF
  refine bind_some hF (fun r4074 h4075 hF => ?_)
  refine cond_some hF (fun h4076 hF => ?_) (fun h4076 hF => ?_)
  ·
    have hr := Option.some.inj hF
    subst hr
    have pz : HoldAll E H hn22 [.call 92 [.agg (eGGraph a4071)] (F92_res r4074), .test (leadsAny (Res.mk [(.one (.im (.lit (.bool r4074))))] [])) false, .test r4074 true, .call 93 [] (Res.mk [(.one (.im (.lit (.bool true))))] []), .test (leadsAny (Res.mk [(.one (.im (.lit (.bool true))))] [])) false] := ⟨(F92_ok K a4071 _ h4075), (leads_ok (by simp only [leadsAny, List.any_cons, List.any_nil, RV.leads, RC.leads, leadsT, hasSl_lit, Bool.or_false, flat_ns (eInt_ns _), flat_ns eBool_ns, flat_ns eStr_ns, flat_ns eGJob_ns, flat_ns eGEdge_ns, flat_ns eGAsked_ns, flat_ns eGMsg_ns, flat_ns eGrule_ns, flat_ns eGA199_ns, flat_ns eGA202_ns])), h4076, knows93, (leads_ok (by simp only [leadsAny, List.any_cons, List.any_nil, RV.leads, RC.leads, leadsT, hasSl_lit, Bool.or_false, flat_ns (eInt_ns _), flat_ns eBool_ns, flat_ns eStr_ns, flat_ns eGJob_ns, flat_ns eGEdge_ns, flat_ns eGAsked_ns, flat_ns eGMsg_ns, flat_ns eGrule_ns, flat_ns eGA199_ns, flat_ns eGA202_ns])), trivial⟩
    exact fn_playC hn22 (f := 22) (ads := [.agg (eGGraph a4071), .agg (eGJob a4072), .one (.lit (.int .i64 a4073))]) (r := F22_res true) pz (by kernel_rfl) (by kernel_rfl)
  refine bind_some hF (fun r4119 h4120 hF => ?_)
  refine bind_some hF (fun r4121 h4122 hF => ?_)
  have pq4136 : ∀ {l : List Cond}, HoldAll E H hn22 l → HoldAll E H hn22 (.call 92 [.agg (eGGraph a4071)] (F92_res r4074) :: .test (leadsAny (Res.mk [(.one (.im (.lit (.bool r4074))))] [])) false :: .test r4074 false :: .call 95 [.agg (eGGraph a4071), .agg (eGJob a4072), .one (.lit (.int .i64 a4073))] (F95_res r4119) :: .test (leadsAny (Res.mk [(.one (.im (.lit (.int .i64 r4119.1)))), (.one (.im (.lit (.int .i64 r4119.2))))] [])) false :: .call 59 [.agg (eGGraph a4071), .agg (eGJob a4072)] (F59_res r4121) :: .test (leadsAny (Res.mk [(.one (.im (.lit (.int .i64 r4121))))] [])) false :: l) := fun z => ⟨(F92_ok K a4071 _ h4075), (leads_ok (by simp only [leadsAny, List.any_cons, List.any_nil, RV.leads, RC.leads, leadsT, hasSl_lit, Bool.or_false, flat_ns (eInt_ns _), flat_ns eBool_ns, flat_ns eStr_ns, flat_ns eGJob_ns, flat_ns eGEdge_ns, flat_ns eGAsked_ns, flat_ns eGMsg_ns, flat_ns eGrule_ns, flat_ns eGA199_ns, flat_ns eGA202_ns])), h4076, (F95_ok K a4071 a4072 a4073 _ h4120), (leads_ok (by simp only [leadsAny, List.any_cons, List.any_nil, RV.leads, RC.leads, leadsT, hasSl_lit, Bool.or_false, flat_ns (eInt_ns _), flat_ns eBool_ns, flat_ns eStr_ns, flat_ns eGJob_ns, flat_ns eGEdge_ns, flat_ns eGAsked_ns, flat_ns eGMsg_ns, flat_ns eGrule_ns, flat_ns eGA199_ns, flat_ns eGA202_ns])), (F59_ok K a4071 a4072 _ h4122), (leads_ok (by simp only [leadsAny, List.any_cons, List.any_nil, RV.leads, RC.leads, leadsT, hasSl_lit, Bool.or_false, flat_ns (eInt_ns _), flat_ns eBool_ns, flat_ns eStr_ns, flat_ns eGJob_ns, flat_ns eGEdge_ns, flat_ns eGAsked_ns, flat_ns eGMsg_ns, flat_ns eGrule_ns, flat_ns eGA199_ns, flat_ns eGA202_ns])), z⟩
  refine cond_some hF (fun h4123 hF => ?_) (fun h4123 hF => ?_)
  ·
    refine cond_some hF (fun h4124 hF => ?_) (fun h4124 hF => ?_)
    ·
      have pq4137 : ∀ {l : List Cond}, HoldAll E H hn22 l → HoldAll E H hn22 (.test (ine r4121 0) false :: .test (beqb (ilt a4073 0) false) false :: .test (beqb (ilt a4073 0) false) false :: .test (beqb (ilt a4073 0) false) false :: .test (beqb (ilt a4073 0) false) false :: .test (ilt a4073 0) true :: .test true true :: l) := fun z => ⟨(ine_t h4123), (beqb_ft h4124), (beqb_ft h4124), (beqb_ft h4124), (beqb_ft h4124), h4124, rfl, z⟩
      refine cond_some hF (fun h4125 hF => ?_) (fun h4125 hF => ?_)
      ·
        have pq4138 : ∀ {l : List Cond}, HoldAll E H hn22 l → HoldAll E H hn22 (.test (beqb (ieq r4119.1 0) true) true :: .test (beqb (ieq r4119.1 0) true) true :: .test (ieq r4119.1 0) true :: l) := fun z => ⟨(beqb_t h4125), (beqb_t h4125), h4125, z⟩
        refine cond_some hF (fun h4126 hF => ?_) (fun h4126 hF => ?_)
        ·
          have hr := Option.some.inj hF
          subst hr
          have pz : HoldAll E H hn22 [.test (beqb (ieq r4119.2 4) true) true, .call 93 [] (Res.mk [(.one (.im (.lit (.bool true))))] []), .test (leadsAny (Res.mk [(.one (.im (.lit (.bool true))))] [])) false, .test (ieq r4119.2 4) true] := ⟨(beqb_t h4126), knows93, (leads_ok (by simp only [leadsAny, List.any_cons, List.any_nil, RV.leads, RC.leads, leadsT, hasSl_lit, Bool.or_false, flat_ns (eInt_ns _), flat_ns eBool_ns, flat_ns eStr_ns, flat_ns eGJob_ns, flat_ns eGEdge_ns, flat_ns eGAsked_ns, flat_ns eGMsg_ns, flat_ns eGrule_ns, flat_ns eGA199_ns, flat_ns eGA202_ns])), h4126, trivial⟩
          exact fn_playC hn22 (f := 22) (ads := [.agg (eGGraph a4071), .agg (eGJob a4072), .one (.lit (.int .i64 a4073))]) (r := F22_res true) (pq4136 (pq4137 (pq4138 pz))) (by kernel_rfl) (by kernel_rfl)
        have hr := Option.some.inj hF
        subst hr
        have pz : HoldAll E H hn22 [.test (beqb (ieq r4119.2 4) true) false, .test (ieq r4119.2 4) false] := ⟨(beqb_t h4126), h4126, trivial⟩
        exact fn_playC hn22 (f := 22) (ads := [.agg (eGGraph a4071), .agg (eGJob a4072), .one (.lit (.int .i64 a4073))]) (r := F22_res false) (pq4136 (pq4137 (pq4138 pz))) (by kernel_rfl) (by kernel_rfl)
      have hr := Option.some.inj hF
      subst hr
      have pz : HoldAll E H hn22 [.test (beqb (ieq r4119.1 0) true) false, .test (beqb (ieq r4119.1 0) true) false, .test (ieq r4119.1 0) false, .test (beqb false true) false, .test false false] := ⟨(beqb_t h4125), (beqb_t h4125), h4125, (beqb_t rfl), rfl, trivial⟩
      exact fn_playC hn22 (f := 22) (ads := [.agg (eGGraph a4071), .agg (eGJob a4072), .one (.lit (.int .i64 a4073))]) (r := F22_res false) (pq4136 (pq4137 pz)) (by kernel_rfl) (by kernel_rfl)
    have pq4139 : ∀ {l : List Cond}, HoldAll E H hn22 l → HoldAll E H hn22 (.test (ine r4121 0) false :: .test (beqb (ilt a4073 0) false) true :: .test (beqb (ilt a4073 0) false) true :: .test (beqb (ilt a4073 0) false) true :: .test (beqb (ilt a4073 0) false) true :: .test (ilt a4073 0) false :: l) := fun z => ⟨(ine_t h4123), (beqb_ff h4124), (beqb_ff h4124), (beqb_ff h4124), (beqb_ff h4124), h4124, z⟩
    refine cond_some hF (fun h4127 hF => ?_) (fun h4127 hF => ?_)
    ·
      refine cond_some hF (fun h4128 hF => ?_) (fun h4128 hF => ?_)
      ·
        have pq4140 : ∀ {l : List Cond}, HoldAll E H hn22 l → HoldAll E H hn22 (.test (ige a4073 a4071.N) true :: .test (beqb (ieq r4119.1 0) true) true :: .test (beqb (ieq r4119.1 0) true) true :: .test (ieq r4119.1 0) true :: l) := fun z => ⟨(ige_eq h4127), (beqb_t h4128), (beqb_t h4128), h4128, z⟩
        refine cond_some hF (fun h4129 hF => ?_) (fun h4129 hF => ?_)
        ·
          have hr := Option.some.inj hF
          subst hr
          have pz : HoldAll E H hn22 [.test (beqb (ieq r4119.2 4) true) true, .call 93 [] (Res.mk [(.one (.im (.lit (.bool true))))] []), .test (leadsAny (Res.mk [(.one (.im (.lit (.bool true))))] [])) false, .test (ieq r4119.2 4) true] := ⟨(beqb_t h4129), knows93, (leads_ok (by simp only [leadsAny, List.any_cons, List.any_nil, RV.leads, RC.leads, leadsT, hasSl_lit, Bool.or_false, flat_ns (eInt_ns _), flat_ns eBool_ns, flat_ns eStr_ns, flat_ns eGJob_ns, flat_ns eGEdge_ns, flat_ns eGAsked_ns, flat_ns eGMsg_ns, flat_ns eGrule_ns, flat_ns eGA199_ns, flat_ns eGA202_ns])), h4129, trivial⟩
          exact fn_playC hn22 (f := 22) (ads := [.agg (eGGraph a4071), .agg (eGJob a4072), .one (.lit (.int .i64 a4073))]) (r := F22_res true) (pq4136 (pq4139 (pq4140 pz))) (by kernel_rfl) (by kernel_rfl)
        have hr := Option.some.inj hF
        subst hr
        have pz : HoldAll E H hn22 [.test (beqb (ieq r4119.2 4) true) false, .test (ieq r4119.2 4) false] := ⟨(beqb_t h4129), h4129, trivial⟩
        exact fn_playC hn22 (f := 22) (ads := [.agg (eGGraph a4071), .agg (eGJob a4072), .one (.lit (.int .i64 a4073))]) (r := F22_res false) (pq4136 (pq4139 (pq4140 pz))) (by kernel_rfl) (by kernel_rfl)
      have hr := Option.some.inj hF
      subst hr
      have pz : HoldAll E H hn22 [.test (ige a4073 a4071.N) true, .test (beqb (ieq r4119.1 0) true) false, .test (beqb (ieq r4119.1 0) true) false, .test (ieq r4119.1 0) false, .test (beqb false true) false, .test false false] := ⟨(ige_eq h4127), (beqb_t h4128), (beqb_t h4128), h4128, (beqb_t rfl), rfl, trivial⟩
      exact fn_playC hn22 (f := 22) (ads := [.agg (eGGraph a4071), .agg (eGJob a4072), .one (.lit (.int .i64 a4073))]) (r := F22_res false) (pq4136 (pq4139 pz)) (by kernel_rfl) (by kernel_rfl)
    refine bind_some hF (fun r4130 h4131 hF => ?_)
    have pq4141 : ∀ {l : List Cond}, HoldAll E H hn22 l → HoldAll E H hn22 (.test (ige a4073 a4071.N) false :: .call 96 [.agg (eGJob a4072), .one (.lit (.int .i64 a4073))] (F96_res r4130) :: .test (leadsAny (Res.mk [(.one (.im (.lit (.int .i64 r4130))))] [])) false :: l) := fun z => ⟨(ige_eq h4127), (F96_ok K a4072 a4073 _ h4131), (leads_ok (by simp only [leadsAny, List.any_cons, List.any_nil, RV.leads, RC.leads, leadsT, hasSl_lit, Bool.or_false, flat_ns (eInt_ns _), flat_ns eBool_ns, flat_ns eStr_ns, flat_ns eGJob_ns, flat_ns eGEdge_ns, flat_ns eGAsked_ns, flat_ns eGMsg_ns, flat_ns eGrule_ns, flat_ns eGA199_ns, flat_ns eGA202_ns])), z⟩
    refine cond_some hF (fun h4132 hF => ?_) (fun h4132 hF => ?_)
    ·
      have pq4142 : ∀ {l : List Cond}, HoldAll E H hn22 l → HoldAll E H hn22 (.test (beqb (ieq r4119.1 r4130) true) true :: .test (beqb (ieq r4119.1 r4130) true) true :: .test (ieq r4119.1 r4130) true :: l) := fun z => ⟨(beqb_t h4132), (beqb_t h4132), h4132, z⟩
      refine cond_some hF (fun h4133 hF => ?_) (fun h4133 hF => ?_)
      ·
        have hr := Option.some.inj hF
        subst hr
        have pz : HoldAll E H hn22 [.test (beqb (ieq r4119.2 0) true) true, .call 93 [] (Res.mk [(.one (.im (.lit (.bool true))))] []), .test (leadsAny (Res.mk [(.one (.im (.lit (.bool true))))] [])) false, .test (ieq r4119.2 0) true] := ⟨(beqb_t h4133), knows93, (leads_ok (by simp only [leadsAny, List.any_cons, List.any_nil, RV.leads, RC.leads, leadsT, hasSl_lit, Bool.or_false, flat_ns (eInt_ns _), flat_ns eBool_ns, flat_ns eStr_ns, flat_ns eGJob_ns, flat_ns eGEdge_ns, flat_ns eGAsked_ns, flat_ns eGMsg_ns, flat_ns eGrule_ns, flat_ns eGA199_ns, flat_ns eGA202_ns])), h4133, trivial⟩
        exact fn_playC hn22 (f := 22) (ads := [.agg (eGGraph a4071), .agg (eGJob a4072), .one (.lit (.int .i64 a4073))]) (r := F22_res true) (pq4136 (pq4139 (pq4141 (pq4142 pz)))) (by kernel_rfl) (by kernel_rfl)
      have hr := Option.some.inj hF
      subst hr
      have pz : HoldAll E H hn22 [.test (beqb (ieq r4119.2 0) true) false, .test (ieq r4119.2 0) false] := ⟨(beqb_t h4133), h4133, trivial⟩
      exact fn_playC hn22 (f := 22) (ads := [.agg (eGGraph a4071), .agg (eGJob a4072), .one (.lit (.int .i64 a4073))]) (r := F22_res false) (pq4136 (pq4139 (pq4141 (pq4142 pz)))) (by kernel_rfl) (by kernel_rfl)
    have hr := Option.some.inj hF
    subst hr
    have pz : HoldAll E H hn22 [.test (beqb (ieq r4119.1 r4130) true) false, .test (beqb (ieq r4119.1 r4130) true) false, .test (ieq r4119.1 r4130) false, .test (beqb false true) false, .test false false] := ⟨(beqb_t h4132), (beqb_t h4132), h4132, (beqb_t rfl), rfl, trivial⟩
    exact fn_playC hn22 (f := 22) (ads := [.agg (eGGraph a4071), .agg (eGJob a4072), .one (.lit (.int .i64 a4073))]) (r := F22_res false) (pq4136 (pq4139 (pq4141 pz))) (by kernel_rfl) (by kernel_rfl)
  refine cond_some hF (fun h4134 hF => ?_) (fun h4134 hF => ?_)
  ·
    have pq4143 : ∀ {l : List Cond}, HoldAll E H hn22 l → HoldAll E H hn22 (.test (ine r4121 0) true :: .test (beqb (ieq r4119.1 0) true) true :: .test (beqb (ieq r4119.1 0) true) true :: .test (beqb (ieq r4119.1 0) true) true :: .test (ieq r4119.1 0) true :: l) := fun z => ⟨(ine_f h4123), (beqb_t h4134), (beqb_t h4134), (beqb_t h4134), h4134, z⟩
    refine cond_some hF (fun h4135 hF => ?_) (fun h4135 hF => ?_)
    ·
      have hr := Option.some.inj hF
      subst hr
      have pz : HoldAll E H hn22 [.test (beqb (ieq r4119.2 r4121) true) true, .call 93 [] (Res.mk [(.one (.im (.lit (.bool true))))] []), .test (leadsAny (Res.mk [(.one (.im (.lit (.bool true))))] [])) false, .test (ieq r4119.2 r4121) true] := ⟨(beqb_t h4135), knows93, (leads_ok (by simp only [leadsAny, List.any_cons, List.any_nil, RV.leads, RC.leads, leadsT, hasSl_lit, Bool.or_false, flat_ns (eInt_ns _), flat_ns eBool_ns, flat_ns eStr_ns, flat_ns eGJob_ns, flat_ns eGEdge_ns, flat_ns eGAsked_ns, flat_ns eGMsg_ns, flat_ns eGrule_ns, flat_ns eGA199_ns, flat_ns eGA202_ns])), h4135, trivial⟩
      exact fn_playC hn22 (f := 22) (ads := [.agg (eGGraph a4071), .agg (eGJob a4072), .one (.lit (.int .i64 a4073))]) (r := F22_res true) (pq4136 (pq4143 pz)) (by kernel_rfl) (by kernel_rfl)
    have hr := Option.some.inj hF
    subst hr
    have pz : HoldAll E H hn22 [.test (beqb (ieq r4119.2 r4121) true) false, .test (ieq r4119.2 r4121) false] := ⟨(beqb_t h4135), h4135, trivial⟩
    exact fn_playC hn22 (f := 22) (ads := [.agg (eGGraph a4071), .agg (eGJob a4072), .one (.lit (.int .i64 a4073))]) (r := F22_res false) (pq4136 (pq4143 pz)) (by kernel_rfl) (by kernel_rfl)
  have hr := Option.some.inj hF
  subst hr
  have pz : HoldAll E H hn22 [.test (ine r4121 0) true, .test (beqb (ieq r4119.1 0) true) false, .test (beqb (ieq r4119.1 0) true) false, .test (beqb (ieq r4119.1 0) true) false, .test (ieq r4119.1 0) false, .test (beqb false true) false, .test false false] := ⟨(ine_f h4123), (beqb_t h4134), (beqb_t h4134), (beqb_t h4134), h4134, (beqb_t rfl), rfl, trivial⟩
  exact fn_playC hn22 (f := 22) (ads := [.agg (eGGraph a4071), .agg (eGJob a4072), .one (.lit (.int .i64 a4073))]) (r := F22_res false) (pq4136 pz) (by kernel_rfl) (by kernel_rfl)

end Go.Proofs.Ytnjanliihnadjaa.Tm

/- Printed by program: what each function computes, and that the machine answers so. Conditions: none. -/
import Derived.Test.YtnjanliihnadjaaTy
import Derived.Test.YtnjanliihnadjaaTab
import Derived.Test.YtnjanliihnadjaaKn
import Derived.Test.YtnjanliihnadjaaFP
import Derived.Test.YtnjanliihnadjaaFSa
import Derived.Test.YtnjanliihnadjaaFSt
import Derived.KernelRfl
set_option linter.unusedVariables false
set_option linter.unusedSimpArgs false
namespace Go.Proofs.Ytnjanliihnadjaa.Tm
open Go
/-! ### haywain/haywainlaw04.ProgRests -/
noncomputable def hn27 : Hint := { H 27 with nt := 81, prot := 0 }
def F27_res (r5043 : Bool) : Res := ⟨[(.one (.im (.lit (.bool r5043))))], []⟩
def F27 (K : Nat) (a5008 : GGraph) (a5009 : GJob) (a5010 : Int) (a5011 : Int) (a5012 : Int) : Option (Bool) :=
  (F92 K a5008).bind fun r5013 =>
  bif r5013 then
    (some true)
  else
  bif (ieq a5009.Prog 5) then
    (some true)
  else
  bif (ilt a5010 1) then
    (some true)
  else
  bif (ilt 40 a5010) then
    (some true)
  else
  (F99 K a5008 a5009 a5010 a5011 a5012 5 false).bind fun r5019 =>
  (F59 K a5008 a5009).bind fun r5021 =>
  bif (ieq r5021 0) then
    (bif (ilt a5011 0) then
      (bif (ieq r5019.2.2.2 0) then
        (some false)
      else
      some true)
    else
    bif (ile a5008.N a5011) then
      (bif (ieq r5019.2.2.2 0) then
        (some false)
      else
      some true)
    else
    bif (ieq r5019.1 a5012) then
      (bif (ieq (nlen (len r5019.2.1)) 0) then
        (bif r5019.2.2.1 then
          (bif (ieq r5019.2.2.2 0) then
            (some true)
          else
          some false)
        else
        some false)
      else
      some false)
    else
    some false)
  else
  bif (ieq r5019.2.2.2 0) then
    (some false)
  else
  some true
theorem F27_ok (K : Nat) (a5008 : GGraph) (a5009 : GJob) (a5010 : Int) (a5011 : Int) (a5012 : Int) (r : Bool) (hF : F27 K a5008 a5009 a5010 a5011 a5012 = some r) : Evt E H 27 [.agg (eGGraph a5008), .agg (eGJob a5009), .one (.lit (.int .i64 a5010)), .one (.lit (.int .i64 a5011)), .one (.lit (.int .i64 a5012))] (F27_res r) := by
  rw [F27] at hF
  refine bind_some hF (fun r5013 h5014 hF => ?_)
  refine cond_some hF (fun h5015 hF => ?_) (fun h5015 hF => ?_)
  ·
    have hr := Option.some.inj hF
    subst hr
    have pz : HoldAll E H hn27 [.call 92 [.agg (eGGraph a5008)] (F92_res r5013), .test (leadsAny (Res.mk [(.one (.im (.lit (.bool r5013))))] [])) false, .test (beqb r5013 false) false, .test (beqb r5013 false) false, .test (beqb r5013 false) false, .test r5013 true, .test (beqb true false) false, .test (beqb true false) false, .test true true, .test (beqb true false) false, .test (beqb true false) false, .test true true, .test true true, .call 93 [] (Res.mk [(.one (.im (.lit (.bool true))))] []), .test (leadsAny (Res.mk [(.one (.im (.lit (.bool true))))] [])) false] := ⟨(F92_ok K a5008 _ h5014), (leads_ok (by simp only [leadsAny, List.any_cons, List.any_nil, RV.leads, RC.leads, leadsT, hasSl_lit, Bool.or_false, flat_ns (eInt_ns _), flat_ns eBool_ns, flat_ns eStr_ns, flat_ns eGJob_ns, flat_ns eGEdge_ns, flat_ns eGAsked_ns, flat_ns eGMsg_ns, flat_ns eGrule_ns, flat_ns eGA199_ns, flat_ns eGA202_ns])), (beqb_ft h5015), (beqb_ft h5015), (beqb_ft h5015), h5015, (beqb_ft rfl), (beqb_ft rfl), rfl, (beqb_ft rfl), (beqb_ft rfl), rfl, rfl, knows93, (leads_ok (by simp only [leadsAny, List.any_cons, List.any_nil, RV.leads, RC.leads, leadsT, hasSl_lit, Bool.or_false, flat_ns (eInt_ns _), flat_ns eBool_ns, flat_ns eStr_ns, flat_ns eGJob_ns, flat_ns eGEdge_ns, flat_ns eGAsked_ns, flat_ns eGMsg_ns, flat_ns eGrule_ns, flat_ns eGA199_ns, flat_ns eGA202_ns])), trivial⟩
    exact fn_playC hn27 (f := 27) (ads := [.agg (eGGraph a5008), .agg (eGJob a5009), .one (.lit (.int .i64 a5010)), .one (.lit (.int .i64 a5011)), .one (.lit (.int .i64 a5012))]) (r := F27_res true) pz (by kernel_rfl) (by kernel_rfl)
  have pq5033 : ∀ {l : List Cond}, HoldAll E H hn27 l → HoldAll E H hn27 (.call 92 [.agg (eGGraph a5008)] (F92_res r5013) :: .test (leadsAny (Res.mk [(.one (.im (.lit (.bool r5013))))] [])) false :: .test (beqb r5013 false) true :: .test (beqb r5013 false) true :: .test (beqb r5013 false) true :: .test r5013 false :: l) := fun z => ⟨(F92_ok K a5008 _ h5014), (leads_ok (by simp only [leadsAny, List.any_cons, List.any_nil, RV.leads, RC.leads, leadsT, hasSl_lit, Bool.or_false, flat_ns (eInt_ns _), flat_ns eBool_ns, flat_ns eStr_ns, flat_ns eGJob_ns, flat_ns eGEdge_ns, flat_ns eGAsked_ns, flat_ns eGMsg_ns, flat_ns eGrule_ns, flat_ns eGA199_ns, flat_ns eGA202_ns])), (beqb_ff h5015), (beqb_ff h5015), (beqb_ff h5015), h5015, z⟩
  refine cond_some hF (fun h5016 hF => ?_) (fun h5016 hF => ?_)
  ·
    have hr := Option.some.inj hF
    subst hr
    have pz : HoldAll E H hn27 [.test (beqb (ieq a5009.Prog 5) false) false, .test (beqb (ieq a5009.Prog 5) false) false, .test (ieq a5009.Prog 5) true, .test (beqb true false) false, .test (beqb true false) false, .test true true, .test true true, .call 93 [] (Res.mk [(.one (.im (.lit (.bool true))))] []), .test (leadsAny (Res.mk [(.one (.im (.lit (.bool true))))] [])) false] := ⟨(beqb_ft h5016), (beqb_ft h5016), h5016, (beqb_ft rfl), (beqb_ft rfl), rfl, rfl, knows93, (leads_ok (by simp only [leadsAny, List.any_cons, List.any_nil, RV.leads, RC.leads, leadsT, hasSl_lit, Bool.or_false, flat_ns (eInt_ns _), flat_ns eBool_ns, flat_ns eStr_ns, flat_ns eGJob_ns, flat_ns eGEdge_ns, flat_ns eGAsked_ns, flat_ns eGMsg_ns, flat_ns eGrule_ns, flat_ns eGA199_ns, flat_ns eGA202_ns])), trivial⟩
    exact fn_playC hn27 (f := 27) (ads := [.agg (eGGraph a5008), .agg (eGJob a5009), .one (.lit (.int .i64 a5010)), .one (.lit (.int .i64 a5011)), .one (.lit (.int .i64 a5012))]) (r := F27_res true) (pq5033 pz) (by kernel_rfl) (by kernel_rfl)
  have pq5034 : ∀ {l : List Cond}, HoldAll E H hn27 l → HoldAll E H hn27 (.test (beqb (ieq a5009.Prog 5) false) true :: .test (beqb (ieq a5009.Prog 5) false) true :: .test (ieq a5009.Prog 5) false :: l) := fun z => ⟨(beqb_ff h5016), (beqb_ff h5016), h5016, z⟩
  refine cond_some hF (fun h5017 hF => ?_) (fun h5017 hF => ?_)
  ·
    have hr := Option.some.inj hF
    subst hr
    have pz : HoldAll E H hn27 [.test (beqb (ilt a5010 1) false) false, .test (beqb (ilt a5010 1) false) false, .test (ilt a5010 1) true, .test true true, .call 93 [] (Res.mk [(.one (.im (.lit (.bool true))))] []), .test (leadsAny (Res.mk [(.one (.im (.lit (.bool true))))] [])) false] := ⟨(beqb_ft h5017), (beqb_ft h5017), h5017, rfl, knows93, (leads_ok (by simp only [leadsAny, List.any_cons, List.any_nil, RV.leads, RC.leads, leadsT, hasSl_lit, Bool.or_false, flat_ns (eInt_ns _), flat_ns eBool_ns, flat_ns eStr_ns, flat_ns eGJob_ns, flat_ns eGEdge_ns, flat_ns eGAsked_ns, flat_ns eGMsg_ns, flat_ns eGrule_ns, flat_ns eGA199_ns, flat_ns eGA202_ns])), trivial⟩
    exact fn_playC hn27 (f := 27) (ads := [.agg (eGGraph a5008), .agg (eGJob a5009), .one (.lit (.int .i64 a5010)), .one (.lit (.int .i64 a5011)), .one (.lit (.int .i64 a5012))]) (r := F27_res true) (pq5033 (pq5034 pz)) (by kernel_rfl) (by kernel_rfl)
  have pq5035 : ∀ {l : List Cond}, HoldAll E H hn27 l → HoldAll E H hn27 (.test (beqb (ilt a5010 1) false) true :: .test (beqb (ilt a5010 1) false) true :: .test (ilt a5010 1) false :: l) := fun z => ⟨(beqb_ff h5017), (beqb_ff h5017), h5017, z⟩
  refine cond_some hF (fun h5018 hF => ?_) (fun h5018 hF => ?_)
  ·
    have hr := Option.some.inj hF
    subst hr
    have pz : HoldAll E H hn27 [.test (igt a5010 40) true, .call 93 [] (Res.mk [(.one (.im (.lit (.bool true))))] []), .test (leadsAny (Res.mk [(.one (.im (.lit (.bool true))))] [])) false] := ⟨(igt_eq h5018), knows93, (leads_ok (by simp only [leadsAny, List.any_cons, List.any_nil, RV.leads, RC.leads, leadsT, hasSl_lit, Bool.or_false, flat_ns (eInt_ns _), flat_ns eBool_ns, flat_ns eStr_ns, flat_ns eGJob_ns, flat_ns eGEdge_ns, flat_ns eGAsked_ns, flat_ns eGMsg_ns, flat_ns eGrule_ns, flat_ns eGA199_ns, flat_ns eGA202_ns])), trivial⟩
    exact fn_playC hn27 (f := 27) (ads := [.agg (eGGraph a5008), .agg (eGJob a5009), .one (.lit (.int .i64 a5010)), .one (.lit (.int .i64 a5011)), .one (.lit (.int .i64 a5012))]) (r := F27_res true) (pq5033 (pq5034 (pq5035 pz))) (by kernel_rfl) (by kernel_rfl)
  refine bind_some hF (fun r5019 h5020 hF => ?_)
  refine bind_some hF (fun r5021 h5022 hF => ?_)
  have pq5036 : ∀ {l : List Cond}, HoldAll E H hn27 l → HoldAll E H hn27 (.test (igt a5010 40) false :: .call 99 [.agg (eGGraph a5008), .agg (eGJob a5009), .one (.lit (.int .i64 a5010)), .one (.lit (.int .i64 a5011)), .one (.lit (.int .i64 a5012)), .one (.lit (.int .i64 5)), .one (.lit (.bool false))] (F99_res r5019) :: .test (leadsAny (Res.mk [(.one (.im (.lit (.int .i64 r5019.1)))), (.one (.own 130 (.sl (len r5019.2.1) (flat eGMsg r5019.2.1)))), (.one (.im (.lit (.bool r5019.2.2.1)))), (.one (.im (.lit (.int .i64 r5019.2.2.2))))] [])) false :: .call 59 [.agg (eGGraph a5008), .agg (eGJob a5009)] (F59_res r5021) :: .test (leadsAny (Res.mk [(.one (.im (.lit (.int .i64 r5021))))] [])) false :: l) := fun z => ⟨(igt_eq h5018), (F99_ok K a5008 a5009 a5010 a5011 a5012 5 false _ h5020), (leads_ok (by simp only [leadsAny, List.any_cons, List.any_nil, RV.leads, RC.leads, leadsT, hasSl_lit, Bool.or_false, flat_ns (eInt_ns _), flat_ns eBool_ns, flat_ns eStr_ns, flat_ns eGJob_ns, flat_ns eGEdge_ns, flat_ns eGAsked_ns, flat_ns eGMsg_ns, flat_ns eGrule_ns, flat_ns eGA199_ns, flat_ns eGA202_ns])), (F59_ok K a5008 a5009 _ h5022), (leads_ok (by simp only [leadsAny, List.any_cons, List.any_nil, RV.leads, RC.leads, leadsT, hasSl_lit, Bool.or_false, flat_ns (eInt_ns _), flat_ns eBool_ns, flat_ns eStr_ns, flat_ns eGJob_ns, flat_ns eGEdge_ns, flat_ns eGAsked_ns, flat_ns eGMsg_ns, flat_ns eGrule_ns, flat_ns eGA199_ns, flat_ns eGA202_ns])), z⟩
  refine cond_some hF (fun h5023 hF => ?_) (fun h5023 hF => ?_)
  ·
    have pq5037 : ∀ {l : List Cond}, HoldAll E H hn27 l → HoldAll E H hn27 (.test (beqb (ine r5021 0) false) true :: .test (beqb (ine r5021 0) false) true :: .test (ine r5021 0) false :: l) := fun z => ⟨(beqb_ff (ine_t h5023)), (beqb_ff (ine_t h5023)), (ine_t h5023), z⟩
    refine cond_some hF (fun h5024 hF => ?_) (fun h5024 hF => ?_)
    ·
      have pq5038 : ∀ {l : List Cond}, HoldAll E H hn27 l → HoldAll E H hn27 (.test (beqb (ilt a5011 0) false) false :: .test (beqb (ilt a5011 0) false) false :: .test (beqb (ilt a5011 0) false) false :: .test (beqb (ilt a5011 0) false) false :: .test (ilt a5011 0) true :: .test true true :: l) := fun z => ⟨(beqb_ft h5024), (beqb_ft h5024), (beqb_ft h5024), (beqb_ft h5024), h5024, rfl, z⟩
      refine cond_some hF (fun h5025 hF => ?_) (fun h5025 hF => ?_)
      ·
        have hr := Option.some.inj hF
        subst hr
        have pz : HoldAll E H hn27 [.test (beqb (ine r5019.2.2.2 0) true) false, .test (ine r5019.2.2.2 0) false] := ⟨(beqb_t (ine_t h5025)), (ine_t h5025), trivial⟩
        exact fn_playC hn27 (f := 27) (ads := [.agg (eGGraph a5008), .agg (eGJob a5009), .one (.lit (.int .i64 a5010)), .one (.lit (.int .i64 a5011)), .one (.lit (.int .i64 a5012))]) (r := F27_res false) (pq5033 (pq5034 (pq5035 (pq5036 (pq5037 (pq5038 pz)))))) (by kernel_rfl) (by kernel_rfl)
      have hr := Option.some.inj hF
      subst hr
      have pz : HoldAll E H hn27 [.test (beqb (ine r5019.2.2.2 0) true) true, .call 93 [] (Res.mk [(.one (.im (.lit (.bool true))))] []), .test (leadsAny (Res.mk [(.one (.im (.lit (.bool true))))] [])) false, .test (ine r5019.2.2.2 0) true] := ⟨(beqb_t (ine_f h5025)), knows93, (leads_ok (by simp only [leadsAny, List.any_cons, List.any_nil, RV.leads, RC.leads, leadsT, hasSl_lit, Bool.or_false, flat_ns (eInt_ns _), flat_ns eBool_ns, flat_ns eStr_ns, flat_ns eGJob_ns, flat_ns eGEdge_ns, flat_ns eGAsked_ns, flat_ns eGMsg_ns, flat_ns eGrule_ns, flat_ns eGA199_ns, flat_ns eGA202_ns])), (ine_f h5025), trivial⟩
      exact fn_playC hn27 (f := 27) (ads := [.agg (eGGraph a5008), .agg (eGJob a5009), .one (.lit (.int .i64 a5010)), .one (.lit (.int .i64 a5011)), .one (.lit (.int .i64 a5012))]) (r := F27_res true) (pq5033 (pq5034 (pq5035 (pq5036 (pq5037 (pq5038 pz)))))) (by kernel_rfl) (by kernel_rfl)
    have pq5039 : ∀ {l : List Cond}, HoldAll E H hn27 l → HoldAll E H hn27 (.test (beqb (ilt a5011 0) false) true :: .test (beqb (ilt a5011 0) false) true :: .test (beqb (ilt a5011 0) false) true :: .test (beqb (ilt a5011 0) false) true :: .test (ilt a5011 0) false :: l) := fun z => ⟨(beqb_ff h5024), (beqb_ff h5024), (beqb_ff h5024), (beqb_ff h5024), h5024, z⟩
    refine cond_some hF (fun h5026 hF => ?_) (fun h5026 hF => ?_)
    ·
      refine cond_some hF (fun h5027 hF => ?_) (fun h5027 hF => ?_)
      ·
        have hr := Option.some.inj hF
        subst hr
        have pz : HoldAll E H hn27 [.test (ige a5011 a5008.N) true, .test (beqb (ine r5019.2.2.2 0) true) false, .test (ine r5019.2.2.2 0) false] := ⟨(ige_eq h5026), (beqb_t (ine_t h5027)), (ine_t h5027), trivial⟩
        exact fn_playC hn27 (f := 27) (ads := [.agg (eGGraph a5008), .agg (eGJob a5009), .one (.lit (.int .i64 a5010)), .one (.lit (.int .i64 a5011)), .one (.lit (.int .i64 a5012))]) (r := F27_res false) (pq5033 (pq5034 (pq5035 (pq5036 (pq5037 (pq5039 pz)))))) (by kernel_rfl) (by kernel_rfl)
      have hr := Option.some.inj hF
      subst hr
      have pz : HoldAll E H hn27 [.test (ige a5011 a5008.N) true, .test (beqb (ine r5019.2.2.2 0) true) true, .call 93 [] (Res.mk [(.one (.im (.lit (.bool true))))] []), .test (leadsAny (Res.mk [(.one (.im (.lit (.bool true))))] [])) false, .test (ine r5019.2.2.2 0) true] := ⟨(ige_eq h5026), (beqb_t (ine_f h5027)), knows93, (leads_ok (by simp only [leadsAny, List.any_cons, List.any_nil, RV.leads, RC.leads, leadsT, hasSl_lit, Bool.or_false, flat_ns (eInt_ns _), flat_ns eBool_ns, flat_ns eStr_ns, flat_ns eGJob_ns, flat_ns eGEdge_ns, flat_ns eGAsked_ns, flat_ns eGMsg_ns, flat_ns eGrule_ns, flat_ns eGA199_ns, flat_ns eGA202_ns])), (ine_f h5027), trivial⟩
      exact fn_playC hn27 (f := 27) (ads := [.agg (eGGraph a5008), .agg (eGJob a5009), .one (.lit (.int .i64 a5010)), .one (.lit (.int .i64 a5011)), .one (.lit (.int .i64 a5012))]) (r := F27_res true) (pq5033 (pq5034 (pq5035 (pq5036 (pq5037 (pq5039 pz)))))) (by kernel_rfl) (by kernel_rfl)
    refine cond_some hF (fun h5028 hF => ?_) (fun h5028 hF => ?_)
    ·
      have pq5040 : ∀ {l : List Cond}, HoldAll E H hn27 l → HoldAll E H hn27 (.test (ige a5011 a5008.N) false :: .test (beqb (ieq r5019.1 a5012) true) true :: .test (beqb (ieq r5019.1 a5012) true) true :: .int (nlen (len r5019.2.1)) (nlen (len r5019.2.1)) :: .test (beqb (ieq r5019.1 a5012) true) true :: .test (ieq r5019.1 a5012) true :: l) := fun z => ⟨(ige_eq h5026), (beqb_t h5028), (beqb_t h5028), rfl, (beqb_t h5028), h5028, z⟩
      refine cond_some hF (fun h5029 hF => ?_) (fun h5029 hF => ?_)
      ·
        refine cond_some hF (fun h5030 hF => ?_) (fun h5030 hF => ?_)
        ·
          have pq5041 : ∀ {l : List Cond}, HoldAll E H hn27 l → HoldAll E H hn27 (.test (beqb (ieq (nlen (len r5019.2.1)) 0) true) true :: .test (ieq (nlen (len r5019.2.1)) 0) true :: .test (beqb r5019.2.2.1 true) true :: .test (beqb r5019.2.2.1 true) true :: .test r5019.2.2.1 true :: l) := fun z => ⟨(beqb_t h5029), h5029, (beqb_t h5030), (beqb_t h5030), h5030, z⟩
          refine cond_some hF (fun h5031 hF => ?_) (fun h5031 hF => ?_)
          ·
            have hr := Option.some.inj hF
            subst hr
            have pz : HoldAll E H hn27 [.test (beqb (ieq r5019.2.2.2 0) true) true, .call 93 [] (Res.mk [(.one (.im (.lit (.bool true))))] []), .test (leadsAny (Res.mk [(.one (.im (.lit (.bool true))))] [])) false, .test (ieq r5019.2.2.2 0) true] := ⟨(beqb_t h5031), knows93, (leads_ok (by simp only [leadsAny, List.any_cons, List.any_nil, RV.leads, RC.leads, leadsT, hasSl_lit, Bool.or_false, flat_ns (eInt_ns _), flat_ns eBool_ns, flat_ns eStr_ns, flat_ns eGJob_ns, flat_ns eGEdge_ns, flat_ns eGAsked_ns, flat_ns eGMsg_ns, flat_ns eGrule_ns, flat_ns eGA199_ns, flat_ns eGA202_ns])), h5031, trivial⟩
            exact fn_playC hn27 (f := 27) (ads := [.agg (eGGraph a5008), .agg (eGJob a5009), .one (.lit (.int .i64 a5010)), .one (.lit (.int .i64 a5011)), .one (.lit (.int .i64 a5012))]) (r := F27_res true) (pq5033 (pq5034 (pq5035 (pq5036 (pq5037 (pq5039 (pq5040 (pq5041 pz)))))))) (by kernel_rfl) (by kernel_rfl)
          have hr := Option.some.inj hF
          subst hr
          have pz : HoldAll E H hn27 [.test (beqb (ieq r5019.2.2.2 0) true) false, .test (ieq r5019.2.2.2 0) false] := ⟨(beqb_t h5031), h5031, trivial⟩
          exact fn_playC hn27 (f := 27) (ads := [.agg (eGGraph a5008), .agg (eGJob a5009), .one (.lit (.int .i64 a5010)), .one (.lit (.int .i64 a5011)), .one (.lit (.int .i64 a5012))]) (r := F27_res false) (pq5033 (pq5034 (pq5035 (pq5036 (pq5037 (pq5039 (pq5040 (pq5041 pz)))))))) (by kernel_rfl) (by kernel_rfl)
        have hr := Option.some.inj hF
        subst hr
        have pz : HoldAll E H hn27 [.test (beqb (ieq (nlen (len r5019.2.1)) 0) true) true, .test (ieq (nlen (len r5019.2.1)) 0) true, .test (beqb r5019.2.2.1 true) false, .test (beqb r5019.2.2.1 true) false, .test r5019.2.2.1 false, .test (beqb false true) false, .test false false] := ⟨(beqb_t h5029), h5029, (beqb_t h5030), (beqb_t h5030), h5030, (beqb_t rfl), rfl, trivial⟩
        exact fn_playC hn27 (f := 27) (ads := [.agg (eGGraph a5008), .agg (eGJob a5009), .one (.lit (.int .i64 a5010)), .one (.lit (.int .i64 a5011)), .one (.lit (.int .i64 a5012))]) (r := F27_res false) (pq5033 (pq5034 (pq5035 (pq5036 (pq5037 (pq5039 (pq5040 pz))))))) (by kernel_rfl) (by kernel_rfl)
      have hr := Option.some.inj hF
      subst hr
      have pz : HoldAll E H hn27 [.test (beqb (ieq (nlen (len r5019.2.1)) 0) true) false, .test (ieq (nlen (len r5019.2.1)) 0) false, .test (beqb false true) false, .test (beqb false true) false, .test false false, .test (beqb false true) false, .test false false] := ⟨(beqb_t h5029), h5029, (beqb_t rfl), (beqb_t rfl), rfl, (beqb_t rfl), rfl, trivial⟩
      exact fn_playC hn27 (f := 27) (ads := [.agg (eGGraph a5008), .agg (eGJob a5009), .one (.lit (.int .i64 a5010)), .one (.lit (.int .i64 a5011)), .one (.lit (.int .i64 a5012))]) (r := F27_res false) (pq5033 (pq5034 (pq5035 (pq5036 (pq5037 (pq5039 (pq5040 pz))))))) (by kernel_rfl) (by kernel_rfl)
    have hr := Option.some.inj hF
    subst hr
    have pz : HoldAll E H hn27 [.test (ige a5011 a5008.N) false, .test (beqb (ieq r5019.1 a5012) true) false, .test (beqb (ieq r5019.1 a5012) true) false, .test (beqb (ieq r5019.1 a5012) true) false, .test (ieq r5019.1 a5012) false, .test (beqb false true) false, .test false false, .test (beqb false true) false, .test (beqb false true) false, .test false false, .test (beqb false true) false, .test false false] := ⟨(ige_eq h5026), (beqb_t h5028), (beqb_t h5028), (beqb_t h5028), h5028, (beqb_t rfl), rfl, (beqb_t rfl), (beqb_t rfl), rfl, (beqb_t rfl), rfl, trivial⟩
    exact fn_playC hn27 (f := 27) (ads := [.agg (eGGraph a5008), .agg (eGJob a5009), .one (.lit (.int .i64 a5010)), .one (.lit (.int .i64 a5011)), .one (.lit (.int .i64 a5012))]) (r := F27_res false) (pq5033 (pq5034 (pq5035 (pq5036 (pq5037 (pq5039 pz)))))) (by kernel_rfl) (by kernel_rfl)
  have pq5042 : ∀ {l : List Cond}, HoldAll E H hn27 l → HoldAll E H hn27 (.test (beqb (ine r5021 0) false) false :: .test (beqb (ine r5021 0) false) false :: .test (ine r5021 0) true :: .test (beqb true false) false :: .test (beqb true false) false :: .test (beqb true false) false :: .test (beqb true false) false :: .test true true :: .test true true :: l) := fun z => ⟨(beqb_ft (ine_f h5023)), (beqb_ft (ine_f h5023)), (ine_f h5023), (beqb_ft rfl), (beqb_ft rfl), (beqb_ft rfl), (beqb_ft rfl), rfl, rfl, z⟩
  refine cond_some hF (fun h5032 hF => ?_) (fun h5032 hF => ?_)
  ·
    have hr := Option.some.inj hF
    subst hr
    have pz : HoldAll E H hn27 [.test (beqb (ine r5019.2.2.2 0) true) false, .test (ine r5019.2.2.2 0) false] := ⟨(beqb_t (ine_t h5032)), (ine_t h5032), trivial⟩
    exact fn_playC hn27 (f := 27) (ads := [.agg (eGGraph a5008), .agg (eGJob a5009), .one (.lit (.int .i64 a5010)), .one (.lit (.int .i64 a5011)), .one (.lit (.int .i64 a5012))]) (r := F27_res false) (pq5033 (pq5034 (pq5035 (pq5036 (pq5042 pz))))) (by kernel_rfl) (by kernel_rfl)
  have hr := Option.some.inj hF
  subst hr
  have pz : HoldAll E H hn27 [.test (beqb (ine r5019.2.2.2 0) true) true, .call 93 [] (Res.mk [(.one (.im (.lit (.bool true))))] []), .test (leadsAny (Res.mk [(.one (.im (.lit (.bool true))))] [])) false, .test (ine r5019.2.2.2 0) true] := ⟨(beqb_t (ine_f h5032)), knows93, (leads_ok (by simp only [leadsAny, List.any_cons, List.any_nil, RV.leads, RC.leads, leadsT, hasSl_lit, Bool.or_false, flat_ns (eInt_ns _), flat_ns eBool_ns, flat_ns eStr_ns, flat_ns eGJob_ns, flat_ns eGEdge_ns, flat_ns eGAsked_ns, flat_ns eGMsg_ns, flat_ns eGrule_ns, flat_ns eGA199_ns, flat_ns eGA202_ns])), (ine_f h5032), trivial⟩
  exact fn_playC hn27 (f := 27) (ads := [.agg (eGGraph a5008), .agg (eGJob a5009), .one (.lit (.int .i64 a5010)), .one (.lit (.int .i64 a5011)), .one (.lit (.int .i64 a5012))]) (r := F27_res true) (pq5033 (pq5034 (pq5035 (pq5036 (pq5042 pz))))) (by kernel_rfl) (by kernel_rfl)

end Go.Proofs.Ytnjanliihnadjaa.Tm

/- Printed by program: what each function computes, and that the machine answers so. Conditions: none. -/
import Derived.Test.YtnjanliihnadjaaTy
import Derived.Test.YtnjanliihnadjaaTab
import Derived.Test.YtnjanliihnadjaaKn
import Derived.Test.YtnjanliihnadjaaFS
import Derived.KernelRfl
set_option linter.unusedVariables false
set_option linter.unusedSimpArgs false
namespace Go.Proofs.Ytnjanliihnadjaa.Tm
open Go
/-! ### haywain/haywainlaw04.ProgGroups -/
noncomputable def hn24 : Hint := { H 24 with nt := 82, prot := 0 }
def F24_res (r4238 : Bool) : Res := ⟨[(.one (.im (.lit (.bool r4238))))], []⟩
def F24 (K : Nat) (a4211 : Int) (a4212 : Int) (a4213 : Int) (a4214 : Int) : Option (Bool) :=
  (F97 K a4211 a4212 a4213).bind fun r4215 =>
  (F97 K a4211 a4213 a4212).bind fun r4217 =>
  bif (ieq r4215.1 r4217.1) then
    (bif (ieq r4215.2 r4217.2) then
      (bif (ieq r4215.2 0) then
        ((F97 K a4211 r4215.1 a4214).bind fun r4222 =>
        (F97 K a4211 a4213 a4214).bind fun r4224 =>
        bif (ieq r4222.2 0) then
          (bif (ieq r4224.2 0) then
            ((F97 K a4211 a4212 r4224.1).bind fun r4228 =>
            bif (ieq r4222.1 r4228.1) then
              (bif (ieq r4228.2 0) then
                (some true)
              else
              some false)
            else
            some false)
          else
          some true)
        else
        some true)
      else
      some true)
    else
    some false)
  else
  some false
theorem F24_ok (K : Nat) (a4211 : Int) (a4212 : Int) (a4213 : Int) (a4214 : Int) (r : Bool) (hF : F24 K a4211 a4212 a4213 a4214 = some r) : Evt E H 24 [.one (.lit (.int .i64 a4211)), .one (.lit (.int .i64 a4212)), .one (.lit (.int .i64 a4213)), .one (.lit (.int .i64 a4214))] (F24_res r) := by
  rw [F24] at hF
  refine bind_some hF (fun r4215 h4216 hF => ?_)
  refine bind_some hF (fun r4217 h4218 hF => ?_)
  have pq4232 : ∀ {l : List Cond}, HoldAll E H hn24 l → HoldAll E H hn24 (.call 97 [.one (.lit (.int .i64 a4211)), .one (.lit (.int .i64 a4212)), .one (.lit (.int .i64 a4213))] (F97_res r4215) :: .test (leadsAny (Res.mk [(.one (.im (.lit (.int .i64 r4215.1)))), (.one (.im (.lit (.int .i64 r4215.2))))] [])) false :: .call 97 [.one (.lit (.int .i64 a4211)), .one (.lit (.int .i64 a4213)), .one (.lit (.int .i64 a4212))] (F97_res r4217) :: .test (leadsAny (Res.mk [(.one (.im (.lit (.int .i64 r4217.1)))), (.one (.im (.lit (.int .i64 r4217.2))))] [])) false :: l) := fun z => ⟨(F97_ok K a4211 a4212 a4213 _ h4216), (leads_ok (by simp only [leadsAny, List.any_cons, List.any_nil, RV.leads, RC.leads, leadsT, hasSl_lit, Bool.or_false, flat_ns (eInt_ns _), flat_ns eBool_ns, flat_ns eStr_ns, flat_ns eGJob_ns, flat_ns eGEdge_ns, flat_ns eGAsked_ns, flat_ns eGMsg_ns, flat_ns eGrule_ns, flat_ns eGA199_ns, flat_ns eGA202_ns])), (F97_ok K a4211 a4213 a4212 _ h4218), (leads_ok (by simp only [leadsAny, List.any_cons, List.any_nil, RV.leads, RC.leads, leadsT, hasSl_lit, Bool.or_false, flat_ns (eInt_ns _), flat_ns eBool_ns, flat_ns eStr_ns, flat_ns eGJob_ns, flat_ns eGEdge_ns, flat_ns eGAsked_ns, flat_ns eGMsg_ns, flat_ns eGrule_ns, flat_ns eGA199_ns, flat_ns eGA202_ns])), z⟩
  refine cond_some hF (fun h4219 hF => ?_) (fun h4219 hF => ?_)
  ·
    have pq4233 : ∀ {l : List Cond}, HoldAll E H hn24 l → HoldAll E H hn24 (.test (beqb (ine r4215.1 r4217.1) false) true :: .test (beqb (ine r4215.1 r4217.1) false) true :: .test (beqb (ine r4215.1 r4217.1) false) true :: .test (ine r4215.1 r4217.1) false :: l) := fun z => ⟨(beqb_ff (ine_t h4219)), (beqb_ff (ine_t h4219)), (beqb_ff (ine_t h4219)), (ine_t h4219), z⟩
    refine cond_some hF (fun h4220 hF => ?_) (fun h4220 hF => ?_)
    ·
      refine cond_some hF (fun h4221 hF => ?_) (fun h4221 hF => ?_)
      ·
        refine bind_some hF (fun r4222 h4223 hF => ?_)
        refine bind_some hF (fun r4224 h4225 hF => ?_)
        have pq4234 : ∀ {l : List Cond}, HoldAll E H hn24 l → HoldAll E H hn24 (.test (ine r4215.2 r4217.2) false :: .test (ine r4215.2 0) false :: .call 97 [.one (.lit (.int .i64 a4211)), .one (.lit (.int .i64 r4215.1)), .one (.lit (.int .i64 a4214))] (F97_res r4222) :: .test (leadsAny (Res.mk [(.one (.im (.lit (.int .i64 r4222.1)))), (.one (.im (.lit (.int .i64 r4222.2))))] [])) false :: .call 97 [.one (.lit (.int .i64 a4211)), .one (.lit (.int .i64 a4213)), .one (.lit (.int .i64 a4214))] (F97_res r4224) :: .test (leadsAny (Res.mk [(.one (.im (.lit (.int .i64 r4224.1)))), (.one (.im (.lit (.int .i64 r4224.2))))] [])) false :: l) := fun z => ⟨(ine_t h4220), (ine_t h4221), (F97_ok K a4211 r4215.1 a4214 _ h4223), (leads_ok (by simp only [leadsAny, List.any_cons, List.any_nil, RV.leads, RC.leads, leadsT, hasSl_lit, Bool.or_false, flat_ns (eInt_ns _), flat_ns eBool_ns, flat_ns eStr_ns, flat_ns eGJob_ns, flat_ns eGEdge_ns, flat_ns eGAsked_ns, flat_ns eGMsg_ns, flat_ns eGrule_ns, flat_ns eGA199_ns, flat_ns eGA202_ns])), (F97_ok K a4211 a4213 a4214 _ h4225), (leads_ok (by simp only [leadsAny, List.any_cons, List.any_nil, RV.leads, RC.leads, leadsT, hasSl_lit, Bool.or_false, flat_ns (eInt_ns _), flat_ns eBool_ns, flat_ns eStr_ns, flat_ns eGJob_ns, flat_ns eGEdge_ns, flat_ns eGAsked_ns, flat_ns eGMsg_ns, flat_ns eGrule_ns, flat_ns eGA199_ns, flat_ns eGA202_ns])), z⟩
        refine cond_some hF (fun h4226 hF => ?_) (fun h4226 hF => ?_)
        ·
          have pq4235 : ∀ {l : List Cond}, HoldAll E H hn24 l → HoldAll E H hn24 (.test (beqb (ine r4222.2 0) false) true :: .test (beqb (ine r4222.2 0) false) true :: .test (ine r4222.2 0) false :: l) := fun z => ⟨(beqb_ff (ine_t h4226)), (beqb_ff (ine_t h4226)), (ine_t h4226), z⟩
          refine cond_some hF (fun h4227 hF => ?_) (fun h4227 hF => ?_)
          ·
            refine bind_some hF (fun r4228 h4229 hF => ?_)
            have pq4236 : ∀ {l : List Cond}, HoldAll E H hn24 l → HoldAll E H hn24 (.test (ine r4224.2 0) false :: .call 97 [.one (.lit (.int .i64 a4211)), .one (.lit (.int .i64 a4212)), .one (.lit (.int .i64 r4224.1))] (F97_res r4228) :: .test (leadsAny (Res.mk [(.one (.im (.lit (.int .i64 r4228.1)))), (.one (.im (.lit (.int .i64 r4228.2))))] [])) false :: l) := fun z => ⟨(ine_t h4227), (F97_ok K a4211 a4212 r4224.1 _ h4229), (leads_ok (by simp only [leadsAny, List.any_cons, List.any_nil, RV.leads, RC.leads, leadsT, hasSl_lit, Bool.or_false, flat_ns (eInt_ns _), flat_ns eBool_ns, flat_ns eStr_ns, flat_ns eGJob_ns, flat_ns eGEdge_ns, flat_ns eGAsked_ns, flat_ns eGMsg_ns, flat_ns eGrule_ns, flat_ns eGA199_ns, flat_ns eGA202_ns])), z⟩
            refine cond_some hF (fun h4230 hF => ?_) (fun h4230 hF => ?_)
            ·
              have pq4237 : ∀ {l : List Cond}, HoldAll E H hn24 l → HoldAll E H hn24 (.test (beqb (ieq r4222.1 r4228.1) true) true :: .test (beqb (ieq r4222.1 r4228.1) true) true :: .test (ieq r4222.1 r4228.1) true :: l) := fun z => ⟨(beqb_t h4230), (beqb_t h4230), h4230, z⟩
              refine cond_some hF (fun h4231 hF => ?_) (fun h4231 hF => ?_)
              ·
                have hr := Option.some.inj hF
                subst hr
                have pz : HoldAll E H hn24 [.test (beqb (ieq r4228.2 0) true) true, .call 93 [] (Res.mk [(.one (.im (.lit (.bool true))))] []), .test (leadsAny (Res.mk [(.one (.im (.lit (.bool true))))] [])) false, .test (ieq r4228.2 0) true] := ⟨(beqb_t h4231), knows93, (leads_ok (by simp only [leadsAny, List.any_cons, List.any_nil, RV.leads, RC.leads, leadsT, hasSl_lit, Bool.or_false, flat_ns (eInt_ns _), flat_ns eBool_ns, flat_ns eStr_ns, flat_ns eGJob_ns, flat_ns eGEdge_ns, flat_ns eGAsked_ns, flat_ns eGMsg_ns, flat_ns eGrule_ns, flat_ns eGA199_ns, flat_ns eGA202_ns])), h4231, trivial⟩
                exact fn_playC hn24 (f := 24) (ads := [.one (.lit (.int .i64 a4211)), .one (.lit (.int .i64 a4212)), .one (.lit (.int .i64 a4213)), .one (.lit (.int .i64 a4214))]) (r := F24_res true) (pq4232 (pq4233 (pq4234 (pq4235 (pq4236 (pq4237 pz)))))) (by kernel_rfl) (by kernel_rfl)
              have hr := Option.some.inj hF
              subst hr
              have pz : HoldAll E H hn24 [.test (beqb (ieq r4228.2 0) true) false, .test (ieq r4228.2 0) false] := ⟨(beqb_t h4231), h4231, trivial⟩
              exact fn_playC hn24 (f := 24) (ads := [.one (.lit (.int .i64 a4211)), .one (.lit (.int .i64 a4212)), .one (.lit (.int .i64 a4213)), .one (.lit (.int .i64 a4214))]) (r := F24_res false) (pq4232 (pq4233 (pq4234 (pq4235 (pq4236 (pq4237 pz)))))) (by kernel_rfl) (by kernel_rfl)
            have hr := Option.some.inj hF
            subst hr
            have pz : HoldAll E H hn24 [.test (beqb (ieq r4222.1 r4228.1) true) false, .test (beqb (ieq r4222.1 r4228.1) true) false, .test (ieq r4222.1 r4228.1) false, .test (beqb false true) false, .test false false] := ⟨(beqb_t h4230), (beqb_t h4230), h4230, (beqb_t rfl), rfl, trivial⟩
            exact fn_playC hn24 (f := 24) (ads := [.one (.lit (.int .i64 a4211)), .one (.lit (.int .i64 a4212)), .one (.lit (.int .i64 a4213)), .one (.lit (.int .i64 a4214))]) (r := F24_res false) (pq4232 (pq4233 (pq4234 (pq4235 (pq4236 pz))))) (by kernel_rfl) (by kernel_rfl)
          have hr := Option.some.inj hF
          subst hr
          have pz : HoldAll E H hn24 [.test (ine r4224.2 0) true, .call 93 [] (Res.mk [(.one (.im (.lit (.bool true))))] []), .test (leadsAny (Res.mk [(.one (.im (.lit (.bool true))))] [])) false] := ⟨(ine_f h4227), knows93, (leads_ok (by simp only [leadsAny, List.any_cons, List.any_nil, RV.leads, RC.leads, leadsT, hasSl_lit, Bool.or_false, flat_ns (eInt_ns _), flat_ns eBool_ns, flat_ns eStr_ns, flat_ns eGJob_ns, flat_ns eGEdge_ns, flat_ns eGAsked_ns, flat_ns eGMsg_ns, flat_ns eGrule_ns, flat_ns eGA199_ns, flat_ns eGA202_ns])), trivial⟩
          exact fn_playC hn24 (f := 24) (ads := [.one (.lit (.int .i64 a4211)), .one (.lit (.int .i64 a4212)), .one (.lit (.int .i64 a4213)), .one (.lit (.int .i64 a4214))]) (r := F24_res true) (pq4232 (pq4233 (pq4234 (pq4235 pz)))) (by kernel_rfl) (by kernel_rfl)
        have hr := Option.some.inj hF
        subst hr
        have pz : HoldAll E H hn24 [.test (beqb (ine r4222.2 0) false) false, .test (beqb (ine r4222.2 0) false) false, .test (ine r4222.2 0) true, .test true true, .call 93 [] (Res.mk [(.one (.im (.lit (.bool true))))] []), .test (leadsAny (Res.mk [(.one (.im (.lit (.bool true))))] [])) false] := ⟨(beqb_ft (ine_f h4226)), (beqb_ft (ine_f h4226)), (ine_f h4226), rfl, knows93, (leads_ok (by simp only [leadsAny, List.any_cons, List.any_nil, RV.leads, RC.leads, leadsT, hasSl_lit, Bool.or_false, flat_ns (eInt_ns _), flat_ns eBool_ns, flat_ns eStr_ns, flat_ns eGJob_ns, flat_ns eGEdge_ns, flat_ns eGAsked_ns, flat_ns eGMsg_ns, flat_ns eGrule_ns, flat_ns eGA199_ns, flat_ns eGA202_ns])), trivial⟩
        exact fn_playC hn24 (f := 24) (ads := [.one (.lit (.int .i64 a4211)), .one (.lit (.int .i64 a4212)), .one (.lit (.int .i64 a4213)), .one (.lit (.int .i64 a4214))]) (r := F24_res true) (pq4232 (pq4233 (pq4234 pz))) (by kernel_rfl) (by kernel_rfl)
      have hr := Option.some.inj hF
      subst hr
      have pz : HoldAll E H hn24 [.test (ine r4215.2 r4217.2) false, .test (ine r4215.2 0) true, .call 93 [] (Res.mk [(.one (.im (.lit (.bool true))))] []), .test (leadsAny (Res.mk [(.one (.im (.lit (.bool true))))] [])) false] := ⟨(ine_t h4220), (ine_f h4221), knows93, (leads_ok (by simp only [leadsAny, List.any_cons, List.any_nil, RV.leads, RC.leads, leadsT, hasSl_lit, Bool.or_false, flat_ns (eInt_ns _), flat_ns eBool_ns, flat_ns eStr_ns, flat_ns eGJob_ns, flat_ns eGEdge_ns, flat_ns eGAsked_ns, flat_ns eGMsg_ns, flat_ns eGrule_ns, flat_ns eGA199_ns, flat_ns eGA202_ns])), trivial⟩
      exact fn_playC hn24 (f := 24) (ads := [.one (.lit (.int .i64 a4211)), .one (.lit (.int .i64 a4212)), .one (.lit (.int .i64 a4213)), .one (.lit (.int .i64 a4214))]) (r := F24_res true) (pq4232 (pq4233 pz)) (by kernel_rfl) (by kernel_rfl)
    have hr := Option.some.inj hF
    subst hr
    have pz : HoldAll E H hn24 [.test (ine r4215.2 r4217.2) true] := ⟨(ine_f h4220), trivial⟩
    exact fn_playC hn24 (f := 24) (ads := [.one (.lit (.int .i64 a4211)), .one (.lit (.int .i64 a4212)), .one (.lit (.int .i64 a4213)), .one (.lit (.int .i64 a4214))]) (r := F24_res false) (pq4232 (pq4233 pz)) (by kernel_rfl) (by kernel_rfl)
  have hr := Option.some.inj hF
  subst hr
  have pz : HoldAll E H hn24 [.test (beqb (ine r4215.1 r4217.1) false) false, .test (beqb (ine r4215.1 r4217.1) false) false, .test (beqb (ine r4215.1 r4217.1) false) false, .test (ine r4215.1 r4217.1) true, .test true true] := ⟨(beqb_ft (ine_f h4219)), (beqb_ft (ine_f h4219)), (beqb_ft (ine_f h4219)), (ine_f h4219), rfl, trivial⟩
  exact fn_playC hn24 (f := 24) (ads := [.one (.lit (.int .i64 a4211)), .one (.lit (.int .i64 a4212)), .one (.lit (.int .i64 a4213)), .one (.lit (.int .i64 a4214))]) (r := F24_res false) (pq4232 pz) (by kernel_rfl) (by kernel_rfl)

end Go.Proofs.Ytnjanliihnadjaa.Tm

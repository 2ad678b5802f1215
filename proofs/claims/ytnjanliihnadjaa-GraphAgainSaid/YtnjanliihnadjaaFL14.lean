/- Printed by program: what each function computes, and that the machine answers so. Conditions: none. -/
import Derived.Test.YtnjanliihnadjaaTy
import Derived.Test.YtnjanliihnadjaaTab
import Derived.Test.YtnjanliihnadjaaKn
import Derived.Test.YtnjanliihnadjaaFG
import Derived.KernelRfl
set_option linter.unusedVariables false
set_option linter.unusedSimpArgs false
namespace Go.Proofs.Ytnjanliihnadjaa.Tm
open Go
/-! ### haywain/haywainlaw03.GraphAgain -/
noncomputable def hn14 : Hint := { H 14 with nt := 81, prot := 0 }
def F14_res (r3094 : Bool) : Res := ⟨[(.one (.im (.lit (.bool r3094))))], []⟩
def F14 (K : Nat) (a3059 : ByteArray) : Option (Bool) :=
  (F71 K a3059).bind fun r3060 =>
  bif (ieq r3060.2.2 0) then
    ((F65 K r3060.1).bind fun r3063 =>
    bif (ieq r3063 0) then
      ((F64 K r3060.1).bind fun r3066 =>
      bif (ieq r3066 0) then
        (bif (ieq r3060.2.1 0) then
          ((F66 K r3060.1).bind fun r3070 =>
          bif (ieq r3070.2 0) then
            (bif (ilt 4000 (slen r3070.1)) then
              (some true)
            else
            (F71 K r3070.1).bind fun r3074 =>
            bif (ieq r3074.2.2 0) then
              ((F70 K r3060.1 r3074.1).bind fun r3077 =>
              bif r3077 then
                (some true)
              else
              some false)
            else
            some false)
          else
          some false)
        else
        some false)
      else
      some false)
    else
    some false)
  else
  (F70 K r3060.1 (GGraph.mk 0 [])).bind fun r3080 =>
  bif r3080 then
    (bif (ile 0 r3060.2.1) then
      (bif (ile r3060.2.1 (wadd .i64 (slen a3059) 1)) then
        (some true)
      else
      some false)
    else
    some false)
  else
  some false
theorem F14_ok (K : Nat) (a3059 : ByteArray) (r : Bool) (hF : F14 K a3059 = some r) : Evt E H 14 [.one (.lit (.string a3059))] (F14_res r) := by
  rw [F14] at hF
  refine bind_some hF (fun r3060 h3061 hF => ?_)
  refine cond_some hF (fun h3062 hF => ?_) (fun h3062 hF => ?_)
  ·
    refine bind_some hF (fun r3063 h3064 hF => ?_)
    have pq3085 : ∀ {l : List Cond}, HoldAll E H hn14 l → HoldAll E H hn14 (.call 71 [.one (.lit (.string a3059))] (F71_res r3060) :: .test (ine r3060.2.2 0) false :: .call 65 [.agg (eGGraph r3060.1)] (F65_res r3063) :: .test (leadsAny (Res.mk [(.one (.im (.lit (.int .i64 r3063))))] [])) false :: l) := fun z => ⟨(F71_ok K a3059 _ h3061), (ine_t h3062), (F65_ok K r3060.1 _ h3064), (leads_ok (by simp only [leadsAny, List.any_cons, List.any_nil, RV.leads, RC.leads, leadsT, hasSl_lit, Bool.or_false, flat_ns (eInt_ns _), flat_ns eBool_ns, flat_ns eStr_ns, flat_ns eGJob_ns, flat_ns eGEdge_ns, flat_ns eGAsked_ns, flat_ns eGMsg_ns, flat_ns eGrule_ns, flat_ns eGA199_ns, flat_ns eGA202_ns])), z⟩
    refine cond_some hF (fun h3065 hF => ?_) (fun h3065 hF => ?_)
    ·
      refine bind_some hF (fun r3066 h3067 hF => ?_)
      have pq3086 : ∀ {l : List Cond}, HoldAll E H hn14 l → HoldAll E H hn14 (.test (beqb (ine r3063 0) false) true :: .test (beqb (ine r3063 0) false) true :: .call 64 [.agg (eGGraph r3060.1)] (F64_res r3066) :: .test (leadsAny (Res.mk [(.one (.im (.lit (.int .i64 r3066))))] [])) false :: .test (beqb (ine r3063 0) false) true :: .test (ine r3063 0) false :: l) := fun z => ⟨(beqb_ff (ine_t h3065)), (beqb_ff (ine_t h3065)), (F64_ok K r3060.1 _ h3067), (leads_ok (by simp only [leadsAny, List.any_cons, List.any_nil, RV.leads, RC.leads, leadsT, hasSl_lit, Bool.or_false, flat_ns (eInt_ns _), flat_ns eBool_ns, flat_ns eStr_ns, flat_ns eGJob_ns, flat_ns eGEdge_ns, flat_ns eGAsked_ns, flat_ns eGMsg_ns, flat_ns eGrule_ns, flat_ns eGA199_ns, flat_ns eGA202_ns])), (beqb_ff (ine_t h3065)), (ine_t h3065), z⟩
      refine cond_some hF (fun h3068 hF => ?_) (fun h3068 hF => ?_)
      ·
        have pq3087 : ∀ {l : List Cond}, HoldAll E H hn14 l → HoldAll E H hn14 (.test (beqb (ine r3066 0) false) true :: .test (beqb (ine r3066 0) false) true :: .test (ine r3066 0) false :: l) := fun z => ⟨(beqb_ff (ine_t h3068)), (beqb_ff (ine_t h3068)), (ine_t h3068), z⟩
        refine cond_some hF (fun h3069 hF => ?_) (fun h3069 hF => ?_)
        ·
          refine bind_some hF (fun r3070 h3071 hF => ?_)
          have pq3088 : ∀ {l : List Cond}, HoldAll E H hn14 l → HoldAll E H hn14 (.test (ine r3060.2.1 0) false :: .call 66 [.agg (eGGraph r3060.1)] (F66_res r3070) :: .test (leadsAny (Res.mk [(.one (.im (.lit (.string r3070.1)))), (.one (.im (.lit (.int .i64 r3070.2))))] [])) false :: l) := fun z => ⟨(ine_t h3069), (F66_ok K r3060.1 _ h3071), (leads_ok (by simp only [leadsAny, List.any_cons, List.any_nil, RV.leads, RC.leads, leadsT, hasSl_lit, Bool.or_false, flat_ns (eInt_ns _), flat_ns eBool_ns, flat_ns eStr_ns, flat_ns eGJob_ns, flat_ns eGEdge_ns, flat_ns eGAsked_ns, flat_ns eGMsg_ns, flat_ns eGrule_ns, flat_ns eGA199_ns, flat_ns eGA202_ns])), z⟩
          refine cond_some hF (fun h3072 hF => ?_) (fun h3072 hF => ?_)
          ·
            have pq3089 : ∀ {l : List Cond}, HoldAll E H hn14 l → HoldAll E H hn14 (.test (beqb (ine r3070.2 0) false) true :: .test (beqb (ine r3070.2 0) false) true :: .int (slen r3070.1) (slen r3070.1) :: .test (beqb (ine r3070.2 0) false) true :: .test (ine r3070.2 0) false :: l) := fun z => ⟨(beqb_ff (ine_t h3072)), (beqb_ff (ine_t h3072)), rfl, (beqb_ff (ine_t h3072)), (ine_t h3072), z⟩
            refine cond_some hF (fun h3073 hF => ?_) (fun h3073 hF => ?_)
            ·
              have hr := Option.some.inj hF
              subst hr
              have pz : HoldAll E H hn14 [.test (igt (slen r3070.1) 4000) true, .test (beqb (ieq r3070.2 0) true) true, .call 63 [] (Res.mk [(.one (.im (.lit (.bool true))))] []), .test (leadsAny (Res.mk [(.one (.im (.lit (.bool true))))] [])) false, .test (ieq r3070.2 0) true] := ⟨(igt_eq h3073), (beqb_t h3072), knows63, (leads_ok (by simp only [leadsAny, List.any_cons, List.any_nil, RV.leads, RC.leads, leadsT, hasSl_lit, Bool.or_false, flat_ns (eInt_ns _), flat_ns eBool_ns, flat_ns eStr_ns, flat_ns eGJob_ns, flat_ns eGEdge_ns, flat_ns eGAsked_ns, flat_ns eGMsg_ns, flat_ns eGrule_ns, flat_ns eGA199_ns, flat_ns eGA202_ns])), h3072, trivial⟩
              exact fn_playC hn14 (f := 14) (ads := [.one (.lit (.string a3059))]) (r := F14_res true) (pq3085 (pq3086 (pq3087 (pq3088 (pq3089 pz))))) (by kernel_rfl) (by kernel_rfl)
            refine bind_some hF (fun r3074 h3075 hF => ?_)
            refine cond_some hF (fun h3076 hF => ?_) (fun h3076 hF => ?_)
            ·
              refine bind_some hF (fun r3077 h3078 hF => ?_)
              have pq3090 : ∀ {l : List Cond}, HoldAll E H hn14 l → HoldAll E H hn14 (.test (igt (slen r3070.1) 4000) false :: .call 71 [.one (.lit (.string r3070.1))] (F71_res r3074) :: .test (beqb (ieq r3074.2.2 0) true) true :: .test (beqb (ieq r3074.2.2 0) true) true :: .test (beqb (ieq r3074.2.2 0) true) true :: .call 70 [.agg (eGGraph r3060.1), .agg (eGGraph r3074.1)] (F70_res r3077) :: .test (leadsAny (Res.mk [(.one (.im (.lit (.bool r3077))))] [])) false :: .test (ieq r3074.2.2 0) true :: l) := fun z => ⟨(igt_eq h3073), (F71_ok K r3070.1 _ h3075), (beqb_t h3076), (beqb_t h3076), (beqb_t h3076), (F70_ok K r3060.1 r3074.1 _ h3078), (leads_ok (by simp only [leadsAny, List.any_cons, List.any_nil, RV.leads, RC.leads, leadsT, hasSl_lit, Bool.or_false, flat_ns (eInt_ns _), flat_ns eBool_ns, flat_ns eStr_ns, flat_ns eGJob_ns, flat_ns eGEdge_ns, flat_ns eGAsked_ns, flat_ns eGMsg_ns, flat_ns eGrule_ns, flat_ns eGA199_ns, flat_ns eGA202_ns])), h3076, z⟩
              refine cond_some hF (fun h3079 hF => ?_) (fun h3079 hF => ?_)
              ·
                have hr := Option.some.inj hF
                subst hr
                have pz : HoldAll E H hn14 [.test (beqb r3077 true) true, .call 63 [] (Res.mk [(.one (.im (.lit (.bool true))))] []), .test (leadsAny (Res.mk [(.one (.im (.lit (.bool true))))] [])) false, .test r3077 true] := ⟨(beqb_t h3079), knows63, (leads_ok (by simp only [leadsAny, List.any_cons, List.any_nil, RV.leads, RC.leads, leadsT, hasSl_lit, Bool.or_false, flat_ns (eInt_ns _), flat_ns eBool_ns, flat_ns eStr_ns, flat_ns eGJob_ns, flat_ns eGEdge_ns, flat_ns eGAsked_ns, flat_ns eGMsg_ns, flat_ns eGrule_ns, flat_ns eGA199_ns, flat_ns eGA202_ns])), h3079, trivial⟩
                exact fn_playC hn14 (f := 14) (ads := [.one (.lit (.string a3059))]) (r := F14_res true) (pq3085 (pq3086 (pq3087 (pq3088 (pq3089 (pq3090 pz)))))) (by kernel_rfl) (by kernel_rfl)
              have hr := Option.some.inj hF
              subst hr
              have pz : HoldAll E H hn14 [.test (beqb r3077 true) false, .test r3077 false] := ⟨(beqb_t h3079), h3079, trivial⟩
              exact fn_playC hn14 (f := 14) (ads := [.one (.lit (.string a3059))]) (r := F14_res false) (pq3085 (pq3086 (pq3087 (pq3088 (pq3089 (pq3090 pz)))))) (by kernel_rfl) (by kernel_rfl)
            have hr := Option.some.inj hF
            subst hr
            have pz : HoldAll E H hn14 [.test (igt (slen r3070.1) 4000) false, .call 71 [.one (.lit (.string r3070.1))] (F71_res r3074), .test (beqb (ieq r3074.2.2 0) true) false, .test (beqb (ieq r3074.2.2 0) true) false, .test (beqb (ieq r3074.2.2 0) true) false, .test (ieq r3074.2.2 0) false, .test (beqb false true) false, .test false false] := ⟨(igt_eq h3073), (F71_ok K r3070.1 _ h3075), (beqb_t h3076), (beqb_t h3076), (beqb_t h3076), h3076, (beqb_t rfl), rfl, trivial⟩
            exact fn_playC hn14 (f := 14) (ads := [.one (.lit (.string a3059))]) (r := F14_res false) (pq3085 (pq3086 (pq3087 (pq3088 (pq3089 pz))))) (by kernel_rfl) (by kernel_rfl)
          have hr := Option.some.inj hF
          subst hr
          have pz : HoldAll E H hn14 [.test (beqb (ine r3070.2 0) false) false, .test (beqb (ine r3070.2 0) false) false, .test (beqb (ine r3070.2 0) false) false, .test (ine r3070.2 0) true, .test true true, .test (beqb (ieq r3070.2 0) true) false, .test (ieq r3070.2 0) false] := ⟨(beqb_ft (ine_f h3072)), (beqb_ft (ine_f h3072)), (beqb_ft (ine_f h3072)), (ine_f h3072), rfl, (beqb_t h3072), h3072, trivial⟩
          exact fn_playC hn14 (f := 14) (ads := [.one (.lit (.string a3059))]) (r := F14_res false) (pq3085 (pq3086 (pq3087 (pq3088 pz)))) (by kernel_rfl) (by kernel_rfl)
        have hr := Option.some.inj hF
        subst hr
        have pz : HoldAll E H hn14 [.test (ine r3060.2.1 0) true] := ⟨(ine_f h3069), trivial⟩
        exact fn_playC hn14 (f := 14) (ads := [.one (.lit (.string a3059))]) (r := F14_res false) (pq3085 (pq3086 (pq3087 pz))) (by kernel_rfl) (by kernel_rfl)
      have hr := Option.some.inj hF
      subst hr
      have pz : HoldAll E H hn14 [.test (beqb (ine r3066 0) false) false, .test (beqb (ine r3066 0) false) false, .test (ine r3066 0) true, .test true true] := ⟨(beqb_ft (ine_f h3068)), (beqb_ft (ine_f h3068)), (ine_f h3068), rfl, trivial⟩
      exact fn_playC hn14 (f := 14) (ads := [.one (.lit (.string a3059))]) (r := F14_res false) (pq3085 (pq3086 pz)) (by kernel_rfl) (by kernel_rfl)
    have hr := Option.some.inj hF
    subst hr
    have pz : HoldAll E H hn14 [.test (beqb (ine r3063 0) false) false, .test (beqb (ine r3063 0) false) false, .test (beqb (ine r3063 0) false) false, .test (ine r3063 0) true, .test (beqb true false) false, .test (beqb true false) false, .test true true, .test true true] := ⟨(beqb_ft (ine_f h3065)), (beqb_ft (ine_f h3065)), (beqb_ft (ine_f h3065)), (ine_f h3065), (beqb_ft rfl), (beqb_ft rfl), rfl, rfl, trivial⟩
    exact fn_playC hn14 (f := 14) (ads := [.one (.lit (.string a3059))]) (r := F14_res false) (pq3085 pz) (by kernel_rfl) (by kernel_rfl)
  refine bind_some hF (fun r3080 h3081 hF => ?_)
  have pq3091 : ∀ {l : List Cond}, HoldAll E H hn14 l → HoldAll E H hn14 (.call 71 [.one (.lit (.string a3059))] (F71_res r3060) :: .test (ine r3060.2.2 0) true :: .call 70 [.agg (eGGraph r3060.1), .agg (eGGraph (GGraph.mk 0 []))] (F70_res r3080) :: .test (leadsAny (Res.mk [(.one (.im (.lit (.bool r3080))))] [])) false :: l) := fun z => ⟨(F71_ok K a3059 _ h3061), (ine_f h3062), (F70_ok K r3060.1 (GGraph.mk 0 []) _ h3081), (leads_ok (by simp only [leadsAny, List.any_cons, List.any_nil, RV.leads, RC.leads, leadsT, hasSl_lit, Bool.or_false, flat_ns (eInt_ns _), flat_ns eBool_ns, flat_ns eStr_ns, flat_ns eGJob_ns, flat_ns eGEdge_ns, flat_ns eGAsked_ns, flat_ns eGMsg_ns, flat_ns eGrule_ns, flat_ns eGA199_ns, flat_ns eGA202_ns])), z⟩
  refine cond_some hF (fun h3082 hF => ?_) (fun h3082 hF => ?_)
  ·
    have pq3092 : ∀ {l : List Cond}, HoldAll E H hn14 l → HoldAll E H hn14 (.test (beqb r3080 true) true :: .test (beqb r3080 true) true :: .test r3080 true :: l) := fun z => ⟨(beqb_t h3082), (beqb_t h3082), h3082, z⟩
    refine cond_some hF (fun h3083 hF => ?_) (fun h3083 hF => ?_)
    ·
      have pq3093 : ∀ {l : List Cond}, HoldAll E H hn14 l → HoldAll E H hn14 (.test (beqb (ige r3060.2.1 0) true) true :: .test (beqb (ige r3060.2.1 0) true) true :: .test (beqb (ige r3060.2.1 0) true) true :: .int (slen a3059) (slen a3059) :: .test (beqb (ige r3060.2.1 0) true) true :: .int (wadd .i64 (slen a3059) 1) (wadd .i64 (slen a3059) 1) :: .test (beqb (ige r3060.2.1 0) true) true :: .test (ige r3060.2.1 0) true :: l) := fun z => ⟨(beqb_t (ige_eq h3083)), (beqb_t (ige_eq h3083)), (beqb_t (ige_eq h3083)), rfl, (beqb_t (ige_eq h3083)), rfl, (beqb_t (ige_eq h3083)), (ige_eq h3083), z⟩
      refine cond_some hF (fun h3084 hF => ?_) (fun h3084 hF => ?_)
      ·
        have hr := Option.some.inj hF
        subst hr
        have pz : HoldAll E H hn14 [.test (beqb (ile r3060.2.1 (wadd .i64 (slen a3059) 1)) true) true, .call 63 [] (Res.mk [(.one (.im (.lit (.bool true))))] []), .test (leadsAny (Res.mk [(.one (.im (.lit (.bool true))))] [])) false, .test (ile r3060.2.1 (wadd .i64 (slen a3059) 1)) true] := ⟨(beqb_t h3084), knows63, (leads_ok (by simp only [leadsAny, List.any_cons, List.any_nil, RV.leads, RC.leads, leadsT, hasSl_lit, Bool.or_false, flat_ns (eInt_ns _), flat_ns eBool_ns, flat_ns eStr_ns, flat_ns eGJob_ns, flat_ns eGEdge_ns, flat_ns eGAsked_ns, flat_ns eGMsg_ns, flat_ns eGrule_ns, flat_ns eGA199_ns, flat_ns eGA202_ns])), h3084, trivial⟩
        exact fn_playC hn14 (f := 14) (ads := [.one (.lit (.string a3059))]) (r := F14_res true) (pq3091 (pq3092 (pq3093 pz))) (by kernel_rfl) (by kernel_rfl)
      have hr := Option.some.inj hF
      subst hr
      have pz : HoldAll E H hn14 [.test (beqb (ile r3060.2.1 (wadd .i64 (slen a3059) 1)) true) false, .test (ile r3060.2.1 (wadd .i64 (slen a3059) 1)) false] := ⟨(beqb_t h3084), h3084, trivial⟩
      exact fn_playC hn14 (f := 14) (ads := [.one (.lit (.string a3059))]) (r := F14_res false) (pq3091 (pq3092 (pq3093 pz))) (by kernel_rfl) (by kernel_rfl)
    have hr := Option.some.inj hF
    subst hr
    have pz : HoldAll E H hn14 [.test (beqb (ige r3060.2.1 0) true) false, .test (beqb (ige r3060.2.1 0) true) false, .test (beqb (ige r3060.2.1 0) true) false, .test (beqb (ige r3060.2.1 0) true) false, .test (beqb (ige r3060.2.1 0) true) false, .test (ige r3060.2.1 0) false, .test (beqb false true) false, .test false false] := ⟨(beqb_t (ige_eq h3083)), (beqb_t (ige_eq h3083)), (beqb_t (ige_eq h3083)), (beqb_t (ige_eq h3083)), (beqb_t (ige_eq h3083)), (ige_eq h3083), (beqb_t rfl), rfl, trivial⟩
    exact fn_playC hn14 (f := 14) (ads := [.one (.lit (.string a3059))]) (r := F14_res false) (pq3091 (pq3092 pz)) (by kernel_rfl) (by kernel_rfl)
  have hr := Option.some.inj hF
  subst hr
  have pz : HoldAll E H hn14 [.test (beqb r3080 true) false, .test (beqb r3080 true) false, .test r3080 false, .test (beqb false true) false, .test (beqb false true) false, .test (beqb false true) false, .test (beqb false true) false, .test (beqb false true) false, .test false false, .test (beqb false true) false, .test false false] := ⟨(beqb_t h3082), (beqb_t h3082), h3082, (beqb_t rfl), (beqb_t rfl), (beqb_t rfl), (beqb_t rfl), (beqb_t rfl), rfl, (beqb_t rfl), rfl, trivial⟩
  exact fn_playC hn14 (f := 14) (ads := [.one (.lit (.string a3059))]) (r := F14_res false) (pq3091 pz) (by kernel_rfl) (by kernel_rfl)

end Go.Proofs.Ytnjanliihnadjaa.Tm

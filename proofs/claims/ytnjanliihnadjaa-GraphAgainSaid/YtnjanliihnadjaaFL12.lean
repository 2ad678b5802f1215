/- Printed by program: what each function computes, and that the machine answers so. Conditions: none. -/
import Derived.Test.YtnjanliihnadjaaTy
import Derived.Test.YtnjanliihnadjaaTab
import Derived.Test.YtnjanliihnadjaaKn
import Derived.Test.YtnjanliihnadjaaFG
import Derived.KernelRfl
set_option linter.unusedVariables false
set_option linter.unusedSimpArgs false
namespace Go.Proofs.Ytnjanliihnadjaa.Tm
open Go
/-! ### haywain/haywainlaw03.GraphBack -/
noncomputable def hn12 : Hint := { H 12 with nt := 56, prot := 0 }
def F12_res (r2987 : Bool) : Res := ⟨[(.one (.im (.lit (.bool r2987))))], []⟩
def F12 (K : Nat) (a2663 : GGraph) : Option (Bool) :=
  (F62 K a2663).bind fun r2664 =>
  bif r2664 then
    (some true)
  else
  (F66 K a2663).bind fun r2667 =>
  bif (ieq r2667.2 0) then
    ((F71 K r2667.1).bind fun r2967 =>
    bif (ilt 4000 (slen r2667.1)) then
      (bif (ieq r2967.2.1 0) then
        (bif (ieq r2967.2.2 3) then
          (some true)
        else
        some false)
      else
      some false)
    else
    (F70 K a2663 r2967.1).bind fun r2972 =>
    bif r2972 then
      (bif (ieq r2967.2.1 0) then
        (bif (ieq r2967.2.2 0) then
          (some true)
        else
        some false)
      else
      some false)
    else
    some false)
  else
  (F65 K a2663).bind fun r2977 =>
  bif (ieq r2977 0) then
    (some false)
  else
  some true
theorem F12_ok (K : Nat) (a2663 : GGraph) (r : Bool) (hF : F12 K a2663 = some r) : Evt E H 12 [.agg (eGGraph a2663)] (F12_res r) := by
  rw [F12] at hF
  refine bind_some hF (fun r2664 h2665 hF => ?_)
  refine cond_some hF (fun h2666 hF => ?_) (fun h2666 hF => ?_)
  ·
    have hr := Option.some.inj hF
    subst hr
    have pz : HoldAll E H hn12 [.call 62 [.agg (eGGraph a2663)] (F62_res r2664), .test (leadsAny (Res.mk [(.one (.im (.lit (.bool r2664))))] [])) false, .test r2664 true, .call 63 [] (Res.mk [(.one (.im (.lit (.bool true))))] []), .test (leadsAny (Res.mk [(.one (.im (.lit (.bool true))))] [])) false] := ⟨(F62_ok K a2663 _ h2665), (leads_ok (by simp only [leadsAny, List.any_cons, List.any_nil, RV.leads, RC.leads, leadsT, hasSl_lit, Bool.or_false, flat_ns (eInt_ns _), flat_ns eBool_ns, flat_ns eStr_ns, flat_ns eGJob_ns, flat_ns eGEdge_ns, flat_ns eGAsked_ns, flat_ns eGMsg_ns, flat_ns eGrule_ns, flat_ns eGA199_ns, flat_ns eGA202_ns])), h2666, knows63, (leads_ok (by simp only [leadsAny, List.any_cons, List.any_nil, RV.leads, RC.leads, leadsT, hasSl_lit, Bool.or_false, flat_ns (eInt_ns _), flat_ns eBool_ns, flat_ns eStr_ns, flat_ns eGJob_ns, flat_ns eGEdge_ns, flat_ns eGAsked_ns, flat_ns eGMsg_ns, flat_ns eGrule_ns, flat_ns eGA199_ns, flat_ns eGA202_ns])), trivial⟩
    exact fn_playC hn12 (f := 12) (ads := [.agg (eGGraph a2663)]) (r := F12_res true) pz (by kernel_rfl) (by kernel_rfl)
  refine bind_some hF (fun r2667 h2668 hF => ?_)
  have pq2980 : ∀ {l : List Cond}, HoldAll E H hn12 l → HoldAll E H hn12 (.call 62 [.agg (eGGraph a2663)] (F62_res r2664) :: .test (leadsAny (Res.mk [(.one (.im (.lit (.bool r2664))))] [])) false :: .test r2664 false :: .call 66 [.agg (eGGraph a2663)] (F66_res r2667) :: .test (leadsAny (Res.mk [(.one (.im (.lit (.string r2667.1)))), (.one (.im (.lit (.int .i64 r2667.2))))] [])) false :: l) := fun z => ⟨(F62_ok K a2663 _ h2665), (leads_ok (by simp only [leadsAny, List.any_cons, List.any_nil, RV.leads, RC.leads, leadsT, hasSl_lit, Bool.or_false, flat_ns (eInt_ns _), flat_ns eBool_ns, flat_ns eStr_ns, flat_ns eGJob_ns, flat_ns eGEdge_ns, flat_ns eGAsked_ns, flat_ns eGMsg_ns, flat_ns eGrule_ns, flat_ns eGA199_ns, flat_ns eGA202_ns])), h2666, (F66_ok K a2663 _ h2668), (leads_ok (by simp only [leadsAny, List.any_cons, List.any_nil, RV.leads, RC.leads, leadsT, hasSl_lit, Bool.or_false, flat_ns (eInt_ns _), flat_ns eBool_ns, flat_ns eStr_ns, flat_ns eGJob_ns, flat_ns eGEdge_ns, flat_ns eGAsked_ns, flat_ns eGMsg_ns, flat_ns eGrule_ns, flat_ns eGA199_ns, flat_ns eGA202_ns])), z⟩
  refine cond_some hF (fun h2669 hF => ?_) (fun h2669 hF => ?_)
  ·
    refine bind_some hF (fun r2967 h2968 hF => ?_)
    have pq2981 : ∀ {l : List Cond}, HoldAll E H hn12 l → HoldAll E H hn12 (.test (ine r2667.2 0) false :: .call 71 [.one (.lit (.string r2667.1))] (F71_res r2967) :: .int (slen r2667.1) (slen r2667.1) :: l) := fun z => ⟨(ine_t h2669), (F71_ok K r2667.1 _ h2968), rfl, z⟩
    refine cond_some hF (fun h2969 hF => ?_) (fun h2969 hF => ?_)
    ·
      refine cond_some hF (fun h2970 hF => ?_) (fun h2970 hF => ?_)
      ·
        have pq2982 : ∀ {l : List Cond}, HoldAll E H hn12 l → HoldAll E H hn12 (.test (igt (slen r2667.1) 4000) true :: .test (beqb (ieq r2967.2.1 0) true) true :: .test (beqb (ieq r2967.2.1 0) true) true :: .test (ieq r2967.2.1 0) true :: l) := fun z => ⟨(igt_eq h2969), (beqb_t h2970), (beqb_t h2970), h2970, z⟩
        refine cond_some hF (fun h2971 hF => ?_) (fun h2971 hF => ?_)
        ·
          have hr := Option.some.inj hF
          subst hr
          have pz : HoldAll E H hn12 [.test (beqb (ieq r2967.2.2 3) true) true, .call 63 [] (Res.mk [(.one (.im (.lit (.bool true))))] []), .test (leadsAny (Res.mk [(.one (.im (.lit (.bool true))))] [])) false, .test (ieq r2967.2.2 3) true] := ⟨(beqb_t h2971), knows63, (leads_ok (by simp only [leadsAny, List.any_cons, List.any_nil, RV.leads, RC.leads, leadsT, hasSl_lit, Bool.or_false, flat_ns (eInt_ns _), flat_ns eBool_ns, flat_ns eStr_ns, flat_ns eGJob_ns, flat_ns eGEdge_ns, flat_ns eGAsked_ns, flat_ns eGMsg_ns, flat_ns eGrule_ns, flat_ns eGA199_ns, flat_ns eGA202_ns])), h2971, trivial⟩
          exact fn_playC hn12 (f := 12) (ads := [.agg (eGGraph a2663)]) (r := F12_res true) (pq2980 (pq2981 (pq2982 pz))) (by kernel_rfl) (by kernel_rfl)
        have hr := Option.some.inj hF
        subst hr
        have pz : HoldAll E H hn12 [.test (beqb (ieq r2967.2.2 3) true) false, .test (ieq r2967.2.2 3) false] := ⟨(beqb_t h2971), h2971, trivial⟩
        exact fn_playC hn12 (f := 12) (ads := [.agg (eGGraph a2663)]) (r := F12_res false) (pq2980 (pq2981 (pq2982 pz))) (by kernel_rfl) (by kernel_rfl)
      have hr := Option.some.inj hF
      subst hr
      have pz : HoldAll E H hn12 [.test (igt (slen r2667.1) 4000) true, .test (beqb (ieq r2967.2.1 0) true) false, .test (beqb (ieq r2967.2.1 0) true) false, .test (ieq r2967.2.1 0) false, .test (beqb false true) false, .test false false] := ⟨(igt_eq h2969), (beqb_t h2970), (beqb_t h2970), h2970, (beqb_t rfl), rfl, trivial⟩
      exact fn_playC hn12 (f := 12) (ads := [.agg (eGGraph a2663)]) (r := F12_res false) (pq2980 (pq2981 pz)) (by kernel_rfl) (by kernel_rfl)
    refine bind_some hF (fun r2972 h2973 hF => ?_)
    have pq2983 : ∀ {l : List Cond}, HoldAll E H hn12 l → HoldAll E H hn12 (.test (igt (slen r2667.1) 4000) false :: .call 70 [.agg (eGGraph a2663), .agg (eGGraph r2967.1)] (F70_res r2972) :: .test (leadsAny (Res.mk [(.one (.im (.lit (.bool r2972))))] [])) false :: l) := fun z => ⟨(igt_eq h2969), (F70_ok K a2663 r2967.1 _ h2973), (leads_ok (by simp only [leadsAny, List.any_cons, List.any_nil, RV.leads, RC.leads, leadsT, hasSl_lit, Bool.or_false, flat_ns (eInt_ns _), flat_ns eBool_ns, flat_ns eStr_ns, flat_ns eGJob_ns, flat_ns eGEdge_ns, flat_ns eGAsked_ns, flat_ns eGMsg_ns, flat_ns eGrule_ns, flat_ns eGA199_ns, flat_ns eGA202_ns])), z⟩
    refine cond_some hF (fun h2974 hF => ?_) (fun h2974 hF => ?_)
    ·
      have pq2984 : ∀ {l : List Cond}, HoldAll E H hn12 l → HoldAll E H hn12 (.test (beqb r2972 true) true :: .test (beqb r2972 true) true :: .test r2972 true :: l) := fun z => ⟨(beqb_t h2974), (beqb_t h2974), h2974, z⟩
      refine cond_some hF (fun h2975 hF => ?_) (fun h2975 hF => ?_)
      ·
        have pq2985 : ∀ {l : List Cond}, HoldAll E H hn12 l → HoldAll E H hn12 (.test (beqb (ieq r2967.2.1 0) true) true :: .test (beqb (ieq r2967.2.1 0) true) true :: .test (ieq r2967.2.1 0) true :: l) := fun z => ⟨(beqb_t h2975), (beqb_t h2975), h2975, z⟩
        refine cond_some hF (fun h2976 hF => ?_) (fun h2976 hF => ?_)
        ·
          have hr := Option.some.inj hF
          subst hr
          have pz : HoldAll E H hn12 [.test (beqb (ieq r2967.2.2 0) true) true, .call 63 [] (Res.mk [(.one (.im (.lit (.bool true))))] []), .test (leadsAny (Res.mk [(.one (.im (.lit (.bool true))))] [])) false, .test (ieq r2967.2.2 0) true] := ⟨(beqb_t h2976), knows63, (leads_ok (by simp only [leadsAny, List.any_cons, List.any_nil, RV.leads, RC.leads, leadsT, hasSl_lit, Bool.or_false, flat_ns (eInt_ns _), flat_ns eBool_ns, flat_ns eStr_ns, flat_ns eGJob_ns, flat_ns eGEdge_ns, flat_ns eGAsked_ns, flat_ns eGMsg_ns, flat_ns eGrule_ns, flat_ns eGA199_ns, flat_ns eGA202_ns])), h2976, trivial⟩
          exact fn_playC hn12 (f := 12) (ads := [.agg (eGGraph a2663)]) (r := F12_res true) (pq2980 (pq2981 (pq2983 (pq2984 (pq2985 pz))))) (by kernel_rfl) (by kernel_rfl)
        have hr := Option.some.inj hF
        subst hr
        have pz : HoldAll E H hn12 [.test (beqb (ieq r2967.2.2 0) true) false, .test (ieq r2967.2.2 0) false] := ⟨(beqb_t h2976), h2976, trivial⟩
        exact fn_playC hn12 (f := 12) (ads := [.agg (eGGraph a2663)]) (r := F12_res false) (pq2980 (pq2981 (pq2983 (pq2984 (pq2985 pz))))) (by kernel_rfl) (by kernel_rfl)
      have hr := Option.some.inj hF
      subst hr
      have pz : HoldAll E H hn12 [.test (beqb (ieq r2967.2.1 0) true) false, .test (beqb (ieq r2967.2.1 0) true) false, .test (ieq r2967.2.1 0) false, .test (beqb false true) false, .test false false] := ⟨(beqb_t h2975), (beqb_t h2975), h2975, (beqb_t rfl), rfl, trivial⟩
      exact fn_playC hn12 (f := 12) (ads := [.agg (eGGraph a2663)]) (r := F12_res false) (pq2980 (pq2981 (pq2983 (pq2984 pz)))) (by kernel_rfl) (by kernel_rfl)
    have hr := Option.some.inj hF
    subst hr
    have pz : HoldAll E H hn12 [.test (beqb r2972 true) false, .test (beqb r2972 true) false, .test r2972 false, .test (beqb false true) false, .test (beqb false true) false, .test false false, .test (beqb false true) false, .test false false] := ⟨(beqb_t h2974), (beqb_t h2974), h2974, (beqb_t rfl), (beqb_t rfl), rfl, (beqb_t rfl), rfl, trivial⟩
    exact fn_playC hn12 (f := 12) (ads := [.agg (eGGraph a2663)]) (r := F12_res false) (pq2980 (pq2981 (pq2983 pz))) (by kernel_rfl) (by kernel_rfl)
  refine bind_some hF (fun r2977 h2978 hF => ?_)
  have pq2986 : ∀ {l : List Cond}, HoldAll E H hn12 l → HoldAll E H hn12 (.test (ine r2667.2 0) true :: .call 65 [.agg (eGGraph a2663)] (F65_res r2977) :: .test (leadsAny (Res.mk [(.one (.im (.lit (.int .i64 r2977))))] [])) false :: l) := fun z => ⟨(ine_f h2669), (F65_ok K a2663 _ h2978), (leads_ok (by simp only [leadsAny, List.any_cons, List.any_nil, RV.leads, RC.leads, leadsT, hasSl_lit, Bool.or_false, flat_ns (eInt_ns _), flat_ns eBool_ns, flat_ns eStr_ns, flat_ns eGJob_ns, flat_ns eGEdge_ns, flat_ns eGAsked_ns, flat_ns eGMsg_ns, flat_ns eGrule_ns, flat_ns eGA199_ns, flat_ns eGA202_ns])), z⟩
  refine cond_some hF (fun h2979 hF => ?_) (fun h2979 hF => ?_)
  ·
    have hr := Option.some.inj hF
    subst hr
    have pz : HoldAll E H hn12 [.test (beqb (ine r2977 0) true) false, .test (ine r2977 0) false] := ⟨(beqb_t (ine_t h2979)), (ine_t h2979), trivial⟩
    exact fn_playC hn12 (f := 12) (ads := [.agg (eGGraph a2663)]) (r := F12_res false) (pq2980 (pq2986 pz)) (by kernel_rfl) (by kernel_rfl)
  have hr := Option.some.inj hF
  subst hr
  have pz : HoldAll E H hn12 [.test (beqb (ine r2977 0) true) true, .call 63 [] (Res.mk [(.one (.im (.lit (.bool true))))] []), .test (leadsAny (Res.mk [(.one (.im (.lit (.bool true))))] [])) false, .test (ine r2977 0) true] := ⟨(beqb_t (ine_f h2979)), knows63, (leads_ok (by simp only [leadsAny, List.any_cons, List.any_nil, RV.leads, RC.leads, leadsT, hasSl_lit, Bool.or_false, flat_ns (eInt_ns _), flat_ns eBool_ns, flat_ns eStr_ns, flat_ns eGJob_ns, flat_ns eGEdge_ns, flat_ns eGAsked_ns, flat_ns eGMsg_ns, flat_ns eGrule_ns, flat_ns eGA199_ns, flat_ns eGA202_ns])), (ine_f h2979), trivial⟩
  exact fn_playC hn12 (f := 12) (ads := [.agg (eGGraph a2663)]) (r := F12_res true) (pq2980 (pq2986 pz)) (by kernel_rfl) (by kernel_rfl)

end Go.Proofs.Ytnjanliihnadjaa.Tm

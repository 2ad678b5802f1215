/- Printed by program: what each function computes, and that the machine answers so. Conditions: none. -/
import Derived.Test.YtnjanliihnadjaaTy
import Derived.Test.YtnjanliihnadjaaTab
import Derived.Test.YtnjanliihnadjaaKn
import Derived.Test.YtnjanliihnadjaaFG
import Derived.KernelRfl
set_option linter.unusedVariables false
set_option linter.unusedSimpArgs false
namespace Go.Proofs.Ytnjanliihnadjaa.Tm
open Go
/-! ### haywain/haywainlaw03.GraphPrints -/
noncomputable def hn10 : Hint := { H 10 with nt := 39, prot := 0 }
def F10_res (r2587 : Bool) : Res := ⟨[(.one (.im (.lit (.bool r2587))))], []⟩
def F10 (K : Nat) (a2448 : GGraph) : Option (Bool) :=
  (F62 K a2448).bind fun r2449 =>
  bif r2449 then
    (some true)
  else
  (F66 K a2448).bind fun r2509 =>
  (F65 K a2448).bind fun r2511 =>
  bif (ieq r2511 0) then
    ((F67 K a2448).bind fun r2577 =>
    bif (seqs r2509.1 r2577) then
      (bif (ieq r2509.2 0) then
        (some true)
      else
      some false)
    else
    some false)
  else
  bif (seqs r2509.1 (bs [])) then
    (bif (ieq r2509.2 r2511) then
      (some true)
    else
    some false)
  else
  some false
theorem F10_ok (K : Nat) (a2448 : GGraph) (r : Bool) (hF : F10 K a2448 = some r) : Evt E H 10 [.agg (eGGraph a2448)] (F10_res r) := by
  rw [F10] at hF
  refine bind_some hF (fun r2449 h2450 hF => ?_)
  refine cond_some hF (fun h2451 hF => ?_) (fun h2451 hF => ?_)
  ·
    have hr := Option.some.inj hF
    subst hr
    have pz : HoldAll E H hn10 [.call 62 [.agg (eGGraph a2448)] (F62_res r2449), .test (leadsAny (Res.mk [(.one (.im (.lit (.bool r2449))))] [])) false, .test r2449 true, .call 63 [] (Res.mk [(.one (.im (.lit (.bool true))))] []), .test (leadsAny (Res.mk [(.one (.im (.lit (.bool true))))] [])) false] := ⟨(F62_ok K a2448 _ h2450), (leads_ok (by simp only [leadsAny, List.any_cons, List.any_nil, RV.leads, RC.leads, leadsT, hasSl_lit, Bool.or_false, flat_ns (eInt_ns _), flat_ns eBool_ns, flat_ns eStr_ns, flat_ns eGJob_ns, flat_ns eGEdge_ns, flat_ns eGAsked_ns, flat_ns eGMsg_ns, flat_ns eGrule_ns, flat_ns eGA199_ns, flat_ns eGA202_ns])), h2451, knows63, (leads_ok (by simp only [leadsAny, List.any_cons, List.any_nil, RV.leads, RC.leads, leadsT, hasSl_lit, Bool.or_false, flat_ns (eInt_ns _), flat_ns eBool_ns, flat_ns eStr_ns, flat_ns eGJob_ns, flat_ns eGEdge_ns, flat_ns eGAsked_ns, flat_ns eGMsg_ns, flat_ns eGrule_ns, flat_ns eGA199_ns, flat_ns eGA202_ns])), trivial⟩
    exact fn_playC hn10 (f := 10) (ads := [.agg (eGGraph a2448)]) (r := F10_res true) pz (by kernel_rfl) (by kernel_rfl)
  refine bind_some hF (fun r2509 h2510 hF => ?_)
  refine bind_some hF (fun r2511 h2512 hF => ?_)
  have pq2583 : ∀ {l : List Cond}, HoldAll E H hn10 l → HoldAll E H hn10 (.call 62 [.agg (eGGraph a2448)] (F62_res r2449) :: .test (leadsAny (Res.mk [(.one (.im (.lit (.bool r2449))))] [])) false :: .test r2449 false :: .call 66 [.agg (eGGraph a2448)] (F66_res r2509) :: .test (leadsAny (Res.mk [(.one (.im (.lit (.string r2509.1)))), (.one (.im (.lit (.int .i64 r2509.2))))] [])) false :: .call 65 [.agg (eGGraph a2448)] (F65_res r2511) :: .test (leadsAny (Res.mk [(.one (.im (.lit (.int .i64 r2511))))] [])) false :: l) := fun z => ⟨(F62_ok K a2448 _ h2450), (leads_ok (by simp only [leadsAny, List.any_cons, List.any_nil, RV.leads, RC.leads, leadsT, hasSl_lit, Bool.or_false, flat_ns (eInt_ns _), flat_ns eBool_ns, flat_ns eStr_ns, flat_ns eGJob_ns, flat_ns eGEdge_ns, flat_ns eGAsked_ns, flat_ns eGMsg_ns, flat_ns eGrule_ns, flat_ns eGA199_ns, flat_ns eGA202_ns])), h2451, (F66_ok K a2448 _ h2510), (leads_ok (by simp only [leadsAny, List.any_cons, List.any_nil, RV.leads, RC.leads, leadsT, hasSl_lit, Bool.or_false, flat_ns (eInt_ns _), flat_ns eBool_ns, flat_ns eStr_ns, flat_ns eGJob_ns, flat_ns eGEdge_ns, flat_ns eGAsked_ns, flat_ns eGMsg_ns, flat_ns eGrule_ns, flat_ns eGA199_ns, flat_ns eGA202_ns])), (F65_ok K a2448 _ h2512), (leads_ok (by simp only [leadsAny, List.any_cons, List.any_nil, RV.leads, RC.leads, leadsT, hasSl_lit, Bool.or_false, flat_ns (eInt_ns _), flat_ns eBool_ns, flat_ns eStr_ns, flat_ns eGJob_ns, flat_ns eGEdge_ns, flat_ns eGAsked_ns, flat_ns eGMsg_ns, flat_ns eGrule_ns, flat_ns eGA199_ns, flat_ns eGA202_ns])), z⟩
  refine cond_some hF (fun h2513 hF => ?_) (fun h2513 hF => ?_)
  ·
    refine bind_some hF (fun r2577 h2578 hF => ?_)
    have pq2584 : ∀ {l : List Cond}, HoldAll E H hn10 l → HoldAll E H hn10 (.test (ine r2511 0) false :: .call 67 [.agg (eGGraph a2448)] (F67_res r2577) :: .test (leadsAny (Res.mk [(.one (.im (.lit (.string r2577))))] [])) false :: l) := fun z => ⟨(ine_t h2513), (F67_ok K a2448 _ h2578), (leads_ok (by simp only [leadsAny, List.any_cons, List.any_nil, RV.leads, RC.leads, leadsT, hasSl_lit, Bool.or_false, flat_ns (eInt_ns _), flat_ns eBool_ns, flat_ns eStr_ns, flat_ns eGJob_ns, flat_ns eGEdge_ns, flat_ns eGAsked_ns, flat_ns eGMsg_ns, flat_ns eGrule_ns, flat_ns eGA199_ns, flat_ns eGA202_ns])), z⟩
    refine cond_some hF (fun h2579 hF => ?_) (fun h2579 hF => ?_)
    ·
      have pq2585 : ∀ {l : List Cond}, HoldAll E H hn10 l → HoldAll E H hn10 (.test (beqb (seqs r2509.1 r2577) true) true :: .test (beqb (seqs r2509.1 r2577) true) true :: .test (seqs r2509.1 r2577) true :: l) := fun z => ⟨(beqb_t h2579), (beqb_t h2579), h2579, z⟩
      refine cond_some hF (fun h2580 hF => ?_) (fun h2580 hF => ?_)
      ·
        have hr := Option.some.inj hF
        subst hr
        have pz : HoldAll E H hn10 [.test (beqb (ieq r2509.2 0) true) true, .call 63 [] (Res.mk [(.one (.im (.lit (.bool true))))] []), .test (leadsAny (Res.mk [(.one (.im (.lit (.bool true))))] [])) false, .test (ieq r2509.2 0) true] := ⟨(beqb_t h2580), knows63, (leads_ok (by simp only [leadsAny, List.any_cons, List.any_nil, RV.leads, RC.leads, leadsT, hasSl_lit, Bool.or_false, flat_ns (eInt_ns _), flat_ns eBool_ns, flat_ns eStr_ns, flat_ns eGJob_ns, flat_ns eGEdge_ns, flat_ns eGAsked_ns, flat_ns eGMsg_ns, flat_ns eGrule_ns, flat_ns eGA199_ns, flat_ns eGA202_ns])), h2580, trivial⟩
        exact fn_playC hn10 (f := 10) (ads := [.agg (eGGraph a2448)]) (r := F10_res true) (pq2583 (pq2584 (pq2585 pz))) (by kernel_rfl) (by kernel_rfl)
      have hr := Option.some.inj hF
      subst hr
      have pz : HoldAll E H hn10 [.test (beqb (ieq r2509.2 0) true) false, .test (ieq r2509.2 0) false] := ⟨(beqb_t h2580), h2580, trivial⟩
      exact fn_playC hn10 (f := 10) (ads := [.agg (eGGraph a2448)]) (r := F10_res false) (pq2583 (pq2584 (pq2585 pz))) (by kernel_rfl) (by kernel_rfl)
    have hr := Option.some.inj hF
    subst hr
    have pz : HoldAll E H hn10 [.test (beqb (seqs r2509.1 r2577) true) false, .test (beqb (seqs r2509.1 r2577) true) false, .test (seqs r2509.1 r2577) false, .test (beqb false true) false, .test false false] := ⟨(beqb_t h2579), (beqb_t h2579), h2579, (beqb_t rfl), rfl, trivial⟩
    exact fn_playC hn10 (f := 10) (ads := [.agg (eGGraph a2448)]) (r := F10_res false) (pq2583 (pq2584 pz)) (by kernel_rfl) (by kernel_rfl)
  refine cond_some hF (fun h2581 hF => ?_) (fun h2581 hF => ?_)
  ·
    have pq2586 : ∀ {l : List Cond}, HoldAll E H hn10 l → HoldAll E H hn10 (.test (ine r2511 0) true :: .test (beqb (seqs r2509.1 (bs [])) true) true :: .test (beqb (seqs r2509.1 (bs [])) true) true :: .test (beqb (seqs r2509.1 (bs [])) true) true :: .test (seqs r2509.1 (bs [])) true :: l) := fun z => ⟨(ine_f h2513), (beqb_t h2581), (beqb_t h2581), (beqb_t h2581), h2581, z⟩
    refine cond_some hF (fun h2582 hF => ?_) (fun h2582 hF => ?_)
    ·
      have hr := Option.some.inj hF
      subst hr
      have pz : HoldAll E H hn10 [.test (beqb (ieq r2509.2 r2511) true) true, .call 63 [] (Res.mk [(.one (.im (.lit (.bool true))))] []), .test (leadsAny (Res.mk [(.one (.im (.lit (.bool true))))] [])) false, .test (ieq r2509.2 r2511) true] := ⟨(beqb_t h2582), knows63, (leads_ok (by simp only [leadsAny, List.any_cons, List.any_nil, RV.leads, RC.leads, leadsT, hasSl_lit, Bool.or_false, flat_ns (eInt_ns _), flat_ns eBool_ns, flat_ns eStr_ns, flat_ns eGJob_ns, flat_ns eGEdge_ns, flat_ns eGAsked_ns, flat_ns eGMsg_ns, flat_ns eGrule_ns, flat_ns eGA199_ns, flat_ns eGA202_ns])), h2582, trivial⟩
      exact fn_playC hn10 (f := 10) (ads := [.agg (eGGraph a2448)]) (r := F10_res true) (pq2583 (pq2586 pz)) (by kernel_rfl) (by kernel_rfl)
    have hr := Option.some.inj hF
    subst hr
    have pz : HoldAll E H hn10 [.test (beqb (ieq r2509.2 r2511) true) false, .test (ieq r2509.2 r2511) false] := ⟨(beqb_t h2582), h2582, trivial⟩
    exact fn_playC hn10 (f := 10) (ads := [.agg (eGGraph a2448)]) (r := F10_res false) (pq2583 (pq2586 pz)) (by kernel_rfl) (by kernel_rfl)
  have hr := Option.some.inj hF
  subst hr
  have pz : HoldAll E H hn10 [.test (ine r2511 0) true, .test (beqb (seqs r2509.1 (bs [])) true) false, .test (beqb (seqs r2509.1 (bs [])) true) false, .test (beqb (seqs r2509.1 (bs [])) true) false, .test (seqs r2509.1 (bs [])) false, .test (beqb false true) false, .test false false] := ⟨(ine_f h2513), (beqb_t h2581), (beqb_t h2581), (beqb_t h2581), h2581, (beqb_t rfl), rfl, trivial⟩
  exact fn_playC hn10 (f := 10) (ads := [.agg (eGGraph a2448)]) (r := F10_res false) (pq2583 pz) (by kernel_rfl) (by kernel_rfl)

end Go.Proofs.Ytnjanliihnadjaa.Tm

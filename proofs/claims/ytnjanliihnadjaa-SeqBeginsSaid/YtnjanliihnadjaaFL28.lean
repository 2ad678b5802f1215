/- Printed by program: what each function computes, and that the machine answers so. Conditions: none. -/
import Derived.Test.YtnjanliihnadjaaTy
import Derived.Test.YtnjanliihnadjaaTab
import Derived.Test.YtnjanliihnadjaaKn
import Derived.Test.YtnjanliihnadjaaFD
import Derived.Test.YtnjanliihnadjaaFPs
import Derived.Test.YtnjanliihnadjaaFVa
import Derived.KernelRfl
set_option linter.unusedVariables false
set_option linter.unusedSimpArgs false
namespace Go.Proofs.Ytnjanliihnadjaa.Tm
open Go
/-! ### haywain/haywainlaw06.SeqRights -/
noncomputable def hn28 : Hint := { H 28 with nt := 33, prot := 0 }
def F28_res (r5093 : Bool) : Res := ⟨[(.one (.im (.lit (.bool r5093))))], []⟩
def F28 (K : Nat) (a5044 : GGraph) (a5045 : GJob) (a5046 : GState) : Option (Bool) :=
  (F101 K a5044).bind fun r5049 =>
  bif r5049 then
    (some true)
  else
  (F102 K a5046).bind fun r5057 =>
  bif r5057 then
    (some true)
  else
  (F104 K a5044 a5045 a5046).bind fun r5060 =>
  (F88 K a5044 a5045 a5046).bind fun r5062 =>
  bif (beqb r5060 r5062) then
    ((F105 K a5046).bind fun r5085 =>
    (F106 K a5046).bind fun r5087 =>
    bif (beqb r5085 r5087) then
      (some true)
    else
    some false)
  else
  some false
theorem F28_ok (K : Nat) (a5044 : GGraph) (a5045 : GJob) (a5046 : GState) (r : Bool) (hF : F28 K a5044 a5045 a5046 = some r) : Evt E H 28 [.agg (eGGraph a5044), .agg (eGJob a5045), .agg (eGState a5046)] (F28_res r) := by
  rw [F28] at hF
  refine bind_some hF (fun r5049 h5050 hF => ?_)
  refine cond_some hF (fun h5051 hF => ?_) (fun h5051 hF => ?_)
  ·
    have hr := Option.some.inj hF
    subst hr
    have pz : HoldAll E H hn28 [.call 101 [.agg (eGGraph a5044)] (F101_res r5049), .test (leadsAny (Res.mk [(.one (.im (.lit (.bool r5049))))] [])) false, .test (beqb r5049 false) false, .test (beqb r5049 false) false, .test r5049 true, .test true true, .call 103 [] (Res.mk [(.one (.im (.lit (.bool true))))] []), .test (leadsAny (Res.mk [(.one (.im (.lit (.bool true))))] [])) false] := ⟨(F101_ok K a5044 _ h5050), (leads_ok (by simp only [leadsAny, List.any_cons, List.any_nil, RV.leads, RC.leads, leadsT, hasSl_lit, Bool.or_false, flat_ns (eInt_ns _), flat_ns eBool_ns, flat_ns eStr_ns, flat_ns eGJob_ns, flat_ns eGEdge_ns, flat_ns eGAsked_ns, flat_ns eGMsg_ns, flat_ns eGrule_ns, flat_ns eGA199_ns, flat_ns eGA202_ns])), (beqb_ft h5051), (beqb_ft h5051), h5051, rfl, knows103, (leads_ok (by simp only [leadsAny, List.any_cons, List.any_nil, RV.leads, RC.leads, leadsT, hasSl_lit, Bool.or_false, flat_ns (eInt_ns _), flat_ns eBool_ns, flat_ns eStr_ns, flat_ns eGJob_ns, flat_ns eGEdge_ns, flat_ns eGAsked_ns, flat_ns eGMsg_ns, flat_ns eGrule_ns, flat_ns eGA199_ns, flat_ns eGA202_ns])), trivial⟩
    exact fn_playC hn28 (f := 28) (ads := [.agg (eGGraph a5044), .agg (eGJob a5045), .agg (eGState a5046)]) (r := F28_res true) pz (by kernel_rfl) (by kernel_rfl)
  refine bind_some hF (fun r5057 h5058 hF => ?_)
  have pq5090 : ∀ {l : List Cond}, HoldAll E H hn28 l → HoldAll E H hn28 (.call 101 [.agg (eGGraph a5044)] (F101_res r5049) :: .test (leadsAny (Res.mk [(.one (.im (.lit (.bool r5049))))] [])) false :: .test (beqb r5049 false) true :: .test (beqb r5049 false) true :: .call 102 [.agg (eGState a5046)] (F102_res r5057) :: .test (leadsAny (Res.mk [(.one (.im (.lit (.bool r5057))))] [])) false :: .test r5049 false :: l) := fun z => ⟨(F101_ok K a5044 _ h5050), (leads_ok (by simp only [leadsAny, List.any_cons, List.any_nil, RV.leads, RC.leads, leadsT, hasSl_lit, Bool.or_false, flat_ns (eInt_ns _), flat_ns eBool_ns, flat_ns eStr_ns, flat_ns eGJob_ns, flat_ns eGEdge_ns, flat_ns eGAsked_ns, flat_ns eGMsg_ns, flat_ns eGrule_ns, flat_ns eGA199_ns, flat_ns eGA202_ns])), (beqb_ff h5051), (beqb_ff h5051), (F102_ok K a5046 _ h5058), (leads_ok (by simp only [leadsAny, List.any_cons, List.any_nil, RV.leads, RC.leads, leadsT, hasSl_lit, Bool.or_false, flat_ns (eInt_ns _), flat_ns eBool_ns, flat_ns eStr_ns, flat_ns eGJob_ns, flat_ns eGEdge_ns, flat_ns eGAsked_ns, flat_ns eGMsg_ns, flat_ns eGrule_ns, flat_ns eGA199_ns, flat_ns eGA202_ns])), h5051, z⟩
  refine cond_some hF (fun h5059 hF => ?_) (fun h5059 hF => ?_)
  ·
    have hr := Option.some.inj hF
    subst hr
    have pz : HoldAll E H hn28 [.test r5057 true, .call 103 [] (Res.mk [(.one (.im (.lit (.bool true))))] []), .test (leadsAny (Res.mk [(.one (.im (.lit (.bool true))))] [])) false] := ⟨h5059, knows103, (leads_ok (by simp only [leadsAny, List.any_cons, List.any_nil, RV.leads, RC.leads, leadsT, hasSl_lit, Bool.or_false, flat_ns (eInt_ns _), flat_ns eBool_ns, flat_ns eStr_ns, flat_ns eGJob_ns, flat_ns eGEdge_ns, flat_ns eGAsked_ns, flat_ns eGMsg_ns, flat_ns eGrule_ns, flat_ns eGA199_ns, flat_ns eGA202_ns])), trivial⟩
    exact fn_playC hn28 (f := 28) (ads := [.agg (eGGraph a5044), .agg (eGJob a5045), .agg (eGState a5046)]) (r := F28_res true) (pq5090 pz) (by kernel_rfl) (by kernel_rfl)
  refine bind_some hF (fun r5060 h5061 hF => ?_)
  refine bind_some hF (fun r5062 h5063 hF => ?_)
  have pq5091 : ∀ {l : List Cond}, HoldAll E H hn28 l → HoldAll E H hn28 (.test r5057 false :: .call 104 [.agg (eGGraph a5044), .agg (eGJob a5045), .agg (eGState a5046)] (F104_res r5060) :: .test (leadsAny (Res.mk [(.one (.im (.lit (.bool r5060))))] [])) false :: .call 88 [.agg (eGGraph a5044), .agg (eGJob a5045), .agg (eGState a5046)] (F88_res r5062) :: .test (leadsAny (Res.mk [(.one (.im (.lit (.bool r5062))))] [])) false :: l) := fun z => ⟨h5059, (F104_ok K a5044 a5045 a5046 _ h5061), (leads_ok (by simp only [leadsAny, List.any_cons, List.any_nil, RV.leads, RC.leads, leadsT, hasSl_lit, Bool.or_false, flat_ns (eInt_ns _), flat_ns eBool_ns, flat_ns eStr_ns, flat_ns eGJob_ns, flat_ns eGEdge_ns, flat_ns eGAsked_ns, flat_ns eGMsg_ns, flat_ns eGrule_ns, flat_ns eGA199_ns, flat_ns eGA202_ns])), (F88_ok K a5044 a5045 a5046 _ h5063), (leads_ok (by simp only [leadsAny, List.any_cons, List.any_nil, RV.leads, RC.leads, leadsT, hasSl_lit, Bool.or_false, flat_ns (eInt_ns _), flat_ns eBool_ns, flat_ns eStr_ns, flat_ns eGJob_ns, flat_ns eGEdge_ns, flat_ns eGAsked_ns, flat_ns eGMsg_ns, flat_ns eGrule_ns, flat_ns eGA199_ns, flat_ns eGA202_ns])), z⟩
  refine cond_some hF (fun h5064 hF => ?_) (fun h5064 hF => ?_)
  ·
    refine bind_some hF (fun r5085 h5086 hF => ?_)
    refine bind_some hF (fun r5087 h5088 hF => ?_)
    have pq5092 : ∀ {l : List Cond}, HoldAll E H hn28 l → HoldAll E H hn28 (.test (beqb (beqb r5060 r5062) true) true :: .test (beqb (beqb r5060 r5062) true) true :: .call 105 [.agg (eGState a5046)] (F105_res r5085) :: .test (leadsAny (Res.mk [(.one (.im (.lit (.bool r5085))))] [])) false :: .test (beqb (beqb r5060 r5062) true) true :: .test (beqb (beqb r5060 r5062) true) true :: .call 106 [.agg (eGState a5046)] (F106_res r5087) :: .test (leadsAny (Res.mk [(.one (.im (.lit (.bool r5087))))] [])) false :: .test (beqb (beqb r5060 r5062) true) true :: .test (beqb r5060 r5062) true :: l) := fun z => ⟨(beqb_t h5064), (beqb_t h5064), (F105_ok K a5046 _ h5086), (leads_ok (by simp only [leadsAny, List.any_cons, List.any_nil, RV.leads, RC.leads, leadsT, hasSl_lit, Bool.or_false, flat_ns (eInt_ns _), flat_ns eBool_ns, flat_ns eStr_ns, flat_ns eGJob_ns, flat_ns eGEdge_ns, flat_ns eGAsked_ns, flat_ns eGMsg_ns, flat_ns eGrule_ns, flat_ns eGA199_ns, flat_ns eGA202_ns])), (beqb_t h5064), (beqb_t h5064), (F106_ok K a5046 _ h5088), (leads_ok (by simp only [leadsAny, List.any_cons, List.any_nil, RV.leads, RC.leads, leadsT, hasSl_lit, Bool.or_false, flat_ns (eInt_ns _), flat_ns eBool_ns, flat_ns eStr_ns, flat_ns eGJob_ns, flat_ns eGEdge_ns, flat_ns eGAsked_ns, flat_ns eGMsg_ns, flat_ns eGrule_ns, flat_ns eGA199_ns, flat_ns eGA202_ns])), (beqb_t h5064), h5064, z⟩
    refine cond_some hF (fun h5089 hF => ?_) (fun h5089 hF => ?_)
    ·
      have hr := Option.some.inj hF
      subst hr
      have pz : HoldAll E H hn28 [.test (beqb (beqb r5085 r5087) true) true, .call 103 [] (Res.mk [(.one (.im (.lit (.bool true))))] []), .test (leadsAny (Res.mk [(.one (.im (.lit (.bool true))))] [])) false, .test (beqb r5085 r5087) true] := ⟨(beqb_t h5089), knows103, (leads_ok (by simp only [leadsAny, List.any_cons, List.any_nil, RV.leads, RC.leads, leadsT, hasSl_lit, Bool.or_false, flat_ns (eInt_ns _), flat_ns eBool_ns, flat_ns eStr_ns, flat_ns eGJob_ns, flat_ns eGEdge_ns, flat_ns eGAsked_ns, flat_ns eGMsg_ns, flat_ns eGrule_ns, flat_ns eGA199_ns, flat_ns eGA202_ns])), h5089, trivial⟩
      exact fn_playC hn28 (f := 28) (ads := [.agg (eGGraph a5044), .agg (eGJob a5045), .agg (eGState a5046)]) (r := F28_res true) (pq5090 (pq5091 (pq5092 pz))) (by kernel_rfl) (by kernel_rfl)
    have hr := Option.some.inj hF
    subst hr
    have pz : HoldAll E H hn28 [.test (beqb (beqb r5085 r5087) true) false, .test (beqb r5085 r5087) false] := ⟨(beqb_t h5089), h5089, trivial⟩
    exact fn_playC hn28 (f := 28) (ads := [.agg (eGGraph a5044), .agg (eGJob a5045), .agg (eGState a5046)]) (r := F28_res false) (pq5090 (pq5091 (pq5092 pz))) (by kernel_rfl) (by kernel_rfl)
  have hr := Option.some.inj hF
  subst hr
  have pz : HoldAll E H hn28 [.test (beqb (beqb r5060 r5062) true) false, .test (beqb (beqb r5060 r5062) true) false, .test (beqb (beqb r5060 r5062) true) false, .test (beqb (beqb r5060 r5062) true) false, .test (beqb (beqb r5060 r5062) true) false, .test (beqb r5060 r5062) false, .test (beqb false true) false, .test false false] := ⟨(beqb_t h5064), (beqb_t h5064), (beqb_t h5064), (beqb_t h5064), (beqb_t h5064), h5064, (beqb_t rfl), rfl, trivial⟩
  exact fn_playC hn28 (f := 28) (ads := [.agg (eGGraph a5044), .agg (eGJob a5045), .agg (eGState a5046)]) (r := F28_res false) (pq5090 (pq5091 pz)) (by kernel_rfl) (by kernel_rfl)

end Go.Proofs.Ytnjanliihnadjaa.Tm

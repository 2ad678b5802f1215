/- Printed by program: what each function computes, and that the machine answers so. Conditions: none. -/
import Derived.Test.YtnjanliihnadjaaTy
import Derived.Test.YtnjanliihnadjaaTab
import Derived.Test.YtnjanliihnadjaaKn
import Derived.Test.YtnjanliihnadjaaFG
import Derived.KernelRfl
set_option linter.unusedVariables false
set_option linter.unusedSimpArgs false
namespace Go.Proofs.Ytnjanliihnadjaa.Tm
open Go
/-! ### haywain/haywainref04.Check -/
noncomputable def hn59 : Hint := { H 59 with nt := 51, prot := 0 }
def F59_res (r1126 : Int) : Res := ⟨[(.one (.im (.lit (.int .i64 r1126))))], []⟩
def F59 (K : Nat) (a1051 : GGraph) (a1052 : GJob) : Option (Int) :=
  (F65 K a1051).bind fun r1107 =>
  bif (ieq r1107 0) then
    (bif (ilt a1052.Prog 1) then
      (some 1)
    else
    bif (ilt 5 a1052.Prog) then
      (some 1)
    else
    bif (ilt a1052.Source 0) then
      (some 1)
    else
    bif (ile a1051.N a1052.Source) then
      (some 1)
    else
    bif (ilt a1052.Limit 0) then
      (some 1)
    else
    bif (ilt 40 a1052.Limit) then
      (some 1)
    else
    bif (ilt a1052.Parts 1) then
      (some 1)
    else
    bif (ilt 6 a1052.Parts) then
      (some 1)
    else
    some 0)
  else
  some r1107
theorem F59_ok (K : Nat) (a1051 : GGraph) (a1052 : GJob) (r : Int) (hF : F59 K a1051 a1052 = some r) : Evt E H 59 [.agg (eGGraph a1051), .agg (eGJob a1052)] (F59_res r) := by
  rw [F59] at hF
  refine bind_some hF (fun r1107 h1108 hF => ?_)
  refine cond_some hF (fun h1109 hF => ?_) (fun h1109 hF => ?_)
  ·
    have pq1118 : ∀ {l : List Cond}, HoldAll E H hn59 l → HoldAll E H hn59 (.call 65 [.agg (eGGraph a1051)] (F65_res r1107) :: .test (leadsAny (Res.mk [(.one (.im (.lit (.int .i64 r1107))))] [])) false :: .test (ine r1107 0) false :: l) := fun z => ⟨(F65_ok K a1051 _ h1108), (leads_ok (by simp only [leadsAny, List.any_cons, List.any_nil, RV.leads, RC.leads, leadsT, hasSl_lit, Bool.or_false, flat_ns (eInt_ns _), flat_ns eBool_ns, flat_ns eStr_ns, flat_ns eGJob_ns, flat_ns eGEdge_ns, flat_ns eGAsked_ns, flat_ns eGMsg_ns, flat_ns eGrule_ns, flat_ns eGA199_ns, flat_ns eGA202_ns])), (ine_t h1109), z⟩
    refine cond_some hF (fun h1110 hF => ?_) (fun h1110 hF => ?_)
    ·
      have hr := Option.some.inj hF
      subst hr
      have pz : HoldAll E H hn59 [.test (beqb (ilt a1052.Prog 1) false) false, .test (beqb (ilt a1052.Prog 1) false) false, .test (beqb (ilt a1052.Prog 1) false) false, .test (ilt a1052.Prog 1) true, .test (beqb true false) false, .test (beqb true false) false, .test (beqb true false) false, .test true true, .test (beqb true false) false, .test (beqb true false) false, .test (beqb true false) false, .test (beqb true false) false, .test (beqb true false) false, .test true true, .test (beqb true false) false, .test (beqb true false) false, .test (beqb true false) false, .test true true, .test (beqb true false) false, .test (beqb true false) false, .test (beqb true false) false, .test true true, .test (beqb true false) false, .test (beqb true false) false, .test (beqb true false) false, .test true true, .test (beqb true false) false, .test (beqb true false) false, .test (beqb true false) false, .test true true, .test true true] := ⟨(beqb_ft h1110), (beqb_ft h1110), (beqb_ft h1110), h1110, (beqb_ft rfl), (beqb_ft rfl), (beqb_ft rfl), rfl, (beqb_ft rfl), (beqb_ft rfl), (beqb_ft rfl), (beqb_ft rfl), (beqb_ft rfl), rfl, (beqb_ft rfl), (beqb_ft rfl), (beqb_ft rfl), rfl, (beqb_ft rfl), (beqb_ft rfl), (beqb_ft rfl), rfl, (beqb_ft rfl), (beqb_ft rfl), (beqb_ft rfl), rfl, (beqb_ft rfl), (beqb_ft rfl), (beqb_ft rfl), rfl, rfl, trivial⟩
      exact fn_playC hn59 (f := 59) (ads := [.agg (eGGraph a1051), .agg (eGJob a1052)]) (r := F59_res 1) (pq1118 pz) (by kernel_rfl) (by kernel_rfl)
    have pq1119 : ∀ {l : List Cond}, HoldAll E H hn59 l → HoldAll E H hn59 (.test (beqb (ilt a1052.Prog 1) false) true :: .test (beqb (ilt a1052.Prog 1) false) true :: .test (beqb (ilt a1052.Prog 1) false) true :: .test (ilt a1052.Prog 1) false :: l) := fun z => ⟨(beqb_ff h1110), (beqb_ff h1110), (beqb_ff h1110), h1110, z⟩
    refine cond_some hF (fun h1111 hF => ?_) (fun h1111 hF => ?_)
    ·
      have hr := Option.some.inj hF
      subst hr
      have pz : HoldAll E H hn59 [.test (beqb (igt a1052.Prog 5) false) false, .test (beqb (igt a1052.Prog 5) false) false, .test (beqb (igt a1052.Prog 5) false) false, .test (igt a1052.Prog 5) true, .test (beqb true false) false, .test (beqb true false) false, .test (beqb true false) false, .test (beqb true false) false, .test (beqb true false) false, .test true true, .test (beqb true false) false, .test (beqb true false) false, .test (beqb true false) false, .test true true, .test (beqb true false) false, .test (beqb true false) false, .test (beqb true false) false, .test true true, .test (beqb true false) false, .test (beqb true false) false, .test (beqb true false) false, .test true true, .test (beqb true false) false, .test (beqb true false) false, .test (beqb true false) false, .test true true, .test true true] := ⟨(beqb_ft (igt_eq h1111)), (beqb_ft (igt_eq h1111)), (beqb_ft (igt_eq h1111)), (igt_eq h1111), (beqb_ft rfl), (beqb_ft rfl), (beqb_ft rfl), (beqb_ft rfl), (beqb_ft rfl), rfl, (beqb_ft rfl), (beqb_ft rfl), (beqb_ft rfl), rfl, (beqb_ft rfl), (beqb_ft rfl), (beqb_ft rfl), rfl, (beqb_ft rfl), (beqb_ft rfl), (beqb_ft rfl), rfl, (beqb_ft rfl), (beqb_ft rfl), (beqb_ft rfl), rfl, rfl, trivial⟩
      exact fn_playC hn59 (f := 59) (ads := [.agg (eGGraph a1051), .agg (eGJob a1052)]) (r := F59_res 1) (pq1118 (pq1119 pz)) (by kernel_rfl) (by kernel_rfl)
    have pq1120 : ∀ {l : List Cond}, HoldAll E H hn59 l → HoldAll E H hn59 (.test (beqb (igt a1052.Prog 5) false) true :: .test (beqb (igt a1052.Prog 5) false) true :: .test (beqb (igt a1052.Prog 5) false) true :: .test (igt a1052.Prog 5) false :: l) := fun z => ⟨(beqb_ff (igt_eq h1111)), (beqb_ff (igt_eq h1111)), (beqb_ff (igt_eq h1111)), (igt_eq h1111), z⟩
    refine cond_some hF (fun h1112 hF => ?_) (fun h1112 hF => ?_)
    ·
      have hr := Option.some.inj hF
      subst hr
      have pz : HoldAll E H hn59 [.test (beqb (ilt a1052.Source 0) false) false, .test (beqb (ilt a1052.Source 0) false) false, .test (beqb (ilt a1052.Source 0) false) false, .test (beqb (ilt a1052.Source 0) false) false, .test (beqb (ilt a1052.Source 0) false) false, .test (ilt a1052.Source 0) true, .test (beqb true false) false, .test (beqb true false) false, .test (beqb true false) false, .test true true, .test (beqb true false) false, .test (beqb true false) false, .test (beqb true false) false, .test true true, .test (beqb true false) false, .test (beqb true false) false, .test (beqb true false) false, .test true true, .test (beqb true false) false, .test (beqb true false) false, .test (beqb true false) false, .test true true, .test true true] := ⟨(beqb_ft h1112), (beqb_ft h1112), (beqb_ft h1112), (beqb_ft h1112), (beqb_ft h1112), h1112, (beqb_ft rfl), (beqb_ft rfl), (beqb_ft rfl), rfl, (beqb_ft rfl), (beqb_ft rfl), (beqb_ft rfl), rfl, (beqb_ft rfl), (beqb_ft rfl), (beqb_ft rfl), rfl, (beqb_ft rfl), (beqb_ft rfl), (beqb_ft rfl), rfl, rfl, trivial⟩
      exact fn_playC hn59 (f := 59) (ads := [.agg (eGGraph a1051), .agg (eGJob a1052)]) (r := F59_res 1) (pq1118 (pq1119 (pq1120 pz))) (by kernel_rfl) (by kernel_rfl)
    have pq1121 : ∀ {l : List Cond}, HoldAll E H hn59 l → HoldAll E H hn59 (.test (beqb (ilt a1052.Source 0) false) true :: .test (beqb (ilt a1052.Source 0) false) true :: .test (beqb (ilt a1052.Source 0) false) true :: .test (beqb (ilt a1052.Source 0) false) true :: .test (beqb (ilt a1052.Source 0) false) true :: .test (ilt a1052.Source 0) false :: l) := fun z => ⟨(beqb_ff h1112), (beqb_ff h1112), (beqb_ff h1112), (beqb_ff h1112), (beqb_ff h1112), h1112, z⟩
    refine cond_some hF (fun h1113 hF => ?_) (fun h1113 hF => ?_)
    ·
      have hr := Option.some.inj hF
      subst hr
      have pz : HoldAll E H hn59 [.test (beqb (ige a1052.Source a1051.N) false) false, .test (beqb (ige a1052.Source a1051.N) false) false, .test (beqb (ige a1052.Source a1051.N) false) false, .test (ige a1052.Source a1051.N) true, .test (beqb true false) false, .test (beqb true false) false, .test (beqb true false) false, .test true true, .test (beqb true false) false, .test (beqb true false) false, .test (beqb true false) false, .test true true, .test (beqb true false) false, .test (beqb true false) false, .test (beqb true false) false, .test true true, .test true true] := ⟨(beqb_ft (ige_eq h1113)), (beqb_ft (ige_eq h1113)), (beqb_ft (ige_eq h1113)), (ige_eq h1113), (beqb_ft rfl), (beqb_ft rfl), (beqb_ft rfl), rfl, (beqb_ft rfl), (beqb_ft rfl), (beqb_ft rfl), rfl, (beqb_ft rfl), (beqb_ft rfl), (beqb_ft rfl), rfl, rfl, trivial⟩
      exact fn_playC hn59 (f := 59) (ads := [.agg (eGGraph a1051), .agg (eGJob a1052)]) (r := F59_res 1) (pq1118 (pq1119 (pq1120 (pq1121 pz)))) (by kernel_rfl) (by kernel_rfl)
    have pq1122 : ∀ {l : List Cond}, HoldAll E H hn59 l → HoldAll E H hn59 (.test (beqb (ige a1052.Source a1051.N) false) true :: .test (beqb (ige a1052.Source a1051.N) false) true :: .test (beqb (ige a1052.Source a1051.N) false) true :: .test (ige a1052.Source a1051.N) false :: l) := fun z => ⟨(beqb_ff (ige_eq h1113)), (beqb_ff (ige_eq h1113)), (beqb_ff (ige_eq h1113)), (ige_eq h1113), z⟩
    refine cond_some hF (fun h1114 hF => ?_) (fun h1114 hF => ?_)
    ·
      have hr := Option.some.inj hF
      subst hr
      have pz : HoldAll E H hn59 [.test (beqb (ilt a1052.Limit 0) false) false, .test (beqb (ilt a1052.Limit 0) false) false, .test (beqb (ilt a1052.Limit 0) false) false, .test (ilt a1052.Limit 0) true, .test (beqb true false) false, .test (beqb true false) false, .test (beqb true false) false, .test true true, .test (beqb true false) false, .test (beqb true false) false, .test (beqb true false) false, .test true true, .test true true] := ⟨(beqb_ft h1114), (beqb_ft h1114), (beqb_ft h1114), h1114, (beqb_ft rfl), (beqb_ft rfl), (beqb_ft rfl), rfl, (beqb_ft rfl), (beqb_ft rfl), (beqb_ft rfl), rfl, rfl, trivial⟩
      exact fn_playC hn59 (f := 59) (ads := [.agg (eGGraph a1051), .agg (eGJob a1052)]) (r := F59_res 1) (pq1118 (pq1119 (pq1120 (pq1121 (pq1122 pz))))) (by kernel_rfl) (by kernel_rfl)
    have pq1123 : ∀ {l : List Cond}, HoldAll E H hn59 l → HoldAll E H hn59 (.test (beqb (ilt a1052.Limit 0) false) true :: .test (beqb (ilt a1052.Limit 0) false) true :: .test (beqb (ilt a1052.Limit 0) false) true :: .test (ilt a1052.Limit 0) false :: l) := fun z => ⟨(beqb_ff h1114), (beqb_ff h1114), (beqb_ff h1114), h1114, z⟩
    refine cond_some hF (fun h1115 hF => ?_) (fun h1115 hF => ?_)
    ·
      have hr := Option.some.inj hF
      subst hr
      have pz : HoldAll E H hn59 [.test (beqb (igt a1052.Limit 40) false) false, .test (beqb (igt a1052.Limit 40) false) false, .test (beqb (igt a1052.Limit 40) false) false, .test (igt a1052.Limit 40) true, .test (beqb true false) false, .test (beqb true false) false, .test (beqb true false) false, .test true true, .test true true] := ⟨(beqb_ft (igt_eq h1115)), (beqb_ft (igt_eq h1115)), (beqb_ft (igt_eq h1115)), (igt_eq h1115), (beqb_ft rfl), (beqb_ft rfl), (beqb_ft rfl), rfl, rfl, trivial⟩
      exact fn_playC hn59 (f := 59) (ads := [.agg (eGGraph a1051), .agg (eGJob a1052)]) (r := F59_res 1) (pq1118 (pq1119 (pq1120 (pq1121 (pq1122 (pq1123 pz)))))) (by kernel_rfl) (by kernel_rfl)
    have pq1124 : ∀ {l : List Cond}, HoldAll E H hn59 l → HoldAll E H hn59 (.test (beqb (igt a1052.Limit 40) false) true :: .test (beqb (igt a1052.Limit 40) false) true :: .test (beqb (igt a1052.Limit 40) false) true :: .test (igt a1052.Limit 40) false :: l) := fun z => ⟨(beqb_ff (igt_eq h1115)), (beqb_ff (igt_eq h1115)), (beqb_ff (igt_eq h1115)), (igt_eq h1115), z⟩
    refine cond_some hF (fun h1116 hF => ?_) (fun h1116 hF => ?_)
    ·
      have hr := Option.some.inj hF
      subst hr
      have pz : HoldAll E H hn59 [.test (beqb (ilt a1052.Parts 1) false) false, .test (beqb (ilt a1052.Parts 1) false) false, .test (beqb (ilt a1052.Parts 1) false) false, .test (ilt a1052.Parts 1) true, .test true true] := ⟨(beqb_ft h1116), (beqb_ft h1116), (beqb_ft h1116), h1116, rfl, trivial⟩
      exact fn_playC hn59 (f := 59) (ads := [.agg (eGGraph a1051), .agg (eGJob a1052)]) (r := F59_res 1) (pq1118 (pq1119 (pq1120 (pq1121 (pq1122 (pq1123 (pq1124 pz))))))) (by kernel_rfl) (by kernel_rfl)
    have pq1125 : ∀ {l : List Cond}, HoldAll E H hn59 l → HoldAll E H hn59 (.test (beqb (ilt a1052.Parts 1) false) true :: .test (beqb (ilt a1052.Parts 1) false) true :: .test (beqb (ilt a1052.Parts 1) false) true :: .test (ilt a1052.Parts 1) false :: l) := fun z => ⟨(beqb_ff h1116), (beqb_ff h1116), (beqb_ff h1116), h1116, z⟩
    refine cond_some hF (fun h1117 hF => ?_) (fun h1117 hF => ?_)
    ·
      have hr := Option.some.inj hF
      subst hr
      have pz : HoldAll E H hn59 [.test (igt a1052.Parts 6) true] := ⟨(igt_eq h1117), trivial⟩
      exact fn_playC hn59 (f := 59) (ads := [.agg (eGGraph a1051), .agg (eGJob a1052)]) (r := F59_res 1) (pq1118 (pq1119 (pq1120 (pq1121 (pq1122 (pq1123 (pq1124 (pq1125 pz)))))))) (by kernel_rfl) (by kernel_rfl)
    have hr := Option.some.inj hF
    subst hr
    have pz : HoldAll E H hn59 [.test (igt a1052.Parts 6) false] := ⟨(igt_eq h1117), trivial⟩
    exact fn_playC hn59 (f := 59) (ads := [.agg (eGGraph a1051), .agg (eGJob a1052)]) (r := F59_res 0) (pq1118 (pq1119 (pq1120 (pq1121 (pq1122 (pq1123 (pq1124 (pq1125 pz)))))))) (by kernel_rfl) (by kernel_rfl)
  have hr := Option.some.inj hF
  subst hr
  have pz : HoldAll E H hn59 [.call 65 [.agg (eGGraph a1051)] (F65_res r1107), .test (leadsAny (Res.mk [(.one (.im (.lit (.int .i64 r1107))))] [])) false, .test (ine r1107 0) true] := ⟨(F65_ok K a1051 _ h1108), (leads_ok (by simp only [leadsAny, List.any_cons, List.any_nil, RV.leads, RC.leads, leadsT, hasSl_lit, Bool.or_false, flat_ns (eInt_ns _), flat_ns eBool_ns, flat_ns eStr_ns, flat_ns eGJob_ns, flat_ns eGEdge_ns, flat_ns eGAsked_ns, flat_ns eGMsg_ns, flat_ns eGrule_ns, flat_ns eGA199_ns, flat_ns eGA202_ns])), (ine_f h1109), trivial⟩
  exact fn_playC hn59 (f := 59) (ads := [.agg (eGGraph a1051), .agg (eGJob a1052)]) (r := F59_res r1107) pz (by kernel_rfl) (by kernel_rfl)

/-! ### haywain/prog.rules -/
noncomputable def hn143 : Hint := { H 143 with nt := 21, prot := 0 }
def F143_res (r3142 : Grule × Bool) : Res := ⟨[(.agg [(.im (.lit r3142.1.start_)), (.im (.lit r3142.1.better_)), (.im (.lit (.bool r3142.1.only_))), (.im (.lit r3142.1.send_))]), (.one (.im (.lit (.bool r3142.2))))], []⟩
def F143_res0 (r3142 : Grule × Bool) : Res := ⟨[(.agg [(.im (.lit (fnV 158))), (.im (.lit (fnV 159))), (.im (.lit (.bool r3142.1.only_))), (.im (.lit (fnV 160)))]), (.one (.im (.lit (.bool r3142.2))))], []⟩
def F143_res1 (r3142 : Grule × Bool) : Res := ⟨[(.agg [(.im (.lit (fnV 158))), (.im (.lit (fnV 159))), (.im (.lit (.bool r3142.1.only_))), (.im (.lit (fnV 161)))]), (.one (.im (.lit (.bool r3142.2))))], []⟩
def F143_res2 (r3142 : Grule × Bool) : Res := ⟨[(.agg [(.im (.lit (fnV 162))), (.im (.lit (fnV 159))), (.im (.lit (.bool r3142.1.only_))), (.im (.lit (fnV 163)))]), (.one (.im (.lit (.bool r3142.2))))], []⟩
def F143_res3 (r3142 : Grule × Bool) : Res := ⟨[(.agg [(.im (.lit (fnV 164))), (.im (.lit (fnV 165))), (.im (.lit (.bool r3142.1.only_))), (.im (.lit (fnV 163)))]), (.one (.im (.lit (.bool r3142.2))))], []⟩
def F143_res4 (r3142 : Grule × Bool) : Res := ⟨[(.agg [(.im (.lit (fnV 166))), (.im (.lit .nilFunc)), (.im (.lit (.bool r3142.1.only_))), (.im (.lit (fnV 163)))]), (.one (.im (.lit (.bool r3142.2))))], []⟩
def F143_res5 (r3142 : Grule × Bool) : Res := ⟨[(.agg [(.im (.lit .nilFunc)), (.im (.lit .nilFunc)), (.im (.lit (.bool r3142.1.only_))), (.im (.lit .nilFunc))]), (.one (.im (.lit (.bool r3142.2))))], []⟩
def F143 (K : Nat) (a3135 : Int) : Option (Grule × Bool) :=
  bif (ieq a3135 1) then
    (some ((Grule.mk (fnV 158) (fnV 159) true (fnV 160)), true))
  else
  bif (ieq a3135 3) then
    (some ((Grule.mk (fnV 158) (fnV 159) true (fnV 161)), true))
  else
  bif (ieq a3135 2) then
    (some ((Grule.mk (fnV 162) (fnV 159) false (fnV 163)), true))
  else
  bif (ieq a3135 4) then
    (some ((Grule.mk (fnV 164) (fnV 165) false (fnV 163)), true))
  else
  bif (ieq a3135 5) then
    (some ((Grule.mk (fnV 166) .nilFunc false (fnV 163)), true))
  else
  some ((Grule.mk .nilFunc .nilFunc false .nilFunc), false)
theorem F143_ok (K : Nat) (a3135 : Int) (r : Grule × Bool) (hF : F143 K a3135 = some r) : Evt E H 143 [.one (.lit (.int .i64 a3135))] (F143_res r) := by
  rw [F143] at hF
  refine cond_some hF (fun h3136 hF => ?_) (fun h3136 hF => ?_)
  ·
    have hr := Option.some.inj hF
    subst hr
    have pz : HoldAll E H hn143 [.test (ieq a3135 1) true] := ⟨h3136, trivial⟩
    exact fn_playC hn143 (f := 143) (ads := [.one (.lit (.int .i64 a3135))]) (r := F143_res ((Grule.mk (fnV 158) (fnV 159) true (fnV 160)), true)) pz (by kernel_rfl) (by kernel_rfl)
  refine cond_some hF (fun h3137 hF => ?_) (fun h3137 hF => ?_)
  ·
    have hr := Option.some.inj hF
    subst hr
    have pz : HoldAll E H hn143 [.test (ieq a3135 1) false, .test (ieq a3135 3) true] := ⟨h3136, h3137, trivial⟩
    exact fn_playC hn143 (f := 143) (ads := [.one (.lit (.int .i64 a3135))]) (r := F143_res ((Grule.mk (fnV 158) (fnV 159) true (fnV 161)), true)) pz (by kernel_rfl) (by kernel_rfl)
  refine cond_some hF (fun h3138 hF => ?_) (fun h3138 hF => ?_)
  ·
    have hr := Option.some.inj hF
    subst hr
    have pz : HoldAll E H hn143 [.test (ieq a3135 1) false, .test (ieq a3135 3) false, .test (ieq a3135 2) true] := ⟨h3136, h3137, h3138, trivial⟩
    exact fn_playC hn143 (f := 143) (ads := [.one (.lit (.int .i64 a3135))]) (r := F143_res ((Grule.mk (fnV 162) (fnV 159) false (fnV 163)), true)) pz (by kernel_rfl) (by kernel_rfl)
  have pq3141 : ∀ {l : List Cond}, HoldAll E H hn143 l → HoldAll E H hn143 (.test (ieq a3135 1) false :: .test (ieq a3135 3) false :: .test (ieq a3135 2) false :: l) := fun z => ⟨h3136, h3137, h3138, z⟩
  refine cond_some hF (fun h3139 hF => ?_) (fun h3139 hF => ?_)
  ·
    have hr := Option.some.inj hF
    subst hr
    have pz : HoldAll E H hn143 [.test (ieq a3135 4) true] := ⟨h3139, trivial⟩
    exact fn_playC hn143 (f := 143) (ads := [.one (.lit (.int .i64 a3135))]) (r := F143_res ((Grule.mk (fnV 164) (fnV 165) false (fnV 163)), true)) (pq3141 pz) (by kernel_rfl) (by kernel_rfl)
  refine cond_some hF (fun h3140 hF => ?_) (fun h3140 hF => ?_)
  ·
    have hr := Option.some.inj hF
    subst hr
    have pz : HoldAll E H hn143 [.test (ieq a3135 4) false, .test (ieq a3135 5) true] := ⟨h3139, h3140, trivial⟩
    exact fn_playC hn143 (f := 143) (ads := [.one (.lit (.int .i64 a3135))]) (r := F143_res ((Grule.mk (fnV 166) .nilFunc false (fnV 163)), true)) (pq3141 pz) (by kernel_rfl) (by kernel_rfl)
  have hr := Option.some.inj hF
  subst hr
  have pz : HoldAll E H hn143 [.test (ieq a3135 4) false, .test (ieq a3135 5) false] := ⟨h3139, h3140, trivial⟩
  exact fn_playC hn143 (f := 143) (ads := [.one (.lit (.int .i64 a3135))]) (r := F143_res ((Grule.mk .nilFunc .nilFunc false .nilFunc), false)) (pq3141 pz) (by kernel_rfl) (by kernel_rfl)

theorem F143_ok0 {ads : List AD} (r3142 : Grule × Bool) (e : areFns [r3142.1.start_, r3142.1.better_, r3142.1.send_] [158, 159, 160] = true) (h : Evt E H 143 ads (F143_res r3142)) : Evt E H 143 ads (F143_res0 r3142) := by
  obtain ⟨q0, e⟩ := areFns_cons e
  obtain ⟨q1, e⟩ := areFns_cons e
  obtain ⟨q2, e⟩ := areFns_cons e
  unfold F143_res at h
  rw [q0, q1, q2] at h
  exact h
theorem F143_ok1 {ads : List AD} (r3142 : Grule × Bool) (e : areFns [r3142.1.start_, r3142.1.better_, r3142.1.send_] [158, 159, 161] = true) (h : Evt E H 143 ads (F143_res r3142)) : Evt E H 143 ads (F143_res1 r3142) := by
  obtain ⟨q0, e⟩ := areFns_cons e
  obtain ⟨q1, e⟩ := areFns_cons e
  obtain ⟨q2, e⟩ := areFns_cons e
  unfold F143_res at h
  rw [q0, q1, q2] at h
  exact h
theorem F143_ok2 {ads : List AD} (r3142 : Grule × Bool) (e : areFns [r3142.1.start_, r3142.1.better_, r3142.1.send_] [162, 159, 163] = true) (h : Evt E H 143 ads (F143_res r3142)) : Evt E H 143 ads (F143_res2 r3142) := by
  obtain ⟨q0, e⟩ := areFns_cons e
  obtain ⟨q1, e⟩ := areFns_cons e
  obtain ⟨q2, e⟩ := areFns_cons e
  unfold F143_res at h
  rw [q0, q1, q2] at h
  exact h
theorem F143_ok3 {ads : List AD} (r3142 : Grule × Bool) (e : areFns [r3142.1.start_, r3142.1.better_, r3142.1.send_] [164, 165, 163] = true) (h : Evt E H 143 ads (F143_res r3142)) : Evt E H 143 ads (F143_res3 r3142) := by
  obtain ⟨q0, e⟩ := areFns_cons e
  obtain ⟨q1, e⟩ := areFns_cons e
  obtain ⟨q2, e⟩ := areFns_cons e
  unfold F143_res at h
  rw [q0, q1, q2] at h
  exact h
theorem F143_ok4 {ads : List AD} (r3142 : Grule × Bool) (e : areFns [r3142.1.start_, r3142.1.better_, r3142.1.send_] [166, 0, 163] = true) (h : Evt E H 143 ads (F143_res r3142)) : Evt E H 143 ads (F143_res4 r3142) := by
  obtain ⟨q0, e⟩ := areFns_cons e
  obtain ⟨q1, e⟩ := areFns_cons e
  obtain ⟨q2, e⟩ := areFns_cons e
  unfold F143_res at h
  rw [q0, q1, q2] at h
  exact h
theorem F143_ok5 {ads : List AD} (r3142 : Grule × Bool) (e : areFns [r3142.1.start_, r3142.1.better_, r3142.1.send_] [0, 0, 0] = true) (h : Evt E H 143 ads (F143_res r3142)) : Evt E H 143 ads (F143_res5 r3142) := by
  obtain ⟨q0, e⟩ := areFns_cons e
  obtain ⟨q1, e⟩ := areFns_cons e
  obtain ⟨q2, e⟩ := areFns_cons e
  unfold F143_res at h
  rw [q0, q1, q2] at h
  exact h
/-! ### haywain/prog.Check -/
noncomputable def hn94 : Hint := { H 94 with nt := 53, prot := 0 }
def F94_res (r3230 : Int) : Res := ⟨[(.one (.im (.lit (.int .i64 r3230))))], []⟩
def F94 (K : Nat) (a3130 : GGraph) (a3131 : GJob) : Option (Int) :=
  (F64 K a3130).bind fun r3132 =>
  bif (ieq r3132 0) then
    ((F143 K a3131.Prog).bind fun r3143 =>
    bif (areFns [r3143.1.start_, r3143.1.better_, r3143.1.send_] [158, 159, 160]) then
      (bif r3143.2 then
        (bif (ilt a3131.Source 0) then
          (some 1)
        else
        bif (ile a3130.N a3131.Source) then
          (some 1)
        else
        bif (ilt a3131.Limit 0) then
          (some 1)
        else
        bif (ilt 40 a3131.Limit) then
          (some 1)
        else
        bif (ilt a3131.Parts 1) then
          (some 1)
        else
        bif (ilt 6 a3131.Parts) then
          (some 1)
        else
        some 0)
      else
      some 1)
    else
    bif (areFns [r3143.1.start_, r3143.1.better_, r3143.1.send_] [158, 159, 161]) then
      (bif r3143.2 then
        (bif (ilt a3131.Source 0) then
          (some 1)
        else
        bif (ile a3130.N a3131.Source) then
          (some 1)
        else
        bif (ilt a3131.Limit 0) then
          (some 1)
        else
        bif (ilt 40 a3131.Limit) then
          (some 1)
        else
        bif (ilt a3131.Parts 1) then
          (some 1)
        else
        bif (ilt 6 a3131.Parts) then
          (some 1)
        else
        some 0)
      else
      some 1)
    else
    bif (areFns [r3143.1.start_, r3143.1.better_, r3143.1.send_] [162, 159, 163]) then
      (bif r3143.2 then
        (bif (ilt a3131.Source 0) then
          (some 1)
        else
        bif (ile a3130.N a3131.Source) then
          (some 1)
        else
        bif (ilt a3131.Limit 0) then
          (some 1)
        else
        bif (ilt 40 a3131.Limit) then
          (some 1)
        else
        bif (ilt a3131.Parts 1) then
          (some 1)
        else
        bif (ilt 6 a3131.Parts) then
          (some 1)
        else
        some 0)
      else
      some 1)
    else
    bif (areFns [r3143.1.start_, r3143.1.better_, r3143.1.send_] [164, 165, 163]) then
      (bif r3143.2 then
        (bif (ilt a3131.Source 0) then
          (some 1)
        else
        bif (ile a3130.N a3131.Source) then
          (some 1)
        else
        bif (ilt a3131.Limit 0) then
          (some 1)
        else
        bif (ilt 40 a3131.Limit) then
          (some 1)
        else
        bif (ilt a3131.Parts 1) then
          (some 1)
        else
        bif (ilt 6 a3131.Parts) then
          (some 1)
        else
        some 0)
      else
      some 1)
    else
    bif (areFns [r3143.1.start_, r3143.1.better_, r3143.1.send_] [166, 0, 163]) then
      (bif r3143.2 then
        (bif (ilt a3131.Source 0) then
          (some 1)
        else
        bif (ile a3130.N a3131.Source) then
          (some 1)
        else
        bif (ilt a3131.Limit 0) then
          (some 1)
        else
        bif (ilt 40 a3131.Limit) then
          (some 1)
        else
        bif (ilt a3131.Parts 1) then
          (some 1)
        else
        bif (ilt 6 a3131.Parts) then
          (some 1)
        else
        some 0)
      else
      some 1)
    else
    bif (areFns [r3143.1.start_, r3143.1.better_, r3143.1.send_] [0, 0, 0]) then
    bif r3143.2 then
      (bif (ilt a3131.Source 0) then
        (some 1)
      else
      bif (ile a3130.N a3131.Source) then
        (some 1)
      else
      bif (ilt a3131.Limit 0) then
        (some 1)
      else
      bif (ilt 40 a3131.Limit) then
        (some 1)
      else
      bif (ilt a3131.Parts 1) then
        (some 1)
      else
      bif (ilt 6 a3131.Parts) then
        (some 1)
      else
      some 0)
    else
    some 1
    else none)
  else
  some r3132
theorem F94_ok (K : Nat) (a3130 : GGraph) (a3131 : GJob) (r : Int) (hF : F94 K a3130 a3131 = some r) : Evt E H 94 [.agg (eGGraph a3130), .agg (eGJob a3131)] (F94_res r) := by
  rw [F94] at hF
  refine bind_some hF (fun r3132 h3133 hF => ?_)
  refine cond_some hF (fun h3134 hF => ?_) (fun h3134 hF => ?_)
  ·
    refine bind_some hF (fun r3143 h3144 hF => ?_)
    have pq3193 : ∀ {l : List Cond}, HoldAll E H hn94 l → HoldAll E H hn94 (.call 64 [.agg (eGGraph a3130)] (F64_res r3132) :: .test (leadsAny (Res.mk [(.one (.im (.lit (.int .i64 r3132))))] [])) false :: .test (ine r3132 0) false :: l) := fun z => ⟨(F64_ok K a3130 _ h3133), (leads_ok (by simp only [leadsAny, List.any_cons, List.any_nil, RV.leads, RC.leads, leadsT, hasSl_lit, Bool.or_false, flat_ns (eInt_ns _), flat_ns eBool_ns, flat_ns eStr_ns, flat_ns eGJob_ns, flat_ns eGEdge_ns, flat_ns eGAsked_ns, flat_ns eGMsg_ns, flat_ns eGrule_ns, flat_ns eGA199_ns, flat_ns eGA202_ns])), (ine_t h3134), z⟩
    refine cond_some hF (fun h3145 hF => ?_) (fun h3145 hF => ?_)
    ·
      refine cond_some hF (fun h3146 hF => ?_) (fun h3146 hF => ?_)
      ·
        have pq3194 : ∀ {l : List Cond}, HoldAll E H hn94 l → HoldAll E H hn94 (.call 143 [.one (.lit (.int .i64 a3131.Prog))] (F143_res0 r3143) :: .test (leadsAny (Res.mk [(.agg [(.im (.lit (fnV 158))), (.im (.lit (fnV 159))), (.im (.lit (.bool r3143.1.only_))), (.im (.lit (fnV 160)))]), (.one (.im (.lit (.bool r3143.2))))] [])) false :: .test (beqb (bnot r3143.2) false) true :: .test (beqb (bnot r3143.2) false) true :: .test (beqb (bnot r3143.2) false) true :: .test (bnot r3143.2) false :: l) := fun z => ⟨(F143_ok0 _ h3145 (F143_ok K a3131.Prog _ h3144)), (leads_ok (by simp only [leadsAny, List.any_cons, List.any_nil, RV.leads, RC.leads, leadsT, hasSl_lit, Bool.or_false, flat_ns (eInt_ns _), flat_ns eBool_ns, flat_ns eStr_ns, flat_ns eGJob_ns, flat_ns eGEdge_ns, flat_ns eGAsked_ns, flat_ns eGMsg_ns, flat_ns eGrule_ns, flat_ns eGA199_ns, flat_ns eGA202_ns])), (beqb_ff (bnot_t h3146)), (beqb_ff (bnot_t h3146)), (beqb_ff (bnot_t h3146)), (bnot_t h3146), z⟩
        refine cond_some hF (fun h3147 hF => ?_) (fun h3147 hF => ?_)
        ·
          have hr := Option.some.inj hF
          subst hr
          have pz : HoldAll E H hn94 [.test (beqb (ilt a3131.Source 0) false) false, .test (beqb (ilt a3131.Source 0) false) false, .test (beqb (ilt a3131.Source 0) false) false, .test (beqb (ilt a3131.Source 0) false) false, .test (beqb (ilt a3131.Source 0) false) false, .test (ilt a3131.Source 0) true, .test (beqb true false) false, .test (beqb true false) false, .test (beqb true false) false, .test true true, .test (beqb true false) false, .test (beqb true false) false, .test (beqb true false) false, .test true true, .test (beqb true false) false, .test (beqb true false) false, .test (beqb true false) false, .test true true, .test (beqb true false) false, .test (beqb true false) false, .test (beqb true false) false, .test true true, .test true true] := ⟨(beqb_ft h3147), (beqb_ft h3147), (beqb_ft h3147), (beqb_ft h3147), (beqb_ft h3147), h3147, (beqb_ft rfl), (beqb_ft rfl), (beqb_ft rfl), rfl, (beqb_ft rfl), (beqb_ft rfl), (beqb_ft rfl), rfl, (beqb_ft rfl), (beqb_ft rfl), (beqb_ft rfl), rfl, (beqb_ft rfl), (beqb_ft rfl), (beqb_ft rfl), rfl, rfl, trivial⟩
          exact fn_playC hn94 (f := 94) (ads := [.agg (eGGraph a3130), .agg (eGJob a3131)]) (r := F94_res 1) (pq3193 (pq3194 pz)) (by kernel_rfl) (by kernel_rfl)
        have pq3195 : ∀ {l : List Cond}, HoldAll E H hn94 l → HoldAll E H hn94 (.test (beqb (ilt a3131.Source 0) false) true :: .test (beqb (ilt a3131.Source 0) false) true :: .test (beqb (ilt a3131.Source 0) false) true :: .test (beqb (ilt a3131.Source 0) false) true :: .test (beqb (ilt a3131.Source 0) false) true :: .test (ilt a3131.Source 0) false :: l) := fun z => ⟨(beqb_ff h3147), (beqb_ff h3147), (beqb_ff h3147), (beqb_ff h3147), (beqb_ff h3147), h3147, z⟩
        refine cond_some hF (fun h3148 hF => ?_) (fun h3148 hF => ?_)
        ·
          have hr := Option.some.inj hF
          subst hr
          have pz : HoldAll E H hn94 [.test (beqb (ige a3131.Source a3130.N) false) false, .test (beqb (ige a3131.Source a3130.N) false) false, .test (beqb (ige a3131.Source a3130.N) false) false, .test (ige a3131.Source a3130.N) true, .test (beqb true false) false, .test (beqb true false) false, .test (beqb true false) false, .test true true, .test (beqb true false) false, .test (beqb true false) false, .test (beqb true false) false, .test true true, .test (beqb true false) false, .test (beqb true false) false, .test (beqb true false) false, .test true true, .test true true] := ⟨(beqb_ft (ige_eq h3148)), (beqb_ft (ige_eq h3148)), (beqb_ft (ige_eq h3148)), (ige_eq h3148), (beqb_ft rfl), (beqb_ft rfl), (beqb_ft rfl), rfl, (beqb_ft rfl), (beqb_ft rfl), (beqb_ft rfl), rfl, (beqb_ft rfl), (beqb_ft rfl), (beqb_ft rfl), rfl, rfl, trivial⟩
          exact fn_playC hn94 (f := 94) (ads := [.agg (eGGraph a3130), .agg (eGJob a3131)]) (r := F94_res 1) (pq3193 (pq3194 (pq3195 pz))) (by kernel_rfl) (by kernel_rfl)
        have pq3196 : ∀ {l : List Cond}, HoldAll E H hn94 l → HoldAll E H hn94 (.test (beqb (ige a3131.Source a3130.N) false) true :: .test (beqb (ige a3131.Source a3130.N) false) true :: .test (beqb (ige a3131.Source a3130.N) false) true :: .test (ige a3131.Source a3130.N) false :: l) := fun z => ⟨(beqb_ff (ige_eq h3148)), (beqb_ff (ige_eq h3148)), (beqb_ff (ige_eq h3148)), (ige_eq h3148), z⟩
        refine cond_some hF (fun h3149 hF => ?_) (fun h3149 hF => ?_)
        ·
          have hr := Option.some.inj hF
          subst hr
          have pz : HoldAll E H hn94 [.test (beqb (ilt a3131.Limit 0) false) false, .test (beqb (ilt a3131.Limit 0) false) false, .test (beqb (ilt a3131.Limit 0) false) false, .test (ilt a3131.Limit 0) true, .test (beqb true false) false, .test (beqb true false) false, .test (beqb true false) false, .test true true, .test (beqb true false) false, .test (beqb true false) false, .test (beqb true false) false, .test true true, .test true true] := ⟨(beqb_ft h3149), (beqb_ft h3149), (beqb_ft h3149), h3149, (beqb_ft rfl), (beqb_ft rfl), (beqb_ft rfl), rfl, (beqb_ft rfl), (beqb_ft rfl), (beqb_ft rfl), rfl, rfl, trivial⟩
          exact fn_playC hn94 (f := 94) (ads := [.agg (eGGraph a3130), .agg (eGJob a3131)]) (r := F94_res 1) (pq3193 (pq3194 (pq3195 (pq3196 pz)))) (by kernel_rfl) (by kernel_rfl)
        have pq3197 : ∀ {l : List Cond}, HoldAll E H hn94 l → HoldAll E H hn94 (.test (beqb (ilt a3131.Limit 0) false) true :: .test (beqb (ilt a3131.Limit 0) false) true :: .test (beqb (ilt a3131.Limit 0) false) true :: .test (ilt a3131.Limit 0) false :: l) := fun z => ⟨(beqb_ff h3149), (beqb_ff h3149), (beqb_ff h3149), h3149, z⟩
        refine cond_some hF (fun h3150 hF => ?_) (fun h3150 hF => ?_)
        ·
          have hr := Option.some.inj hF
          subst hr
          have pz : HoldAll E H hn94 [.test (beqb (igt a3131.Limit 40) false) false, .test (beqb (igt a3131.Limit 40) false) false, .test (beqb (igt a3131.Limit 40) false) false, .test (igt a3131.Limit 40) true, .test (beqb true false) false, .test (beqb true false) false, .test (beqb true false) false, .test true true, .test true true] := ⟨(beqb_ft (igt_eq h3150)), (beqb_ft (igt_eq h3150)), (beqb_ft (igt_eq h3150)), (igt_eq h3150), (beqb_ft rfl), (beqb_ft rfl), (beqb_ft rfl), rfl, rfl, trivial⟩
          exact fn_playC hn94 (f := 94) (ads := [.agg (eGGraph a3130), .agg (eGJob a3131)]) (r := F94_res 1) (pq3193 (pq3194 (pq3195 (pq3196 (pq3197 pz))))) (by kernel_rfl) (by kernel_rfl)
        have pq3198 : ∀ {l : List Cond}, HoldAll E H hn94 l → HoldAll E H hn94 (.test (beqb (igt a3131.Limit 40) false) true :: .test (beqb (igt a3131.Limit 40) false) true :: .test (beqb (igt a3131.Limit 40) false) true :: .test (igt a3131.Limit 40) false :: l) := fun z => ⟨(beqb_ff (igt_eq h3150)), (beqb_ff (igt_eq h3150)), (beqb_ff (igt_eq h3150)), (igt_eq h3150), z⟩
        refine cond_some hF (fun h3151 hF => ?_) (fun h3151 hF => ?_)
        ·
          have hr := Option.some.inj hF
          subst hr
          have pz : HoldAll E H hn94 [.test (beqb (ilt a3131.Parts 1) false) false, .test (beqb (ilt a3131.Parts 1) false) false, .test (beqb (ilt a3131.Parts 1) false) false, .test (ilt a3131.Parts 1) true, .test true true] := ⟨(beqb_ft h3151), (beqb_ft h3151), (beqb_ft h3151), h3151, rfl, trivial⟩
          exact fn_playC hn94 (f := 94) (ads := [.agg (eGGraph a3130), .agg (eGJob a3131)]) (r := F94_res 1) (pq3193 (pq3194 (pq3195 (pq3196 (pq3197 (pq3198 pz)))))) (by kernel_rfl) (by kernel_rfl)
        have pq3199 : ∀ {l : List Cond}, HoldAll E H hn94 l → HoldAll E H hn94 (.test (beqb (ilt a3131.Parts 1) false) true :: .test (beqb (ilt a3131.Parts 1) false) true :: .test (beqb (ilt a3131.Parts 1) false) true :: .test (ilt a3131.Parts 1) false :: l) := fun z => ⟨(beqb_ff h3151), (beqb_ff h3151), (beqb_ff h3151), h3151, z⟩
        refine cond_some hF (fun h3152 hF => ?_) (fun h3152 hF => ?_)
        ·
          have hr := Option.some.inj hF
          subst hr
          have pz : HoldAll E H hn94 [.test (igt a3131.Parts 6) true] := ⟨(igt_eq h3152), trivial⟩
          exact fn_playC hn94 (f := 94) (ads := [.agg (eGGraph a3130), .agg (eGJob a3131)]) (r := F94_res 1) (pq3193 (pq3194 (pq3195 (pq3196 (pq3197 (pq3198 (pq3199 pz))))))) (by kernel_rfl) (by kernel_rfl)
        have hr := Option.some.inj hF
        subst hr
        have pz : HoldAll E H hn94 [.test (igt a3131.Parts 6) false] := ⟨(igt_eq h3152), trivial⟩
        exact fn_playC hn94 (f := 94) (ads := [.agg (eGGraph a3130), .agg (eGJob a3131)]) (r := F94_res 0) (pq3193 (pq3194 (pq3195 (pq3196 (pq3197 (pq3198 (pq3199 pz))))))) (by kernel_rfl) (by kernel_rfl)
      have hr := Option.some.inj hF
      subst hr
      have pz : HoldAll E H hn94 [.call 143 [.one (.lit (.int .i64 a3131.Prog))] (F143_res0 r3143), .test (leadsAny (Res.mk [(.agg [(.im (.lit (fnV 158))), (.im (.lit (fnV 159))), (.im (.lit (.bool r3143.1.only_))), (.im (.lit (fnV 160)))]), (.one (.im (.lit (.bool r3143.2))))] [])) false, .test (beqb (bnot r3143.2) false) false, .test (beqb (bnot r3143.2) false) false, .test (beqb (bnot r3143.2) false) false, .test (bnot r3143.2) true, .test (beqb true false) false, .test (beqb true false) false, .test (beqb true false) false, .test (beqb true false) false, .test (beqb true false) false, .test true true, .test (beqb true false) false, .test (beqb true false) false, .test (beqb true false) false, .test true true, .test (beqb true false) false, .test (beqb true false) false, .test (beqb true false) false, .test true true, .test (beqb true false) false, .test (beqb true false) false, .test (beqb true false) false, .test true true, .test (beqb true false) false, .test (beqb true false) false, .test (beqb true false) false, .test true true, .test true true] := ⟨(F143_ok0 _ h3145 (F143_ok K a3131.Prog _ h3144)), (leads_ok (by simp only [leadsAny, List.any_cons, List.any_nil, RV.leads, RC.leads, leadsT, hasSl_lit, Bool.or_false, flat_ns (eInt_ns _), flat_ns eBool_ns, flat_ns eStr_ns, flat_ns eGJob_ns, flat_ns eGEdge_ns, flat_ns eGAsked_ns, flat_ns eGMsg_ns, flat_ns eGrule_ns, flat_ns eGA199_ns, flat_ns eGA202_ns])), (beqb_ft (bnot_f h3146)), (beqb_ft (bnot_f h3146)), (beqb_ft (bnot_f h3146)), (bnot_f h3146), (beqb_ft rfl), (beqb_ft rfl), (beqb_ft rfl), (beqb_ft rfl), (beqb_ft rfl), rfl, (beqb_ft rfl), (beqb_ft rfl), (beqb_ft rfl), rfl, (beqb_ft rfl), (beqb_ft rfl), (beqb_ft rfl), rfl, (beqb_ft rfl), (beqb_ft rfl), (beqb_ft rfl), rfl, (beqb_ft rfl), (beqb_ft rfl), (beqb_ft rfl), rfl, rfl, trivial⟩
      exact fn_playC hn94 (f := 94) (ads := [.agg (eGGraph a3130), .agg (eGJob a3131)]) (r := F94_res 1) (pq3193 pz) (by kernel_rfl) (by kernel_rfl)
    refine cond_some hF (fun h3153 hF => ?_) (fun h3153 hF => ?_)
    ·
      refine cond_some hF (fun h3154 hF => ?_) (fun h3154 hF => ?_)
      ·
        have pq3200 : ∀ {l : List Cond}, HoldAll E H hn94 l → HoldAll E H hn94 (.call 143 [.one (.lit (.int .i64 a3131.Prog))] (F143_res1 r3143) :: .test (leadsAny (Res.mk [(.agg [(.im (.lit (fnV 158))), (.im (.lit (fnV 159))), (.im (.lit (.bool r3143.1.only_))), (.im (.lit (fnV 161)))]), (.one (.im (.lit (.bool r3143.2))))] [])) false :: .test (beqb (bnot r3143.2) false) true :: .test (beqb (bnot r3143.2) false) true :: .test (beqb (bnot r3143.2) false) true :: .test (bnot r3143.2) false :: l) := fun z => ⟨(F143_ok1 _ h3153 (F143_ok K a3131.Prog _ h3144)), (leads_ok (by simp only [leadsAny, List.any_cons, List.any_nil, RV.leads, RC.leads, leadsT, hasSl_lit, Bool.or_false, flat_ns (eInt_ns _), flat_ns eBool_ns, flat_ns eStr_ns, flat_ns eGJob_ns, flat_ns eGEdge_ns, flat_ns eGAsked_ns, flat_ns eGMsg_ns, flat_ns eGrule_ns, flat_ns eGA199_ns, flat_ns eGA202_ns])), (beqb_ff (bnot_t h3154)), (beqb_ff (bnot_t h3154)), (beqb_ff (bnot_t h3154)), (bnot_t h3154), z⟩
        refine cond_some hF (fun h3155 hF => ?_) (fun h3155 hF => ?_)
        ·
          have hr := Option.some.inj hF
          subst hr
          have pz : HoldAll E H hn94 [.test (beqb (ilt a3131.Source 0) false) false, .test (beqb (ilt a3131.Source 0) false) false, .test (beqb (ilt a3131.Source 0) false) false, .test (beqb (ilt a3131.Source 0) false) false, .test (beqb (ilt a3131.Source 0) false) false, .test (ilt a3131.Source 0) true, .test (beqb true false) false, .test (beqb true false) false, .test (beqb true false) false, .test true true, .test (beqb true false) false, .test (beqb true false) false, .test (beqb true false) false, .test true true, .test (beqb true false) false, .test (beqb true false) false, .test (beqb true false) false, .test true true, .test (beqb true false) false, .test (beqb true false) false, .test (beqb true false) false, .test true true, .test true true] := ⟨(beqb_ft h3155), (beqb_ft h3155), (beqb_ft h3155), (beqb_ft h3155), (beqb_ft h3155), h3155, (beqb_ft rfl), (beqb_ft rfl), (beqb_ft rfl), rfl, (beqb_ft rfl), (beqb_ft rfl), (beqb_ft rfl), rfl, (beqb_ft rfl), (beqb_ft rfl), (beqb_ft rfl), rfl, (beqb_ft rfl), (beqb_ft rfl), (beqb_ft rfl), rfl, rfl, trivial⟩
          exact fn_playC hn94 (f := 94) (ads := [.agg (eGGraph a3130), .agg (eGJob a3131)]) (r := F94_res 1) (pq3193 (pq3200 pz)) (by kernel_rfl) (by kernel_rfl)
        have pq3201 : ∀ {l : List Cond}, HoldAll E H hn94 l → HoldAll E H hn94 (.test (beqb (ilt a3131.Source 0) false) true :: .test (beqb (ilt a3131.Source 0) false) true :: .test (beqb (ilt a3131.Source 0) false) true :: .test (beqb (ilt a3131.Source 0) false) true :: .test (beqb (ilt a3131.Source 0) false) true :: .test (ilt a3131.Source 0) false :: l) := fun z => ⟨(beqb_ff h3155), (beqb_ff h3155), (beqb_ff h3155), (beqb_ff h3155), (beqb_ff h3155), h3155, z⟩
        refine cond_some hF (fun h3156 hF => ?_) (fun h3156 hF => ?_)
        ·
          have hr := Option.some.inj hF
          subst hr
          have pz : HoldAll E H hn94 [.test (beqb (ige a3131.Source a3130.N) false) false, .test (beqb (ige a3131.Source a3130.N) false) false, .test (beqb (ige a3131.Source a3130.N) false) false, .test (ige a3131.Source a3130.N) true, .test (beqb true false) false, .test (beqb true false) false, .test (beqb true false) false, .test true true, .test (beqb true false) false, .test (beqb true false) false, .test (beqb true false) false, .test true true, .test (beqb true false) false, .test (beqb true false) false, .test (beqb true false) false, .test true true, .test true true] := ⟨(beqb_ft (ige_eq h3156)), (beqb_ft (ige_eq h3156)), (beqb_ft (ige_eq h3156)), (ige_eq h3156), (beqb_ft rfl), (beqb_ft rfl), (beqb_ft rfl), rfl, (beqb_ft rfl), (beqb_ft rfl), (beqb_ft rfl), rfl, (beqb_ft rfl), (beqb_ft rfl), (beqb_ft rfl), rfl, rfl, trivial⟩
          exact fn_playC hn94 (f := 94) (ads := [.agg (eGGraph a3130), .agg (eGJob a3131)]) (r := F94_res 1) (pq3193 (pq3200 (pq3201 pz))) (by kernel_rfl) (by kernel_rfl)
        have pq3202 : ∀ {l : List Cond}, HoldAll E H hn94 l → HoldAll E H hn94 (.test (beqb (ige a3131.Source a3130.N) false) true :: .test (beqb (ige a3131.Source a3130.N) false) true :: .test (beqb (ige a3131.Source a3130.N) false) true :: .test (ige a3131.Source a3130.N) false :: l) := fun z => ⟨(beqb_ff (ige_eq h3156)), (beqb_ff (ige_eq h3156)), (beqb_ff (ige_eq h3156)), (ige_eq h3156), z⟩
        refine cond_some hF (fun h3157 hF => ?_) (fun h3157 hF => ?_)
        ·
          have hr := Option.some.inj hF
          subst hr
          have pz : HoldAll E H hn94 [.test (beqb (ilt a3131.Limit 0) false) false, .test (beqb (ilt a3131.Limit 0) false) false, .test (beqb (ilt a3131.Limit 0) false) false, .test (ilt a3131.Limit 0) true, .test (beqb true false) false, .test (beqb true false) false, .test (beqb true false) false, .test true true, .test (beqb true false) false, .test (beqb true false) false, .test (beqb true false) false, .test true true, .test true true] := ⟨(beqb_ft h3157), (beqb_ft h3157), (beqb_ft h3157), h3157, (beqb_ft rfl), (beqb_ft rfl), (beqb_ft rfl), rfl, (beqb_ft rfl), (beqb_ft rfl), (beqb_ft rfl), rfl, rfl, trivial⟩
          exact fn_playC hn94 (f := 94) (ads := [.agg (eGGraph a3130), .agg (eGJob a3131)]) (r := F94_res 1) (pq3193 (pq3200 (pq3201 (pq3202 pz)))) (by kernel_rfl) (by kernel_rfl)
        have pq3203 : ∀ {l : List Cond}, HoldAll E H hn94 l → HoldAll E H hn94 (.test (beqb (ilt a3131.Limit 0) false) true :: .test (beqb (ilt a3131.Limit 0) false) true :: .test (beqb (ilt a3131.Limit 0) false) true :: .test (ilt a3131.Limit 0) false :: l) := fun z => ⟨(beqb_ff h3157), (beqb_ff h3157), (beqb_ff h3157), h3157, z⟩
        refine cond_some hF (fun h3158 hF => ?_) (fun h3158 hF => ?_)
        ·
          have hr := Option.some.inj hF
          subst hr
          have pz : HoldAll E H hn94 [.test (beqb (igt a3131.Limit 40) false) false, .test (beqb (igt a3131.Limit 40) false) false, .test (beqb (igt a3131.Limit 40) false) false, .test (igt a3131.Limit 40) true, .test (beqb true false) false, .test (beqb true false) false, .test (beqb true false) false, .test true true, .test true true] := ⟨(beqb_ft (igt_eq h3158)), (beqb_ft (igt_eq h3158)), (beqb_ft (igt_eq h3158)), (igt_eq h3158), (beqb_ft rfl), (beqb_ft rfl), (beqb_ft rfl), rfl, rfl, trivial⟩
          exact fn_playC hn94 (f := 94) (ads := [.agg (eGGraph a3130), .agg (eGJob a3131)]) (r := F94_res 1) (pq3193 (pq3200 (pq3201 (pq3202 (pq3203 pz))))) (by kernel_rfl) (by kernel_rfl)
        have pq3204 : ∀ {l : List Cond}, HoldAll E H hn94 l → HoldAll E H hn94 (.test (beqb (igt a3131.Limit 40) false) true :: .test (beqb (igt a3131.Limit 40) false) true :: .test (beqb (igt a3131.Limit 40) false) true :: .test (igt a3131.Limit 40) false :: l) := fun z => ⟨(beqb_ff (igt_eq h3158)), (beqb_ff (igt_eq h3158)), (beqb_ff (igt_eq h3158)), (igt_eq h3158), z⟩
        refine cond_some hF (fun h3159 hF => ?_) (fun h3159 hF => ?_)
        ·
          have hr := Option.some.inj hF
          subst hr
          have pz : HoldAll E H hn94 [.test (beqb (ilt a3131.Parts 1) false) false, .test (beqb (ilt a3131.Parts 1) false) false, .test (beqb (ilt a3131.Parts 1) false) false, .test (ilt a3131.Parts 1) true, .test true true] := ⟨(beqb_ft h3159), (beqb_ft h3159), (beqb_ft h3159), h3159, rfl, trivial⟩
          exact fn_playC hn94 (f := 94) (ads := [.agg (eGGraph a3130), .agg (eGJob a3131)]) (r := F94_res 1) (pq3193 (pq3200 (pq3201 (pq3202 (pq3203 (pq3204 pz)))))) (by kernel_rfl) (by kernel_rfl)
        have pq3205 : ∀ {l : List Cond}, HoldAll E H hn94 l → HoldAll E H hn94 (.test (beqb (ilt a3131.Parts 1) false) true :: .test (beqb (ilt a3131.Parts 1) false) true :: .test (beqb (ilt a3131.Parts 1) false) true :: .test (ilt a3131.Parts 1) false :: l) := fun z => ⟨(beqb_ff h3159), (beqb_ff h3159), (beqb_ff h3159), h3159, z⟩
        refine cond_some hF (fun h3160 hF => ?_) (fun h3160 hF => ?_)
        ·
          have hr := Option.some.inj hF
          subst hr
          have pz : HoldAll E H hn94 [.test (igt a3131.Parts 6) true] := ⟨(igt_eq h3160), trivial⟩
          exact fn_playC hn94 (f := 94) (ads := [.agg (eGGraph a3130), .agg (eGJob a3131)]) (r := F94_res 1) (pq3193 (pq3200 (pq3201 (pq3202 (pq3203 (pq3204 (pq3205 pz))))))) (by kernel_rfl) (by kernel_rfl)
        have hr := Option.some.inj hF
        subst hr
        have pz : HoldAll E H hn94 [.test (igt a3131.Parts 6) false] := ⟨(igt_eq h3160), trivial⟩
        exact fn_playC hn94 (f := 94) (ads := [.agg (eGGraph a3130), .agg (eGJob a3131)]) (r := F94_res 0) (pq3193 (pq3200 (pq3201 (pq3202 (pq3203 (pq3204 (pq3205 pz))))))) (by kernel_rfl) (by kernel_rfl)
      have hr := Option.some.inj hF
      subst hr
      have pz : HoldAll E H hn94 [.call 143 [.one (.lit (.int .i64 a3131.Prog))] (F143_res1 r3143), .test (leadsAny (Res.mk [(.agg [(.im (.lit (fnV 158))), (.im (.lit (fnV 159))), (.im (.lit (.bool r3143.1.only_))), (.im (.lit (fnV 161)))]), (.one (.im (.lit (.bool r3143.2))))] [])) false, .test (beqb (bnot r3143.2) false) false, .test (beqb (bnot r3143.2) false) false, .test (beqb (bnot r3143.2) false) false, .test (bnot r3143.2) true, .test (beqb true false) false, .test (beqb true false) false, .test (beqb true false) false, .test (beqb true false) false, .test (beqb true false) false, .test true true, .test (beqb true false) false, .test (beqb true false) false, .test (beqb true false) false, .test true true, .test (beqb true false) false, .test (beqb true false) false, .test (beqb true false) false, .test true true, .test (beqb true false) false, .test (beqb true false) false, .test (beqb true false) false, .test true true, .test (beqb true false) false, .test (beqb true false) false, .test (beqb true false) false, .test true true, .test true true] := ⟨(F143_ok1 _ h3153 (F143_ok K a3131.Prog _ h3144)), (leads_ok (by simp only [leadsAny, List.any_cons, List.any_nil, RV.leads, RC.leads, leadsT, hasSl_lit, Bool.or_false, flat_ns (eInt_ns _), flat_ns eBool_ns, flat_ns eStr_ns, flat_ns eGJob_ns, flat_ns eGEdge_ns, flat_ns eGAsked_ns, flat_ns eGMsg_ns, flat_ns eGrule_ns, flat_ns eGA199_ns, flat_ns eGA202_ns])), (beqb_ft (bnot_f h3154)), (beqb_ft (bnot_f h3154)), (beqb_ft (bnot_f h3154)), (bnot_f h3154), (beqb_ft rfl), (beqb_ft rfl), (beqb_ft rfl), (beqb_ft rfl), (beqb_ft rfl), rfl, (beqb_ft rfl), (beqb_ft rfl), (beqb_ft rfl), rfl, (beqb_ft rfl), (beqb_ft rfl), (beqb_ft rfl), rfl, (beqb_ft rfl), (beqb_ft rfl), (beqb_ft rfl), rfl, (beqb_ft rfl), (beqb_ft rfl), (beqb_ft rfl), rfl, rfl, trivial⟩
      exact fn_playC hn94 (f := 94) (ads := [.agg (eGGraph a3130), .agg (eGJob a3131)]) (r := F94_res 1) (pq3193 pz) (by kernel_rfl) (by kernel_rfl)
    refine cond_some hF (fun h3161 hF => ?_) (fun h3161 hF => ?_)
    ·
      refine cond_some hF (fun h3162 hF => ?_) (fun h3162 hF => ?_)
      ·
        have pq3206 : ∀ {l : List Cond}, HoldAll E H hn94 l → HoldAll E H hn94 (.call 143 [.one (.lit (.int .i64 a3131.Prog))] (F143_res2 r3143) :: .test (leadsAny (Res.mk [(.agg [(.im (.lit (fnV 162))), (.im (.lit (fnV 159))), (.im (.lit (.bool r3143.1.only_))), (.im (.lit (fnV 163)))]), (.one (.im (.lit (.bool r3143.2))))] [])) false :: .test (beqb (bnot r3143.2) false) true :: .test (beqb (bnot r3143.2) false) true :: .test (beqb (bnot r3143.2) false) true :: .test (bnot r3143.2) false :: l) := fun z => ⟨(F143_ok2 _ h3161 (F143_ok K a3131.Prog _ h3144)), (leads_ok (by simp only [leadsAny, List.any_cons, List.any_nil, RV.leads, RC.leads, leadsT, hasSl_lit, Bool.or_false, flat_ns (eInt_ns _), flat_ns eBool_ns, flat_ns eStr_ns, flat_ns eGJob_ns, flat_ns eGEdge_ns, flat_ns eGAsked_ns, flat_ns eGMsg_ns, flat_ns eGrule_ns, flat_ns eGA199_ns, flat_ns eGA202_ns])), (beqb_ff (bnot_t h3162)), (beqb_ff (bnot_t h3162)), (beqb_ff (bnot_t h3162)), (bnot_t h3162), z⟩
        refine cond_some hF (fun h3163 hF => ?_) (fun h3163 hF => ?_)
        ·
          have hr := Option.some.inj hF
          subst hr
          have pz : HoldAll E H hn94 [.test (beqb (ilt a3131.Source 0) false) false, .test (beqb (ilt a3131.Source 0) false) false, .test (beqb (ilt a3131.Source 0) false) false, .test (beqb (ilt a3131.Source 0) false) false, .test (beqb (ilt a3131.Source 0) false) false, .test (ilt a3131.Source 0) true, .test (beqb true false) false, .test (beqb true false) false, .test (beqb true false) false, .test true true, .test (beqb true false) false, .test (beqb true false) false, .test (beqb true false) false, .test true true, .test (beqb true false) false, .test (beqb true false) false, .test (beqb true false) false, .test true true, .test (beqb true false) false, .test (beqb true false) false, .test (beqb true false) false, .test true true, .test true true] := ⟨(beqb_ft h3163), (beqb_ft h3163), (beqb_ft h3163), (beqb_ft h3163), (beqb_ft h3163), h3163, (beqb_ft rfl), (beqb_ft rfl), (beqb_ft rfl), rfl, (beqb_ft rfl), (beqb_ft rfl), (beqb_ft rfl), rfl, (beqb_ft rfl), (beqb_ft rfl), (beqb_ft rfl), rfl, (beqb_ft rfl), (beqb_ft rfl), (beqb_ft rfl), rfl, rfl, trivial⟩
          exact fn_playC hn94 (f := 94) (ads := [.agg (eGGraph a3130), .agg (eGJob a3131)]) (r := F94_res 1) (pq3193 (pq3206 pz)) (by kernel_rfl) (by kernel_rfl)
        have pq3207 : ∀ {l : List Cond}, HoldAll E H hn94 l → HoldAll E H hn94 (.test (beqb (ilt a3131.Source 0) false) true :: .test (beqb (ilt a3131.Source 0) false) true :: .test (beqb (ilt a3131.Source 0) false) true :: .test (beqb (ilt a3131.Source 0) false) true :: .test (beqb (ilt a3131.Source 0) false) true :: .test (ilt a3131.Source 0) false :: l) := fun z => ⟨(beqb_ff h3163), (beqb_ff h3163), (beqb_ff h3163), (beqb_ff h3163), (beqb_ff h3163), h3163, z⟩
        refine cond_some hF (fun h3164 hF => ?_) (fun h3164 hF => ?_)
        ·
          have hr := Option.some.inj hF
          subst hr
          have pz : HoldAll E H hn94 [.test (beqb (ige a3131.Source a3130.N) false) false, .test (beqb (ige a3131.Source a3130.N) false) false, .test (beqb (ige a3131.Source a3130.N) false) false, .test (ige a3131.Source a3130.N) true, .test (beqb true false) false, .test (beqb true false) false, .test (beqb true false) false, .test true true, .test (beqb true false) false, .test (beqb true false) false, .test (beqb true false) false, .test true true, .test (beqb true false) false, .test (beqb true false) false, .test (beqb true false) false, .test true true, .test true true] := ⟨(beqb_ft (ige_eq h3164)), (beqb_ft (ige_eq h3164)), (beqb_ft (ige_eq h3164)), (ige_eq h3164), (beqb_ft rfl), (beqb_ft rfl), (beqb_ft rfl), rfl, (beqb_ft rfl), (beqb_ft rfl), (beqb_ft rfl), rfl, (beqb_ft rfl), (beqb_ft rfl), (beqb_ft rfl), rfl, rfl, trivial⟩
          exact fn_playC hn94 (f := 94) (ads := [.agg (eGGraph a3130), .agg (eGJob a3131)]) (r := F94_res 1) (pq3193 (pq3206 (pq3207 pz))) (by kernel_rfl) (by kernel_rfl)
        have pq3208 : ∀ {l : List Cond}, HoldAll E H hn94 l → HoldAll E H hn94 (.test (beqb (ige a3131.Source a3130.N) false) true :: .test (beqb (ige a3131.Source a3130.N) false) true :: .test (beqb (ige a3131.Source a3130.N) false) true :: .test (ige a3131.Source a3130.N) false :: l) := fun z => ⟨(beqb_ff (ige_eq h3164)), (beqb_ff (ige_eq h3164)), (beqb_ff (ige_eq h3164)), (ige_eq h3164), z⟩
        refine cond_some hF (fun h3165 hF => ?_) (fun h3165 hF => ?_)
        ·
          have hr := Option.some.inj hF
          subst hr
          have pz : HoldAll E H hn94 [.test (beqb (ilt a3131.Limit 0) false) false, .test (beqb (ilt a3131.Limit 0) false) false, .test (beqb (ilt a3131.Limit 0) false) false, .test (ilt a3131.Limit 0) true, .test (beqb true false) false, .test (beqb true false) false, .test (beqb true false) false, .test true true, .test (beqb true false) false, .test (beqb true false) false, .test (beqb true false) false, .test true true, .test true true] := ⟨(beqb_ft h3165), (beqb_ft h3165), (beqb_ft h3165), h3165, (beqb_ft rfl), (beqb_ft rfl), (beqb_ft rfl), rfl, (beqb_ft rfl), (beqb_ft rfl), (beqb_ft rfl), rfl, rfl, trivial⟩
          exact fn_playC hn94 (f := 94) (ads := [.agg (eGGraph a3130), .agg (eGJob a3131)]) (r := F94_res 1) (pq3193 (pq3206 (pq3207 (pq3208 pz)))) (by kernel_rfl) (by kernel_rfl)
        have pq3209 : ∀ {l : List Cond}, HoldAll E H hn94 l → HoldAll E H hn94 (.test (beqb (ilt a3131.Limit 0) false) true :: .test (beqb (ilt a3131.Limit 0) false) true :: .test (beqb (ilt a3131.Limit 0) false) true :: .test (ilt a3131.Limit 0) false :: l) := fun z => ⟨(beqb_ff h3165), (beqb_ff h3165), (beqb_ff h3165), h3165, z⟩
        refine cond_some hF (fun h3166 hF => ?_) (fun h3166 hF => ?_)
        ·
          have hr := Option.some.inj hF
          subst hr
          have pz : HoldAll E H hn94 [.test (beqb (igt a3131.Limit 40) false) false, .test (beqb (igt a3131.Limit 40) false) false, .test (beqb (igt a3131.Limit 40) false) false, .test (igt a3131.Limit 40) true, .test (beqb true false) false, .test (beqb true false) false, .test (beqb true false) false, .test true true, .test true true] := ⟨(beqb_ft (igt_eq h3166)), (beqb_ft (igt_eq h3166)), (beqb_ft (igt_eq h3166)), (igt_eq h3166), (beqb_ft rfl), (beqb_ft rfl), (beqb_ft rfl), rfl, rfl, trivial⟩
          exact fn_playC hn94 (f := 94) (ads := [.agg (eGGraph a3130), .agg (eGJob a3131)]) (r := F94_res 1) (pq3193 (pq3206 (pq3207 (pq3208 (pq3209 pz))))) (by kernel_rfl) (by kernel_rfl)
        have pq3210 : ∀ {l : List Cond}, HoldAll E H hn94 l → HoldAll E H hn94 (.test (beqb (igt a3131.Limit 40) false) true :: .test (beqb (igt a3131.Limit 40) false) true :: .test (beqb (igt a3131.Limit 40) false) true :: .test (igt a3131.Limit 40) false :: l) := fun z => ⟨(beqb_ff (igt_eq h3166)), (beqb_ff (igt_eq h3166)), (beqb_ff (igt_eq h3166)), (igt_eq h3166), z⟩
        refine cond_some hF (fun h3167 hF => ?_) (fun h3167 hF => ?_)
        ·
          have hr := Option.some.inj hF
          subst hr
          have pz : HoldAll E H hn94 [.test (beqb (ilt a3131.Parts 1) false) false, .test (beqb (ilt a3131.Parts 1) false) false, .test (beqb (ilt a3131.Parts 1) false) false, .test (ilt a3131.Parts 1) true, .test true true] := ⟨(beqb_ft h3167), (beqb_ft h3167), (beqb_ft h3167), h3167, rfl, trivial⟩
          exact fn_playC hn94 (f := 94) (ads := [.agg (eGGraph a3130), .agg (eGJob a3131)]) (r := F94_res 1) (pq3193 (pq3206 (pq3207 (pq3208 (pq3209 (pq3210 pz)))))) (by kernel_rfl) (by kernel_rfl)
        have pq3211 : ∀ {l : List Cond}, HoldAll E H hn94 l → HoldAll E H hn94 (.test (beqb (ilt a3131.Parts 1) false) true :: .test (beqb (ilt a3131.Parts 1) false) true :: .test (beqb (ilt a3131.Parts 1) false) true :: .test (ilt a3131.Parts 1) false :: l) := fun z => ⟨(beqb_ff h3167), (beqb_ff h3167), (beqb_ff h3167), h3167, z⟩
        refine cond_some hF (fun h3168 hF => ?_) (fun h3168 hF => ?_)
        ·
          have hr := Option.some.inj hF
          subst hr
          have pz : HoldAll E H hn94 [.test (igt a3131.Parts 6) true] := ⟨(igt_eq h3168), trivial⟩
          exact fn_playC hn94 (f := 94) (ads := [.agg (eGGraph a3130), .agg (eGJob a3131)]) (r := F94_res 1) (pq3193 (pq3206 (pq3207 (pq3208 (pq3209 (pq3210 (pq3211 pz))))))) (by kernel_rfl) (by kernel_rfl)
        have hr := Option.some.inj hF
        subst hr
        have pz : HoldAll E H hn94 [.test (igt a3131.Parts 6) false] := ⟨(igt_eq h3168), trivial⟩
        exact fn_playC hn94 (f := 94) (ads := [.agg (eGGraph a3130), .agg (eGJob a3131)]) (r := F94_res 0) (pq3193 (pq3206 (pq3207 (pq3208 (pq3209 (pq3210 (pq3211 pz))))))) (by kernel_rfl) (by kernel_rfl)
      have hr := Option.some.inj hF
      subst hr
      have pz : HoldAll E H hn94 [.call 143 [.one (.lit (.int .i64 a3131.Prog))] (F143_res2 r3143), .test (leadsAny (Res.mk [(.agg [(.im (.lit (fnV 162))), (.im (.lit (fnV 159))), (.im (.lit (.bool r3143.1.only_))), (.im (.lit (fnV 163)))]), (.one (.im (.lit (.bool r3143.2))))] [])) false, .test (beqb (bnot r3143.2) false) false, .test (beqb (bnot r3143.2) false) false, .test (beqb (bnot r3143.2) false) false, .test (bnot r3143.2) true, .test (beqb true false) false, .test (beqb true false) false, .test (beqb true false) false, .test (beqb true false) false, .test (beqb true false) false, .test true true, .test (beqb true false) false, .test (beqb true false) false, .test (beqb true false) false, .test true true, .test (beqb true false) false, .test (beqb true false) false, .test (beqb true false) false, .test true true, .test (beqb true false) false, .test (beqb true false) false, .test (beqb true false) false, .test true true, .test (beqb true false) false, .test (beqb true false) false, .test (beqb true false) false, .test true true, .test true true] := ⟨(F143_ok2 _ h3161 (F143_ok K a3131.Prog _ h3144)), (leads_ok (by simp only [leadsAny, List.any_cons, List.any_nil, RV.leads, RC.leads, leadsT, hasSl_lit, Bool.or_false, flat_ns (eInt_ns _), flat_ns eBool_ns, flat_ns eStr_ns, flat_ns eGJob_ns, flat_ns eGEdge_ns, flat_ns eGAsked_ns, flat_ns eGMsg_ns, flat_ns eGrule_ns, flat_ns eGA199_ns, flat_ns eGA202_ns])), (beqb_ft (bnot_f h3162)), (beqb_ft (bnot_f h3162)), (beqb_ft (bnot_f h3162)), (bnot_f h3162), (beqb_ft rfl), (beqb_ft rfl), (beqb_ft rfl), (beqb_ft rfl), (beqb_ft rfl), rfl, (beqb_ft rfl), (beqb_ft rfl), (beqb_ft rfl), rfl, (beqb_ft rfl), (beqb_ft rfl), (beqb_ft rfl), rfl, (beqb_ft rfl), (beqb_ft rfl), (beqb_ft rfl), rfl, (beqb_ft rfl), (beqb_ft rfl), (beqb_ft rfl), rfl, rfl, trivial⟩
      exact fn_playC hn94 (f := 94) (ads := [.agg (eGGraph a3130), .agg (eGJob a3131)]) (r := F94_res 1) (pq3193 pz) (by kernel_rfl) (by kernel_rfl)
    refine cond_some hF (fun h3169 hF => ?_) (fun h3169 hF => ?_)
    ·
      refine cond_some hF (fun h3170 hF => ?_) (fun h3170 hF => ?_)
      ·
        have pq3212 : ∀ {l : List Cond}, HoldAll E H hn94 l → HoldAll E H hn94 (.call 143 [.one (.lit (.int .i64 a3131.Prog))] (F143_res3 r3143) :: .test (leadsAny (Res.mk [(.agg [(.im (.lit (fnV 164))), (.im (.lit (fnV 165))), (.im (.lit (.bool r3143.1.only_))), (.im (.lit (fnV 163)))]), (.one (.im (.lit (.bool r3143.2))))] [])) false :: .test (beqb (bnot r3143.2) false) true :: .test (beqb (bnot r3143.2) false) true :: .test (beqb (bnot r3143.2) false) true :: .test (bnot r3143.2) false :: l) := fun z => ⟨(F143_ok3 _ h3169 (F143_ok K a3131.Prog _ h3144)), (leads_ok (by simp only [leadsAny, List.any_cons, List.any_nil, RV.leads, RC.leads, leadsT, hasSl_lit, Bool.or_false, flat_ns (eInt_ns _), flat_ns eBool_ns, flat_ns eStr_ns, flat_ns eGJob_ns, flat_ns eGEdge_ns, flat_ns eGAsked_ns, flat_ns eGMsg_ns, flat_ns eGrule_ns, flat_ns eGA199_ns, flat_ns eGA202_ns])), (beqb_ff (bnot_t h3170)), (beqb_ff (bnot_t h3170)), (beqb_ff (bnot_t h3170)), (bnot_t h3170), z⟩
        refine cond_some hF (fun h3171 hF => ?_) (fun h3171 hF => ?_)
        ·
          have hr := Option.some.inj hF
          subst hr
          have pz : HoldAll E H hn94 [.test (beqb (ilt a3131.Source 0) false) false, .test (beqb (ilt a3131.Source 0) false) false, .test (beqb (ilt a3131.Source 0) false) false, .test (beqb (ilt a3131.Source 0) false) false, .test (beqb (ilt a3131.Source 0) false) false, .test (ilt a3131.Source 0) true, .test (beqb true false) false, .test (beqb true false) false, .test (beqb true false) false, .test true true, .test (beqb true false) false, .test (beqb true false) false, .test (beqb true false) false, .test true true, .test (beqb true false) false, .test (beqb true false) false, .test (beqb true false) false, .test true true, .test (beqb true false) false, .test (beqb true false) false, .test (beqb true false) false, .test true true, .test true true] := ⟨(beqb_ft h3171), (beqb_ft h3171), (beqb_ft h3171), (beqb_ft h3171), (beqb_ft h3171), h3171, (beqb_ft rfl), (beqb_ft rfl), (beqb_ft rfl), rfl, (beqb_ft rfl), (beqb_ft rfl), (beqb_ft rfl), rfl, (beqb_ft rfl), (beqb_ft rfl), (beqb_ft rfl), rfl, (beqb_ft rfl), (beqb_ft rfl), (beqb_ft rfl), rfl, rfl, trivial⟩
          exact fn_playC hn94 (f := 94) (ads := [.agg (eGGraph a3130), .agg (eGJob a3131)]) (r := F94_res 1) (pq3193 (pq3212 pz)) (by kernel_rfl) (by kernel_rfl)
        have pq3213 : ∀ {l : List Cond}, HoldAll E H hn94 l → HoldAll E H hn94 (.test (beqb (ilt a3131.Source 0) false) true :: .test (beqb (ilt a3131.Source 0) false) true :: .test (beqb (ilt a3131.Source 0) false) true :: .test (beqb (ilt a3131.Source 0) false) true :: .test (beqb (ilt a3131.Source 0) false) true :: .test (ilt a3131.Source 0) false :: l) := fun z => ⟨(beqb_ff h3171), (beqb_ff h3171), (beqb_ff h3171), (beqb_ff h3171), (beqb_ff h3171), h3171, z⟩
        refine cond_some hF (fun h3172 hF => ?_) (fun h3172 hF => ?_)
        ·
          have hr := Option.some.inj hF
          subst hr
          have pz : HoldAll E H hn94 [.test (beqb (ige a3131.Source a3130.N) false) false, .test (beqb (ige a3131.Source a3130.N) false) false, .test (beqb (ige a3131.Source a3130.N) false) false, .test (ige a3131.Source a3130.N) true, .test (beqb true false) false, .test (beqb true false) false, .test (beqb true false) false, .test true true, .test (beqb true false) false, .test (beqb true false) false, .test (beqb true false) false, .test true true, .test (beqb true false) false, .test (beqb true false) false, .test (beqb true false) false, .test true true, .test true true] := ⟨(beqb_ft (ige_eq h3172)), (beqb_ft (ige_eq h3172)), (beqb_ft (ige_eq h3172)), (ige_eq h3172), (beqb_ft rfl), (beqb_ft rfl), (beqb_ft rfl), rfl, (beqb_ft rfl), (beqb_ft rfl), (beqb_ft rfl), rfl, (beqb_ft rfl), (beqb_ft rfl), (beqb_ft rfl), rfl, rfl, trivial⟩
          exact fn_playC hn94 (f := 94) (ads := [.agg (eGGraph a3130), .agg (eGJob a3131)]) (r := F94_res 1) (pq3193 (pq3212 (pq3213 pz))) (by kernel_rfl) (by kernel_rfl)
        have pq3214 : ∀ {l : List Cond}, HoldAll E H hn94 l → HoldAll E H hn94 (.test (beqb (ige a3131.Source a3130.N) false) true :: .test (beqb (ige a3131.Source a3130.N) false) true :: .test (beqb (ige a3131.Source a3130.N) false) true :: .test (ige a3131.Source a3130.N) false :: l) := fun z => ⟨(beqb_ff (ige_eq h3172)), (beqb_ff (ige_eq h3172)), (beqb_ff (ige_eq h3172)), (ige_eq h3172), z⟩
        refine cond_some hF (fun h3173 hF => ?_) (fun h3173 hF => ?_)
        ·
          have hr := Option.some.inj hF
          subst hr
          have pz : HoldAll E H hn94 [.test (beqb (ilt a3131.Limit 0) false) false, .test (beqb (ilt a3131.Limit 0) false) false, .test (beqb (ilt a3131.Limit 0) false) false, .test (ilt a3131.Limit 0) true, .test (beqb true false) false, .test (beqb true false) false, .test (beqb true false) false, .test true true, .test (beqb true false) false, .test (beqb true false) false, .test (beqb true false) false, .test true true, .test true true] := ⟨(beqb_ft h3173), (beqb_ft h3173), (beqb_ft h3173), h3173, (beqb_ft rfl), (beqb_ft rfl), (beqb_ft rfl), rfl, (beqb_ft rfl), (beqb_ft rfl), (beqb_ft rfl), rfl, rfl, trivial⟩
          exact fn_playC hn94 (f := 94) (ads := [.agg (eGGraph a3130), .agg (eGJob a3131)]) (r := F94_res 1) (pq3193 (pq3212 (pq3213 (pq3214 pz)))) (by kernel_rfl) (by kernel_rfl)
        have pq3215 : ∀ {l : List Cond}, HoldAll E H hn94 l → HoldAll E H hn94 (.test (beqb (ilt a3131.Limit 0) false) true :: .test (beqb (ilt a3131.Limit 0) false) true :: .test (beqb (ilt a3131.Limit 0) false) true :: .test (ilt a3131.Limit 0) false :: l) := fun z => ⟨(beqb_ff h3173), (beqb_ff h3173), (beqb_ff h3173), h3173, z⟩
        refine cond_some hF (fun h3174 hF => ?_) (fun h3174 hF => ?_)
        ·
          have hr := Option.some.inj hF
          subst hr
          have pz : HoldAll E H hn94 [.test (beqb (igt a3131.Limit 40) false) false, .test (beqb (igt a3131.Limit 40) false) false, .test (beqb (igt a3131.Limit 40) false) false, .test (igt a3131.Limit 40) true, .test (beqb true false) false, .test (beqb true false) false, .test (beqb true false) false, .test true true, .test true true] := ⟨(beqb_ft (igt_eq h3174)), (beqb_ft (igt_eq h3174)), (beqb_ft (igt_eq h3174)), (igt_eq h3174), (beqb_ft rfl), (beqb_ft rfl), (beqb_ft rfl), rfl, rfl, trivial⟩
          exact fn_playC hn94 (f := 94) (ads := [.agg (eGGraph a3130), .agg (eGJob a3131)]) (r := F94_res 1) (pq3193 (pq3212 (pq3213 (pq3214 (pq3215 pz))))) (by kernel_rfl) (by kernel_rfl)
        have pq3216 : ∀ {l : List Cond}, HoldAll E H hn94 l → HoldAll E H hn94 (.test (beqb (igt a3131.Limit 40) false) true :: .test (beqb (igt a3131.Limit 40) false) true :: .test (beqb (igt a3131.Limit 40) false) true :: .test (igt a3131.Limit 40) false :: l) := fun z => ⟨(beqb_ff (igt_eq h3174)), (beqb_ff (igt_eq h3174)), (beqb_ff (igt_eq h3174)), (igt_eq h3174), z⟩
        refine cond_some hF (fun h3175 hF => ?_) (fun h3175 hF => ?_)
        ·
          have hr := Option.some.inj hF
          subst hr
          have pz : HoldAll E H hn94 [.test (beqb (ilt a3131.Parts 1) false) false, .test (beqb (ilt a3131.Parts 1) false) false, .test (beqb (ilt a3131.Parts 1) false) false, .test (ilt a3131.Parts 1) true, .test true true] := ⟨(beqb_ft h3175), (beqb_ft h3175), (beqb_ft h3175), h3175, rfl, trivial⟩
          exact fn_playC hn94 (f := 94) (ads := [.agg (eGGraph a3130), .agg (eGJob a3131)]) (r := F94_res 1) (pq3193 (pq3212 (pq3213 (pq3214 (pq3215 (pq3216 pz)))))) (by kernel_rfl) (by kernel_rfl)
        have pq3217 : ∀ {l : List Cond}, HoldAll E H hn94 l → HoldAll E H hn94 (.test (beqb (ilt a3131.Parts 1) false) true :: .test (beqb (ilt a3131.Parts 1) false) true :: .test (beqb (ilt a3131.Parts 1) false) true :: .test (ilt a3131.Parts 1) false :: l) := fun z => ⟨(beqb_ff h3175), (beqb_ff h3175), (beqb_ff h3175), h3175, z⟩
        refine cond_some hF (fun h3176 hF => ?_) (fun h3176 hF => ?_)
        ·
          have hr := Option.some.inj hF
          subst hr
          have pz : HoldAll E H hn94 [.test (igt a3131.Parts 6) true] := ⟨(igt_eq h3176), trivial⟩
          exact fn_playC hn94 (f := 94) (ads := [.agg (eGGraph a3130), .agg (eGJob a3131)]) (r := F94_res 1) (pq3193 (pq3212 (pq3213 (pq3214 (pq3215 (pq3216 (pq3217 pz))))))) (by kernel_rfl) (by kernel_rfl)
        have hr := Option.some.inj hF
        subst hr
        have pz : HoldAll E H hn94 [.test (igt a3131.Parts 6) false] := ⟨(igt_eq h3176), trivial⟩
        exact fn_playC hn94 (f := 94) (ads := [.agg (eGGraph a3130), .agg (eGJob a3131)]) (r := F94_res 0) (pq3193 (pq3212 (pq3213 (pq3214 (pq3215 (pq3216 (pq3217 pz))))))) (by kernel_rfl) (by kernel_rfl)
      have hr := Option.some.inj hF
      subst hr
      have pz : HoldAll E H hn94 [.call 143 [.one (.lit (.int .i64 a3131.Prog))] (F143_res3 r3143), .test (leadsAny (Res.mk [(.agg [(.im (.lit (fnV 164))), (.im (.lit (fnV 165))), (.im (.lit (.bool r3143.1.only_))), (.im (.lit (fnV 163)))]), (.one (.im (.lit (.bool r3143.2))))] [])) false, .test (beqb (bnot r3143.2) false) false, .test (beqb (bnot r3143.2) false) false, .test (beqb (bnot r3143.2) false) false, .test (bnot r3143.2) true, .test (beqb true false) false, .test (beqb true false) false, .test (beqb true false) false, .test (beqb true false) false, .test (beqb true false) false, .test true true, .test (beqb true false) false, .test (beqb true false) false, .test (beqb true false) false, .test true true, .test (beqb true false) false, .test (beqb true false) false, .test (beqb true false) false, .test true true, .test (beqb true false) false, .test (beqb true false) false, .test (beqb true false) false, .test true true, .test (beqb true false) false, .test (beqb true false) false, .test (beqb true false) false, .test true true, .test true true] := ⟨(F143_ok3 _ h3169 (F143_ok K a3131.Prog _ h3144)), (leads_ok (by simp only [leadsAny, List.any_cons, List.any_nil, RV.leads, RC.leads, leadsT, hasSl_lit, Bool.or_false, flat_ns (eInt_ns _), flat_ns eBool_ns, flat_ns eStr_ns, flat_ns eGJob_ns, flat_ns eGEdge_ns, flat_ns eGAsked_ns, flat_ns eGMsg_ns, flat_ns eGrule_ns, flat_ns eGA199_ns, flat_ns eGA202_ns])), (beqb_ft (bnot_f h3170)), (beqb_ft (bnot_f h3170)), (beqb_ft (bnot_f h3170)), (bnot_f h3170), (beqb_ft rfl), (beqb_ft rfl), (beqb_ft rfl), (beqb_ft rfl), (beqb_ft rfl), rfl, (beqb_ft rfl), (beqb_ft rfl), (beqb_ft rfl), rfl, (beqb_ft rfl), (beqb_ft rfl), (beqb_ft rfl), rfl, (beqb_ft rfl), (beqb_ft rfl), (beqb_ft rfl), rfl, (beqb_ft rfl), (beqb_ft rfl), (beqb_ft rfl), rfl, rfl, trivial⟩
      exact fn_playC hn94 (f := 94) (ads := [.agg (eGGraph a3130), .agg (eGJob a3131)]) (r := F94_res 1) (pq3193 pz) (by kernel_rfl) (by kernel_rfl)
    refine cond_some hF (fun h3177 hF => ?_) (fun h3177 hF => ?_)
    ·
      refine cond_some hF (fun h3178 hF => ?_) (fun h3178 hF => ?_)
      ·
        have pq3218 : ∀ {l : List Cond}, HoldAll E H hn94 l → HoldAll E H hn94 (.call 143 [.one (.lit (.int .i64 a3131.Prog))] (F143_res4 r3143) :: .test (leadsAny (Res.mk [(.agg [(.im (.lit (fnV 166))), (.im (.lit .nilFunc)), (.im (.lit (.bool r3143.1.only_))), (.im (.lit (fnV 163)))]), (.one (.im (.lit (.bool r3143.2))))] [])) false :: .test (beqb (bnot r3143.2) false) true :: .test (beqb (bnot r3143.2) false) true :: .test (beqb (bnot r3143.2) false) true :: .test (bnot r3143.2) false :: l) := fun z => ⟨(F143_ok4 _ h3177 (F143_ok K a3131.Prog _ h3144)), (leads_ok (by simp only [leadsAny, List.any_cons, List.any_nil, RV.leads, RC.leads, leadsT, hasSl_lit, Bool.or_false, flat_ns (eInt_ns _), flat_ns eBool_ns, flat_ns eStr_ns, flat_ns eGJob_ns, flat_ns eGEdge_ns, flat_ns eGAsked_ns, flat_ns eGMsg_ns, flat_ns eGrule_ns, flat_ns eGA199_ns, flat_ns eGA202_ns])), (beqb_ff (bnot_t h3178)), (beqb_ff (bnot_t h3178)), (beqb_ff (bnot_t h3178)), (bnot_t h3178), z⟩
        refine cond_some hF (fun h3179 hF => ?_) (fun h3179 hF => ?_)
        ·
          have hr := Option.some.inj hF
          subst hr
          have pz : HoldAll E H hn94 [.test (beqb (ilt a3131.Source 0) false) false, .test (beqb (ilt a3131.Source 0) false) false, .test (beqb (ilt a3131.Source 0) false) false, .test (beqb (ilt a3131.Source 0) false) false, .test (beqb (ilt a3131.Source 0) false) false, .test (ilt a3131.Source 0) true, .test (beqb true false) false, .test (beqb true false) false, .test (beqb true false) false, .test true true, .test (beqb true false) false, .test (beqb true false) false, .test (beqb true false) false, .test true true, .test (beqb true false) false, .test (beqb true false) false, .test (beqb true false) false, .test true true, .test (beqb true false) false, .test (beqb true false) false, .test (beqb true false) false, .test true true, .test true true] := ⟨(beqb_ft h3179), (beqb_ft h3179), (beqb_ft h3179), (beqb_ft h3179), (beqb_ft h3179), h3179, (beqb_ft rfl), (beqb_ft rfl), (beqb_ft rfl), rfl, (beqb_ft rfl), (beqb_ft rfl), (beqb_ft rfl), rfl, (beqb_ft rfl), (beqb_ft rfl), (beqb_ft rfl), rfl, (beqb_ft rfl), (beqb_ft rfl), (beqb_ft rfl), rfl, rfl, trivial⟩
          exact fn_playC hn94 (f := 94) (ads := [.agg (eGGraph a3130), .agg (eGJob a3131)]) (r := F94_res 1) (pq3193 (pq3218 pz)) (by kernel_rfl) (by kernel_rfl)
        have pq3219 : ∀ {l : List Cond}, HoldAll E H hn94 l → HoldAll E H hn94 (.test (beqb (ilt a3131.Source 0) false) true :: .test (beqb (ilt a3131.Source 0) false) true :: .test (beqb (ilt a3131.Source 0) false) true :: .test (beqb (ilt a3131.Source 0) false) true :: .test (beqb (ilt a3131.Source 0) false) true :: .test (ilt a3131.Source 0) false :: l) := fun z => ⟨(beqb_ff h3179), (beqb_ff h3179), (beqb_ff h3179), (beqb_ff h3179), (beqb_ff h3179), h3179, z⟩
        refine cond_some hF (fun h3180 hF => ?_) (fun h3180 hF => ?_)
        ·
          have hr := Option.some.inj hF
          subst hr
          have pz : HoldAll E H hn94 [.test (beqb (ige a3131.Source a3130.N) false) false, .test (beqb (ige a3131.Source a3130.N) false) false, .test (beqb (ige a3131.Source a3130.N) false) false, .test (ige a3131.Source a3130.N) true, .test (beqb true false) false, .test (beqb true false) false, .test (beqb true false) false, .test true true, .test (beqb true false) false, .test (beqb true false) false, .test (beqb true false) false, .test true true, .test (beqb true false) false, .test (beqb true false) false, .test (beqb true false) false, .test true true, .test true true] := ⟨(beqb_ft (ige_eq h3180)), (beqb_ft (ige_eq h3180)), (beqb_ft (ige_eq h3180)), (ige_eq h3180), (beqb_ft rfl), (beqb_ft rfl), (beqb_ft rfl), rfl, (beqb_ft rfl), (beqb_ft rfl), (beqb_ft rfl), rfl, (beqb_ft rfl), (beqb_ft rfl), (beqb_ft rfl), rfl, rfl, trivial⟩
          exact fn_playC hn94 (f := 94) (ads := [.agg (eGGraph a3130), .agg (eGJob a3131)]) (r := F94_res 1) (pq3193 (pq3218 (pq3219 pz))) (by kernel_rfl) (by kernel_rfl)
        have pq3220 : ∀ {l : List Cond}, HoldAll E H hn94 l → HoldAll E H hn94 (.test (beqb (ige a3131.Source a3130.N) false) true :: .test (beqb (ige a3131.Source a3130.N) false) true :: .test (beqb (ige a3131.Source a3130.N) false) true :: .test (ige a3131.Source a3130.N) false :: l) := fun z => ⟨(beqb_ff (ige_eq h3180)), (beqb_ff (ige_eq h3180)), (beqb_ff (ige_eq h3180)), (ige_eq h3180), z⟩
        refine cond_some hF (fun h3181 hF => ?_) (fun h3181 hF => ?_)
        ·
          have hr := Option.some.inj hF
          subst hr
          have pz : HoldAll E H hn94 [.test (beqb (ilt a3131.Limit 0) false) false, .test (beqb (ilt a3131.Limit 0) false) false, .test (beqb (ilt a3131.Limit 0) false) false, .test (ilt a3131.Limit 0) true, .test (beqb true false) false, .test (beqb true false) false, .test (beqb true false) false, .test true true, .test (beqb true false) false, .test (beqb true false) false, .test (beqb true false) false, .test true true, .test true true] := ⟨(beqb_ft h3181), (beqb_ft h3181), (beqb_ft h3181), h3181, (beqb_ft rfl), (beqb_ft rfl), (beqb_ft rfl), rfl, (beqb_ft rfl), (beqb_ft rfl), (beqb_ft rfl), rfl, rfl, trivial⟩
          exact fn_playC hn94 (f := 94) (ads := [.agg (eGGraph a3130), .agg (eGJob a3131)]) (r := F94_res 1) (pq3193 (pq3218 (pq3219 (pq3220 pz)))) (by kernel_rfl) (by kernel_rfl)
        have pq3221 : ∀ {l : List Cond}, HoldAll E H hn94 l → HoldAll E H hn94 (.test (beqb (ilt a3131.Limit 0) false) true :: .test (beqb (ilt a3131.Limit 0) false) true :: .test (beqb (ilt a3131.Limit 0) false) true :: .test (ilt a3131.Limit 0) false :: l) := fun z => ⟨(beqb_ff h3181), (beqb_ff h3181), (beqb_ff h3181), h3181, z⟩
        refine cond_some hF (fun h3182 hF => ?_) (fun h3182 hF => ?_)
        ·
          have hr := Option.some.inj hF
          subst hr
          have pz : HoldAll E H hn94 [.test (beqb (igt a3131.Limit 40) false) false, .test (beqb (igt a3131.Limit 40) false) false, .test (beqb (igt a3131.Limit 40) false) false, .test (igt a3131.Limit 40) true, .test (beqb true false) false, .test (beqb true false) false, .test (beqb true false) false, .test true true, .test true true] := ⟨(beqb_ft (igt_eq h3182)), (beqb_ft (igt_eq h3182)), (beqb_ft (igt_eq h3182)), (igt_eq h3182), (beqb_ft rfl), (beqb_ft rfl), (beqb_ft rfl), rfl, rfl, trivial⟩
          exact fn_playC hn94 (f := 94) (ads := [.agg (eGGraph a3130), .agg (eGJob a3131)]) (r := F94_res 1) (pq3193 (pq3218 (pq3219 (pq3220 (pq3221 pz))))) (by kernel_rfl) (by kernel_rfl)
        have pq3222 : ∀ {l : List Cond}, HoldAll E H hn94 l → HoldAll E H hn94 (.test (beqb (igt a3131.Limit 40) false) true :: .test (beqb (igt a3131.Limit 40) false) true :: .test (beqb (igt a3131.Limit 40) false) true :: .test (igt a3131.Limit 40) false :: l) := fun z => ⟨(beqb_ff (igt_eq h3182)), (beqb_ff (igt_eq h3182)), (beqb_ff (igt_eq h3182)), (igt_eq h3182), z⟩
        refine cond_some hF (fun h3183 hF => ?_) (fun h3183 hF => ?_)
        ·
          have hr := Option.some.inj hF
          subst hr
          have pz : HoldAll E H hn94 [.test (beqb (ilt a3131.Parts 1) false) false, .test (beqb (ilt a3131.Parts 1) false) false, .test (beqb (ilt a3131.Parts 1) false) false, .test (ilt a3131.Parts 1) true, .test true true] := ⟨(beqb_ft h3183), (beqb_ft h3183), (beqb_ft h3183), h3183, rfl, trivial⟩
          exact fn_playC hn94 (f := 94) (ads := [.agg (eGGraph a3130), .agg (eGJob a3131)]) (r := F94_res 1) (pq3193 (pq3218 (pq3219 (pq3220 (pq3221 (pq3222 pz)))))) (by kernel_rfl) (by kernel_rfl)
        have pq3223 : ∀ {l : List Cond}, HoldAll E H hn94 l → HoldAll E H hn94 (.test (beqb (ilt a3131.Parts 1) false) true :: .test (beqb (ilt a3131.Parts 1) false) true :: .test (beqb (ilt a3131.Parts 1) false) true :: .test (ilt a3131.Parts 1) false :: l) := fun z => ⟨(beqb_ff h3183), (beqb_ff h3183), (beqb_ff h3183), h3183, z⟩
        refine cond_some hF (fun h3184 hF => ?_) (fun h3184 hF => ?_)
        ·
          have hr := Option.some.inj hF
          subst hr
          have pz : HoldAll E H hn94 [.test (igt a3131.Parts 6) true] := ⟨(igt_eq h3184), trivial⟩
          exact fn_playC hn94 (f := 94) (ads := [.agg (eGGraph a3130), .agg (eGJob a3131)]) (r := F94_res 1) (pq3193 (pq3218 (pq3219 (pq3220 (pq3221 (pq3222 (pq3223 pz))))))) (by kernel_rfl) (by kernel_rfl)
        have hr := Option.some.inj hF
        subst hr
        have pz : HoldAll E H hn94 [.test (igt a3131.Parts 6) false] := ⟨(igt_eq h3184), trivial⟩
        exact fn_playC hn94 (f := 94) (ads := [.agg (eGGraph a3130), .agg (eGJob a3131)]) (r := F94_res 0) (pq3193 (pq3218 (pq3219 (pq3220 (pq3221 (pq3222 (pq3223 pz))))))) (by kernel_rfl) (by kernel_rfl)
      have hr := Option.some.inj hF
      subst hr
      have pz : HoldAll E H hn94 [.call 143 [.one (.lit (.int .i64 a3131.Prog))] (F143_res4 r3143), .test (leadsAny (Res.mk [(.agg [(.im (.lit (fnV 166))), (.im (.lit .nilFunc)), (.im (.lit (.bool r3143.1.only_))), (.im (.lit (fnV 163)))]), (.one (.im (.lit (.bool r3143.2))))] [])) false, .test (beqb (bnot r3143.2) false) false, .test (beqb (bnot r3143.2) false) false, .test (beqb (bnot r3143.2) false) false, .test (bnot r3143.2) true, .test (beqb true false) false, .test (beqb true false) false, .test (beqb true false) false, .test (beqb true false) false, .test (beqb true false) false, .test true true, .test (beqb true false) false, .test (beqb true false) false, .test (beqb true false) false, .test true true, .test (beqb true false) false, .test (beqb true false) false, .test (beqb true false) false, .test true true, .test (beqb true false) false, .test (beqb true false) false, .test (beqb true false) false, .test true true, .test (beqb true false) false, .test (beqb true false) false, .test (beqb true false) false, .test true true, .test true true] := ⟨(F143_ok4 _ h3177 (F143_ok K a3131.Prog _ h3144)), (leads_ok (by simp only [leadsAny, List.any_cons, List.any_nil, RV.leads, RC.leads, leadsT, hasSl_lit, Bool.or_false, flat_ns (eInt_ns _), flat_ns eBool_ns, flat_ns eStr_ns, flat_ns eGJob_ns, flat_ns eGEdge_ns, flat_ns eGAsked_ns, flat_ns eGMsg_ns, flat_ns eGrule_ns, flat_ns eGA199_ns, flat_ns eGA202_ns])), (beqb_ft (bnot_f h3178)), (beqb_ft (bnot_f h3178)), (beqb_ft (bnot_f h3178)), (bnot_f h3178), (beqb_ft rfl), (beqb_ft rfl), (beqb_ft rfl), (beqb_ft rfl), (beqb_ft rfl), rfl, (beqb_ft rfl), (beqb_ft rfl), (beqb_ft rfl), rfl, (beqb_ft rfl), (beqb_ft rfl), (beqb_ft rfl), rfl, (beqb_ft rfl), (beqb_ft rfl), (beqb_ft rfl), rfl, (beqb_ft rfl), (beqb_ft rfl), (beqb_ft rfl), rfl, rfl, trivial⟩
      exact fn_playC hn94 (f := 94) (ads := [.agg (eGGraph a3130), .agg (eGJob a3131)]) (r := F94_res 1) (pq3193 pz) (by kernel_rfl) (by kernel_rfl)
    refine cond_some hF (fun h3185 hF => ?_) (fun _ hF => nomatch hF)
    refine cond_some hF (fun h3186 hF => ?_) (fun h3186 hF => ?_)
    ·
      have pq3224 : ∀ {l : List Cond}, HoldAll E H hn94 l → HoldAll E H hn94 (.call 143 [.one (.lit (.int .i64 a3131.Prog))] (F143_res5 r3143) :: .test (leadsAny (Res.mk [(.agg [(.im (.lit .nilFunc)), (.im (.lit .nilFunc)), (.im (.lit (.bool r3143.1.only_))), (.im (.lit .nilFunc))]), (.one (.im (.lit (.bool r3143.2))))] [])) false :: .test (beqb (bnot r3143.2) false) true :: .test (beqb (bnot r3143.2) false) true :: .test (beqb (bnot r3143.2) false) true :: .test (bnot r3143.2) false :: l) := fun z => ⟨(F143_ok5 _ h3185 (F143_ok K a3131.Prog _ h3144)), (leads_ok (by simp only [leadsAny, List.any_cons, List.any_nil, RV.leads, RC.leads, leadsT, hasSl_lit, Bool.or_false, flat_ns (eInt_ns _), flat_ns eBool_ns, flat_ns eStr_ns, flat_ns eGJob_ns, flat_ns eGEdge_ns, flat_ns eGAsked_ns, flat_ns eGMsg_ns, flat_ns eGrule_ns, flat_ns eGA199_ns, flat_ns eGA202_ns])), (beqb_ff (bnot_t h3186)), (beqb_ff (bnot_t h3186)), (beqb_ff (bnot_t h3186)), (bnot_t h3186), z⟩
      refine cond_some hF (fun h3187 hF => ?_) (fun h3187 hF => ?_)
      ·
        have hr := Option.some.inj hF
        subst hr
        have pz : HoldAll E H hn94 [.test (beqb (ilt a3131.Source 0) false) false, .test (beqb (ilt a3131.Source 0) false) false, .test (beqb (ilt a3131.Source 0) false) false, .test (beqb (ilt a3131.Source 0) false) false, .test (beqb (ilt a3131.Source 0) false) false, .test (ilt a3131.Source 0) true, .test (beqb true false) false, .test (beqb true false) false, .test (beqb true false) false, .test true true, .test (beqb true false) false, .test (beqb true false) false, .test (beqb true false) false, .test true true, .test (beqb true false) false, .test (beqb true false) false, .test (beqb true false) false, .test true true, .test (beqb true false) false, .test (beqb true false) false, .test (beqb true false) false, .test true true, .test true true] := ⟨(beqb_ft h3187), (beqb_ft h3187), (beqb_ft h3187), (beqb_ft h3187), (beqb_ft h3187), h3187, (beqb_ft rfl), (beqb_ft rfl), (beqb_ft rfl), rfl, (beqb_ft rfl), (beqb_ft rfl), (beqb_ft rfl), rfl, (beqb_ft rfl), (beqb_ft rfl), (beqb_ft rfl), rfl, (beqb_ft rfl), (beqb_ft rfl), (beqb_ft rfl), rfl, rfl, trivial⟩
        exact fn_playC hn94 (f := 94) (ads := [.agg (eGGraph a3130), .agg (eGJob a3131)]) (r := F94_res 1) (pq3193 (pq3224 pz)) (by kernel_rfl) (by kernel_rfl)
      have pq3225 : ∀ {l : List Cond}, HoldAll E H hn94 l → HoldAll E H hn94 (.test (beqb (ilt a3131.Source 0) false) true :: .test (beqb (ilt a3131.Source 0) false) true :: .test (beqb (ilt a3131.Source 0) false) true :: .test (beqb (ilt a3131.Source 0) false) true :: .test (beqb (ilt a3131.Source 0) false) true :: .test (ilt a3131.Source 0) false :: l) := fun z => ⟨(beqb_ff h3187), (beqb_ff h3187), (beqb_ff h3187), (beqb_ff h3187), (beqb_ff h3187), h3187, z⟩
      refine cond_some hF (fun h3188 hF => ?_) (fun h3188 hF => ?_)
      ·
        have hr := Option.some.inj hF
        subst hr
        have pz : HoldAll E H hn94 [.test (beqb (ige a3131.Source a3130.N) false) false, .test (beqb (ige a3131.Source a3130.N) false) false, .test (beqb (ige a3131.Source a3130.N) false) false, .test (ige a3131.Source a3130.N) true, .test (beqb true false) false, .test (beqb true false) false, .test (beqb true false) false, .test true true, .test (beqb true false) false, .test (beqb true false) false, .test (beqb true false) false, .test true true, .test (beqb true false) false, .test (beqb true false) false, .test (beqb true false) false, .test true true, .test true true] := ⟨(beqb_ft (ige_eq h3188)), (beqb_ft (ige_eq h3188)), (beqb_ft (ige_eq h3188)), (ige_eq h3188), (beqb_ft rfl), (beqb_ft rfl), (beqb_ft rfl), rfl, (beqb_ft rfl), (beqb_ft rfl), (beqb_ft rfl), rfl, (beqb_ft rfl), (beqb_ft rfl), (beqb_ft rfl), rfl, rfl, trivial⟩
        exact fn_playC hn94 (f := 94) (ads := [.agg (eGGraph a3130), .agg (eGJob a3131)]) (r := F94_res 1) (pq3193 (pq3224 (pq3225 pz))) (by kernel_rfl) (by kernel_rfl)
      have pq3226 : ∀ {l : List Cond}, HoldAll E H hn94 l → HoldAll E H hn94 (.test (beqb (ige a3131.Source a3130.N) false) true :: .test (beqb (ige a3131.Source a3130.N) false) true :: .test (beqb (ige a3131.Source a3130.N) false) true :: .test (ige a3131.Source a3130.N) false :: l) := fun z => ⟨(beqb_ff (ige_eq h3188)), (beqb_ff (ige_eq h3188)), (beqb_ff (ige_eq h3188)), (ige_eq h3188), z⟩
      refine cond_some hF (fun h3189 hF => ?_) (fun h3189 hF => ?_)
      ·
        have hr := Option.some.inj hF
        subst hr
        have pz : HoldAll E H hn94 [.test (beqb (ilt a3131.Limit 0) false) false, .test (beqb (ilt a3131.Limit 0) false) false, .test (beqb (ilt a3131.Limit 0) false) false, .test (ilt a3131.Limit 0) true, .test (beqb true false) false, .test (beqb true false) false, .test (beqb true false) false, .test true true, .test (beqb true false) false, .test (beqb true false) false, .test (beqb true false) false, .test true true, .test true true] := ⟨(beqb_ft h3189), (beqb_ft h3189), (beqb_ft h3189), h3189, (beqb_ft rfl), (beqb_ft rfl), (beqb_ft rfl), rfl, (beqb_ft rfl), (beqb_ft rfl), (beqb_ft rfl), rfl, rfl, trivial⟩
        exact fn_playC hn94 (f := 94) (ads := [.agg (eGGraph a3130), .agg (eGJob a3131)]) (r := F94_res 1) (pq3193 (pq3224 (pq3225 (pq3226 pz)))) (by kernel_rfl) (by kernel_rfl)
      have pq3227 : ∀ {l : List Cond}, HoldAll E H hn94 l → HoldAll E H hn94 (.test (beqb (ilt a3131.Limit 0) false) true :: .test (beqb (ilt a3131.Limit 0) false) true :: .test (beqb (ilt a3131.Limit 0) false) true :: .test (ilt a3131.Limit 0) false :: l) := fun z => ⟨(beqb_ff h3189), (beqb_ff h3189), (beqb_ff h3189), h3189, z⟩
      refine cond_some hF (fun h3190 hF => ?_) (fun h3190 hF => ?_)
      ·
        have hr := Option.some.inj hF
        subst hr
        have pz : HoldAll E H hn94 [.test (beqb (igt a3131.Limit 40) false) false, .test (beqb (igt a3131.Limit 40) false) false, .test (beqb (igt a3131.Limit 40) false) false, .test (igt a3131.Limit 40) true, .test (beqb true false) false, .test (beqb true false) false, .test (beqb true false) false, .test true true, .test true true] := ⟨(beqb_ft (igt_eq h3190)), (beqb_ft (igt_eq h3190)), (beqb_ft (igt_eq h3190)), (igt_eq h3190), (beqb_ft rfl), (beqb_ft rfl), (beqb_ft rfl), rfl, rfl, trivial⟩
        exact fn_playC hn94 (f := 94) (ads := [.agg (eGGraph a3130), .agg (eGJob a3131)]) (r := F94_res 1) (pq3193 (pq3224 (pq3225 (pq3226 (pq3227 pz))))) (by kernel_rfl) (by kernel_rfl)
      have pq3228 : ∀ {l : List Cond}, HoldAll E H hn94 l → HoldAll E H hn94 (.test (beqb (igt a3131.Limit 40) false) true :: .test (beqb (igt a3131.Limit 40) false) true :: .test (beqb (igt a3131.Limit 40) false) true :: .test (igt a3131.Limit 40) false :: l) := fun z => ⟨(beqb_ff (igt_eq h3190)), (beqb_ff (igt_eq h3190)), (beqb_ff (igt_eq h3190)), (igt_eq h3190), z⟩
      refine cond_some hF (fun h3191 hF => ?_) (fun h3191 hF => ?_)
      ·
        have hr := Option.some.inj hF
        subst hr
        have pz : HoldAll E H hn94 [.test (beqb (ilt a3131.Parts 1) false) false, .test (beqb (ilt a3131.Parts 1) false) false, .test (beqb (ilt a3131.Parts 1) false) false, .test (ilt a3131.Parts 1) true, .test true true] := ⟨(beqb_ft h3191), (beqb_ft h3191), (beqb_ft h3191), h3191, rfl, trivial⟩
        exact fn_playC hn94 (f := 94) (ads := [.agg (eGGraph a3130), .agg (eGJob a3131)]) (r := F94_res 1) (pq3193 (pq3224 (pq3225 (pq3226 (pq3227 (pq3228 pz)))))) (by kernel_rfl) (by kernel_rfl)
      have pq3229 : ∀ {l : List Cond}, HoldAll E H hn94 l → HoldAll E H hn94 (.test (beqb (ilt a3131.Parts 1) false) true :: .test (beqb (ilt a3131.Parts 1) false) true :: .test (beqb (ilt a3131.Parts 1) false) true :: .test (ilt a3131.Parts 1) false :: l) := fun z => ⟨(beqb_ff h3191), (beqb_ff h3191), (beqb_ff h3191), h3191, z⟩
      refine cond_some hF (fun h3192 hF => ?_) (fun h3192 hF => ?_)
      ·
        have hr := Option.some.inj hF
        subst hr
        have pz : HoldAll E H hn94 [.test (igt a3131.Parts 6) true] := ⟨(igt_eq h3192), trivial⟩
        exact fn_playC hn94 (f := 94) (ads := [.agg (eGGraph a3130), .agg (eGJob a3131)]) (r := F94_res 1) (pq3193 (pq3224 (pq3225 (pq3226 (pq3227 (pq3228 (pq3229 pz))))))) (by kernel_rfl) (by kernel_rfl)
      have hr := Option.some.inj hF
      subst hr
      have pz : HoldAll E H hn94 [.test (igt a3131.Parts 6) false] := ⟨(igt_eq h3192), trivial⟩
      exact fn_playC hn94 (f := 94) (ads := [.agg (eGGraph a3130), .agg (eGJob a3131)]) (r := F94_res 0) (pq3193 (pq3224 (pq3225 (pq3226 (pq3227 (pq3228 (pq3229 pz))))))) (by kernel_rfl) (by kernel_rfl)
    have hr := Option.some.inj hF
    subst hr
    have pz : HoldAll E H hn94 [.call 143 [.one (.lit (.int .i64 a3131.Prog))] (F143_res5 r3143), .test (leadsAny (Res.mk [(.agg [(.im (.lit .nilFunc)), (.im (.lit .nilFunc)), (.im (.lit (.bool r3143.1.only_))), (.im (.lit .nilFunc))]), (.one (.im (.lit (.bool r3143.2))))] [])) false, .test (beqb (bnot r3143.2) false) false, .test (beqb (bnot r3143.2) false) false, .test (beqb (bnot r3143.2) false) false, .test (bnot r3143.2) true, .test (beqb true false) false, .test (beqb true false) false, .test (beqb true false) false, .test (beqb true false) false, .test (beqb true false) false, .test true true, .test (beqb true false) false, .test (beqb true false) false, .test (beqb true false) false, .test true true, .test (beqb true false) false, .test (beqb true false) false, .test (beqb true false) false, .test true true, .test (beqb true false) false, .test (beqb true false) false, .test (beqb true false) false, .test true true, .test (beqb true false) false, .test (beqb true false) false, .test (beqb true false) false, .test true true, .test true true] := ⟨(F143_ok5 _ h3185 (F143_ok K a3131.Prog _ h3144)), (leads_ok (by simp only [leadsAny, List.any_cons, List.any_nil, RV.leads, RC.leads, leadsT, hasSl_lit, Bool.or_false, flat_ns (eInt_ns _), flat_ns eBool_ns, flat_ns eStr_ns, flat_ns eGJob_ns, flat_ns eGEdge_ns, flat_ns eGAsked_ns, flat_ns eGMsg_ns, flat_ns eGrule_ns, flat_ns eGA199_ns, flat_ns eGA202_ns])), (beqb_ft (bnot_f h3186)), (beqb_ft (bnot_f h3186)), (beqb_ft (bnot_f h3186)), (bnot_f h3186), (beqb_ft rfl), (beqb_ft rfl), (beqb_ft rfl), (beqb_ft rfl), (beqb_ft rfl), rfl, (beqb_ft rfl), (beqb_ft rfl), (beqb_ft rfl), rfl, (beqb_ft rfl), (beqb_ft rfl), (beqb_ft rfl), rfl, (beqb_ft rfl), (beqb_ft rfl), (beqb_ft rfl), rfl, (beqb_ft rfl), (beqb_ft rfl), (beqb_ft rfl), rfl, rfl, trivial⟩
    exact fn_playC hn94 (f := 94) (ads := [.agg (eGGraph a3130), .agg (eGJob a3131)]) (r := F94_res 1) (pq3193 pz) (by kernel_rfl) (by kernel_rfl)
  have hr := Option.some.inj hF
  subst hr
  have pz : HoldAll E H hn94 [.call 64 [.agg (eGGraph a3130)] (F64_res r3132), .test (leadsAny (Res.mk [(.one (.im (.lit (.int .i64 r3132))))] [])) false, .test (ine r3132 0) true] := ⟨(F64_ok K a3130 _ h3133), (leads_ok (by simp only [leadsAny, List.any_cons, List.any_nil, RV.leads, RC.leads, leadsT, hasSl_lit, Bool.or_false, flat_ns (eInt_ns _), flat_ns eBool_ns, flat_ns eStr_ns, flat_ns eGJob_ns, flat_ns eGEdge_ns, flat_ns eGAsked_ns, flat_ns eGMsg_ns, flat_ns eGrule_ns, flat_ns eGA199_ns, flat_ns eGA202_ns])), (ine_f h3134), trivial⟩
  exact fn_playC hn94 (f := 94) (ads := [.agg (eGGraph a3130), .agg (eGJob a3131)]) (r := F94_res r3132) pz (by kernel_rfl) (by kernel_rfl)

end Go.Proofs.Ytnjanliihnadjaa.Tm

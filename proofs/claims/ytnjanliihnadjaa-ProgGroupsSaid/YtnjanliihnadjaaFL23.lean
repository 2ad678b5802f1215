/- Printed by program: what each function computes, and that the machine answers so. Conditions: none. -/
import Derived.Test.YtnjanliihnadjaaTy
import Derived.Test.YtnjanliihnadjaaTab
import Derived.Test.YtnjanliihnadjaaKn
import Derived.Test.YtnjanliihnadjaaFS
import Derived.Test.YtnjanliihnadjaaFT
import Derived.KernelRfl
set_option linter.unusedVariables false
set_option linter.unusedSimpArgs false
namespace Go.Proofs.Ytnjanliihnadjaa.Tm
open Go
/-! ### haywain/haywainlaw04.ProgFolds -/
noncomputable def hn23 : Hint := { H 23 with nt := 36, prot := 0 }
def F23_res (r4210 : Bool) : Res := ⟨[(.one (.im (.lit (.bool r4210))))], []⟩
def F23 (K : Nat) (a4145 : Int) (a4146 : Int) (a4147 : Int) : Option (Bool) :=
  (F97 K a4145 a4146 a4147).bind fun r4202 =>
  (F98 K a4145 a4146 a4147).bind fun r4204 =>
  bif (ieq r4202.1 r4204.1) then
    (bif (ieq r4202.2 r4204.2) then
      (some true)
    else
    some false)
  else
  some false
theorem F23_ok (K : Nat) (a4145 : Int) (a4146 : Int) (a4147 : Int) (r : Bool) (hF : F23 K a4145 a4146 a4147 = some r) : Evt E H 23 [.one (.lit (.int .i64 a4145)), .one (.lit (.int .i64 a4146)), .one (.lit (.int .i64 a4147))] (F23_res r) := by
  rw [F23] at hF
  refine bind_some hF (fun r4202 h4203 hF => ?_)
  refine bind_some hF (fun r4204 h4205 hF => ?_)
  have pq4208 : ∀ {l : List Cond}, HoldAll E H hn23 l → HoldAll E H hn23 (.call 97 [.one (.lit (.int .i64 a4145)), .one (.lit (.int .i64 a4146)), .one (.lit (.int .i64 a4147))] (F97_res r4202) :: .test (leadsAny (Res.mk [(.one (.im (.lit (.int .i64 r4202.1)))), (.one (.im (.lit (.int .i64 r4202.2))))] [])) false :: .call 98 [.one (.lit (.int .i64 a4145)), .one (.lit (.int .i64 a4146)), .one (.lit (.int .i64 a4147))] (F98_res r4204) :: .test (leadsAny (Res.mk [(.one (.im (.lit (.int .i64 r4204.1)))), (.one (.im (.lit (.int .i64 r4204.2))))] [])) false :: l) := fun z => ⟨(F97_ok K a4145 a4146 a4147 _ h4203), (leads_ok (by simp only [leadsAny, List.any_cons, List.any_nil, RV.leads, RC.leads, leadsT, hasSl_lit, Bool.or_false, flat_ns (eInt_ns _), flat_ns eBool_ns, flat_ns eStr_ns, flat_ns eGJob_ns, flat_ns eGEdge_ns, flat_ns eGAsked_ns, flat_ns eGMsg_ns, flat_ns eGrule_ns, flat_ns eGA199_ns, flat_ns eGA202_ns])), (F98_ok K a4145 a4146 a4147 _ h4205), (leads_ok (by simp only [leadsAny, List.any_cons, List.any_nil, RV.leads, RC.leads, leadsT, hasSl_lit, Bool.or_false, flat_ns (eInt_ns _), flat_ns eBool_ns, flat_ns eStr_ns, flat_ns eGJob_ns, flat_ns eGEdge_ns, flat_ns eGAsked_ns, flat_ns eGMsg_ns, flat_ns eGrule_ns, flat_ns eGA199_ns, flat_ns eGA202_ns])), z⟩
  refine cond_some hF (fun h4206 hF => ?_) (fun h4206 hF => ?_)
  ·
    have pq4209 : ∀ {l : List Cond}, HoldAll E H hn23 l → HoldAll E H hn23 (.test (beqb (ieq r4202.1 r4204.1) true) true :: .test (beqb (ieq r4202.1 r4204.1) true) true :: .test (beqb (ieq r4202.1 r4204.1) true) true :: .test (ieq r4202.1 r4204.1) true :: l) := fun z => ⟨(beqb_t h4206), (beqb_t h4206), (beqb_t h4206), h4206, z⟩
    refine cond_some hF (fun h4207 hF => ?_) (fun h4207 hF => ?_)
    ·
      have hr := Option.some.inj hF
      subst hr
      have pz : HoldAll E H hn23 [.test (beqb (ieq r4202.2 r4204.2) true) true, .call 93 [] (Res.mk [(.one (.im (.lit (.bool true))))] []), .test (leadsAny (Res.mk [(.one (.im (.lit (.bool true))))] [])) false, .test (ieq r4202.2 r4204.2) true] := ⟨(beqb_t h4207), knows93, (leads_ok (by simp only [leadsAny, List.any_cons, List.any_nil, RV.leads, RC.leads, leadsT, hasSl_lit, Bool.or_false, flat_ns (eInt_ns _), flat_ns eBool_ns, flat_ns eStr_ns, flat_ns eGJob_ns, flat_ns eGEdge_ns, flat_ns eGAsked_ns, flat_ns eGMsg_ns, flat_ns eGrule_ns, flat_ns eGA199_ns, flat_ns eGA202_ns])), h4207, trivial⟩
      exact fn_playC hn23 (f := 23) (ads := [.one (.lit (.int .i64 a4145)), .one (.lit (.int .i64 a4146)), .one (.lit (.int .i64 a4147))]) (r := F23_res true) (pq4208 (pq4209 pz)) (by kernel_rfl) (by kernel_rfl)
    have hr := Option.some.inj hF
    subst hr
    have pz : HoldAll E H hn23 [.test (beqb (ieq r4202.2 r4204.2) true) false, .test (ieq r4202.2 r4204.2) false] := ⟨(beqb_t h4207), h4207, trivial⟩
    exact fn_playC hn23 (f := 23) (ads := [.one (.lit (.int .i64 a4145)), .one (.lit (.int .i64 a4146)), .one (.lit (.int .i64 a4147))]) (r := F23_res false) (pq4208 (pq4209 pz)) (by kernel_rfl) (by kernel_rfl)
  have hr := Option.some.inj hF
  subst hr
  have pz : HoldAll E H hn23 [.test (beqb (ieq r4202.1 r4204.1) true) false, .test (beqb (ieq r4202.1 r4204.1) true) false, .test (beqb (ieq r4202.1 r4204.1) true) false, .test (ieq r4202.1 r4204.1) false, .test (beqb false true) false, .test false false] := ⟨(beqb_t h4206), (beqb_t h4206), (beqb_t h4206), h4206, (beqb_t rfl), rfl, trivial⟩
  exact fn_playC hn23 (f := 23) (ads := [.one (.lit (.int .i64 a4145)), .one (.lit (.int .i64 a4146)), .one (.lit (.int .i64 a4147))]) (r := F23_res false) (pq4208 pz) (by kernel_rfl) (by kernel_rfl)

end Go.Proofs.Ytnjanliihnadjaa.Tm

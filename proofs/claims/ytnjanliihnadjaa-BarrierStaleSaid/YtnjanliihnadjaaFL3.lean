/- Printed by program: what each function computes, and that the machine answers so. Conditions: none. -/
import Derived.Test.YtnjanliihnadjaaTy
import Derived.Test.YtnjanliihnadjaaTab
import Derived.Test.YtnjanliihnadjaaKn
import Derived.Test.YtnjanliihnadjaaFA
import Derived.KernelRfl
set_option linter.unusedVariables false
set_option linter.unusedSimpArgs false
namespace Go.Proofs.Ytnjanliihnadjaa.Tm
open Go
/-! ### haywain/haywainlaw19.BarrierBegins -/
noncomputable def hn3 : Hint := { H 3 with nt := 37, prot := 0 }
def F3_res (r283 : Bool) : Res := ⟨[(.one (.im (.lit (.bool r283))))], []⟩
def F3 (K : Nat) (a0 : Int) (a1 : Int) (a2 : Int) : Option (Bool) :=
  (F41 K a0 a1 a2).bind fun r48 =>
  (F42 K a0 a1 a2).bind fun r121 =>
  (F44 K r48.1).bind fun r125 =>
  (F43 K r125 r121.1).bind fun r277 =>
  bif r277 then
    (bif (ieq r48.2 r121.2) then
      (some true)
    else
    some false)
  else
  some false
theorem F3_ok (K : Nat) (a0 : Int) (a1 : Int) (a2 : Int) (r : Bool) (hF : F3 K a0 a1 a2 = some r) : Evt E H 3 [.one (.lit (.int .i64 a0)), .one (.lit (.int .i64 a1)), .one (.lit (.int .i64 a2))] (F3_res r) := by
  rw [F3] at hF
  refine bind_some hF (fun r48 h49 hF => ?_)
  refine bind_some hF (fun r121 h122 hF => ?_)
  refine bind_some hF (fun r125 h126 hF => ?_)
  refine bind_some hF (fun r277 h278 hF => ?_)
  have pq281 : ∀ {l : List Cond}, HoldAll E H hn3 l → HoldAll E H hn3 (.call 41 [.one (.lit (.int .i64 a0)), .one (.lit (.int .i64 a1)), .one (.lit (.int .i64 a2))] (F41_res r48) :: .call 42 [.one (.lit (.int .i64 a0)), .one (.lit (.int .i64 a1)), .one (.lit (.int .i64 a2))] (F42_res r121) :: .call 44 [.agg (eGBarrier r48.1)] (F44_res r125) :: .call 43 [.agg (eGBarrier r125), .agg (eGBarrier r121.1)] (F43_res r277) :: .test (leadsAny (Res.mk [(.one (.im (.lit (.bool r277))))] [])) false :: l) := fun z => ⟨(F41_ok K a0 a1 a2 _ h49), (F42_ok K a0 a1 a2 _ h122), (F44_ok K r48.1 _ h126), (F43_ok K r125 r121.1 _ h278), (leads_ok (by simp only [leadsAny, List.any_cons, List.any_nil, RV.leads, RC.leads, leadsT, hasSl_lit, Bool.or_false, flat_ns (eInt_ns _), flat_ns eBool_ns, flat_ns eStr_ns, flat_ns eGJob_ns, flat_ns eGEdge_ns, flat_ns eGAsked_ns, flat_ns eGMsg_ns, flat_ns eGrule_ns, flat_ns eGA199_ns, flat_ns eGA202_ns])), z⟩
  refine cond_some hF (fun h279 hF => ?_) (fun h279 hF => ?_)
  ·
    have pq282 : ∀ {l : List Cond}, HoldAll E H hn3 l → HoldAll E H hn3 (.test (beqb r277 true) true :: .test (beqb r277 true) true :: .test (beqb r277 true) true :: .test r277 true :: l) := fun z => ⟨(beqb_t h279), (beqb_t h279), (beqb_t h279), h279, z⟩
    refine cond_some hF (fun h280 hF => ?_) (fun h280 hF => ?_)
    ·
      have hr := Option.some.inj hF
      subst hr
      have pz : HoldAll E H hn3 [.test (beqb (ieq r48.2 r121.2) true) true, .call 45 [] (Res.mk [(.one (.im (.lit (.bool true))))] []), .test (leadsAny (Res.mk [(.one (.im (.lit (.bool true))))] [])) false, .test (ieq r48.2 r121.2) true] := ⟨(beqb_t h280), knows45, (leads_ok (by simp only [leadsAny, List.any_cons, List.any_nil, RV.leads, RC.leads, leadsT, hasSl_lit, Bool.or_false, flat_ns (eInt_ns _), flat_ns eBool_ns, flat_ns eStr_ns, flat_ns eGJob_ns, flat_ns eGEdge_ns, flat_ns eGAsked_ns, flat_ns eGMsg_ns, flat_ns eGrule_ns, flat_ns eGA199_ns, flat_ns eGA202_ns])), h280, trivial⟩
      exact fn_playC hn3 (f := 3) (ads := [.one (.lit (.int .i64 a0)), .one (.lit (.int .i64 a1)), .one (.lit (.int .i64 a2))]) (r := F3_res true) (pq281 (pq282 pz)) (by kernel_rfl) (by kernel_rfl)
    have hr := Option.some.inj hF
    subst hr
    have pz : HoldAll E H hn3 [.test (beqb (ieq r48.2 r121.2) true) false, .test (ieq r48.2 r121.2) false] := ⟨(beqb_t h280), h280, trivial⟩
    exact fn_playC hn3 (f := 3) (ads := [.one (.lit (.int .i64 a0)), .one (.lit (.int .i64 a1)), .one (.lit (.int .i64 a2))]) (r := F3_res false) (pq281 (pq282 pz)) (by kernel_rfl) (by kernel_rfl)
  have hr := Option.some.inj hF
  subst hr
  have pz : HoldAll E H hn3 [.test (beqb r277 true) false, .test (beqb r277 true) false, .test (beqb r277 true) false, .test r277 false, .test (beqb false true) false, .test false false] := ⟨(beqb_t h279), (beqb_t h279), (beqb_t h279), h279, (beqb_t rfl), rfl, trivial⟩
  exact fn_playC hn3 (f := 3) (ads := [.one (.lit (.int .i64 a0)), .one (.lit (.int .i64 a1)), .one (.lit (.int .i64 a2))]) (r := F3_res false) (pq281 pz) (by kernel_rfl) (by kernel_rfl)

end Go.Proofs.Ytnjanliihnadjaa.Tm

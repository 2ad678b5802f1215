/- Printed by program: what each function computes, and that the machine answers so. Conditions: none. -/
import Derived.Test.YtnjanliihnadjaaTy
import Derived.Test.YtnjanliihnadjaaTab
import Derived.Test.YtnjanliihnadjaaKn
import Derived.Test.YtnjanliihnadjaaFO
import Derived.Test.YtnjanliihnadjaaFP
import Derived.Test.YtnjanliihnadjaaFSf
import Derived.KernelRfl
set_option linter.unusedVariables false
set_option linter.unusedSimpArgs false
namespace Go.Proofs.Ytnjanliihnadjaa.Tm
open Go
/-! ### haywain/prog.rules$1 -/
noncomputable def hn160 : Hint := { H 160 with nt := 12, prot := 0 }
def F160_res (r4282 : Int × Bool) : Res := ⟨[(.one (.im (.lit (.int .i64 r4282.1)))), (.one (.im (.lit (.bool r4282.2))))], []⟩
def F160 (K : Nat) (a4278 : Int) (a4279 : GEdge) : Option (Int × Bool) :=
  (F144 K a4278 a4279.W).bind fun r4280 =>
  some (r4280.1, r4280.2)
theorem F160_ok (K : Nat) (a4278 : Int) (a4279 : GEdge) (r : Int × Bool) (hF : F160 K a4278 a4279 = some r) : Evt E H 160 [.one (.lit (.int .i64 a4278)), .agg (eGEdge a4279)] (F160_res r) := by
  rw [F160] at hF
  refine bind_some hF (fun r4280 h4281 hF => ?_)
  have hr := Option.some.inj hF
  subst hr
  have pz : HoldAll E H hn160 [.call 144 [.one (.lit (.int .i64 a4278)), .one (.lit (.int .i64 a4279.W))] (F144_res r4280), .test (leadsAny (Res.mk [(.one (.im (.lit (.int .i64 r4280.1)))), (.one (.im (.lit (.bool r4280.2))))] [])) false] := ⟨(F144_ok K a4278 a4279.W _ h4281), (leads_ok (by simp only [leadsAny, List.any_cons, List.any_nil, RV.leads, RC.leads, leadsT, hasSl_lit, Bool.or_false, flat_ns (eInt_ns _), flat_ns eBool_ns, flat_ns eStr_ns, flat_ns eGJob_ns, flat_ns eGEdge_ns, flat_ns eGAsked_ns, flat_ns eGMsg_ns, flat_ns eGrule_ns, flat_ns eGA199_ns, flat_ns eGA202_ns])), trivial⟩
  exact fn_playC hn160 (f := 160) (ads := [.one (.lit (.int .i64 a4278)), .agg (eGEdge a4279)]) (r := F160_res (r4280.1, r4280.2)) pz (by kernel_rfl) (by kernel_rfl)

/-! ### haywain/prog.rules$2 -/
noncomputable def hn161 : Hint := { H 161 with nt := 10, prot := 0 }
def F161_res (r4369 : Int × Bool) : Res := ⟨[(.one (.im (.lit (.int .i64 r4369.1)))), (.one (.im (.lit (.bool r4369.2))))], []⟩
def F161 (K : Nat) (a4365 : Int) (a4366 : GEdge) : Option (Int × Bool) :=
  (F144 K a4365 1).bind fun r4367 =>
  some (r4367.1, r4367.2)
theorem F161_ok (K : Nat) (a4365 : Int) (a4366 : GEdge) (r : Int × Bool) (hF : F161 K a4365 a4366 = some r) : Evt E H 161 [.one (.lit (.int .i64 a4365)), .agg (eGEdge a4366)] (F161_res r) := by
  rw [F161] at hF
  refine bind_some hF (fun r4367 h4368 hF => ?_)
  have hr := Option.some.inj hF
  subst hr
  have pz : HoldAll E H hn161 [.call 144 [.one (.lit (.int .i64 a4365)), .one (.lit (.int .i64 1))] (F144_res r4367), .test (leadsAny (Res.mk [(.one (.im (.lit (.int .i64 r4367.1)))), (.one (.im (.lit (.bool r4367.2))))] [])) false] := ⟨(F144_ok K a4365 1 _ h4368), (leads_ok (by simp only [leadsAny, List.any_cons, List.any_nil, RV.leads, RC.leads, leadsT, hasSl_lit, Bool.or_false, flat_ns (eInt_ns _), flat_ns eBool_ns, flat_ns eStr_ns, flat_ns eGJob_ns, flat_ns eGEdge_ns, flat_ns eGAsked_ns, flat_ns eGMsg_ns, flat_ns eGrule_ns, flat_ns eGA199_ns, flat_ns eGA202_ns])), trivial⟩
  exact fn_playC hn161 (f := 161) (ads := [.one (.lit (.int .i64 a4365)), .agg (eGEdge a4366)]) (r := F161_res (r4367.1, r4367.2)) pz (by kernel_rfl) (by kernel_rfl)

/-! ### haywain/prog.same -/
noncomputable def hn163 : Hint := { H 163 with nt := 7, prot := 0 }
def F163_res (r4454 : Int × Bool) : Res := ⟨[(.one (.im (.lit (.int .i64 r4454.1)))), (.one (.im (.lit (.bool r4454.2))))], []⟩
def F163 (K : Nat) (a4452 : Int) (a4453 : GEdge) : Option (Int × Bool) :=
  some (a4452, true)
theorem F163_ok (K : Nat) (a4452 : Int) (a4453 : GEdge) (r : Int × Bool) (hF : F163 K a4452 a4453 = some r) : Evt E H 163 [.one (.lit (.int .i64 a4452)), .agg (eGEdge a4453)] (F163_res r) := by
  rw [F163] at hF
  have hr := Option.some.inj hF
  subst hr
  have pz : HoldAll E H hn163 [] := trivial
  exact fn_playC hn163 (f := 163) (ads := [.one (.lit (.int .i64 a4452)), .agg (eGEdge a4453)]) (r := F163_res (a4452, true)) pz (by kernel_rfl) (by kernel_rfl)

/-! ### haywain/num.size -/
noncomputable def hn175 : Hint := { H 175 with nt := 12, prot := 0 }
def F175_res (r4618 : Int) : Res := ⟨[(.one (.im (.lit (.int .u64 r4618))))], []⟩
def F175 (K : Nat) (a4616 : Int) : Option (Int) :=
  bif (ilt a4616 0) then
    (some (wadd .u64 (wconv .u64 (wneg .i64 (wadd .i64 a4616 1))) 1))
  else
  some (wconv .u64 a4616)
theorem F175_ok (K : Nat) (a4616 : Int) (r : Int) (hF : F175 K a4616 = some r) : Evt E H 175 [.one (.lit (.int .i64 a4616))] (F175_res r) := by
  rw [F175] at hF
  refine cond_some hF (fun h4617 hF => ?_) (fun h4617 hF => ?_)
  ·
    have hr := Option.some.inj hF
    subst hr
    have pz : HoldAll E H hn175 [.test (ilt a4616 0) true, .int (wadd .i64 a4616 1) (wadd .i64 a4616 1), .int (wneg .i64 (wadd .i64 a4616 1)) (wneg .i64 (wadd .i64 a4616 1)), .int (wconv .u64 (wneg .i64 (wadd .i64 a4616 1))) (wconv .u64 (wneg .i64 (wadd .i64 a4616 1))), .int (wadd .u64 (wconv .u64 (wneg .i64 (wadd .i64 a4616 1))) 1) (wadd .u64 (wconv .u64 (wneg .i64 (wadd .i64 a4616 1))) 1)] := ⟨h4617, rfl, rfl, rfl, rfl, trivial⟩
    exact fn_playC hn175 (f := 175) (ads := [.one (.lit (.int .i64 a4616))]) (r := F175_res (wadd .u64 (wconv .u64 (wneg .i64 (wadd .i64 a4616 1))) 1)) pz (by kernel_rfl) (by kernel_rfl)
  have hr := Option.some.inj hF
  subst hr
  have pz : HoldAll E H hn175 [.test (ilt a4616 0) false, .int (wconv .u64 a4616) (wconv .u64 a4616)] := ⟨h4617, rfl, trivial⟩
  exact fn_playC hn175 (f := 175) (ads := [.one (.lit (.int .i64 a4616))]) (r := F175_res (wconv .u64 a4616)) pz (by kernel_rfl) (by kernel_rfl)

/-! ### haywain/num.product -/
noncomputable def hn174 : Hint := { H 174 with nt := 60, prot := 0 }
def F174_res (r4625 : GA199) : Res := ⟨[(.agg [(.im (.lit (.int .u64 r4625.x0))), (.im (.lit (.int .u64 r4625.x1)))])], []⟩
def F174 (K : Nat) (a4623 : Int) (a4624 : Int) : Option (GA199) :=
  some (GA199.mk (wadd .u64 (wadd .u64 (wadd .u64 (wmul .u64 (wquo .u64 a4623 4294967296) (wquo .u64 a4624 4294967296)) (wquo .u64 (wmul .u64 (wquo .u64 a4623 4294967296) (wrem a4624 4294967296)) 4294967296)) (wquo .u64 (wmul .u64 (wrem a4623 4294967296) (wquo .u64 a4624 4294967296)) 4294967296)) (wquo .u64 (wadd .u64 (wadd .u64 (wquo .u64 (wmul .u64 (wrem a4623 4294967296) (wrem a4624 4294967296)) 4294967296) (wrem (wmul .u64 (wquo .u64 a4623 4294967296) (wrem a4624 4294967296)) 4294967296)) (wrem (wmul .u64 (wrem a4623 4294967296) (wquo .u64 a4624 4294967296)) 4294967296)) 4294967296)) (wadd .u64 (wmul .u64 (wrem (wadd .u64 (wadd .u64 (wquo .u64 (wmul .u64 (wrem a4623 4294967296) (wrem a4624 4294967296)) 4294967296) (wrem (wmul .u64 (wquo .u64 a4623 4294967296) (wrem a4624 4294967296)) 4294967296)) (wrem (wmul .u64 (wrem a4623 4294967296) (wquo .u64 a4624 4294967296)) 4294967296)) 4294967296) 4294967296) (wrem (wmul .u64 (wrem a4623 4294967296) (wrem a4624 4294967296)) 4294967296)))
theorem F174_ok (K : Nat) (a4623 : Int) (a4624 : Int) (r : GA199) (hF : F174 K a4623 a4624 = some r) : Evt E H 174 [.one (.lit (.int .u64 a4623)), .one (.lit (.int .u64 a4624))] (F174_res r) := by
  rw [F174] at hF
  have hr := Option.some.inj hF
  subst hr
  have pz : HoldAll E H hn174 [.test (izero 4294967296) false, .int (wquo .u64 a4623 4294967296) (wquo .u64 a4623 4294967296), .test (izero 4294967296) false, .int (wquo .u64 a4624 4294967296) (wquo .u64 a4624 4294967296), .int (wmul .u64 (wquo .u64 a4623 4294967296) (wquo .u64 a4624 4294967296)) (wmul .u64 (wquo .u64 a4623 4294967296) (wquo .u64 a4624 4294967296)), .test (izero 4294967296) false, .int (wquo .u64 a4623 4294967296) (wquo .u64 a4623 4294967296), .test (izero 4294967296) false, .int (wrem a4624 4294967296) (wrem a4624 4294967296), .int (wmul .u64 (wquo .u64 a4623 4294967296) (wrem a4624 4294967296)) (wmul .u64 (wquo .u64 a4623 4294967296) (wrem a4624 4294967296)), .test (izero 4294967296) false, .int (wrem a4623 4294967296) (wrem a4623 4294967296), .test (izero 4294967296) false, .int (wquo .u64 a4624 4294967296) (wquo .u64 a4624 4294967296), .int (wmul .u64 (wrem a4623 4294967296) (wquo .u64 a4624 4294967296)) (wmul .u64 (wrem a4623 4294967296) (wquo .u64 a4624 4294967296)), .test (izero 4294967296) false, .int (wrem a4623 4294967296) (wrem a4623 4294967296), .test (izero 4294967296) false, .int (wrem a4624 4294967296) (wrem a4624 4294967296), .int (wmul .u64 (wrem a4623 4294967296) (wrem a4624 4294967296)) (wmul .u64 (wrem a4623 4294967296) (wrem a4624 4294967296)), .test (ieq 3 0) false, .test (ieq 3 1) false, .test (ieq 3 2) false, .test (ieq 3 3) true, .test (izero 4294967296) false, .int (wquo .u64 (wmul .u64 (wrem a4623 4294967296) (wrem a4624 4294967296)) 4294967296) (wquo .u64 (wmul .u64 (wrem a4623 4294967296) (wrem a4624 4294967296)) 4294967296), .test (ieq 1 0) false, .test (ieq 1 1) true, .test (izero 4294967296) false, .int (wrem (wmul .u64 (wquo .u64 a4623 4294967296) (wrem a4624 4294967296)) 4294967296) (wrem (wmul .u64 (wquo .u64 a4623 4294967296) (wrem a4624 4294967296)) 4294967296), .int (wadd .u64 (wquo .u64 (wmul .u64 (wrem a4623 4294967296) (wrem a4624 4294967296)) 4294967296) (wrem (wmul .u64 (wquo .u64 a4623 4294967296) (wrem a4624 4294967296)) 4294967296)) (wadd .u64 (wquo .u64 (wmul .u64 (wrem a4623 4294967296) (wrem a4624 4294967296)) 4294967296) (wrem (wmul .u64 (wquo .u64 a4623 4294967296) (wrem a4624 4294967296)) 4294967296)), .test (ieq 2 0) false, .test (ieq 2 1) false, .test (ieq 2 2) true, .test (izero 4294967296) false, .int (wrem (wmul .u64 (wrem a4623 4294967296) (wquo .u64 a4624 4294967296)) 4294967296) (wrem (wmul .u64 (wrem a4623 4294967296) (wquo .u64 a4624 4294967296)) 4294967296), .int (wadd .u64 (wadd .u64 (wquo .u64 (wmul .u64 (wrem a4623 4294967296) (wrem a4624 4294967296)) 4294967296) (wrem (wmul .u64 (wquo .u64 a4623 4294967296) (wrem a4624 4294967296)) 4294967296)) (wrem (wmul .u64 (wrem a4623 4294967296) (wquo .u64 a4624 4294967296)) 4294967296)) (wadd .u64 (wadd .u64 (wquo .u64 (wmul .u64 (wrem a4623 4294967296) (wrem a4624 4294967296)) 4294967296) (wrem (wmul .u64 (wquo .u64 a4623 4294967296) (wrem a4624 4294967296)) 4294967296)) (wrem (wmul .u64 (wrem a4623 4294967296) (wquo .u64 a4624 4294967296)) 4294967296)), .test (ieq 0 0) true, .test (ieq 1 0) false, .test (ieq 1 1) true, .test (izero 4294967296) false, .int (wquo .u64 (wmul .u64 (wquo .u64 a4623 4294967296) (wrem a4624 4294967296)) 4294967296) (wquo .u64 (wmul .u64 (wquo .u64 a4623 4294967296) (wrem a4624 4294967296)) 4294967296), .int (wadd .u64 (wmul .u64 (wquo .u64 a4623 4294967296) (wquo .u64 a4624 4294967296)) (wquo .u64 (wmul .u64 (wquo .u64 a4623 4294967296) (wrem a4624 4294967296)) 4294967296)) (wadd .u64 (wmul .u64 (wquo .u64 a4623 4294967296) (wquo .u64 a4624 4294967296)) (wquo .u64 (wmul .u64 (wquo .u64 a4623 4294967296) (wrem a4624 4294967296)) 4294967296)), .test (ieq 2 0) false, .test (ieq 2 1) false, .test (ieq 2 2) true, .test (izero 4294967296) false, .int (wquo .u64 (wmul .u64 (wrem a4623 4294967296) (wquo .u64 a4624 4294967296)) 4294967296) (wquo .u64 (wmul .u64 (wrem a4623 4294967296) (wquo .u64 a4624 4294967296)) 4294967296), .int (wadd .u64 (wadd .u64 (wmul .u64 (wquo .u64 a4623 4294967296) (wquo .u64 a4624 4294967296)) (wquo .u64 (wmul .u64 (wquo .u64 a4623 4294967296) (wrem a4624 4294967296)) 4294967296)) (wquo .u64 (wmul .u64 (wrem a4623 4294967296) (wquo .u64 a4624 4294967296)) 4294967296)) (wadd .u64 (wadd .u64 (wmul .u64 (wquo .u64 a4623 4294967296) (wquo .u64 a4624 4294967296)) (wquo .u64 (wmul .u64 (wquo .u64 a4623 4294967296) (wrem a4624 4294967296)) 4294967296)) (wquo .u64 (wmul .u64 (wrem a4623 4294967296) (wquo .u64 a4624 4294967296)) 4294967296)), .test (izero 4294967296) false, .int (wquo .u64 (wadd .u64 (wadd .u64 (wquo .u64 (wmul .u64 (wrem a4623 4294967296) (wrem a4624 4294967296)) 4294967296) (wrem (wmul .u64 (wquo .u64 a4623 4294967296) (wrem a4624 4294967296)) 4294967296)) (wrem (wmul .u64 (wrem a4623 4294967296) (wquo .u64 a4624 4294967296)) 4294967296)) 4294967296) (wquo .u64 (wadd .u64 (wadd .u64 (wquo .u64 (wmul .u64 (wrem a4623 4294967296) (wrem a4624 4294967296)) 4294967296) (wrem (wmul .u64 (wquo .u64 a4623 4294967296) (wrem a4624 4294967296)) 4294967296)) (wrem (wmul .u64 (wrem a4623 4294967296) (wquo .u64 a4624 4294967296)) 4294967296)) 4294967296), .int (wadd .u64 (wadd .u64 (wadd .u64 (wmul .u64 (wquo .u64 a4623 4294967296) (wquo .u64 a4624 4294967296)) (wquo .u64 (wmul .u64 (wquo .u64 a4623 4294967296) (wrem a4624 4294967296)) 4294967296)) (wquo .u64 (wmul .u64 (wrem a4623 4294967296) (wquo .u64 a4624 4294967296)) 4294967296)) (wquo .u64 (wadd .u64 (wadd .u64 (wquo .u64 (wmul .u64 (wrem a4623 4294967296) (wrem a4624 4294967296)) 4294967296) (wrem (wmul .u64 (wquo .u64 a4623 4294967296) (wrem a4624 4294967296)) 4294967296)) (wrem (wmul .u64 (wrem a4623 4294967296) (wquo .u64 a4624 4294967296)) 4294967296)) 4294967296)) (wadd .u64 (wadd .u64 (wadd .u64 (wmul .u64 (wquo .u64 a4623 4294967296) (wquo .u64 a4624 4294967296)) (wquo .u64 (wmul .u64 (wquo .u64 a4623 4294967296) (wrem a4624 4294967296)) 4294967296)) (wquo .u64 (wmul .u64 (wrem a4623 4294967296) (wquo .u64 a4624 4294967296)) 4294967296)) (wquo .u64 (wadd .u64 (wadd .u64 (wquo .u64 (wmul .u64 (wrem a4623 4294967296) (wrem a4624 4294967296)) 4294967296) (wrem (wmul .u64 (wquo .u64 a4623 4294967296) (wrem a4624 4294967296)) 4294967296)) (wrem (wmul .u64 (wrem a4623 4294967296) (wquo .u64 a4624 4294967296)) 4294967296)) 4294967296)), .test (izero 4294967296) false, .int (wrem (wadd .u64 (wadd .u64 (wquo .u64 (wmul .u64 (wrem a4623 4294967296) (wrem a4624 4294967296)) 4294967296) (wrem (wmul .u64 (wquo .u64 a4623 4294967296) (wrem a4624 4294967296)) 4294967296)) (wrem (wmul .u64 (wrem a4623 4294967296) (wquo .u64 a4624 4294967296)) 4294967296)) 4294967296) (wrem (wadd .u64 (wadd .u64 (wquo .u64 (wmul .u64 (wrem a4623 4294967296) (wrem a4624 4294967296)) 4294967296) (wrem (wmul .u64 (wquo .u64 a4623 4294967296) (wrem a4624 4294967296)) 4294967296)) (wrem (wmul .u64 (wrem a4623 4294967296) (wquo .u64 a4624 4294967296)) 4294967296)) 4294967296), .int (wmul .u64 (wrem (wadd .u64 (wadd .u64 (wquo .u64 (wmul .u64 (wrem a4623 4294967296) (wrem a4624 4294967296)) 4294967296) (wrem (wmul .u64 (wquo .u64 a4623 4294967296) (wrem a4624 4294967296)) 4294967296)) (wrem (wmul .u64 (wrem a4623 4294967296) (wquo .u64 a4624 4294967296)) 4294967296)) 4294967296) 4294967296) (wmul .u64 (wrem (wadd .u64 (wadd .u64 (wquo .u64 (wmul .u64 (wrem a4623 4294967296) (wrem a4624 4294967296)) 4294967296) (wrem (wmul .u64 (wquo .u64 a4623 4294967296) (wrem a4624 4294967296)) 4294967296)) (wrem (wmul .u64 (wrem a4623 4294967296) (wquo .u64 a4624 4294967296)) 4294967296)) 4294967296) 4294967296), .test (ieq 3 0) false, .test (ieq 3 1) false, .test (ieq 3 2) false, .test (ieq 3 3) true, .test (izero 4294967296) false, .int (wrem (wmul .u64 (wrem a4623 4294967296) (wrem a4624 4294967296)) 4294967296) (wrem (wmul .u64 (wrem a4623 4294967296) (wrem a4624 4294967296)) 4294967296), .int (wadd .u64 (wmul .u64 (wrem (wadd .u64 (wadd .u64 (wquo .u64 (wmul .u64 (wrem a4623 4294967296) (wrem a4624 4294967296)) 4294967296) (wrem (wmul .u64 (wquo .u64 a4623 4294967296) (wrem a4624 4294967296)) 4294967296)) (wrem (wmul .u64 (wrem a4623 4294967296) (wquo .u64 a4624 4294967296)) 4294967296)) 4294967296) 4294967296) (wrem (wmul .u64 (wrem a4623 4294967296) (wrem a4624 4294967296)) 4294967296)) (wadd .u64 (wmul .u64 (wrem (wadd .u64 (wadd .u64 (wquo .u64 (wmul .u64 (wrem a4623 4294967296) (wrem a4624 4294967296)) 4294967296) (wrem (wmul .u64 (wquo .u64 a4623 4294967296) (wrem a4624 4294967296)) 4294967296)) (wrem (wmul .u64 (wrem a4623 4294967296) (wquo .u64 a4624 4294967296)) 4294967296)) 4294967296) 4294967296) (wrem (wmul .u64 (wrem a4623 4294967296) (wrem a4624 4294967296)) 4294967296))] := ⟨(by first | exact rfl | (unfold Cond.Holds; decide)), rfl, (by first | exact rfl | (unfold Cond.Holds; decide)), rfl, rfl, (by first | exact rfl | (unfold Cond.Holds; decide)), rfl, (by first | exact rfl | (unfold Cond.Holds; decide)), rfl, rfl, (by first | exact rfl | (unfold Cond.Holds; decide)), rfl, (by first | exact rfl | (unfold Cond.Holds; decide)), rfl, rfl, (by first | exact rfl | (unfold Cond.Holds; decide)), rfl, (by first | exact rfl | (unfold Cond.Holds; decide)), rfl, rfl, (by first | exact rfl | (unfold Cond.Holds; decide)), (by first | exact rfl | (unfold Cond.Holds; decide)), (by first | exact rfl | (unfold Cond.Holds; decide)), (by first | exact rfl | (unfold Cond.Holds; decide)), (by first | exact rfl | (unfold Cond.Holds; decide)), rfl, (by first | exact rfl | (unfold Cond.Holds; decide)), (by first | exact rfl | (unfold Cond.Holds; decide)), (by first | exact rfl | (unfold Cond.Holds; decide)), rfl, rfl, (by first | exact rfl | (unfold Cond.Holds; decide)), (by first | exact rfl | (unfold Cond.Holds; decide)), (by first | exact rfl | (unfold Cond.Holds; decide)), (by first | exact rfl | (unfold Cond.Holds; decide)), rfl, rfl, (by first | exact rfl | (unfold Cond.Holds; decide)), (by first | exact rfl | (unfold Cond.Holds; decide)), (by first | exact rfl | (unfold Cond.Holds; decide)), (by first | exact rfl | (unfold Cond.Holds; decide)), rfl, rfl, (by first | exact rfl | (unfold Cond.Holds; decide)), (by first | exact rfl | (unfold Cond.Holds; decide)), (by first | exact rfl | (unfold Cond.Holds; decide)), (by first | exact rfl | (unfold Cond.Holds; decide)), rfl, rfl, (by first | exact rfl | (unfold Cond.Holds; decide)), rfl, rfl, (by first | exact rfl | (unfold Cond.Holds; decide)), rfl, rfl, (by first | exact rfl | (unfold Cond.Holds; decide)), (by first | exact rfl | (unfold Cond.Holds; decide)), (by first | exact rfl | (unfold Cond.Holds; decide)), (by first | exact rfl | (unfold Cond.Holds; decide)), (by first | exact rfl | (unfold Cond.Holds; decide)), rfl, rfl, trivial⟩
  exact fn_playC hn174 (f := 174) (ads := [.one (.lit (.int .u64 a4623)), .one (.lit (.int .u64 a4624))]) (r := F174_res (GA199.mk (wadd .u64 (wadd .u64 (wadd .u64 (wmul .u64 (wquo .u64 a4623 4294967296) (wquo .u64 a4624 4294967296)) (wquo .u64 (wmul .u64 (wquo .u64 a4623 4294967296) (wrem a4624 4294967296)) 4294967296)) (wquo .u64 (wmul .u64 (wrem a4623 4294967296) (wquo .u64 a4624 4294967296)) 4294967296)) (wquo .u64 (wadd .u64 (wadd .u64 (wquo .u64 (wmul .u64 (wrem a4623 4294967296) (wrem a4624 4294967296)) 4294967296) (wrem (wmul .u64 (wquo .u64 a4623 4294967296) (wrem a4624 4294967296)) 4294967296)) (wrem (wmul .u64 (wrem a4623 4294967296) (wquo .u64 a4624 4294967296)) 4294967296)) 4294967296)) (wadd .u64 (wmul .u64 (wrem (wadd .u64 (wadd .u64 (wquo .u64 (wmul .u64 (wrem a4623 4294967296) (wrem a4624 4294967296)) 4294967296) (wrem (wmul .u64 (wquo .u64 a4623 4294967296) (wrem a4624 4294967296)) 4294967296)) (wrem (wmul .u64 (wrem a4623 4294967296) (wquo .u64 a4624 4294967296)) 4294967296)) 4294967296) 4294967296) (wrem (wmul .u64 (wrem a4623 4294967296) (wrem a4624 4294967296)) 4294967296)))) pz (by kernel_rfl) (by kernel_rfl)

/-! ### haywain/num.Mul -/
noncomputable def hn170 : Hint := { H 170 with nt := 41, prot := 0 }
def F170_res (r4636 : Int × Bool) : Res := ⟨[(.one (.im (.lit (.int .i64 r4636.1)))), (.one (.im (.lit (.bool r4636.2))))], []⟩
def F170 (K : Nat) (a4614 : Int) (a4615 : Int) : Option (Int × Bool) :=
  (F175 K a4614).bind fun r4619 =>
  (F175 K a4615).bind fun r4621 =>
  (F174 K r4619 r4621).bind fun r4626 =>
  bif (ilt 0 r4626.x0) then
    (some (0, false))
  else
  bif (ilt 9223372036854775808 r4626.x1) then
    (some (0, false))
  else
  bif (ieq r4626.x1 9223372036854775808) then
    (bif (beqb (ilt a4614 0) (ilt a4615 0)) then
      (some (0, false))
    else
    some ((-9223372036854775808), true))
  else
  bif (beqb (ilt a4614 0) (ilt a4615 0)) then
    (some ((wconv .i64 r4626.x1), true))
  else
  some ((wneg .i64 (wconv .i64 r4626.x1)), true)
theorem F170_ok (K : Nat) (a4614 : Int) (a4615 : Int) (r : Int × Bool) (hF : F170 K a4614 a4615 = some r) : Evt E H 170 [.one (.lit (.int .i64 a4614)), .one (.lit (.int .i64 a4615))] (F170_res r) := by
  rw [F170] at hF
  refine bind_some hF (fun r4619 h4620 hF => ?_)
  refine bind_some hF (fun r4621 h4622 hF => ?_)
  refine bind_some hF (fun r4626 h4627 hF => ?_)
  have pq4633 : ∀ {l : List Cond}, HoldAll E H hn170 l → HoldAll E H hn170 (.call 175 [.one (.lit (.int .i64 a4614))] (F175_res r4619) :: .test (leadsAny (Res.mk [(.one (.im (.lit (.int .u64 r4619))))] [])) false :: .call 175 [.one (.lit (.int .i64 a4615))] (F175_res r4621) :: .test (leadsAny (Res.mk [(.one (.im (.lit (.int .u64 r4621))))] [])) false :: .call 174 [.one (.lit (.int .u64 r4619)), .one (.lit (.int .u64 r4621))] (F174_res r4626) :: .test (leadsAny (Res.mk [(.agg [(.im (.lit (.int .u64 r4626.x0))), (.im (.lit (.int .u64 r4626.x1)))])] [])) false :: .test (ieq 0 0) true :: l) := fun z => ⟨(F175_ok K a4614 _ h4620), (leads_ok (by simp only [leadsAny, List.any_cons, List.any_nil, RV.leads, RC.leads, leadsT, hasSl_lit, Bool.or_false, flat_ns (eInt_ns _), flat_ns eBool_ns, flat_ns eStr_ns, flat_ns eGJob_ns, flat_ns eGEdge_ns, flat_ns eGAsked_ns, flat_ns eGMsg_ns, flat_ns eGrule_ns, flat_ns eGA199_ns, flat_ns eGA202_ns])), (F175_ok K a4615 _ h4622), (leads_ok (by simp only [leadsAny, List.any_cons, List.any_nil, RV.leads, RC.leads, leadsT, hasSl_lit, Bool.or_false, flat_ns (eInt_ns _), flat_ns eBool_ns, flat_ns eStr_ns, flat_ns eGJob_ns, flat_ns eGEdge_ns, flat_ns eGAsked_ns, flat_ns eGMsg_ns, flat_ns eGrule_ns, flat_ns eGA199_ns, flat_ns eGA202_ns])), (F174_ok K r4619 r4621 _ h4627), (leads_ok (by simp only [leadsAny, List.any_cons, List.any_nil, RV.leads, RC.leads, leadsT, hasSl_lit, Bool.or_false, flat_ns (eInt_ns _), flat_ns eBool_ns, flat_ns eStr_ns, flat_ns eGJob_ns, flat_ns eGEdge_ns, flat_ns eGAsked_ns, flat_ns eGMsg_ns, flat_ns eGrule_ns, flat_ns eGA199_ns, flat_ns eGA202_ns])), (by first | exact rfl | (unfold Cond.Holds; decide)), z⟩
  refine cond_some hF (fun h4628 hF => ?_) (fun h4628 hF => ?_)
  ·
    have hr := Option.some.inj hF
    subst hr
    have pz : HoldAll E H hn170 [.test (beqb (igt r4626.x0 0) false) false, .test (beqb (igt r4626.x0 0) false) false, .test (beqb (igt r4626.x0 0) false) false, .test (igt r4626.x0 0) true, .test true true] := ⟨(beqb_ft (igt_eq h4628)), (beqb_ft (igt_eq h4628)), (beqb_ft (igt_eq h4628)), (igt_eq h4628), rfl, trivial⟩
    exact fn_playC hn170 (f := 170) (ads := [.one (.lit (.int .i64 a4614)), .one (.lit (.int .i64 a4615))]) (r := F170_res (0, false)) (pq4633 pz) (by kernel_rfl) (by kernel_rfl)
  have pq4634 : ∀ {l : List Cond}, HoldAll E H hn170 l → HoldAll E H hn170 (.test (beqb (igt r4626.x0 0) false) true :: .test (ieq 1 0) false :: .test (ieq 1 1) true :: .test (beqb (igt r4626.x0 0) false) true :: .test (beqb (igt r4626.x0 0) false) true :: .test (igt r4626.x0 0) false :: l) := fun z => ⟨(beqb_ff (igt_eq h4628)), (by first | exact rfl | (unfold Cond.Holds; decide)), (by first | exact rfl | (unfold Cond.Holds; decide)), (beqb_ff (igt_eq h4628)), (beqb_ff (igt_eq h4628)), (igt_eq h4628), z⟩
  refine cond_some hF (fun h4629 hF => ?_) (fun h4629 hF => ?_)
  ·
    have hr := Option.some.inj hF
    subst hr
    have pz : HoldAll E H hn170 [.test (igt r4626.x1 9223372036854775808) true] := ⟨(igt_eq h4629), trivial⟩
    exact fn_playC hn170 (f := 170) (ads := [.one (.lit (.int .i64 a4614)), .one (.lit (.int .i64 a4615))]) (r := F170_res (0, false)) (pq4633 (pq4634 pz)) (by kernel_rfl) (by kernel_rfl)
  have pq4635 : ∀ {l : List Cond}, HoldAll E H hn170 l → HoldAll E H hn170 (.test (igt r4626.x1 9223372036854775808) false :: .test (ieq 1 0) false :: .test (ieq 1 1) true :: l) := fun z => ⟨(igt_eq h4629), (by first | exact rfl | (unfold Cond.Holds; decide)), (by first | exact rfl | (unfold Cond.Holds; decide)), z⟩
  refine cond_some hF (fun h4630 hF => ?_) (fun h4630 hF => ?_)
  ·
    refine cond_some hF (fun h4631 hF => ?_) (fun h4631 hF => ?_)
    ·
      have hr := Option.some.inj hF
      subst hr
      have pz : HoldAll E H hn170 [.test (ieq r4626.x1 9223372036854775808) true, .test (bnot (beqb (ilt a4614 0) (ilt a4615 0))) false] := ⟨h4630, (bnot_t h4631), trivial⟩
      exact fn_playC hn170 (f := 170) (ads := [.one (.lit (.int .i64 a4614)), .one (.lit (.int .i64 a4615))]) (r := F170_res (0, false)) (pq4633 (pq4634 (pq4635 pz))) (by kernel_rfl) (by kernel_rfl)
    have hr := Option.some.inj hF
    subst hr
    have pz : HoldAll E H hn170 [.test (ieq r4626.x1 9223372036854775808) true, .test (bnot (beqb (ilt a4614 0) (ilt a4615 0))) true] := ⟨h4630, (bnot_f h4631), trivial⟩
    exact fn_playC hn170 (f := 170) (ads := [.one (.lit (.int .i64 a4614)), .one (.lit (.int .i64 a4615))]) (r := F170_res ((-9223372036854775808), true)) (pq4633 (pq4634 (pq4635 pz))) (by kernel_rfl) (by kernel_rfl)
  refine cond_some hF (fun h4632 hF => ?_) (fun h4632 hF => ?_)
  ·
    have hr := Option.some.inj hF
    subst hr
    have pz : HoldAll E H hn170 [.test (ieq r4626.x1 9223372036854775808) false, .test (bnot (beqb (ilt a4614 0) (ilt a4615 0))) false, .test (ieq 1 0) false, .test (ieq 1 1) true, .int (wconv .i64 r4626.x1) (wconv .i64 r4626.x1)] := ⟨h4630, (bnot_t h4632), (by first | exact rfl | (unfold Cond.Holds; decide)), (by first | exact rfl | (unfold Cond.Holds; decide)), rfl, trivial⟩
    exact fn_playC hn170 (f := 170) (ads := [.one (.lit (.int .i64 a4614)), .one (.lit (.int .i64 a4615))]) (r := F170_res ((wconv .i64 r4626.x1), true)) (pq4633 (pq4634 (pq4635 pz))) (by kernel_rfl) (by kernel_rfl)
  have hr := Option.some.inj hF
  subst hr
  have pz : HoldAll E H hn170 [.test (ieq r4626.x1 9223372036854775808) false, .test (bnot (beqb (ilt a4614 0) (ilt a4615 0))) true, .test (ieq 1 0) false, .test (ieq 1 1) true, .int (wconv .i64 r4626.x1) (wconv .i64 r4626.x1), .int (wneg .i64 (wconv .i64 r4626.x1)) (wneg .i64 (wconv .i64 r4626.x1))] := ⟨h4630, (bnot_f h4632), (by first | exact rfl | (unfold Cond.Holds; decide)), (by first | exact rfl | (unfold Cond.Holds; decide)), rfl, rfl, trivial⟩
  exact fn_playC hn170 (f := 170) (ads := [.one (.lit (.int .i64 a4614)), .one (.lit (.int .i64 a4615))]) (r := F170_res ((wneg .i64 (wconv .i64 r4626.x1)), true)) (pq4633 (pq4634 (pq4635 pz))) (by kernel_rfl) (by kernel_rfl)

/-! ### haywain/num.Ratio -/
noncomputable def hn167 : Hint := { H 167 with nt := 25, prot := 0 }
def F167_res (r4643 : Int × Bool) : Res := ⟨[(.one (.im (.lit (.int .i64 r4643.1)))), (.one (.im (.lit (.bool r4643.2))))], []⟩
def F167 (K : Nat) (a4611 : Int) (a4612 : Int) (a4613 : Int) : Option (Int × Bool) :=
  (F170 K a4611 a4612).bind fun r4637 =>
  bif r4637.2 then
    (bif (ilt a4613 1) then
      (some (0, false))
    else
    bif (izero a4613) then none else
    some ((wquo .i64 r4637.1 a4613), true))
  else
  some (0, false)
theorem F167_ok (K : Nat) (a4611 : Int) (a4612 : Int) (a4613 : Int) (r : Int × Bool) (hF : F167 K a4611 a4612 a4613 = some r) : Evt E H 167 [.one (.lit (.int .i64 a4611)), .one (.lit (.int .i64 a4612)), .one (.lit (.int .i64 a4613))] (F167_res r) := by
  rw [F167] at hF
  refine bind_some hF (fun r4637 h4638 hF => ?_)
  refine cond_some hF (fun h4639 hF => ?_) (fun h4639 hF => ?_)
  ·
    have pq4642 : ∀ {l : List Cond}, HoldAll E H hn167 l → HoldAll E H hn167 (.call 170 [.one (.lit (.int .i64 a4611)), .one (.lit (.int .i64 a4612))] (F170_res r4637) :: .test (leadsAny (Res.mk [(.one (.im (.lit (.int .i64 r4637.1)))), (.one (.im (.lit (.bool r4637.2))))] [])) false :: .test (beqb (bnot r4637.2) false) true :: .test (beqb (bnot r4637.2) false) true :: .test (bnot r4637.2) false :: l) := fun z => ⟨(F170_ok K a4611 a4612 _ h4638), (leads_ok (by simp only [leadsAny, List.any_cons, List.any_nil, RV.leads, RC.leads, leadsT, hasSl_lit, Bool.or_false, flat_ns (eInt_ns _), flat_ns eBool_ns, flat_ns eStr_ns, flat_ns eGJob_ns, flat_ns eGEdge_ns, flat_ns eGAsked_ns, flat_ns eGMsg_ns, flat_ns eGrule_ns, flat_ns eGA199_ns, flat_ns eGA202_ns])), (beqb_ff (bnot_t h4639)), (beqb_ff (bnot_t h4639)), (bnot_t h4639), z⟩
    refine cond_some hF (fun h4640 hF => ?_) (fun h4640 hF => ?_)
    ·
      have hr := Option.some.inj hF
      subst hr
      have pz : HoldAll E H hn167 [.test (ilt a4613 1) true] := ⟨h4640, trivial⟩
      exact fn_playC hn167 (f := 167) (ads := [.one (.lit (.int .i64 a4611)), .one (.lit (.int .i64 a4612)), .one (.lit (.int .i64 a4613))]) (r := F167_res (0, false)) (pq4642 pz) (by kernel_rfl) (by kernel_rfl)
    refine cond_some hF (fun _ hF => nomatch hF) (fun h4641 hF => ?_)
    have hr := Option.some.inj hF
    subst hr
    have pz : HoldAll E H hn167 [.test (ilt a4613 1) false, .test (izero a4613) false, .int (wquo .i64 r4637.1 a4613) (wquo .i64 r4637.1 a4613)] := ⟨h4640, h4641, rfl, trivial⟩
    exact fn_playC hn167 (f := 167) (ads := [.one (.lit (.int .i64 a4611)), .one (.lit (.int .i64 a4612)), .one (.lit (.int .i64 a4613))]) (r := F167_res ((wquo .i64 r4637.1 a4613), true)) (pq4642 pz) (by kernel_rfl) (by kernel_rfl)
  have hr := Option.some.inj hF
  subst hr
  have pz : HoldAll E H hn167 [.call 170 [.one (.lit (.int .i64 a4611)), .one (.lit (.int .i64 a4612))] (F170_res r4637), .test (leadsAny (Res.mk [(.one (.im (.lit (.int .i64 r4637.1)))), (.one (.im (.lit (.bool r4637.2))))] [])) false, .test (beqb (bnot r4637.2) false) false, .test (beqb (bnot r4637.2) false) false, .test (bnot r4637.2) true, .test true true] := ⟨(F170_ok K a4611 a4612 _ h4638), (leads_ok (by simp only [leadsAny, List.any_cons, List.any_nil, RV.leads, RC.leads, leadsT, hasSl_lit, Bool.or_false, flat_ns (eInt_ns _), flat_ns eBool_ns, flat_ns eStr_ns, flat_ns eGJob_ns, flat_ns eGEdge_ns, flat_ns eGAsked_ns, flat_ns eGMsg_ns, flat_ns eGrule_ns, flat_ns eGA199_ns, flat_ns eGA202_ns])), (beqb_ft (bnot_f h4639)), (beqb_ft (bnot_f h4639)), (bnot_f h4639), rfl, trivial⟩
  exact fn_playC hn167 (f := 167) (ads := [.one (.lit (.int .i64 a4611)), .one (.lit (.int .i64 a4612)), .one (.lit (.int .i64 a4613))]) (r := F167_res (0, false)) pz (by kernel_rfl) (by kernel_rfl)

/-! ### haywain/prog.rank -/
noncomputable def hn146 : Hint := { H 146 with nt := 68, prot := 0 }
noncomputable def c146_0 : Code := loopOf E 146 0
def F146_res (r4696 : Int × List GMsg × Bool × Int) : Res := ⟨[(.one (.im (.lit (.int .i64 r4696.1)))), (.one (.own 130 (.sl (len r4696.2.1) (flat eGMsg r4696.2.1)))), (.one (.im (.lit (.bool r4696.2.2.1)))), (.one (.im (.lit (.int .i64 r4696.2.2.2))))], []⟩
def F146_l0_0 (K : Nat) (v4651 : List GEdge) (v4652 : Int) : Nat → List GMsg → Int → Option ((Unit) ⊕ (List GMsg))
  | 0, _, _ => none
  | k + 1, v4663, v4664 =>
    bif (ilt v4664 (nlen (len v4651))) then
      (bif (inr v4664 (len v4651)) then
      (elAt v4651 v4664).bind fun x4667 =>
      (F167 K v4652 1 (nlen (len v4651))).bind fun r4669 =>
      bif r4669.2 then
        (bif (apok (len v4663) 1 16) then
        F146_l0_0 K v4651 v4652 k (appL v4663 [(GMsg.mk x4667.To r4669.1)]) (wadd .i64 v4664 1)
        else none)
      else
      some (.inl ())
      else none)
    else
    some (.inr v4663)
def F146_l0_0_S (v4651 : List GEdge) (v4652 : Int) (v4663 : List GMsg) (v4664 : Int) : TS := .on [0, 1, 128, 129, 1024, 1025, 2752, 2753, 2816, 2817, 2880, 2881] [(0, ⟨.one, 0, nob⟩), (1, ⟨.im, 0, (.sl (len v4651) (flat eGEdge v4651))⟩), (128, ⟨.one, 0, nob⟩), (129, ⟨.im, 0, (.lit (.int .i64 v4652))⟩), (1024, ⟨.one, 0, nob⟩), (1025, ⟨(.own 130), 0, (.sl (len v4663) (flat eGMsg v4663))⟩), (2752, ⟨.one, 0, nob⟩), (2753, ⟨.im, 0, (.sl (len v4651) (flat eGEdge v4651))⟩), (2816, ⟨.one, 0, nob⟩), (2817, ⟨.im, 0, (.lit (.int .i64 (nlen (len v4651))))⟩), (2880, ⟨.one, 0, nob⟩), (2881, ⟨.im, 0, (.lit (.int .i64 v4664))⟩)]
def F146_l0_0_X0 (v4651 : List GEdge) (v4652 : Int) (w4673 : Unit) : TS := .on [512, 513, 576, 577, 640, 641, 704, 705] [(512, ⟨.one, 0, nob⟩), (513, ⟨.im, 0, (.lit (.int .i64 0))⟩), (576, ⟨.one, 0, nob⟩), (577, ⟨(.own 130), 0, (.sl 0 [])⟩), (640, ⟨.one, 0, nob⟩), (641, ⟨.im, 0, (.lit (.bool false))⟩), (704, ⟨.one, 0, nob⟩), (705, ⟨.im, 0, (.lit (.int .i64 8))⟩)]
def F146_l0_0_X1 (v4651 : List GEdge) (v4652 : Int) (w4674 : List GMsg) : TS := .on [128, 129, 1024, 1025] [(128, ⟨.one, 0, nob⟩), (129, ⟨.im, 0, (.lit (.int .i64 v4652))⟩), (1024, ⟨.one, 0, nob⟩), (1025, ⟨(.own 130), 0, (.sl (len w4674) (flat eGMsg w4674))⟩)]
theorem F146_l0_0_ok (K : Nat) (v4651 : List GEdge) (v4652 : Int) : ∀ (k : Nat) (v4663 : List GMsg) (v4664 : Int) (r : (Unit) ⊕ (List GMsg)), F146_l0_0 K v4651 v4652 k v4663 v4664 = some r → (Sum.elim (fun w => LoopEv E H hn146 0 c146_0 (F146_l0_0_S v4651 v4652 v4663 v4664) .ret (F146_l0_0_X0 v4651 v4652 w)) (fun w => LoopEv E H hn146 0 c146_0 (F146_l0_0_S v4651 v4652 v4663 v4664) (.exit 0) (F146_l0_0_X1 v4651 v4652 w))) r := by
  intro k
  induction k with
  | zero => intro v4663 v4664 r hF; cases hF
  | succ k ih =>
    intro v4663 v4664 r hF
    rw [F146_l0_0] at hF
    refine cond_some hF (fun h4665 hF => ?_) (fun h4665 hF => ?_)
    ·
      refine cond_some hF (fun h4666 hF => ?_) (fun _ hF => nomatch hF)
      refine bind_some hF (fun x4667 h4668 hF => ?_)
      refine bind_some hF (fun r4669 h4670 hF => ?_)
      have pq4676 : ∀ {l : List Cond}, HoldAll E H hn146 l → HoldAll E H hn146 (.test (ilt v4664 (nlen (len v4651))) true :: .test (inr v4664 (len v4651)) true :: .sub (flat eGEdge v4651) (nidx v4664 3) 3 [(.lit (.int .i64 x4667.From)), (.lit (.int .i64 x4667.To)), (.lit (.int .i64 x4667.W))] :: .int (nlen (len v4651)) (nlen (len v4651)) :: .call 167 [.one (.lit (.int .i64 v4652)), .one (.lit (.int .i64 1)), .one (.lit (.int .i64 (nlen (len v4651))))] (F167_res r4669) :: .test (leadsAny (Res.mk [(.one (.im (.lit (.int .i64 r4669.1)))), (.one (.im (.lit (.bool r4669.2))))] [])) false :: l) := fun z => ⟨h4665, h4666, ⟨rfl, sub_flat0 eGEdge_len h4668 3 (by decide)⟩, rfl, (F167_ok K v4652 1 (nlen (len v4651)) _ h4670), (leads_ok (by simp only [leadsAny, List.any_cons, List.any_nil, RV.leads, RC.leads, leadsT, hasSl_lit, Bool.or_false, flat_ns (eInt_ns _), flat_ns eBool_ns, flat_ns eStr_ns, flat_ns eGJob_ns, flat_ns eGEdge_ns, flat_ns eGAsked_ns, flat_ns eGMsg_ns, flat_ns eGrule_ns, flat_ns eGA199_ns, flat_ns eGA202_ns])), z⟩
      refine cond_some hF (fun h4671 hF => ?_) (fun h4671 hF => ?_)
      ·
        refine cond_some hF (fun h4672 hF => ?_) (fun _ hF => nomatch hF)
        have pz : HoldAll E H hn146 [.test (bnot r4669.2) false, .test (leqm [(.lit (.int .i64 x4667.To)), (.lit (.int .i64 r4669.1))] 1 2) true, .test (apok (len v4663) 1 16) true, .sl (nadd (len v4663) 1) (lapp (flat eGMsg v4663) [(.lit (.int .i64 x4667.To)), (.lit (.int .i64 r4669.1))]) (len (α := GMsg) (appL v4663 [(GMsg.mk x4667.To r4669.1)])) (flat eGMsg (appL v4663 [(GMsg.mk x4667.To r4669.1)])), .int (wadd .i64 v4664 1) (wadd .i64 v4664 1)] := ⟨(bnot_t h4671), rfl, h4672, (app_ok (enc := eGMsg) (v4663 : List GMsg) [(GMsg.mk x4667.To r4669.1)]), rfl, trivial⟩
        have h0 := ih _ _ _ hF
        have hn := fun ex ts' => loop_nextC (h := hn146) (l := 0) (c := c146_0) (ts := F146_l0_0_S v4651 v4652 v4663 v4664) (ts1 := (F146_l0_0_S v4651 v4652 (appL v4663 [(GMsg.mk x4667.To r4669.1)]) (wadd .i64 v4664 1))) (ex := ex) (ts' := ts') (pq4676 pz) (by kernel_rfl)
        cases r with
        | inl w => exact hn _ _ h0
        | inr w => exact hn _ _ h0
      have hr := Option.some.inj hF
      subst hr
      have pz : HoldAll E H hn146 [.test (bnot r4669.2) true] := ⟨(bnot_f h4671), trivial⟩
      exact loop_endC (h := hn146) (l := 0) (c := c146_0) (ts := F146_l0_0_S v4651 v4652 v4663 v4664) (ts' := F146_l0_0_X0 v4651 v4652 ()) (ex := .ret) (pq4676 pz) (by kernel_rfl) trivial
    have hr := Option.some.inj hF
    subst hr
    have pz : HoldAll E H hn146 [.test (ilt v4664 (nlen (len v4651))) false] := ⟨h4665, trivial⟩
    exact loop_endC (h := hn146) (l := 0) (c := c146_0) (ts := F146_l0_0_S v4651 v4652 v4663 v4664) (ts' := F146_l0_0_X1 v4651 v4652 v4663) (ex := (.exit 0)) pz (by kernel_rfl) trivial

def F146 (K : Nat) (a4606 : List GEdge) (a4607 : Int) (a4608 : Int) (a4609 : Int) : Option (Int × List GMsg × Bool × Int) :=
  bif (ilt 0 a4607) then
    ((F167 K a4609 85 100).bind fun r4644 =>
    (F144 K 150000 r4644.1).bind fun r4646 =>
    bif r4644.2 then
      (bif r4646.2 then
        (bif (ile 10 a4607) then
          (some (r4646.1, ([], (true, 0))))
        else
        (F146_l0_0 K a4606 r4646.1 K [] 0).bind fun y4678 =>
        Sum.elim (fun w4679 =>
          some (0, ([], (false, 8))))
          (fun w4680 =>
          some (r4646.1, (w4680, (false, 0)))) y4678)
      else
      some (0, ([], (false, 8))))
    else
    some (0, ([], (false, 8))))
  else
  bif (ile 10 a4607) then
    (some (a4608, ([], (true, 0))))
  else
  (F146_l0_0 K a4606 a4608 K [] 0).bind fun y4688 =>
  Sum.elim (fun w4689 =>
    some (0, ([], (false, 8))))
    (fun w4690 =>
    some (a4608, (w4690, (false, 0)))) y4688
theorem F146_ok (K : Nat) (a4606 : List GEdge) (a4607 : Int) (a4608 : Int) (a4609 : Int) (r : Int × List GMsg × Bool × Int) (hF : F146 K a4606 a4607 a4608 a4609 = some r) : Evt E H 146 [.one (.sl (len a4606) (flat eGEdge a4606)), .one (.lit (.int .i64 a4607)), .one (.lit (.int .i64 a4608)), .one (.lit (.int .i64 a4609))] (F146_res r) := by
  rw [F146] at hF
  refine cond_some hF (fun h4610 hF => ?_) (fun h4610 hF => ?_)
  ·
    refine bind_some hF (fun r4644 h4645 hF => ?_)
    refine bind_some hF (fun r4646 h4647 hF => ?_)
    have pq4692 : ∀ {l : List Cond}, HoldAll E H hn146 l → HoldAll E H hn146 (.test (igt a4607 0) true :: .call 167 [.one (.lit (.int .i64 a4609)), .one (.lit (.int .i64 85)), .one (.lit (.int .i64 100))] (F167_res r4644) :: .test (leadsAny (Res.mk [(.one (.im (.lit (.int .i64 r4644.1)))), (.one (.im (.lit (.bool r4644.2))))] [])) false :: .call 144 [.one (.lit (.int .i64 150000)), .one (.lit (.int .i64 r4644.1))] (F144_res r4646) :: .test (leadsAny (Res.mk [(.one (.im (.lit (.int .i64 r4646.1)))), (.one (.im (.lit (.bool r4646.2))))] [])) false :: l) := fun z => ⟨(igt_eq h4610), (F167_ok K a4609 85 100 _ h4645), (leads_ok (by simp only [leadsAny, List.any_cons, List.any_nil, RV.leads, RC.leads, leadsT, hasSl_lit, Bool.or_false, flat_ns (eInt_ns _), flat_ns eBool_ns, flat_ns eStr_ns, flat_ns eGJob_ns, flat_ns eGEdge_ns, flat_ns eGAsked_ns, flat_ns eGMsg_ns, flat_ns eGrule_ns, flat_ns eGA199_ns, flat_ns eGA202_ns])), (F144_ok K 150000 r4644.1 _ h4647), (leads_ok (by simp only [leadsAny, List.any_cons, List.any_nil, RV.leads, RC.leads, leadsT, hasSl_lit, Bool.or_false, flat_ns (eInt_ns _), flat_ns eBool_ns, flat_ns eStr_ns, flat_ns eGJob_ns, flat_ns eGEdge_ns, flat_ns eGAsked_ns, flat_ns eGMsg_ns, flat_ns eGrule_ns, flat_ns eGA199_ns, flat_ns eGA202_ns])), z⟩
    refine cond_some hF (fun h4648 hF => ?_) (fun h4648 hF => ?_)
    ·
      have pq4693 : ∀ {l : List Cond}, HoldAll E H hn146 l → HoldAll E H hn146 (.test (beqb (bnot r4644.2) false) true :: .test (beqb (bnot r4644.2) false) true :: .test (bnot r4644.2) false :: l) := fun z => ⟨(beqb_ff (bnot_t h4648)), (beqb_ff (bnot_t h4648)), (bnot_t h4648), z⟩
      refine cond_some hF (fun h4649 hF => ?_) (fun h4649 hF => ?_)
      ·
        refine cond_some hF (fun h4650 hF => ?_) (fun h4650 hF => ?_)
        ·
          have hr := Option.some.inj hF
          subst hr
          have pz : HoldAll E H hn146 [.test (bnot r4646.2) false, .test (ige a4607 10) true] := ⟨(bnot_t h4649), (ige_eq h4650), trivial⟩
          exact fn_playC hn146 (f := 146) (ads := [.one (.sl (len a4606) (flat eGEdge a4606)), .one (.lit (.int .i64 a4607)), .one (.lit (.int .i64 a4608)), .one (.lit (.int .i64 a4609))]) (r := F146_res (r4646.1, ([], (true, 0)))) (pq4692 (pq4693 pz)) (by kernel_rfl) (by kernel_rfl)
        have pq4694 : ∀ {l : List Cond}, HoldAll E H hn146 l → HoldAll E H hn146 (.test (bnot r4646.2) false :: .test (ige a4607 10) false :: .int (nlen (len a4606)) (nlen (len a4606)) :: l) := fun z => ⟨(bnot_t h4649), (ige_eq h4650), rfl, z⟩
        refine bind_some hF (fun y4678 h4677 hF => ?_)
        refine sum_some hF (fun w4679 hx hF => ?_) (fun w4680 hx hF => ?_)
        ·
          subst hx
          have hr := Option.some.inj hF
          subst hr
          have pz : HoldAll E H hn146 [.loop 0 c146_0 (F146_l0_0_S a4606 r4646.1 [] 0) .ret (F146_l0_0_X0 a4606 r4646.1 w4679)] := ⟨(F146_l0_0_ok K a4606 r4646.1 K [] 0 _ h4677), trivial⟩
          exact fn_playC hn146 (f := 146) (ads := [.one (.sl (len a4606) (flat eGEdge a4606)), .one (.lit (.int .i64 a4607)), .one (.lit (.int .i64 a4608)), .one (.lit (.int .i64 a4609))]) (r := F146_res (0, ([], (false, 8)))) (pq4692 (pq4693 (pq4694 pz))) (by kernel_rfl) (by kernel_rfl)
        subst hx
        have hr := Option.some.inj hF
        subst hr
        have pz : HoldAll E H hn146 [.loop 0 c146_0 (F146_l0_0_S a4606 r4646.1 [] 0) (.exit 0) (F146_l0_0_X1 a4606 r4646.1 w4680)] := ⟨(F146_l0_0_ok K a4606 r4646.1 K [] 0 _ h4677), trivial⟩
        exact fn_playC hn146 (f := 146) (ads := [.one (.sl (len a4606) (flat eGEdge a4606)), .one (.lit (.int .i64 a4607)), .one (.lit (.int .i64 a4608)), .one (.lit (.int .i64 a4609))]) (r := F146_res (r4646.1, (w4680, (false, 0)))) (pq4692 (pq4693 (pq4694 pz))) (by kernel_rfl) (by kernel_rfl)
      have hr := Option.some.inj hF
      subst hr
      have pz : HoldAll E H hn146 [.test (bnot r4646.2) true] := ⟨(bnot_f h4649), trivial⟩
      exact fn_playC hn146 (f := 146) (ads := [.one (.sl (len a4606) (flat eGEdge a4606)), .one (.lit (.int .i64 a4607)), .one (.lit (.int .i64 a4608)), .one (.lit (.int .i64 a4609))]) (r := F146_res (0, ([], (false, 8)))) (pq4692 (pq4693 pz)) (by kernel_rfl) (by kernel_rfl)
    have hr := Option.some.inj hF
    subst hr
    have pz : HoldAll E H hn146 [.test (beqb (bnot r4644.2) false) false, .test (beqb (bnot r4644.2) false) false, .test (bnot r4644.2) true, .test true true] := ⟨(beqb_ft (bnot_f h4648)), (beqb_ft (bnot_f h4648)), (bnot_f h4648), rfl, trivial⟩
    exact fn_playC hn146 (f := 146) (ads := [.one (.sl (len a4606) (flat eGEdge a4606)), .one (.lit (.int .i64 a4607)), .one (.lit (.int .i64 a4608)), .one (.lit (.int .i64 a4609))]) (r := F146_res (0, ([], (false, 8)))) (pq4692 pz) (by kernel_rfl) (by kernel_rfl)
  refine cond_some hF (fun h4682 hF => ?_) (fun h4682 hF => ?_)
  ·
    have hr := Option.some.inj hF
    subst hr
    have pz : HoldAll E H hn146 [.test (igt a4607 0) false, .test (ige a4607 10) true] := ⟨(igt_eq h4610), (ige_eq h4682), trivial⟩
    exact fn_playC hn146 (f := 146) (ads := [.one (.sl (len a4606) (flat eGEdge a4606)), .one (.lit (.int .i64 a4607)), .one (.lit (.int .i64 a4608)), .one (.lit (.int .i64 a4609))]) (r := F146_res (a4608, ([], (true, 0)))) pz (by kernel_rfl) (by kernel_rfl)
  have pq4695 : ∀ {l : List Cond}, HoldAll E H hn146 l → HoldAll E H hn146 (.test (igt a4607 0) false :: .test (ige a4607 10) false :: .int (nlen (len a4606)) (nlen (len a4606)) :: l) := fun z => ⟨(igt_eq h4610), (ige_eq h4682), rfl, z⟩
  refine bind_some hF (fun y4688 h4687 hF => ?_)
  refine sum_some hF (fun w4689 hx hF => ?_) (fun w4690 hx hF => ?_)
  ·
    subst hx
    have hr := Option.some.inj hF
    subst hr
    have pz : HoldAll E H hn146 [.loop 0 c146_0 (F146_l0_0_S a4606 a4608 [] 0) .ret (F146_l0_0_X0 a4606 a4608 w4689)] := ⟨(F146_l0_0_ok K a4606 a4608 K [] 0 _ h4687), trivial⟩
    exact fn_playC hn146 (f := 146) (ads := [.one (.sl (len a4606) (flat eGEdge a4606)), .one (.lit (.int .i64 a4607)), .one (.lit (.int .i64 a4608)), .one (.lit (.int .i64 a4609))]) (r := F146_res (0, ([], (false, 8)))) (pq4695 pz) (by kernel_rfl) (by kernel_rfl)
  subst hx
  have hr := Option.some.inj hF
  subst hr
  have pz : HoldAll E H hn146 [.loop 0 c146_0 (F146_l0_0_S a4606 a4608 [] 0) (.exit 0) (F146_l0_0_X1 a4606 a4608 w4690)] := ⟨(F146_l0_0_ok K a4606 a4608 K [] 0 _ h4687), trivial⟩
  exact fn_playC hn146 (f := 146) (ads := [.one (.sl (len a4606) (flat eGEdge a4606)), .one (.lit (.int .i64 a4607)), .one (.lit (.int .i64 a4608)), .one (.lit (.int .i64 a4609))]) (r := F146_res (a4608, (w4690, (false, 0)))) (pq4695 pz) (by kernel_rfl) (by kernel_rfl)

/-! ### haywain/prog.Turn -/
noncomputable def hn99 : Hint := { H 99 with nt := 122, prot := 0 }
noncomputable def c99_0 : Code := loopOf E 99 0
def F99_res (r4871 : Int × List GMsg × Bool × Int) : Res := ⟨[(.one (.im (.lit (.int .i64 r4871.1)))), (.one (.own 130 (.sl (len r4871.2.1) (flat eGMsg r4871.2.1)))), (.one (.im (.lit (.bool r4871.2.2.1)))), (.one (.im (.lit (.int .i64 r4871.2.2.2))))], []⟩
def F99_l0_0 (K : Nat) (v4270 : Int) (v4271 : Bool) (v4272 : List GEdge) : Nat → List GMsg → Int → Option ((Unit) ⊕ (List GMsg))
  | 0, _, _ => none
  | k + 1, v4287, v4288 =>
    bif (ilt v4288 (nlen (len v4272))) then
      (bif (inr v4288 (len v4272)) then
      (elAt v4272 v4288).bind fun x4291 =>
      (F160 K v4270 x4291).bind fun r4293 =>
      bif r4293.2 then
        (bif (apok (len v4287) 1 16) then
        F99_l0_0 K v4270 v4271 v4272 k (appL v4287 [(GMsg.mk x4291.To r4293.1)]) (wadd .i64 v4288 1)
        else none)
      else
      some (.inl ())
      else none)
    else
    some (.inr v4287)
def F99_l0_0_S (v4270 : Int) (v4271 : Bool) (v4272 : List GEdge) (v4287 : List GMsg) (v4288 : Int) : TS := .on [256, 257, 1216, 1217, 1218, 1219, 1220, 1344, 1345, 1472, 1473, 6144, 6145, 6208, 6209, 6272, 6273] [(256, ⟨.one, 0, nob⟩), (257, ⟨.im, 0, (.lit (.int .i64 v4270))⟩), (1216, ⟨(.box 176 4), 0, nob⟩), (1217, ⟨.im, 0, (.lit (fnV 158))⟩), (1218, ⟨.im, 0, (.lit (fnV 159))⟩), (1219, ⟨.im, 0, (.lit (.bool v4271))⟩), (1220, ⟨.im, 0, (.lit (fnV 160))⟩), (1344, ⟨.one, 0, nob⟩), (1345, ⟨(.own 89), 0, (.sl (len v4272) (flat eGEdge v4272))⟩), (1472, ⟨.one, 0, nob⟩), (1473, ⟨(.own 130), 0, (.sl (len v4287) (flat eGMsg v4287))⟩), (6144, ⟨.one, 0, nob⟩), (6145, ⟨(.vw 1345 0), 0, nob⟩), (6208, ⟨.one, 0, nob⟩), (6209, ⟨.im, 0, (.lit (.int .i64 (nlen (len v4272))))⟩), (6272, ⟨.one, 0, nob⟩), (6273, ⟨.im, 0, (.lit (.int .i64 v4288))⟩)]
def F99_l0_0_X0 (v4270 : Int) (v4271 : Bool) (v4272 : List GEdge) (w4297 : Unit) : TS := .on [896, 897, 960, 961, 1024, 1025, 1088, 1089] [(896, ⟨.one, 0, nob⟩), (897, ⟨.im, 0, (.lit (.int .i64 0))⟩), (960, ⟨.one, 0, nob⟩), (961, ⟨(.own 130), 0, (.sl 0 [])⟩), (1024, ⟨.one, 0, nob⟩), (1025, ⟨.im, 0, (.lit (.bool false))⟩), (1088, ⟨.one, 0, nob⟩), (1089, ⟨.im, 0, (.lit (.int .i64 8))⟩)]
def F99_l0_0_X1 (v4270 : Int) (v4271 : Bool) (v4272 : List GEdge) (w4298 : List GMsg) : TS := .on [256, 257, 1472, 1473] [(256, ⟨.one, 0, nob⟩), (257, ⟨.im, 0, (.lit (.int .i64 v4270))⟩), (1472, ⟨.one, 0, nob⟩), (1473, ⟨(.own 130), 0, (.sl (len w4298) (flat eGMsg w4298))⟩)]
theorem F99_l0_0_ok (K : Nat) (v4270 : Int) (v4271 : Bool) (v4272 : List GEdge) : ∀ (k : Nat) (v4287 : List GMsg) (v4288 : Int) (r : (Unit) ⊕ (List GMsg)), F99_l0_0 K v4270 v4271 v4272 k v4287 v4288 = some r → (Sum.elim (fun w => LoopEv E H hn99 0 c99_0 (F99_l0_0_S v4270 v4271 v4272 v4287 v4288) .ret (F99_l0_0_X0 v4270 v4271 v4272 w)) (fun w => LoopEv E H hn99 0 c99_0 (F99_l0_0_S v4270 v4271 v4272 v4287 v4288) (.exit 0) (F99_l0_0_X1 v4270 v4271 v4272 w))) r := by
  intro k
  induction k with
  | zero => intro v4287 v4288 r hF; cases hF
  | succ k ih =>
    intro v4287 v4288 r hF
    rw [F99_l0_0] at hF
    refine cond_some hF (fun h4289 hF => ?_) (fun h4289 hF => ?_)
    ·
      refine cond_some hF (fun h4290 hF => ?_) (fun _ hF => nomatch hF)
      refine bind_some hF (fun x4291 h4292 hF => ?_)
      refine bind_some hF (fun r4293 h4294 hF => ?_)
      have pq4300 : ∀ {l : List Cond}, HoldAll E H hn99 l → HoldAll E H hn99 (.test (ilt v4288 (nlen (len v4272))) true :: .test (inr v4288 (len v4272)) true :: .sub (flat eGEdge v4272) (nidx v4288 3) 3 [(.lit (.int .i64 x4291.From)), (.lit (.int .i64 x4291.To)), (.lit (.int .i64 x4291.W))] :: .call 160 [.one (.lit (.int .i64 v4270)), .agg (eGEdge x4291)] (F160_res r4293) :: .test (leadsAny (Res.mk [(.one (.im (.lit (.int .i64 r4293.1)))), (.one (.im (.lit (.bool r4293.2))))] [])) false :: l) := fun z => ⟨h4289, h4290, ⟨rfl, sub_flat0 eGEdge_len h4292 3 (by decide)⟩, (F160_ok K v4270 x4291 _ h4294), (leads_ok (by simp only [leadsAny, List.any_cons, List.any_nil, RV.leads, RC.leads, leadsT, hasSl_lit, Bool.or_false, flat_ns (eInt_ns _), flat_ns eBool_ns, flat_ns eStr_ns, flat_ns eGJob_ns, flat_ns eGEdge_ns, flat_ns eGAsked_ns, flat_ns eGMsg_ns, flat_ns eGrule_ns, flat_ns eGA199_ns, flat_ns eGA202_ns])), z⟩
      refine cond_some hF (fun h4295 hF => ?_) (fun h4295 hF => ?_)
      ·
        refine cond_some hF (fun h4296 hF => ?_) (fun _ hF => nomatch hF)
        have pz : HoldAll E H hn99 [.test (bnot r4293.2) false, .test (leqm [(.lit (.int .i64 x4291.To)), (.lit (.int .i64 r4293.1))] 1 2) true, .test (apok (len v4287) 1 16) true, .sl (nadd (len v4287) 1) (lapp (flat eGMsg v4287) [(.lit (.int .i64 x4291.To)), (.lit (.int .i64 r4293.1))]) (len (α := GMsg) (appL v4287 [(GMsg.mk x4291.To r4293.1)])) (flat eGMsg (appL v4287 [(GMsg.mk x4291.To r4293.1)])), .int (wadd .i64 v4288 1) (wadd .i64 v4288 1)] := ⟨(bnot_t h4295), rfl, h4296, (app_ok (enc := eGMsg) (v4287 : List GMsg) [(GMsg.mk x4291.To r4293.1)]), rfl, trivial⟩
        have h0 := ih _ _ _ hF
        have hn := fun ex ts' => loop_nextC (h := hn99) (l := 0) (c := c99_0) (ts := F99_l0_0_S v4270 v4271 v4272 v4287 v4288) (ts1 := (F99_l0_0_S v4270 v4271 v4272 (appL v4287 [(GMsg.mk x4291.To r4293.1)]) (wadd .i64 v4288 1))) (ex := ex) (ts' := ts') (pq4300 pz) (by kernel_rfl)
        cases r with
        | inl w => exact hn _ _ h0
        | inr w => exact hn _ _ h0
      have hr := Option.some.inj hF
      subst hr
      have pz : HoldAll E H hn99 [.test (bnot r4293.2) true] := ⟨(bnot_f h4295), trivial⟩
      exact loop_endC (h := hn99) (l := 0) (c := c99_0) (ts := F99_l0_0_S v4270 v4271 v4272 v4287 v4288) (ts' := F99_l0_0_X0 v4270 v4271 v4272 ()) (ex := .ret) (pq4300 pz) (by kernel_rfl) trivial
    have hr := Option.some.inj hF
    subst hr
    have pz : HoldAll E H hn99 [.test (ilt v4288 (nlen (len v4272))) false] := ⟨h4289, trivial⟩
    exact loop_endC (h := hn99) (l := 0) (c := c99_0) (ts := F99_l0_0_S v4270 v4271 v4272 v4287 v4288) (ts' := F99_l0_0_X1 v4270 v4271 v4272 v4287) (ex := (.exit 0)) pz (by kernel_rfl) trivial

def F99_l0_1 (K : Nat) (v4357 : Int) (v4358 : Bool) (v4359 : List GEdge) : Nat → List GMsg → Int → Option ((Unit) ⊕ (List GMsg))
  | 0, _, _ => none
  | k + 1, v4374, v4375 =>
    bif (ilt v4375 (nlen (len v4359))) then
      (bif (inr v4375 (len v4359)) then
      (elAt v4359 v4375).bind fun x4378 =>
      (F161 K v4357 x4378).bind fun r4380 =>
      bif r4380.2 then
        (bif (apok (len v4374) 1 16) then
        F99_l0_1 K v4357 v4358 v4359 k (appL v4374 [(GMsg.mk x4378.To r4380.1)]) (wadd .i64 v4375 1)
        else none)
      else
      some (.inl ())
      else none)
    else
    some (.inr v4374)
def F99_l0_1_S (v4357 : Int) (v4358 : Bool) (v4359 : List GEdge) (v4374 : List GMsg) (v4375 : Int) : TS := .on [256, 257, 1216, 1217, 1218, 1219, 1220, 1344, 1345, 1472, 1473, 6144, 6145, 6208, 6209, 6272, 6273] [(256, ⟨.one, 0, nob⟩), (257, ⟨.im, 0, (.lit (.int .i64 v4357))⟩), (1216, ⟨(.box 176 4), 0, nob⟩), (1217, ⟨.im, 0, (.lit (fnV 158))⟩), (1218, ⟨.im, 0, (.lit (fnV 159))⟩), (1219, ⟨.im, 0, (.lit (.bool v4358))⟩), (1220, ⟨.im, 0, (.lit (fnV 161))⟩), (1344, ⟨.one, 0, nob⟩), (1345, ⟨(.own 89), 0, (.sl (len v4359) (flat eGEdge v4359))⟩), (1472, ⟨.one, 0, nob⟩), (1473, ⟨(.own 130), 0, (.sl (len v4374) (flat eGMsg v4374))⟩), (6144, ⟨.one, 0, nob⟩), (6145, ⟨(.vw 1345 0), 0, nob⟩), (6208, ⟨.one, 0, nob⟩), (6209, ⟨.im, 0, (.lit (.int .i64 (nlen (len v4359))))⟩), (6272, ⟨.one, 0, nob⟩), (6273, ⟨.im, 0, (.lit (.int .i64 v4375))⟩)]
def F99_l0_1_X0 (v4357 : Int) (v4358 : Bool) (v4359 : List GEdge) (w4384 : Unit) : TS := .on [896, 897, 960, 961, 1024, 1025, 1088, 1089] [(896, ⟨.one, 0, nob⟩), (897, ⟨.im, 0, (.lit (.int .i64 0))⟩), (960, ⟨.one, 0, nob⟩), (961, ⟨(.own 130), 0, (.sl 0 [])⟩), (1024, ⟨.one, 0, nob⟩), (1025, ⟨.im, 0, (.lit (.bool false))⟩), (1088, ⟨.one, 0, nob⟩), (1089, ⟨.im, 0, (.lit (.int .i64 8))⟩)]
def F99_l0_1_X1 (v4357 : Int) (v4358 : Bool) (v4359 : List GEdge) (w4385 : List GMsg) : TS := .on [256, 257, 1472, 1473] [(256, ⟨.one, 0, nob⟩), (257, ⟨.im, 0, (.lit (.int .i64 v4357))⟩), (1472, ⟨.one, 0, nob⟩), (1473, ⟨(.own 130), 0, (.sl (len w4385) (flat eGMsg w4385))⟩)]
theorem F99_l0_1_ok (K : Nat) (v4357 : Int) (v4358 : Bool) (v4359 : List GEdge) : ∀ (k : Nat) (v4374 : List GMsg) (v4375 : Int) (r : (Unit) ⊕ (List GMsg)), F99_l0_1 K v4357 v4358 v4359 k v4374 v4375 = some r → (Sum.elim (fun w => LoopEv E H hn99 0 c99_0 (F99_l0_1_S v4357 v4358 v4359 v4374 v4375) .ret (F99_l0_1_X0 v4357 v4358 v4359 w)) (fun w => LoopEv E H hn99 0 c99_0 (F99_l0_1_S v4357 v4358 v4359 v4374 v4375) (.exit 0) (F99_l0_1_X1 v4357 v4358 v4359 w))) r := by
  intro k
  induction k with
  | zero => intro v4374 v4375 r hF; cases hF
  | succ k ih =>
    intro v4374 v4375 r hF
    rw [F99_l0_1] at hF
    refine cond_some hF (fun h4376 hF => ?_) (fun h4376 hF => ?_)
    ·
      refine cond_some hF (fun h4377 hF => ?_) (fun _ hF => nomatch hF)
      refine bind_some hF (fun x4378 h4379 hF => ?_)
      refine bind_some hF (fun r4380 h4381 hF => ?_)
      have pq4387 : ∀ {l : List Cond}, HoldAll E H hn99 l → HoldAll E H hn99 (.test (ilt v4375 (nlen (len v4359))) true :: .test (inr v4375 (len v4359)) true :: .sub (flat eGEdge v4359) (nidx v4375 3) 3 [(.lit (.int .i64 x4378.From)), (.lit (.int .i64 x4378.To)), (.lit (.int .i64 x4378.W))] :: .call 161 [.one (.lit (.int .i64 v4357)), .agg (eGEdge x4378)] (F161_res r4380) :: .test (leadsAny (Res.mk [(.one (.im (.lit (.int .i64 r4380.1)))), (.one (.im (.lit (.bool r4380.2))))] [])) false :: l) := fun z => ⟨h4376, h4377, ⟨rfl, sub_flat0 eGEdge_len h4379 3 (by decide)⟩, (F161_ok K v4357 x4378 _ h4381), (leads_ok (by simp only [leadsAny, List.any_cons, List.any_nil, RV.leads, RC.leads, leadsT, hasSl_lit, Bool.or_false, flat_ns (eInt_ns _), flat_ns eBool_ns, flat_ns eStr_ns, flat_ns eGJob_ns, flat_ns eGEdge_ns, flat_ns eGAsked_ns, flat_ns eGMsg_ns, flat_ns eGrule_ns, flat_ns eGA199_ns, flat_ns eGA202_ns])), z⟩
      refine cond_some hF (fun h4382 hF => ?_) (fun h4382 hF => ?_)
      ·
        refine cond_some hF (fun h4383 hF => ?_) (fun _ hF => nomatch hF)
        have pz : HoldAll E H hn99 [.test (bnot r4380.2) false, .test (leqm [(.lit (.int .i64 x4378.To)), (.lit (.int .i64 r4380.1))] 1 2) true, .test (apok (len v4374) 1 16) true, .sl (nadd (len v4374) 1) (lapp (flat eGMsg v4374) [(.lit (.int .i64 x4378.To)), (.lit (.int .i64 r4380.1))]) (len (α := GMsg) (appL v4374 [(GMsg.mk x4378.To r4380.1)])) (flat eGMsg (appL v4374 [(GMsg.mk x4378.To r4380.1)])), .int (wadd .i64 v4375 1) (wadd .i64 v4375 1)] := ⟨(bnot_t h4382), rfl, h4383, (app_ok (enc := eGMsg) (v4374 : List GMsg) [(GMsg.mk x4378.To r4380.1)]), rfl, trivial⟩
        have h0 := ih _ _ _ hF
        have hn := fun ex ts' => loop_nextC (h := hn99) (l := 0) (c := c99_0) (ts := F99_l0_1_S v4357 v4358 v4359 v4374 v4375) (ts1 := (F99_l0_1_S v4357 v4358 v4359 (appL v4374 [(GMsg.mk x4378.To r4380.1)]) (wadd .i64 v4375 1))) (ex := ex) (ts' := ts') (pq4387 pz) (by kernel_rfl)
        cases r with
        | inl w => exact hn _ _ h0
        | inr w => exact hn _ _ h0
      have hr := Option.some.inj hF
      subst hr
      have pz : HoldAll E H hn99 [.test (bnot r4380.2) true] := ⟨(bnot_f h4382), trivial⟩
      exact loop_endC (h := hn99) (l := 0) (c := c99_0) (ts := F99_l0_1_S v4357 v4358 v4359 v4374 v4375) (ts' := F99_l0_1_X0 v4357 v4358 v4359 ()) (ex := .ret) (pq4387 pz) (by kernel_rfl) trivial
    have hr := Option.some.inj hF
    subst hr
    have pz : HoldAll E H hn99 [.test (ilt v4375 (nlen (len v4359))) false] := ⟨h4376, trivial⟩
    exact loop_endC (h := hn99) (l := 0) (c := c99_0) (ts := F99_l0_1_S v4357 v4358 v4359 v4374 v4375) (ts' := F99_l0_1_X1 v4357 v4358 v4359 v4374) (ex := (.exit 0)) pz (by kernel_rfl) trivial

def F99_l0_2 (K : Nat) (v4444 : Int) (v4445 : Bool) (v4446 : List GEdge) : Nat → List GMsg → Int → Option ((Unit) ⊕ (List GMsg))
  | 0, _, _ => none
  | k + 1, v4459, v4460 =>
    bif (ilt v4460 (nlen (len v4446))) then
      (bif (inr v4460 (len v4446)) then
      (elAt v4446 v4460).bind fun x4463 =>
      (F163 K v4444 x4463).bind fun r4465 =>
      bif r4465.2 then
        (bif (apok (len v4459) 1 16) then
        F99_l0_2 K v4444 v4445 v4446 k (appL v4459 [(GMsg.mk x4463.To r4465.1)]) (wadd .i64 v4460 1)
        else none)
      else
      some (.inl ())
      else none)
    else
    some (.inr v4459)
def F99_l0_2_S (v4444 : Int) (v4445 : Bool) (v4446 : List GEdge) (v4459 : List GMsg) (v4460 : Int) : TS := .on [256, 257, 1216, 1217, 1218, 1219, 1220, 1344, 1345, 1472, 1473, 6144, 6145, 6208, 6209, 6272, 6273] [(256, ⟨.one, 0, nob⟩), (257, ⟨.im, 0, (.lit (.int .i64 v4444))⟩), (1216, ⟨(.box 176 4), 0, nob⟩), (1217, ⟨.im, 0, (.lit (fnV 162))⟩), (1218, ⟨.im, 0, (.lit (fnV 159))⟩), (1219, ⟨.im, 0, (.lit (.bool v4445))⟩), (1220, ⟨.im, 0, (.lit (fnV 163))⟩), (1344, ⟨.one, 0, nob⟩), (1345, ⟨(.own 89), 0, (.sl (len v4446) (flat eGEdge v4446))⟩), (1472, ⟨.one, 0, nob⟩), (1473, ⟨(.own 130), 0, (.sl (len v4459) (flat eGMsg v4459))⟩), (6144, ⟨.one, 0, nob⟩), (6145, ⟨(.vw 1345 0), 0, nob⟩), (6208, ⟨.one, 0, nob⟩), (6209, ⟨.im, 0, (.lit (.int .i64 (nlen (len v4446))))⟩), (6272, ⟨.one, 0, nob⟩), (6273, ⟨.im, 0, (.lit (.int .i64 v4460))⟩)]
def F99_l0_2_X0 (v4444 : Int) (v4445 : Bool) (v4446 : List GEdge) (w4469 : Unit) : TS := .on [896, 897, 960, 961, 1024, 1025, 1088, 1089] [(896, ⟨.one, 0, nob⟩), (897, ⟨.im, 0, (.lit (.int .i64 0))⟩), (960, ⟨.one, 0, nob⟩), (961, ⟨(.own 130), 0, (.sl 0 [])⟩), (1024, ⟨.one, 0, nob⟩), (1025, ⟨.im, 0, (.lit (.bool false))⟩), (1088, ⟨.one, 0, nob⟩), (1089, ⟨.im, 0, (.lit (.int .i64 8))⟩)]
def F99_l0_2_X1 (v4444 : Int) (v4445 : Bool) (v4446 : List GEdge) (w4470 : List GMsg) : TS := .on [256, 257, 1472, 1473] [(256, ⟨.one, 0, nob⟩), (257, ⟨.im, 0, (.lit (.int .i64 v4444))⟩), (1472, ⟨.one, 0, nob⟩), (1473, ⟨(.own 130), 0, (.sl (len w4470) (flat eGMsg w4470))⟩)]
theorem F99_l0_2_ok (K : Nat) (v4444 : Int) (v4445 : Bool) (v4446 : List GEdge) : ∀ (k : Nat) (v4459 : List GMsg) (v4460 : Int) (r : (Unit) ⊕ (List GMsg)), F99_l0_2 K v4444 v4445 v4446 k v4459 v4460 = some r → (Sum.elim (fun w => LoopEv E H hn99 0 c99_0 (F99_l0_2_S v4444 v4445 v4446 v4459 v4460) .ret (F99_l0_2_X0 v4444 v4445 v4446 w)) (fun w => LoopEv E H hn99 0 c99_0 (F99_l0_2_S v4444 v4445 v4446 v4459 v4460) (.exit 0) (F99_l0_2_X1 v4444 v4445 v4446 w))) r := by
  intro k
  induction k with
  | zero => intro v4459 v4460 r hF; cases hF
  | succ k ih =>
    intro v4459 v4460 r hF
    rw [F99_l0_2] at hF
    refine cond_some hF (fun h4461 hF => ?_) (fun h4461 hF => ?_)
    ·
      refine cond_some hF (fun h4462 hF => ?_) (fun _ hF => nomatch hF)
      refine bind_some hF (fun x4463 h4464 hF => ?_)
      refine bind_some hF (fun r4465 h4466 hF => ?_)
      have pq4472 : ∀ {l : List Cond}, HoldAll E H hn99 l → HoldAll E H hn99 (.test (ilt v4460 (nlen (len v4446))) true :: .test (inr v4460 (len v4446)) true :: .sub (flat eGEdge v4446) (nidx v4460 3) 3 [(.lit (.int .i64 x4463.From)), (.lit (.int .i64 x4463.To)), (.lit (.int .i64 x4463.W))] :: .call 163 [.one (.lit (.int .i64 v4444)), .agg (eGEdge x4463)] (F163_res r4465) :: .test (leadsAny (Res.mk [(.one (.im (.lit (.int .i64 r4465.1)))), (.one (.im (.lit (.bool r4465.2))))] [])) false :: l) := fun z => ⟨h4461, h4462, ⟨rfl, sub_flat0 eGEdge_len h4464 3 (by decide)⟩, (F163_ok K v4444 x4463 _ h4466), (leads_ok (by simp only [leadsAny, List.any_cons, List.any_nil, RV.leads, RC.leads, leadsT, hasSl_lit, Bool.or_false, flat_ns (eInt_ns _), flat_ns eBool_ns, flat_ns eStr_ns, flat_ns eGJob_ns, flat_ns eGEdge_ns, flat_ns eGAsked_ns, flat_ns eGMsg_ns, flat_ns eGrule_ns, flat_ns eGA199_ns, flat_ns eGA202_ns])), z⟩
      refine cond_some hF (fun h4467 hF => ?_) (fun h4467 hF => ?_)
      ·
        refine cond_some hF (fun h4468 hF => ?_) (fun _ hF => nomatch hF)
        have pz : HoldAll E H hn99 [.test (bnot r4465.2) false, .test (leqm [(.lit (.int .i64 x4463.To)), (.lit (.int .i64 r4465.1))] 1 2) true, .test (apok (len v4459) 1 16) true, .sl (nadd (len v4459) 1) (lapp (flat eGMsg v4459) [(.lit (.int .i64 x4463.To)), (.lit (.int .i64 r4465.1))]) (len (α := GMsg) (appL v4459 [(GMsg.mk x4463.To r4465.1)])) (flat eGMsg (appL v4459 [(GMsg.mk x4463.To r4465.1)])), .int (wadd .i64 v4460 1) (wadd .i64 v4460 1)] := ⟨(bnot_t h4467), rfl, h4468, (app_ok (enc := eGMsg) (v4459 : List GMsg) [(GMsg.mk x4463.To r4465.1)]), rfl, trivial⟩
        have h0 := ih _ _ _ hF
        have hn := fun ex ts' => loop_nextC (h := hn99) (l := 0) (c := c99_0) (ts := F99_l0_2_S v4444 v4445 v4446 v4459 v4460) (ts1 := (F99_l0_2_S v4444 v4445 v4446 (appL v4459 [(GMsg.mk x4463.To r4465.1)]) (wadd .i64 v4460 1))) (ex := ex) (ts' := ts') (pq4472 pz) (by kernel_rfl)
        cases r with
        | inl w => exact hn _ _ h0
        | inr w => exact hn _ _ h0
      have hr := Option.some.inj hF
      subst hr
      have pz : HoldAll E H hn99 [.test (bnot r4465.2) true] := ⟨(bnot_f h4467), trivial⟩
      exact loop_endC (h := hn99) (l := 0) (c := c99_0) (ts := F99_l0_2_S v4444 v4445 v4446 v4459 v4460) (ts' := F99_l0_2_X0 v4444 v4445 v4446 ()) (ex := .ret) (pq4472 pz) (by kernel_rfl) trivial
    have hr := Option.some.inj hF
    subst hr
    have pz : HoldAll E H hn99 [.test (ilt v4460 (nlen (len v4446))) false] := ⟨h4461, trivial⟩
    exact loop_endC (h := hn99) (l := 0) (c := c99_0) (ts := F99_l0_2_S v4444 v4445 v4446 v4459 v4460) (ts' := F99_l0_2_X1 v4444 v4445 v4446 v4459) (ex := (.exit 0)) pz (by kernel_rfl) trivial

def F99_l0_3 (K : Nat) (v4529 : Int) (v4530 : Bool) (v4531 : List GEdge) : Nat → List GMsg → Int → Option ((Unit) ⊕ (List GMsg))
  | 0, _, _ => none
  | k + 1, v4541, v4542 =>
    bif (ilt v4542 (nlen (len v4531))) then
      (bif (inr v4542 (len v4531)) then
      (elAt v4531 v4542).bind fun x4545 =>
      (F163 K v4529 x4545).bind fun r4547 =>
      bif r4547.2 then
        (bif (apok (len v4541) 1 16) then
        F99_l0_3 K v4529 v4530 v4531 k (appL v4541 [(GMsg.mk x4545.To r4547.1)]) (wadd .i64 v4542 1)
        else none)
      else
      some (.inl ())
      else none)
    else
    some (.inr v4541)
def F99_l0_3_S (v4529 : Int) (v4530 : Bool) (v4531 : List GEdge) (v4541 : List GMsg) (v4542 : Int) : TS := .on [256, 257, 1216, 1217, 1218, 1219, 1220, 1344, 1345, 1472, 1473, 6144, 6145, 6208, 6209, 6272, 6273] [(256, ⟨.one, 0, nob⟩), (257, ⟨.im, 0, (.lit (.int .i64 v4529))⟩), (1216, ⟨(.box 176 4), 0, nob⟩), (1217, ⟨.im, 0, (.lit (fnV 164))⟩), (1218, ⟨.im, 0, (.lit (fnV 165))⟩), (1219, ⟨.im, 0, (.lit (.bool v4530))⟩), (1220, ⟨.im, 0, (.lit (fnV 163))⟩), (1344, ⟨.one, 0, nob⟩), (1345, ⟨(.own 89), 0, (.sl (len v4531) (flat eGEdge v4531))⟩), (1472, ⟨.one, 0, nob⟩), (1473, ⟨(.own 130), 0, (.sl (len v4541) (flat eGMsg v4541))⟩), (6144, ⟨.one, 0, nob⟩), (6145, ⟨(.vw 1345 0), 0, nob⟩), (6208, ⟨.one, 0, nob⟩), (6209, ⟨.im, 0, (.lit (.int .i64 (nlen (len v4531))))⟩), (6272, ⟨.one, 0, nob⟩), (6273, ⟨.im, 0, (.lit (.int .i64 v4542))⟩)]
def F99_l0_3_X0 (v4529 : Int) (v4530 : Bool) (v4531 : List GEdge) (w4551 : Unit) : TS := .on [896, 897, 960, 961, 1024, 1025, 1088, 1089] [(896, ⟨.one, 0, nob⟩), (897, ⟨.im, 0, (.lit (.int .i64 0))⟩), (960, ⟨.one, 0, nob⟩), (961, ⟨(.own 130), 0, (.sl 0 [])⟩), (1024, ⟨.one, 0, nob⟩), (1025, ⟨.im, 0, (.lit (.bool false))⟩), (1088, ⟨.one, 0, nob⟩), (1089, ⟨.im, 0, (.lit (.int .i64 8))⟩)]
def F99_l0_3_X1 (v4529 : Int) (v4530 : Bool) (v4531 : List GEdge) (w4552 : List GMsg) : TS := .on [256, 257, 1472, 1473] [(256, ⟨.one, 0, nob⟩), (257, ⟨.im, 0, (.lit (.int .i64 v4529))⟩), (1472, ⟨.one, 0, nob⟩), (1473, ⟨(.own 130), 0, (.sl (len w4552) (flat eGMsg w4552))⟩)]
theorem F99_l0_3_ok (K : Nat) (v4529 : Int) (v4530 : Bool) (v4531 : List GEdge) : ∀ (k : Nat) (v4541 : List GMsg) (v4542 : Int) (r : (Unit) ⊕ (List GMsg)), F99_l0_3 K v4529 v4530 v4531 k v4541 v4542 = some r → (Sum.elim (fun w => LoopEv E H hn99 0 c99_0 (F99_l0_3_S v4529 v4530 v4531 v4541 v4542) .ret (F99_l0_3_X0 v4529 v4530 v4531 w)) (fun w => LoopEv E H hn99 0 c99_0 (F99_l0_3_S v4529 v4530 v4531 v4541 v4542) (.exit 0) (F99_l0_3_X1 v4529 v4530 v4531 w))) r := by
  intro k
  induction k with
  | zero => intro v4541 v4542 r hF; cases hF
  | succ k ih =>
    intro v4541 v4542 r hF
    rw [F99_l0_3] at hF
    refine cond_some hF (fun h4543 hF => ?_) (fun h4543 hF => ?_)
    ·
      refine cond_some hF (fun h4544 hF => ?_) (fun _ hF => nomatch hF)
      refine bind_some hF (fun x4545 h4546 hF => ?_)
      refine bind_some hF (fun r4547 h4548 hF => ?_)
      have pq4554 : ∀ {l : List Cond}, HoldAll E H hn99 l → HoldAll E H hn99 (.test (ilt v4542 (nlen (len v4531))) true :: .test (inr v4542 (len v4531)) true :: .sub (flat eGEdge v4531) (nidx v4542 3) 3 [(.lit (.int .i64 x4545.From)), (.lit (.int .i64 x4545.To)), (.lit (.int .i64 x4545.W))] :: .call 163 [.one (.lit (.int .i64 v4529)), .agg (eGEdge x4545)] (F163_res r4547) :: .test (leadsAny (Res.mk [(.one (.im (.lit (.int .i64 r4547.1)))), (.one (.im (.lit (.bool r4547.2))))] [])) false :: l) := fun z => ⟨h4543, h4544, ⟨rfl, sub_flat0 eGEdge_len h4546 3 (by decide)⟩, (F163_ok K v4529 x4545 _ h4548), (leads_ok (by simp only [leadsAny, List.any_cons, List.any_nil, RV.leads, RC.leads, leadsT, hasSl_lit, Bool.or_false, flat_ns (eInt_ns _), flat_ns eBool_ns, flat_ns eStr_ns, flat_ns eGJob_ns, flat_ns eGEdge_ns, flat_ns eGAsked_ns, flat_ns eGMsg_ns, flat_ns eGrule_ns, flat_ns eGA199_ns, flat_ns eGA202_ns])), z⟩
      refine cond_some hF (fun h4549 hF => ?_) (fun h4549 hF => ?_)
      ·
        refine cond_some hF (fun h4550 hF => ?_) (fun _ hF => nomatch hF)
        have pz : HoldAll E H hn99 [.test (bnot r4547.2) false, .test (leqm [(.lit (.int .i64 x4545.To)), (.lit (.int .i64 r4547.1))] 1 2) true, .test (apok (len v4541) 1 16) true, .sl (nadd (len v4541) 1) (lapp (flat eGMsg v4541) [(.lit (.int .i64 x4545.To)), (.lit (.int .i64 r4547.1))]) (len (α := GMsg) (appL v4541 [(GMsg.mk x4545.To r4547.1)])) (flat eGMsg (appL v4541 [(GMsg.mk x4545.To r4547.1)])), .int (wadd .i64 v4542 1) (wadd .i64 v4542 1)] := ⟨(bnot_t h4549), rfl, h4550, (app_ok (enc := eGMsg) (v4541 : List GMsg) [(GMsg.mk x4545.To r4547.1)]), rfl, trivial⟩
        have h0 := ih _ _ _ hF
        have hn := fun ex ts' => loop_nextC (h := hn99) (l := 0) (c := c99_0) (ts := F99_l0_3_S v4529 v4530 v4531 v4541 v4542) (ts1 := (F99_l0_3_S v4529 v4530 v4531 (appL v4541 [(GMsg.mk x4545.To r4547.1)]) (wadd .i64 v4542 1))) (ex := ex) (ts' := ts') (pq4554 pz) (by kernel_rfl)
        cases r with
        | inl w => exact hn _ _ h0
        | inr w => exact hn _ _ h0
      have hr := Option.some.inj hF
      subst hr
      have pz : HoldAll E H hn99 [.test (bnot r4547.2) true] := ⟨(bnot_f h4549), trivial⟩
      exact loop_endC (h := hn99) (l := 0) (c := c99_0) (ts := F99_l0_3_S v4529 v4530 v4531 v4541 v4542) (ts' := F99_l0_3_X0 v4529 v4530 v4531 ()) (ex := .ret) (pq4554 pz) (by kernel_rfl) trivial
    have hr := Option.some.inj hF
    subst hr
    have pz : HoldAll E H hn99 [.test (ilt v4542 (nlen (len v4531))) false] := ⟨h4543, trivial⟩
    exact loop_endC (h := hn99) (l := 0) (c := c99_0) (ts := F99_l0_3_S v4529 v4530 v4531 v4541 v4542) (ts' := F99_l0_3_X1 v4529 v4530 v4531 v4541) (ex := (.exit 0)) pz (by kernel_rfl) trivial

def F99 (K : Nat) (a4245 : GGraph) (a4246 : GJob) (a4247 : Int) (a4248 : Int) (a4249 : Int) (a4250 : Int) (a4251 : Bool) : Option (Int × List GMsg × Bool × Int) :=
  (F94 K a4245 a4246).bind fun r4252 =>
  bif (ieq r4252 0) then
    (bif (ilt a4248 0) then
      (some (0, ([], (false, 4))))
    else
    bif (ile a4245.N a4248) then
      (some (0, ([], (false, 4))))
    else
    bif (ilt a4247 0) then
      (some (0, ([], (false, 1))))
    else
    bif (ilt 40 a4247) then
      (some (0, ([], (false, 1))))
    else
    bif a4251 then
      ((F143 K a4246.Prog).bind fun r4260 =>
      bif (areFns [r4260.1.start_, r4260.1.better_, r4260.1.send_] [158, 159, 160]) then
        ((F68 K a4245 a4248).bind fun r4263 =>
        bif (ieq a4247 0) then
          (bif r4260.1.only_ then
            ((F159 K a4250 a4249).bind fun r4267 =>
            bif r4267 then
              ((F99_l0_0 K a4250 r4260.1.only_ r4263 K [] 0).bind fun y4302 =>
              Sum.elim (fun w4303 =>
                some (0, ([], (false, 8))))
                (fun w4304 =>
                some (a4250, (w4304, (true, 0)))) y4302)
            else
            bif (ieq a4248 a4246.Source) then
              ((F99_l0_0 K a4249 r4260.1.only_ r4263 K [] 0).bind fun y4312 =>
              Sum.elim (fun w4313 =>
                some (0, ([], (false, 8))))
                (fun w4314 =>
                some (a4249, (w4314, (true, 0)))) y4312)
            else
            some (a4249, ([], (true, 0))))
          else
          (F159 K a4250 a4249).bind fun r4316 =>
          bif r4316 then
            ((F99_l0_0 K a4250 r4260.1.only_ r4263 K [] 0).bind fun y4324 =>
            Sum.elim (fun w4325 =>
              some (0, ([], (false, 8))))
              (fun w4326 =>
              some (a4250, (w4326, (true, 0)))) y4324)
          else
          (F99_l0_0 K a4249 r4260.1.only_ r4263 K [] 0).bind fun y4333 =>
          Sum.elim (fun w4334 =>
            some (0, ([], (false, 8))))
            (fun w4335 =>
            some (a4249, (w4335, (true, 0)))) y4333)
        else
        (F159 K a4250 a4249).bind fun r4337 =>
        bif r4337 then
          ((F99_l0_0 K a4250 r4260.1.only_ r4263 K [] 0).bind fun y4345 =>
          Sum.elim (fun w4346 =>
            some (0, ([], (false, 8))))
            (fun w4347 =>
            some (a4250, (w4347, (true, 0)))) y4345)
        else
        some (a4249, ([], (true, 0))))
      else
      bif (areFns [r4260.1.start_, r4260.1.better_, r4260.1.send_] [158, 159, 161]) then
        ((F68 K a4245 a4248).bind fun r4350 =>
        bif (ieq a4247 0) then
          (bif r4260.1.only_ then
            ((F159 K a4250 a4249).bind fun r4354 =>
            bif r4354 then
              ((F99_l0_1 K a4250 r4260.1.only_ r4350 K [] 0).bind fun y4389 =>
              Sum.elim (fun w4390 =>
                some (0, ([], (false, 8))))
                (fun w4391 =>
                some (a4250, (w4391, (true, 0)))) y4389)
            else
            bif (ieq a4248 a4246.Source) then
              ((F99_l0_1 K a4249 r4260.1.only_ r4350 K [] 0).bind fun y4399 =>
              Sum.elim (fun w4400 =>
                some (0, ([], (false, 8))))
                (fun w4401 =>
                some (a4249, (w4401, (true, 0)))) y4399)
            else
            some (a4249, ([], (true, 0))))
          else
          (F159 K a4250 a4249).bind fun r4403 =>
          bif r4403 then
            ((F99_l0_1 K a4250 r4260.1.only_ r4350 K [] 0).bind fun y4411 =>
            Sum.elim (fun w4412 =>
              some (0, ([], (false, 8))))
              (fun w4413 =>
              some (a4250, (w4413, (true, 0)))) y4411)
          else
          (F99_l0_1 K a4249 r4260.1.only_ r4350 K [] 0).bind fun y4420 =>
          Sum.elim (fun w4421 =>
            some (0, ([], (false, 8))))
            (fun w4422 =>
            some (a4249, (w4422, (true, 0)))) y4420)
        else
        (F159 K a4250 a4249).bind fun r4424 =>
        bif r4424 then
          ((F99_l0_1 K a4250 r4260.1.only_ r4350 K [] 0).bind fun y4432 =>
          Sum.elim (fun w4433 =>
            some (0, ([], (false, 8))))
            (fun w4434 =>
            some (a4250, (w4434, (true, 0)))) y4432)
        else
        some (a4249, ([], (true, 0))))
      else
      bif (areFns [r4260.1.start_, r4260.1.better_, r4260.1.send_] [162, 159, 163]) then
        ((F68 K a4245 a4248).bind fun r4437 =>
        bif (ieq a4247 0) then
          (bif r4260.1.only_ then
            ((F159 K a4250 a4249).bind fun r4441 =>
            bif r4441 then
              ((F99_l0_2 K a4250 r4260.1.only_ r4437 K [] 0).bind fun y4474 =>
              Sum.elim (fun w4475 =>
                some (0, ([], (false, 8))))
                (fun w4476 =>
                some (a4250, (w4476, (true, 0)))) y4474)
            else
            bif (ieq a4248 a4246.Source) then
              ((F99_l0_2 K a4249 r4260.1.only_ r4437 K [] 0).bind fun y4484 =>
              Sum.elim (fun w4485 =>
                some (0, ([], (false, 8))))
                (fun w4486 =>
                some (a4249, (w4486, (true, 0)))) y4484)
            else
            some (a4249, ([], (true, 0))))
          else
          (F159 K a4250 a4249).bind fun r4488 =>
          bif r4488 then
            ((F99_l0_2 K a4250 r4260.1.only_ r4437 K [] 0).bind fun y4496 =>
            Sum.elim (fun w4497 =>
              some (0, ([], (false, 8))))
              (fun w4498 =>
              some (a4250, (w4498, (true, 0)))) y4496)
          else
          (F99_l0_2 K a4249 r4260.1.only_ r4437 K [] 0).bind fun y4505 =>
          Sum.elim (fun w4506 =>
            some (0, ([], (false, 8))))
            (fun w4507 =>
            some (a4249, (w4507, (true, 0)))) y4505)
        else
        (F159 K a4250 a4249).bind fun r4509 =>
        bif r4509 then
          ((F99_l0_2 K a4250 r4260.1.only_ r4437 K [] 0).bind fun y4517 =>
          Sum.elim (fun w4518 =>
            some (0, ([], (false, 8))))
            (fun w4519 =>
            some (a4250, (w4519, (true, 0)))) y4517)
        else
        some (a4249, ([], (true, 0))))
      else
      bif (areFns [r4260.1.start_, r4260.1.better_, r4260.1.send_] [164, 165, 163]) then
        ((F68 K a4245 a4248).bind fun r4522 =>
        bif (ieq a4247 0) then
          (bif r4260.1.only_ then
            ((F165 K a4250 a4249).bind fun r4526 =>
            bif r4526 then
              ((F99_l0_3 K a4250 r4260.1.only_ r4522 K [] 0).bind fun y4556 =>
              Sum.elim (fun w4557 =>
                some (0, ([], (false, 8))))
                (fun w4558 =>
                some (a4250, (w4558, (true, 0)))) y4556)
            else
            bif (ieq a4248 a4246.Source) then
              ((F99_l0_3 K a4249 r4260.1.only_ r4522 K [] 0).bind fun y4566 =>
              Sum.elim (fun w4567 =>
                some (0, ([], (false, 8))))
                (fun w4568 =>
                some (a4249, (w4568, (true, 0)))) y4566)
            else
            some (a4249, ([], (true, 0))))
          else
          (F165 K a4250 a4249).bind fun r4570 =>
          bif r4570 then
            ((F99_l0_3 K a4250 r4260.1.only_ r4522 K [] 0).bind fun y4578 =>
            Sum.elim (fun w4579 =>
              some (0, ([], (false, 8))))
              (fun w4580 =>
              some (a4250, (w4580, (true, 0)))) y4578)
          else
          (F99_l0_3 K a4249 r4260.1.only_ r4522 K [] 0).bind fun y4587 =>
          Sum.elim (fun w4588 =>
            some (0, ([], (false, 8))))
            (fun w4589 =>
            some (a4249, (w4589, (true, 0)))) y4587)
        else
        (F165 K a4250 a4249).bind fun r4591 =>
        bif r4591 then
          ((F99_l0_3 K a4250 r4260.1.only_ r4522 K [] 0).bind fun y4599 =>
          Sum.elim (fun w4600 =>
            some (0, ([], (false, 8))))
            (fun w4601 =>
            some (a4250, (w4601, (true, 0)))) y4599)
        else
        some (a4249, ([], (true, 0))))
      else
      bif (areFns [r4260.1.start_, r4260.1.better_, r4260.1.send_] [166, 0, 163]) then
        ((F68 K a4245 a4248).bind fun r4604 =>
        (F146 K r4604 a4247 a4249 a4250).bind fun r4697 =>
        some (r4697.1, (r4697.2.1, (r4697.2.2.1, r4697.2.2.2))))
      else
      bif (areFns [r4260.1.start_, r4260.1.better_, r4260.1.send_] [0, 0, 0]) then
      (F68 K a4245 a4248).bind fun r4700 =>
      (F146 K r4700 a4247 a4249 a4250).bind fun r4702 =>
      some (r4702.1, (r4702.2.1, (r4702.2.2.1, r4702.2.2.2)))
      else none)
    else
    (F143 K a4246.Prog).bind fun r4704 =>
    bif (areFns [r4704.1.start_, r4704.1.better_, r4704.1.send_] [158, 159, 160]) then
      ((F68 K a4245 a4248).bind fun r4707 =>
      bif (ieq a4247 0) then
        (bif r4704.1.only_ then
          (bif (ieq a4248 a4246.Source) then
            ((F99_l0_0 K a4249 r4704.1.only_ r4707 K [] 0).bind fun y4717 =>
            Sum.elim (fun w4718 =>
              some (0, ([], (false, 8))))
              (fun w4719 =>
              some (a4249, (w4719, (true, 0)))) y4717)
          else
          some (a4249, ([], (true, 0))))
        else
        (F99_l0_0 K a4249 r4704.1.only_ r4707 K [] 0).bind fun y4726 =>
        Sum.elim (fun w4727 =>
          some (0, ([], (false, 8))))
          (fun w4728 =>
          some (a4249, (w4728, (true, 0)))) y4726)
      else
      some (a4249, ([], (true, 0))))
    else
    bif (areFns [r4704.1.start_, r4704.1.better_, r4704.1.send_] [158, 159, 161]) then
      ((F68 K a4245 a4248).bind fun r4731 =>
      bif (ieq a4247 0) then
        (bif r4704.1.only_ then
          (bif (ieq a4248 a4246.Source) then
            ((F99_l0_1 K a4249 r4704.1.only_ r4731 K [] 0).bind fun y4741 =>
            Sum.elim (fun w4742 =>
              some (0, ([], (false, 8))))
              (fun w4743 =>
              some (a4249, (w4743, (true, 0)))) y4741)
          else
          some (a4249, ([], (true, 0))))
        else
        (F99_l0_1 K a4249 r4704.1.only_ r4731 K [] 0).bind fun y4750 =>
        Sum.elim (fun w4751 =>
          some (0, ([], (false, 8))))
          (fun w4752 =>
          some (a4249, (w4752, (true, 0)))) y4750)
      else
      some (a4249, ([], (true, 0))))
    else
    bif (areFns [r4704.1.start_, r4704.1.better_, r4704.1.send_] [162, 159, 163]) then
      ((F68 K a4245 a4248).bind fun r4755 =>
      bif (ieq a4247 0) then
        (bif r4704.1.only_ then
          (bif (ieq a4248 a4246.Source) then
            ((F99_l0_2 K a4249 r4704.1.only_ r4755 K [] 0).bind fun y4765 =>
            Sum.elim (fun w4766 =>
              some (0, ([], (false, 8))))
              (fun w4767 =>
              some (a4249, (w4767, (true, 0)))) y4765)
          else
          some (a4249, ([], (true, 0))))
        else
        (F99_l0_2 K a4249 r4704.1.only_ r4755 K [] 0).bind fun y4774 =>
        Sum.elim (fun w4775 =>
          some (0, ([], (false, 8))))
          (fun w4776 =>
          some (a4249, (w4776, (true, 0)))) y4774)
      else
      some (a4249, ([], (true, 0))))
    else
    bif (areFns [r4704.1.start_, r4704.1.better_, r4704.1.send_] [164, 165, 163]) then
      ((F68 K a4245 a4248).bind fun r4779 =>
      bif (ieq a4247 0) then
        (bif r4704.1.only_ then
          (bif (ieq a4248 a4246.Source) then
            ((F99_l0_3 K a4249 r4704.1.only_ r4779 K [] 0).bind fun y4789 =>
            Sum.elim (fun w4790 =>
              some (0, ([], (false, 8))))
              (fun w4791 =>
              some (a4249, (w4791, (true, 0)))) y4789)
          else
          some (a4249, ([], (true, 0))))
        else
        (F99_l0_3 K a4249 r4704.1.only_ r4779 K [] 0).bind fun y4798 =>
        Sum.elim (fun w4799 =>
          some (0, ([], (false, 8))))
          (fun w4800 =>
          some (a4249, (w4800, (true, 0)))) y4798)
      else
      some (a4249, ([], (true, 0))))
    else
    bif (areFns [r4704.1.start_, r4704.1.better_, r4704.1.send_] [166, 0, 163]) then
      ((F68 K a4245 a4248).bind fun r4803 =>
      (F146 K r4803 a4247 a4249 0).bind fun r4805 =>
      some (r4805.1, (r4805.2.1, (r4805.2.2.1, r4805.2.2.2))))
    else
    bif (areFns [r4704.1.start_, r4704.1.better_, r4704.1.send_] [0, 0, 0]) then
    (F68 K a4245 a4248).bind fun r4808 =>
    (F146 K r4808 a4247 a4249 0).bind fun r4810 =>
    some (r4810.1, (r4810.2.1, (r4810.2.2.1, r4810.2.2.2)))
    else none)
  else
  some (0, ([], (false, r4252)))
theorem F99_ok (K : Nat) (a4245 : GGraph) (a4246 : GJob) (a4247 : Int) (a4248 : Int) (a4249 : Int) (a4250 : Int) (a4251 : Bool) (r : Int × List GMsg × Bool × Int) (hF : F99 K a4245 a4246 a4247 a4248 a4249 a4250 a4251 = some r) : Evt E H 99 [.agg (eGGraph a4245), .agg (eGJob a4246), .one (.lit (.int .i64 a4247)), .one (.lit (.int .i64 a4248)), .one (.lit (.int .i64 a4249)), .one (.lit (.int .i64 a4250)), .one (.lit (.bool a4251))] (F99_res r) := by
  rw [F99] at hF
  refine bind_some hF (fun r4252 h4253 hF => ?_)
  refine cond_some hF (fun h4254 hF => ?_) (fun h4254 hF => ?_)
  ·
    have pq4812 : ∀ {l : List Cond}, HoldAll E H hn99 l → HoldAll E H hn99 (.call 94 [.agg (eGGraph a4245), .agg (eGJob a4246)] (F94_res r4252) :: .test (leadsAny (Res.mk [(.one (.im (.lit (.int .i64 r4252))))] [])) false :: .test (ine r4252 0) false :: l) := fun z => ⟨(F94_ok K a4245 a4246 _ h4253), (leads_ok (by simp only [leadsAny, List.any_cons, List.any_nil, RV.leads, RC.leads, leadsT, hasSl_lit, Bool.or_false, flat_ns (eInt_ns _), flat_ns eBool_ns, flat_ns eStr_ns, flat_ns eGJob_ns, flat_ns eGEdge_ns, flat_ns eGAsked_ns, flat_ns eGMsg_ns, flat_ns eGrule_ns, flat_ns eGA199_ns, flat_ns eGA202_ns])), (ine_t h4254), z⟩
    refine cond_some hF (fun h4255 hF => ?_) (fun h4255 hF => ?_)
    ·
      have hr := Option.some.inj hF
      subst hr
      have pz : HoldAll E H hn99 [.test (beqb (ilt a4248 0) false) false, .test (beqb (ilt a4248 0) false) false, .test (beqb (ilt a4248 0) false) false, .test (beqb (ilt a4248 0) false) false, .test (ilt a4248 0) true, .test true true] := ⟨(beqb_ft h4255), (beqb_ft h4255), (beqb_ft h4255), (beqb_ft h4255), h4255, rfl, trivial⟩
      exact fn_playC hn99 (f := 99) (ads := [.agg (eGGraph a4245), .agg (eGJob a4246), .one (.lit (.int .i64 a4247)), .one (.lit (.int .i64 a4248)), .one (.lit (.int .i64 a4249)), .one (.lit (.int .i64 a4250)), .one (.lit (.bool a4251))]) (r := F99_res (0, ([], (false, 4)))) (pq4812 pz) (by kernel_rfl) (by kernel_rfl)
    have pq4813 : ∀ {l : List Cond}, HoldAll E H hn99 l → HoldAll E H hn99 (.test (beqb (ilt a4248 0) false) true :: .test (beqb (ilt a4248 0) false) true :: .test (beqb (ilt a4248 0) false) true :: .test (beqb (ilt a4248 0) false) true :: .test (ilt a4248 0) false :: l) := fun z => ⟨(beqb_ff h4255), (beqb_ff h4255), (beqb_ff h4255), (beqb_ff h4255), h4255, z⟩
    refine cond_some hF (fun h4256 hF => ?_) (fun h4256 hF => ?_)
    ·
      have hr := Option.some.inj hF
      subst hr
      have pz : HoldAll E H hn99 [.test (ige a4248 a4245.N) true] := ⟨(ige_eq h4256), trivial⟩
      exact fn_playC hn99 (f := 99) (ads := [.agg (eGGraph a4245), .agg (eGJob a4246), .one (.lit (.int .i64 a4247)), .one (.lit (.int .i64 a4248)), .one (.lit (.int .i64 a4249)), .one (.lit (.int .i64 a4250)), .one (.lit (.bool a4251))]) (r := F99_res (0, ([], (false, 4)))) (pq4812 (pq4813 pz)) (by kernel_rfl) (by kernel_rfl)
    refine cond_some hF (fun h4257 hF => ?_) (fun h4257 hF => ?_)
    ·
      have hr := Option.some.inj hF
      subst hr
      have pz : HoldAll E H hn99 [.test (ige a4248 a4245.N) false, .test (beqb (ilt a4247 0) false) false, .test (beqb (ilt a4247 0) false) false, .test (ilt a4247 0) true, .test true true] := ⟨(ige_eq h4256), (beqb_ft h4257), (beqb_ft h4257), h4257, rfl, trivial⟩
      exact fn_playC hn99 (f := 99) (ads := [.agg (eGGraph a4245), .agg (eGJob a4246), .one (.lit (.int .i64 a4247)), .one (.lit (.int .i64 a4248)), .one (.lit (.int .i64 a4249)), .one (.lit (.int .i64 a4250)), .one (.lit (.bool a4251))]) (r := F99_res (0, ([], (false, 1)))) (pq4812 (pq4813 pz)) (by kernel_rfl) (by kernel_rfl)
    have pq4814 : ∀ {l : List Cond}, HoldAll E H hn99 l → HoldAll E H hn99 (.test (ige a4248 a4245.N) false :: .test (beqb (ilt a4247 0) false) true :: .test (beqb (ilt a4247 0) false) true :: .test (ilt a4247 0) false :: l) := fun z => ⟨(ige_eq h4256), (beqb_ff h4257), (beqb_ff h4257), h4257, z⟩
    refine cond_some hF (fun h4258 hF => ?_) (fun h4258 hF => ?_)
    ·
      have hr := Option.some.inj hF
      subst hr
      have pz : HoldAll E H hn99 [.test (igt a4247 40) true] := ⟨(igt_eq h4258), trivial⟩
      exact fn_playC hn99 (f := 99) (ads := [.agg (eGGraph a4245), .agg (eGJob a4246), .one (.lit (.int .i64 a4247)), .one (.lit (.int .i64 a4248)), .one (.lit (.int .i64 a4249)), .one (.lit (.int .i64 a4250)), .one (.lit (.bool a4251))]) (r := F99_res (0, ([], (false, 1)))) (pq4812 (pq4813 (pq4814 pz))) (by kernel_rfl) (by kernel_rfl)
    refine cond_some hF (fun h4259 hF => ?_) (fun h4259 hF => ?_)
    ·
      refine bind_some hF (fun r4260 h4261 hF => ?_)
      refine cond_some hF (fun h4262 hF => ?_) (fun h4262 hF => ?_)
      ·
        refine bind_some hF (fun r4263 h4264 hF => ?_)
        have pq4815 : ∀ {l : List Cond}, HoldAll E H hn99 l → HoldAll E H hn99 (.test (igt a4247 40) false :: .test (bnot a4251) false :: .call 143 [.one (.lit (.int .i64 a4246.Prog))] (F143_res0 r4260) :: .test (leadsAny (Res.mk [(.agg [(.im (.lit (fnV 158))), (.im (.lit (fnV 159))), (.im (.lit (.bool r4260.1.only_))), (.im (.lit (fnV 160)))]), (.one (.im (.lit (.bool r4260.2))))] [])) false :: .call 68 [.agg (eGGraph a4245), .one (.lit (.int .i64 a4248))] (F68_res r4263) :: .test (leadsAny (Res.mk [(.one (.own 89 (.sl (len r4263) (flat eGEdge r4263))))] [])) false :: .test false false :: l) := fun z => ⟨(igt_eq h4258), (bnot_t h4259), (F143_ok0 _ h4262 (F143_ok K a4246.Prog _ h4261)), (leads_ok (by simp only [leadsAny, List.any_cons, List.any_nil, RV.leads, RC.leads, leadsT, hasSl_lit, Bool.or_false, flat_ns (eInt_ns _), flat_ns eBool_ns, flat_ns eStr_ns, flat_ns eGJob_ns, flat_ns eGEdge_ns, flat_ns eGAsked_ns, flat_ns eGMsg_ns, flat_ns eGrule_ns, flat_ns eGA199_ns, flat_ns eGA202_ns])), (F68_ok K a4245 a4248 _ h4264), (leads_ok (by simp only [leadsAny, List.any_cons, List.any_nil, RV.leads, RC.leads, leadsT, hasSl_lit, Bool.or_false, flat_ns (eInt_ns _), flat_ns eBool_ns, flat_ns eStr_ns, flat_ns eGJob_ns, flat_ns eGEdge_ns, flat_ns eGAsked_ns, flat_ns eGMsg_ns, flat_ns eGrule_ns, flat_ns eGA199_ns, flat_ns eGA202_ns])), rfl, z⟩
        refine cond_some hF (fun h4265 hF => ?_) (fun h4265 hF => ?_)
        ·
          have pq4816 : ∀ {l : List Cond}, HoldAll E H hn99 l → HoldAll E H hn99 (.test (beqb (ieq a4247 0) true) true :: .test (beqb (ieq a4247 0) true) true :: .test (beqb (ieq a4247 0) true) true :: .test (beqb (ieq a4247 0) true) true :: l) := fun z => ⟨(beqb_t h4265), (beqb_t h4265), (beqb_t h4265), (beqb_t h4265), z⟩
          refine cond_some hF (fun h4266 hF => ?_) (fun h4266 hF => ?_)
          ·
            refine bind_some hF (fun r4267 h4268 hF => ?_)
            have pq4817 : ∀ {l : List Cond}, HoldAll E H hn99 l → HoldAll E H hn99 (.test (beqb (bnot r4260.1.only_) false) true :: .test (beqb (bnot r4260.1.only_) false) true :: .test (beqb (bnot r4260.1.only_) false) true :: .test (beqb (bnot r4260.1.only_) false) true :: .test (beqb (ieq a4247 0) true) true :: .test (bnot r4260.1.only_) false :: .test (ieq a4247 0) true :: .test (beqb a4251 true) true :: .test (beqb a4251 true) true :: .test (beqb a4251 true) true :: .test (beqb a4251 true) true :: .test (beqb a4251 true) true :: .call 159 [.one (.lit (.int .i64 a4250)), .one (.lit (.int .i64 a4249))] (F159_res r4267) :: .test (leadsAny (Res.mk [(.one (.im (.lit (.bool r4267))))] [])) false :: .test a4251 true :: l) := fun z => ⟨(beqb_ff (bnot_t h4266)), (beqb_ff (bnot_t h4266)), (beqb_ff (bnot_t h4266)), (beqb_ff (bnot_t h4266)), (beqb_t h4265), (bnot_t h4266), h4265, (beqb_t h4259), (beqb_t h4259), (beqb_t h4259), (beqb_t h4259), (beqb_t h4259), (F159_ok K a4250 a4249 _ h4268), (leads_ok (by simp only [leadsAny, List.any_cons, List.any_nil, RV.leads, RC.leads, leadsT, hasSl_lit, Bool.or_false, flat_ns (eInt_ns _), flat_ns eBool_ns, flat_ns eStr_ns, flat_ns eGJob_ns, flat_ns eGEdge_ns, flat_ns eGAsked_ns, flat_ns eGMsg_ns, flat_ns eGrule_ns, flat_ns eGA199_ns, flat_ns eGA202_ns])), h4259, z⟩
            refine cond_some hF (fun h4269 hF => ?_) (fun h4269 hF => ?_)
            ·
              have pq4818 : ∀ {l : List Cond}, HoldAll E H hn99 l → HoldAll E H hn99 (.test r4267 true :: .test (bnot true) false :: .int (nlen (len r4263)) (nlen (len r4263)) :: l) := fun z => ⟨h4269, (bnot_t rfl), rfl, z⟩
              refine bind_some hF (fun y4302 h4301 hF => ?_)
              refine sum_some hF (fun w4303 hx hF => ?_) (fun w4304 hx hF => ?_)
              ·
                subst hx
                have hr := Option.some.inj hF
                subst hr
                have pz : HoldAll E H hn99 [.loop 0 c99_0 (F99_l0_0_S a4250 r4260.1.only_ r4263 [] 0) .ret (F99_l0_0_X0 a4250 r4260.1.only_ r4263 w4303)] := ⟨(F99_l0_0_ok K a4250 r4260.1.only_ r4263 K [] 0 _ h4301), trivial⟩
                exact fn_playC hn99 (f := 99) (ads := [.agg (eGGraph a4245), .agg (eGJob a4246), .one (.lit (.int .i64 a4247)), .one (.lit (.int .i64 a4248)), .one (.lit (.int .i64 a4249)), .one (.lit (.int .i64 a4250)), .one (.lit (.bool a4251))]) (r := F99_res (0, ([], (false, 8)))) (pq4812 (pq4813 (pq4814 (pq4815 (pq4816 (pq4817 (pq4818 pz))))))) (by kernel_rfl) (by kernel_rfl)
              subst hx
              have hr := Option.some.inj hF
              subst hr
              have pz : HoldAll E H hn99 [.loop 0 c99_0 (F99_l0_0_S a4250 r4260.1.only_ r4263 [] 0) (.exit 0) (F99_l0_0_X1 a4250 r4260.1.only_ r4263 w4304)] := ⟨(F99_l0_0_ok K a4250 r4260.1.only_ r4263 K [] 0 _ h4301), trivial⟩
              exact fn_playC hn99 (f := 99) (ads := [.agg (eGGraph a4245), .agg (eGJob a4246), .one (.lit (.int .i64 a4247)), .one (.lit (.int .i64 a4248)), .one (.lit (.int .i64 a4249)), .one (.lit (.int .i64 a4250)), .one (.lit (.bool a4251))]) (r := F99_res (a4250, (w4304, (true, 0)))) (pq4812 (pq4813 (pq4814 (pq4815 (pq4816 (pq4817 (pq4818 pz))))))) (by kernel_rfl) (by kernel_rfl)
            refine cond_some hF (fun h4306 hF => ?_) (fun h4306 hF => ?_)
            ·
              have pq4819 : ∀ {l : List Cond}, HoldAll E H hn99 l → HoldAll E H hn99 (.test r4267 false :: .test (bnot (ieq a4248 a4246.Source)) false :: .int (nlen (len r4263)) (nlen (len r4263)) :: l) := fun z => ⟨h4269, (bnot_t h4306), rfl, z⟩
              refine bind_some hF (fun y4312 h4311 hF => ?_)
              refine sum_some hF (fun w4313 hx hF => ?_) (fun w4314 hx hF => ?_)
              ·
                subst hx
                have hr := Option.some.inj hF
                subst hr
                have pz : HoldAll E H hn99 [.loop 0 c99_0 (F99_l0_0_S a4249 r4260.1.only_ r4263 [] 0) .ret (F99_l0_0_X0 a4249 r4260.1.only_ r4263 w4313)] := ⟨(F99_l0_0_ok K a4249 r4260.1.only_ r4263 K [] 0 _ h4311), trivial⟩
                exact fn_playC hn99 (f := 99) (ads := [.agg (eGGraph a4245), .agg (eGJob a4246), .one (.lit (.int .i64 a4247)), .one (.lit (.int .i64 a4248)), .one (.lit (.int .i64 a4249)), .one (.lit (.int .i64 a4250)), .one (.lit (.bool a4251))]) (r := F99_res (0, ([], (false, 8)))) (pq4812 (pq4813 (pq4814 (pq4815 (pq4816 (pq4817 (pq4819 pz))))))) (by kernel_rfl) (by kernel_rfl)
              subst hx
              have hr := Option.some.inj hF
              subst hr
              have pz : HoldAll E H hn99 [.loop 0 c99_0 (F99_l0_0_S a4249 r4260.1.only_ r4263 [] 0) (.exit 0) (F99_l0_0_X1 a4249 r4260.1.only_ r4263 w4314)] := ⟨(F99_l0_0_ok K a4249 r4260.1.only_ r4263 K [] 0 _ h4311), trivial⟩
              exact fn_playC hn99 (f := 99) (ads := [.agg (eGGraph a4245), .agg (eGJob a4246), .one (.lit (.int .i64 a4247)), .one (.lit (.int .i64 a4248)), .one (.lit (.int .i64 a4249)), .one (.lit (.int .i64 a4250)), .one (.lit (.bool a4251))]) (r := F99_res (a4249, (w4314, (true, 0)))) (pq4812 (pq4813 (pq4814 (pq4815 (pq4816 (pq4817 (pq4819 pz))))))) (by kernel_rfl) (by kernel_rfl)
            have hr := Option.some.inj hF
            subst hr
            have pz : HoldAll E H hn99 [.test r4267 false, .test (bnot (ieq a4248 a4246.Source)) true] := ⟨h4269, (bnot_f h4306), trivial⟩
            exact fn_playC hn99 (f := 99) (ads := [.agg (eGGraph a4245), .agg (eGJob a4246), .one (.lit (.int .i64 a4247)), .one (.lit (.int .i64 a4248)), .one (.lit (.int .i64 a4249)), .one (.lit (.int .i64 a4250)), .one (.lit (.bool a4251))]) (r := F99_res (a4249, ([], (true, 0)))) (pq4812 (pq4813 (pq4814 (pq4815 (pq4816 (pq4817 pz)))))) (by kernel_rfl) (by kernel_rfl)
          refine bind_some hF (fun r4316 h4317 hF => ?_)
          have pq4820 : ∀ {l : List Cond}, HoldAll E H hn99 l → HoldAll E H hn99 (.test (beqb (bnot r4260.1.only_) false) false :: .test (beqb (bnot r4260.1.only_) false) false :: .test (beqb (bnot r4260.1.only_) false) false :: .test (beqb (bnot r4260.1.only_) false) false :: .test (beqb (ieq a4247 0) true) true :: .test (bnot r4260.1.only_) true :: .test (ieq a4247 0) true :: .test (beqb a4251 true) true :: .test (beqb a4251 true) true :: .test (beqb a4251 true) true :: .test (beqb a4251 true) true :: .test (beqb a4251 true) true :: .call 159 [.one (.lit (.int .i64 a4250)), .one (.lit (.int .i64 a4249))] (F159_res r4316) :: .test (leadsAny (Res.mk [(.one (.im (.lit (.bool r4316))))] [])) false :: .test a4251 true :: l) := fun z => ⟨(beqb_ft (bnot_f h4266)), (beqb_ft (bnot_f h4266)), (beqb_ft (bnot_f h4266)), (beqb_ft (bnot_f h4266)), (beqb_t h4265), (bnot_f h4266), h4265, (beqb_t h4259), (beqb_t h4259), (beqb_t h4259), (beqb_t h4259), (beqb_t h4259), (F159_ok K a4250 a4249 _ h4317), (leads_ok (by simp only [leadsAny, List.any_cons, List.any_nil, RV.leads, RC.leads, leadsT, hasSl_lit, Bool.or_false, flat_ns (eInt_ns _), flat_ns eBool_ns, flat_ns eStr_ns, flat_ns eGJob_ns, flat_ns eGEdge_ns, flat_ns eGAsked_ns, flat_ns eGMsg_ns, flat_ns eGrule_ns, flat_ns eGA199_ns, flat_ns eGA202_ns])), h4259, z⟩
          refine cond_some hF (fun h4318 hF => ?_) (fun h4318 hF => ?_)
          ·
            have pq4821 : ∀ {l : List Cond}, HoldAll E H hn99 l → HoldAll E H hn99 (.test r4316 true :: .test (bnot true) false :: .int (nlen (len r4263)) (nlen (len r4263)) :: l) := fun z => ⟨h4318, (bnot_t rfl), rfl, z⟩
            refine bind_some hF (fun y4324 h4323 hF => ?_)
            refine sum_some hF (fun w4325 hx hF => ?_) (fun w4326 hx hF => ?_)
            ·
              subst hx
              have hr := Option.some.inj hF
              subst hr
              have pz : HoldAll E H hn99 [.loop 0 c99_0 (F99_l0_0_S a4250 r4260.1.only_ r4263 [] 0) .ret (F99_l0_0_X0 a4250 r4260.1.only_ r4263 w4325)] := ⟨(F99_l0_0_ok K a4250 r4260.1.only_ r4263 K [] 0 _ h4323), trivial⟩
              exact fn_playC hn99 (f := 99) (ads := [.agg (eGGraph a4245), .agg (eGJob a4246), .one (.lit (.int .i64 a4247)), .one (.lit (.int .i64 a4248)), .one (.lit (.int .i64 a4249)), .one (.lit (.int .i64 a4250)), .one (.lit (.bool a4251))]) (r := F99_res (0, ([], (false, 8)))) (pq4812 (pq4813 (pq4814 (pq4815 (pq4816 (pq4820 (pq4821 pz))))))) (by kernel_rfl) (by kernel_rfl)
            subst hx
            have hr := Option.some.inj hF
            subst hr
            have pz : HoldAll E H hn99 [.loop 0 c99_0 (F99_l0_0_S a4250 r4260.1.only_ r4263 [] 0) (.exit 0) (F99_l0_0_X1 a4250 r4260.1.only_ r4263 w4326)] := ⟨(F99_l0_0_ok K a4250 r4260.1.only_ r4263 K [] 0 _ h4323), trivial⟩
            exact fn_playC hn99 (f := 99) (ads := [.agg (eGGraph a4245), .agg (eGJob a4246), .one (.lit (.int .i64 a4247)), .one (.lit (.int .i64 a4248)), .one (.lit (.int .i64 a4249)), .one (.lit (.int .i64 a4250)), .one (.lit (.bool a4251))]) (r := F99_res (a4250, (w4326, (true, 0)))) (pq4812 (pq4813 (pq4814 (pq4815 (pq4816 (pq4820 (pq4821 pz))))))) (by kernel_rfl) (by kernel_rfl)
          have pq4822 : ∀ {l : List Cond}, HoldAll E H hn99 l → HoldAll E H hn99 (.test r4316 false :: .test (bnot true) false :: .int (nlen (len r4263)) (nlen (len r4263)) :: l) := fun z => ⟨h4318, (bnot_t rfl), rfl, z⟩
          refine bind_some hF (fun y4333 h4332 hF => ?_)
          refine sum_some hF (fun w4334 hx hF => ?_) (fun w4335 hx hF => ?_)
          ·
            subst hx
            have hr := Option.some.inj hF
            subst hr
            have pz : HoldAll E H hn99 [.loop 0 c99_0 (F99_l0_0_S a4249 r4260.1.only_ r4263 [] 0) .ret (F99_l0_0_X0 a4249 r4260.1.only_ r4263 w4334)] := ⟨(F99_l0_0_ok K a4249 r4260.1.only_ r4263 K [] 0 _ h4332), trivial⟩
            exact fn_playC hn99 (f := 99) (ads := [.agg (eGGraph a4245), .agg (eGJob a4246), .one (.lit (.int .i64 a4247)), .one (.lit (.int .i64 a4248)), .one (.lit (.int .i64 a4249)), .one (.lit (.int .i64 a4250)), .one (.lit (.bool a4251))]) (r := F99_res (0, ([], (false, 8)))) (pq4812 (pq4813 (pq4814 (pq4815 (pq4816 (pq4820 (pq4822 pz))))))) (by kernel_rfl) (by kernel_rfl)
          subst hx
          have hr := Option.some.inj hF
          subst hr
          have pz : HoldAll E H hn99 [.loop 0 c99_0 (F99_l0_0_S a4249 r4260.1.only_ r4263 [] 0) (.exit 0) (F99_l0_0_X1 a4249 r4260.1.only_ r4263 w4335)] := ⟨(F99_l0_0_ok K a4249 r4260.1.only_ r4263 K [] 0 _ h4332), trivial⟩
          exact fn_playC hn99 (f := 99) (ads := [.agg (eGGraph a4245), .agg (eGJob a4246), .one (.lit (.int .i64 a4247)), .one (.lit (.int .i64 a4248)), .one (.lit (.int .i64 a4249)), .one (.lit (.int .i64 a4250)), .one (.lit (.bool a4251))]) (r := F99_res (a4249, (w4335, (true, 0)))) (pq4812 (pq4813 (pq4814 (pq4815 (pq4816 (pq4820 (pq4822 pz))))))) (by kernel_rfl) (by kernel_rfl)
        refine bind_some hF (fun r4337 h4338 hF => ?_)
        have pq4823 : ∀ {l : List Cond}, HoldAll E H hn99 l → HoldAll E H hn99 (.test (beqb (ieq a4247 0) true) false :: .test (beqb (ieq a4247 0) true) false :: .test (beqb (ieq a4247 0) true) false :: .test (beqb (ieq a4247 0) true) false :: .test (beqb (ieq a4247 0) true) false :: .test (ieq a4247 0) false :: .test (beqb a4251 true) true :: .test (beqb a4251 true) true :: .test (beqb a4251 true) true :: .test (beqb a4251 true) true :: .test (beqb a4251 true) true :: .call 159 [.one (.lit (.int .i64 a4250)), .one (.lit (.int .i64 a4249))] (F159_res r4337) :: .test (leadsAny (Res.mk [(.one (.im (.lit (.bool r4337))))] [])) false :: .test a4251 true :: l) := fun z => ⟨(beqb_t h4265), (beqb_t h4265), (beqb_t h4265), (beqb_t h4265), (beqb_t h4265), h4265, (beqb_t h4259), (beqb_t h4259), (beqb_t h4259), (beqb_t h4259), (beqb_t h4259), (F159_ok K a4250 a4249 _ h4338), (leads_ok (by simp only [leadsAny, List.any_cons, List.any_nil, RV.leads, RC.leads, leadsT, hasSl_lit, Bool.or_false, flat_ns (eInt_ns _), flat_ns eBool_ns, flat_ns eStr_ns, flat_ns eGJob_ns, flat_ns eGEdge_ns, flat_ns eGAsked_ns, flat_ns eGMsg_ns, flat_ns eGrule_ns, flat_ns eGA199_ns, flat_ns eGA202_ns])), h4259, z⟩
        refine cond_some hF (fun h4339 hF => ?_) (fun h4339 hF => ?_)
        ·
          have pq4824 : ∀ {l : List Cond}, HoldAll E H hn99 l → HoldAll E H hn99 (.test r4337 true :: .test (bnot true) false :: .int (nlen (len r4263)) (nlen (len r4263)) :: l) := fun z => ⟨h4339, (bnot_t rfl), rfl, z⟩
          refine bind_some hF (fun y4345 h4344 hF => ?_)
          refine sum_some hF (fun w4346 hx hF => ?_) (fun w4347 hx hF => ?_)
          ·
            subst hx
            have hr := Option.some.inj hF
            subst hr
            have pz : HoldAll E H hn99 [.loop 0 c99_0 (F99_l0_0_S a4250 r4260.1.only_ r4263 [] 0) .ret (F99_l0_0_X0 a4250 r4260.1.only_ r4263 w4346)] := ⟨(F99_l0_0_ok K a4250 r4260.1.only_ r4263 K [] 0 _ h4344), trivial⟩
            exact fn_playC hn99 (f := 99) (ads := [.agg (eGGraph a4245), .agg (eGJob a4246), .one (.lit (.int .i64 a4247)), .one (.lit (.int .i64 a4248)), .one (.lit (.int .i64 a4249)), .one (.lit (.int .i64 a4250)), .one (.lit (.bool a4251))]) (r := F99_res (0, ([], (false, 8)))) (pq4812 (pq4813 (pq4814 (pq4815 (pq4823 (pq4824 pz)))))) (by kernel_rfl) (by kernel_rfl)
          subst hx
          have hr := Option.some.inj hF
          subst hr
          have pz : HoldAll E H hn99 [.loop 0 c99_0 (F99_l0_0_S a4250 r4260.1.only_ r4263 [] 0) (.exit 0) (F99_l0_0_X1 a4250 r4260.1.only_ r4263 w4347)] := ⟨(F99_l0_0_ok K a4250 r4260.1.only_ r4263 K [] 0 _ h4344), trivial⟩
          exact fn_playC hn99 (f := 99) (ads := [.agg (eGGraph a4245), .agg (eGJob a4246), .one (.lit (.int .i64 a4247)), .one (.lit (.int .i64 a4248)), .one (.lit (.int .i64 a4249)), .one (.lit (.int .i64 a4250)), .one (.lit (.bool a4251))]) (r := F99_res (a4250, (w4347, (true, 0)))) (pq4812 (pq4813 (pq4814 (pq4815 (pq4823 (pq4824 pz)))))) (by kernel_rfl) (by kernel_rfl)
        have hr := Option.some.inj hF
        subst hr
        have pz : HoldAll E H hn99 [.test r4337 false, .test (bnot false) true] := ⟨h4339, (bnot_f rfl), trivial⟩
        exact fn_playC hn99 (f := 99) (ads := [.agg (eGGraph a4245), .agg (eGJob a4246), .one (.lit (.int .i64 a4247)), .one (.lit (.int .i64 a4248)), .one (.lit (.int .i64 a4249)), .one (.lit (.int .i64 a4250)), .one (.lit (.bool a4251))]) (r := F99_res (a4249, ([], (true, 0)))) (pq4812 (pq4813 (pq4814 (pq4815 (pq4823 pz))))) (by kernel_rfl) (by kernel_rfl)
      refine cond_some hF (fun h4349 hF => ?_) (fun h4349 hF => ?_)
      ·
        refine bind_some hF (fun r4350 h4351 hF => ?_)
        have pq4825 : ∀ {l : List Cond}, HoldAll E H hn99 l → HoldAll E H hn99 (.test (igt a4247 40) false :: .test (bnot a4251) false :: .call 143 [.one (.lit (.int .i64 a4246.Prog))] (F143_res1 r4260) :: .test (leadsAny (Res.mk [(.agg [(.im (.lit (fnV 158))), (.im (.lit (fnV 159))), (.im (.lit (.bool r4260.1.only_))), (.im (.lit (fnV 161)))]), (.one (.im (.lit (.bool r4260.2))))] [])) false :: .call 68 [.agg (eGGraph a4245), .one (.lit (.int .i64 a4248))] (F68_res r4350) :: .test (leadsAny (Res.mk [(.one (.own 89 (.sl (len r4350) (flat eGEdge r4350))))] [])) false :: .test false false :: l) := fun z => ⟨(igt_eq h4258), (bnot_t h4259), (F143_ok1 _ h4349 (F143_ok K a4246.Prog _ h4261)), (leads_ok (by simp only [leadsAny, List.any_cons, List.any_nil, RV.leads, RC.leads, leadsT, hasSl_lit, Bool.or_false, flat_ns (eInt_ns _), flat_ns eBool_ns, flat_ns eStr_ns, flat_ns eGJob_ns, flat_ns eGEdge_ns, flat_ns eGAsked_ns, flat_ns eGMsg_ns, flat_ns eGrule_ns, flat_ns eGA199_ns, flat_ns eGA202_ns])), (F68_ok K a4245 a4248 _ h4351), (leads_ok (by simp only [leadsAny, List.any_cons, List.any_nil, RV.leads, RC.leads, leadsT, hasSl_lit, Bool.or_false, flat_ns (eInt_ns _), flat_ns eBool_ns, flat_ns eStr_ns, flat_ns eGJob_ns, flat_ns eGEdge_ns, flat_ns eGAsked_ns, flat_ns eGMsg_ns, flat_ns eGrule_ns, flat_ns eGA199_ns, flat_ns eGA202_ns])), rfl, z⟩
        refine cond_some hF (fun h4352 hF => ?_) (fun h4352 hF => ?_)
        ·
          have pq4826 : ∀ {l : List Cond}, HoldAll E H hn99 l → HoldAll E H hn99 (.test (beqb (ieq a4247 0) true) true :: .test (beqb (ieq a4247 0) true) true :: .test (beqb (ieq a4247 0) true) true :: .test (beqb (ieq a4247 0) true) true :: l) := fun z => ⟨(beqb_t h4352), (beqb_t h4352), (beqb_t h4352), (beqb_t h4352), z⟩
          refine cond_some hF (fun h4353 hF => ?_) (fun h4353 hF => ?_)
          ·
            refine bind_some hF (fun r4354 h4355 hF => ?_)
            have pq4827 : ∀ {l : List Cond}, HoldAll E H hn99 l → HoldAll E H hn99 (.test (beqb (bnot r4260.1.only_) false) true :: .test (beqb (bnot r4260.1.only_) false) true :: .test (beqb (bnot r4260.1.only_) false) true :: .test (beqb (bnot r4260.1.only_) false) true :: .test (beqb (ieq a4247 0) true) true :: .test (bnot r4260.1.only_) false :: .test (ieq a4247 0) true :: .test (beqb a4251 true) true :: .test (beqb a4251 true) true :: .test (beqb a4251 true) true :: .test (beqb a4251 true) true :: .test (beqb a4251 true) true :: .call 159 [.one (.lit (.int .i64 a4250)), .one (.lit (.int .i64 a4249))] (F159_res r4354) :: .test (leadsAny (Res.mk [(.one (.im (.lit (.bool r4354))))] [])) false :: .test a4251 true :: l) := fun z => ⟨(beqb_ff (bnot_t h4353)), (beqb_ff (bnot_t h4353)), (beqb_ff (bnot_t h4353)), (beqb_ff (bnot_t h4353)), (beqb_t h4352), (bnot_t h4353), h4352, (beqb_t h4259), (beqb_t h4259), (beqb_t h4259), (beqb_t h4259), (beqb_t h4259), (F159_ok K a4250 a4249 _ h4355), (leads_ok (by simp only [leadsAny, List.any_cons, List.any_nil, RV.leads, RC.leads, leadsT, hasSl_lit, Bool.or_false, flat_ns (eInt_ns _), flat_ns eBool_ns, flat_ns eStr_ns, flat_ns eGJob_ns, flat_ns eGEdge_ns, flat_ns eGAsked_ns, flat_ns eGMsg_ns, flat_ns eGrule_ns, flat_ns eGA199_ns, flat_ns eGA202_ns])), h4259, z⟩
            refine cond_some hF (fun h4356 hF => ?_) (fun h4356 hF => ?_)
            ·
              have pq4828 : ∀ {l : List Cond}, HoldAll E H hn99 l → HoldAll E H hn99 (.test r4354 true :: .test (bnot true) false :: .int (nlen (len r4350)) (nlen (len r4350)) :: l) := fun z => ⟨h4356, (bnot_t rfl), rfl, z⟩
              refine bind_some hF (fun y4389 h4388 hF => ?_)
              refine sum_some hF (fun w4390 hx hF => ?_) (fun w4391 hx hF => ?_)
              ·
                subst hx
                have hr := Option.some.inj hF
                subst hr
                have pz : HoldAll E H hn99 [.loop 0 c99_0 (F99_l0_1_S a4250 r4260.1.only_ r4350 [] 0) .ret (F99_l0_1_X0 a4250 r4260.1.only_ r4350 w4390)] := ⟨(F99_l0_1_ok K a4250 r4260.1.only_ r4350 K [] 0 _ h4388), trivial⟩
                exact fn_playC hn99 (f := 99) (ads := [.agg (eGGraph a4245), .agg (eGJob a4246), .one (.lit (.int .i64 a4247)), .one (.lit (.int .i64 a4248)), .one (.lit (.int .i64 a4249)), .one (.lit (.int .i64 a4250)), .one (.lit (.bool a4251))]) (r := F99_res (0, ([], (false, 8)))) (pq4812 (pq4813 (pq4814 (pq4825 (pq4826 (pq4827 (pq4828 pz))))))) (by kernel_rfl) (by kernel_rfl)
              subst hx
              have hr := Option.some.inj hF
              subst hr
              have pz : HoldAll E H hn99 [.loop 0 c99_0 (F99_l0_1_S a4250 r4260.1.only_ r4350 [] 0) (.exit 0) (F99_l0_1_X1 a4250 r4260.1.only_ r4350 w4391)] := ⟨(F99_l0_1_ok K a4250 r4260.1.only_ r4350 K [] 0 _ h4388), trivial⟩
              exact fn_playC hn99 (f := 99) (ads := [.agg (eGGraph a4245), .agg (eGJob a4246), .one (.lit (.int .i64 a4247)), .one (.lit (.int .i64 a4248)), .one (.lit (.int .i64 a4249)), .one (.lit (.int .i64 a4250)), .one (.lit (.bool a4251))]) (r := F99_res (a4250, (w4391, (true, 0)))) (pq4812 (pq4813 (pq4814 (pq4825 (pq4826 (pq4827 (pq4828 pz))))))) (by kernel_rfl) (by kernel_rfl)
            refine cond_some hF (fun h4393 hF => ?_) (fun h4393 hF => ?_)
            ·
              have pq4829 : ∀ {l : List Cond}, HoldAll E H hn99 l → HoldAll E H hn99 (.test r4354 false :: .test (bnot (ieq a4248 a4246.Source)) false :: .int (nlen (len r4350)) (nlen (len r4350)) :: l) := fun z => ⟨h4356, (bnot_t h4393), rfl, z⟩
              refine bind_some hF (fun y4399 h4398 hF => ?_)
              refine sum_some hF (fun w4400 hx hF => ?_) (fun w4401 hx hF => ?_)
              ·
                subst hx
                have hr := Option.some.inj hF
                subst hr
                have pz : HoldAll E H hn99 [.loop 0 c99_0 (F99_l0_1_S a4249 r4260.1.only_ r4350 [] 0) .ret (F99_l0_1_X0 a4249 r4260.1.only_ r4350 w4400)] := ⟨(F99_l0_1_ok K a4249 r4260.1.only_ r4350 K [] 0 _ h4398), trivial⟩
                exact fn_playC hn99 (f := 99) (ads := [.agg (eGGraph a4245), .agg (eGJob a4246), .one (.lit (.int .i64 a4247)), .one (.lit (.int .i64 a4248)), .one (.lit (.int .i64 a4249)), .one (.lit (.int .i64 a4250)), .one (.lit (.bool a4251))]) (r := F99_res (0, ([], (false, 8)))) (pq4812 (pq4813 (pq4814 (pq4825 (pq4826 (pq4827 (pq4829 pz))))))) (by kernel_rfl) (by kernel_rfl)
              subst hx
              have hr := Option.some.inj hF
              subst hr
              have pz : HoldAll E H hn99 [.loop 0 c99_0 (F99_l0_1_S a4249 r4260.1.only_ r4350 [] 0) (.exit 0) (F99_l0_1_X1 a4249 r4260.1.only_ r4350 w4401)] := ⟨(F99_l0_1_ok K a4249 r4260.1.only_ r4350 K [] 0 _ h4398), trivial⟩
              exact fn_playC hn99 (f := 99) (ads := [.agg (eGGraph a4245), .agg (eGJob a4246), .one (.lit (.int .i64 a4247)), .one (.lit (.int .i64 a4248)), .one (.lit (.int .i64 a4249)), .one (.lit (.int .i64 a4250)), .one (.lit (.bool a4251))]) (r := F99_res (a4249, (w4401, (true, 0)))) (pq4812 (pq4813 (pq4814 (pq4825 (pq4826 (pq4827 (pq4829 pz))))))) (by kernel_rfl) (by kernel_rfl)
            have hr := Option.some.inj hF
            subst hr
            have pz : HoldAll E H hn99 [.test r4354 false, .test (bnot (ieq a4248 a4246.Source)) true] := ⟨h4356, (bnot_f h4393), trivial⟩
            exact fn_playC hn99 (f := 99) (ads := [.agg (eGGraph a4245), .agg (eGJob a4246), .one (.lit (.int .i64 a4247)), .one (.lit (.int .i64 a4248)), .one (.lit (.int .i64 a4249)), .one (.lit (.int .i64 a4250)), .one (.lit (.bool a4251))]) (r := F99_res (a4249, ([], (true, 0)))) (pq4812 (pq4813 (pq4814 (pq4825 (pq4826 (pq4827 pz)))))) (by kernel_rfl) (by kernel_rfl)
          refine bind_some hF (fun r4403 h4404 hF => ?_)
          have pq4830 : ∀ {l : List Cond}, HoldAll E H hn99 l → HoldAll E H hn99 (.test (beqb (bnot r4260.1.only_) false) false :: .test (beqb (bnot r4260.1.only_) false) false :: .test (beqb (bnot r4260.1.only_) false) false :: .test (beqb (bnot r4260.1.only_) false) false :: .test (beqb (ieq a4247 0) true) true :: .test (bnot r4260.1.only_) true :: .test (ieq a4247 0) true :: .test (beqb a4251 true) true :: .test (beqb a4251 true) true :: .test (beqb a4251 true) true :: .test (beqb a4251 true) true :: .test (beqb a4251 true) true :: .call 159 [.one (.lit (.int .i64 a4250)), .one (.lit (.int .i64 a4249))] (F159_res r4403) :: .test (leadsAny (Res.mk [(.one (.im (.lit (.bool r4403))))] [])) false :: .test a4251 true :: l) := fun z => ⟨(beqb_ft (bnot_f h4353)), (beqb_ft (bnot_f h4353)), (beqb_ft (bnot_f h4353)), (beqb_ft (bnot_f h4353)), (beqb_t h4352), (bnot_f h4353), h4352, (beqb_t h4259), (beqb_t h4259), (beqb_t h4259), (beqb_t h4259), (beqb_t h4259), (F159_ok K a4250 a4249 _ h4404), (leads_ok (by simp only [leadsAny, List.any_cons, List.any_nil, RV.leads, RC.leads, leadsT, hasSl_lit, Bool.or_false, flat_ns (eInt_ns _), flat_ns eBool_ns, flat_ns eStr_ns, flat_ns eGJob_ns, flat_ns eGEdge_ns, flat_ns eGAsked_ns, flat_ns eGMsg_ns, flat_ns eGrule_ns, flat_ns eGA199_ns, flat_ns eGA202_ns])), h4259, z⟩
          refine cond_some hF (fun h4405 hF => ?_) (fun h4405 hF => ?_)
          ·
            have pq4831 : ∀ {l : List Cond}, HoldAll E H hn99 l → HoldAll E H hn99 (.test r4403 true :: .test (bnot true) false :: .int (nlen (len r4350)) (nlen (len r4350)) :: l) := fun z => ⟨h4405, (bnot_t rfl), rfl, z⟩
            refine bind_some hF (fun y4411 h4410 hF => ?_)
            refine sum_some hF (fun w4412 hx hF => ?_) (fun w4413 hx hF => ?_)
            ·
              subst hx
              have hr := Option.some.inj hF
              subst hr
              have pz : HoldAll E H hn99 [.loop 0 c99_0 (F99_l0_1_S a4250 r4260.1.only_ r4350 [] 0) .ret (F99_l0_1_X0 a4250 r4260.1.only_ r4350 w4412)] := ⟨(F99_l0_1_ok K a4250 r4260.1.only_ r4350 K [] 0 _ h4410), trivial⟩
              exact fn_playC hn99 (f := 99) (ads := [.agg (eGGraph a4245), .agg (eGJob a4246), .one (.lit (.int .i64 a4247)), .one (.lit (.int .i64 a4248)), .one (.lit (.int .i64 a4249)), .one (.lit (.int .i64 a4250)), .one (.lit (.bool a4251))]) (r := F99_res (0, ([], (false, 8)))) (pq4812 (pq4813 (pq4814 (pq4825 (pq4826 (pq4830 (pq4831 pz))))))) (by kernel_rfl) (by kernel_rfl)
            subst hx
            have hr := Option.some.inj hF
            subst hr
            have pz : HoldAll E H hn99 [.loop 0 c99_0 (F99_l0_1_S a4250 r4260.1.only_ r4350 [] 0) (.exit 0) (F99_l0_1_X1 a4250 r4260.1.only_ r4350 w4413)] := ⟨(F99_l0_1_ok K a4250 r4260.1.only_ r4350 K [] 0 _ h4410), trivial⟩
            exact fn_playC hn99 (f := 99) (ads := [.agg (eGGraph a4245), .agg (eGJob a4246), .one (.lit (.int .i64 a4247)), .one (.lit (.int .i64 a4248)), .one (.lit (.int .i64 a4249)), .one (.lit (.int .i64 a4250)), .one (.lit (.bool a4251))]) (r := F99_res (a4250, (w4413, (true, 0)))) (pq4812 (pq4813 (pq4814 (pq4825 (pq4826 (pq4830 (pq4831 pz))))))) (by kernel_rfl) (by kernel_rfl)
          have pq4832 : ∀ {l : List Cond}, HoldAll E H hn99 l → HoldAll E H hn99 (.test r4403 false :: .test (bnot true) false :: .int (nlen (len r4350)) (nlen (len r4350)) :: l) := fun z => ⟨h4405, (bnot_t rfl), rfl, z⟩
          refine bind_some hF (fun y4420 h4419 hF => ?_)
          refine sum_some hF (fun w4421 hx hF => ?_) (fun w4422 hx hF => ?_)
          ·
            subst hx
            have hr := Option.some.inj hF
            subst hr
            have pz : HoldAll E H hn99 [.loop 0 c99_0 (F99_l0_1_S a4249 r4260.1.only_ r4350 [] 0) .ret (F99_l0_1_X0 a4249 r4260.1.only_ r4350 w4421)] := ⟨(F99_l0_1_ok K a4249 r4260.1.only_ r4350 K [] 0 _ h4419), trivial⟩
            exact fn_playC hn99 (f := 99) (ads := [.agg (eGGraph a4245), .agg (eGJob a4246), .one (.lit (.int .i64 a4247)), .one (.lit (.int .i64 a4248)), .one (.lit (.int .i64 a4249)), .one (.lit (.int .i64 a4250)), .one (.lit (.bool a4251))]) (r := F99_res (0, ([], (false, 8)))) (pq4812 (pq4813 (pq4814 (pq4825 (pq4826 (pq4830 (pq4832 pz))))))) (by kernel_rfl) (by kernel_rfl)
          subst hx
          have hr := Option.some.inj hF
          subst hr
          have pz : HoldAll E H hn99 [.loop 0 c99_0 (F99_l0_1_S a4249 r4260.1.only_ r4350 [] 0) (.exit 0) (F99_l0_1_X1 a4249 r4260.1.only_ r4350 w4422)] := ⟨(F99_l0_1_ok K a4249 r4260.1.only_ r4350 K [] 0 _ h4419), trivial⟩
          exact fn_playC hn99 (f := 99) (ads := [.agg (eGGraph a4245), .agg (eGJob a4246), .one (.lit (.int .i64 a4247)), .one (.lit (.int .i64 a4248)), .one (.lit (.int .i64 a4249)), .one (.lit (.int .i64 a4250)), .one (.lit (.bool a4251))]) (r := F99_res (a4249, (w4422, (true, 0)))) (pq4812 (pq4813 (pq4814 (pq4825 (pq4826 (pq4830 (pq4832 pz))))))) (by kernel_rfl) (by kernel_rfl)
        refine bind_some hF (fun r4424 h4425 hF => ?_)
        have pq4833 : ∀ {l : List Cond}, HoldAll E H hn99 l → HoldAll E H hn99 (.test (beqb (ieq a4247 0) true) false :: .test (beqb (ieq a4247 0) true) false :: .test (beqb (ieq a4247 0) true) false :: .test (beqb (ieq a4247 0) true) false :: .test (beqb (ieq a4247 0) true) false :: .test (ieq a4247 0) false :: .test (beqb a4251 true) true :: .test (beqb a4251 true) true :: .test (beqb a4251 true) true :: .test (beqb a4251 true) true :: .test (beqb a4251 true) true :: .call 159 [.one (.lit (.int .i64 a4250)), .one (.lit (.int .i64 a4249))] (F159_res r4424) :: .test (leadsAny (Res.mk [(.one (.im (.lit (.bool r4424))))] [])) false :: .test a4251 true :: l) := fun z => ⟨(beqb_t h4352), (beqb_t h4352), (beqb_t h4352), (beqb_t h4352), (beqb_t h4352), h4352, (beqb_t h4259), (beqb_t h4259), (beqb_t h4259), (beqb_t h4259), (beqb_t h4259), (F159_ok K a4250 a4249 _ h4425), (leads_ok (by simp only [leadsAny, List.any_cons, List.any_nil, RV.leads, RC.leads, leadsT, hasSl_lit, Bool.or_false, flat_ns (eInt_ns _), flat_ns eBool_ns, flat_ns eStr_ns, flat_ns eGJob_ns, flat_ns eGEdge_ns, flat_ns eGAsked_ns, flat_ns eGMsg_ns, flat_ns eGrule_ns, flat_ns eGA199_ns, flat_ns eGA202_ns])), h4259, z⟩
        refine cond_some hF (fun h4426 hF => ?_) (fun h4426 hF => ?_)
        ·
          have pq4834 : ∀ {l : List Cond}, HoldAll E H hn99 l → HoldAll E H hn99 (.test r4424 true :: .test (bnot true) false :: .int (nlen (len r4350)) (nlen (len r4350)) :: l) := fun z => ⟨h4426, (bnot_t rfl), rfl, z⟩
          refine bind_some hF (fun y4432 h4431 hF => ?_)
          refine sum_some hF (fun w4433 hx hF => ?_) (fun w4434 hx hF => ?_)
          ·
            subst hx
            have hr := Option.some.inj hF
            subst hr
            have pz : HoldAll E H hn99 [.loop 0 c99_0 (F99_l0_1_S a4250 r4260.1.only_ r4350 [] 0) .ret (F99_l0_1_X0 a4250 r4260.1.only_ r4350 w4433)] := ⟨(F99_l0_1_ok K a4250 r4260.1.only_ r4350 K [] 0 _ h4431), trivial⟩
            exact fn_playC hn99 (f := 99) (ads := [.agg (eGGraph a4245), .agg (eGJob a4246), .one (.lit (.int .i64 a4247)), .one (.lit (.int .i64 a4248)), .one (.lit (.int .i64 a4249)), .one (.lit (.int .i64 a4250)), .one (.lit (.bool a4251))]) (r := F99_res (0, ([], (false, 8)))) (pq4812 (pq4813 (pq4814 (pq4825 (pq4833 (pq4834 pz)))))) (by kernel_rfl) (by kernel_rfl)
          subst hx
          have hr := Option.some.inj hF
          subst hr
          have pz : HoldAll E H hn99 [.loop 0 c99_0 (F99_l0_1_S a4250 r4260.1.only_ r4350 [] 0) (.exit 0) (F99_l0_1_X1 a4250 r4260.1.only_ r4350 w4434)] := ⟨(F99_l0_1_ok K a4250 r4260.1.only_ r4350 K [] 0 _ h4431), trivial⟩
          exact fn_playC hn99 (f := 99) (ads := [.agg (eGGraph a4245), .agg (eGJob a4246), .one (.lit (.int .i64 a4247)), .one (.lit (.int .i64 a4248)), .one (.lit (.int .i64 a4249)), .one (.lit (.int .i64 a4250)), .one (.lit (.bool a4251))]) (r := F99_res (a4250, (w4434, (true, 0)))) (pq4812 (pq4813 (pq4814 (pq4825 (pq4833 (pq4834 pz)))))) (by kernel_rfl) (by kernel_rfl)
        have hr := Option.some.inj hF
        subst hr
        have pz : HoldAll E H hn99 [.test r4424 false, .test (bnot false) true] := ⟨h4426, (bnot_f rfl), trivial⟩
        exact fn_playC hn99 (f := 99) (ads := [.agg (eGGraph a4245), .agg (eGJob a4246), .one (.lit (.int .i64 a4247)), .one (.lit (.int .i64 a4248)), .one (.lit (.int .i64 a4249)), .one (.lit (.int .i64 a4250)), .one (.lit (.bool a4251))]) (r := F99_res (a4249, ([], (true, 0)))) (pq4812 (pq4813 (pq4814 (pq4825 (pq4833 pz))))) (by kernel_rfl) (by kernel_rfl)
      refine cond_some hF (fun h4436 hF => ?_) (fun h4436 hF => ?_)
      ·
        refine bind_some hF (fun r4437 h4438 hF => ?_)
        have pq4835 : ∀ {l : List Cond}, HoldAll E H hn99 l → HoldAll E H hn99 (.test (igt a4247 40) false :: .test (bnot a4251) false :: .call 143 [.one (.lit (.int .i64 a4246.Prog))] (F143_res2 r4260) :: .test (leadsAny (Res.mk [(.agg [(.im (.lit (fnV 162))), (.im (.lit (fnV 159))), (.im (.lit (.bool r4260.1.only_))), (.im (.lit (fnV 163)))]), (.one (.im (.lit (.bool r4260.2))))] [])) false :: .call 68 [.agg (eGGraph a4245), .one (.lit (.int .i64 a4248))] (F68_res r4437) :: .test (leadsAny (Res.mk [(.one (.own 89 (.sl (len r4437) (flat eGEdge r4437))))] [])) false :: .test false false :: l) := fun z => ⟨(igt_eq h4258), (bnot_t h4259), (F143_ok2 _ h4436 (F143_ok K a4246.Prog _ h4261)), (leads_ok (by simp only [leadsAny, List.any_cons, List.any_nil, RV.leads, RC.leads, leadsT, hasSl_lit, Bool.or_false, flat_ns (eInt_ns _), flat_ns eBool_ns, flat_ns eStr_ns, flat_ns eGJob_ns, flat_ns eGEdge_ns, flat_ns eGAsked_ns, flat_ns eGMsg_ns, flat_ns eGrule_ns, flat_ns eGA199_ns, flat_ns eGA202_ns])), (F68_ok K a4245 a4248 _ h4438), (leads_ok (by simp only [leadsAny, List.any_cons, List.any_nil, RV.leads, RC.leads, leadsT, hasSl_lit, Bool.or_false, flat_ns (eInt_ns _), flat_ns eBool_ns, flat_ns eStr_ns, flat_ns eGJob_ns, flat_ns eGEdge_ns, flat_ns eGAsked_ns, flat_ns eGMsg_ns, flat_ns eGrule_ns, flat_ns eGA199_ns, flat_ns eGA202_ns])), rfl, z⟩
        refine cond_some hF (fun h4439 hF => ?_) (fun h4439 hF => ?_)
        ·
          have pq4836 : ∀ {l : List Cond}, HoldAll E H hn99 l → HoldAll E H hn99 (.test (beqb (ieq a4247 0) true) true :: .test (beqb (ieq a4247 0) true) true :: .test (beqb (ieq a4247 0) true) true :: .test (beqb (ieq a4247 0) true) true :: l) := fun z => ⟨(beqb_t h4439), (beqb_t h4439), (beqb_t h4439), (beqb_t h4439), z⟩
          refine cond_some hF (fun h4440 hF => ?_) (fun h4440 hF => ?_)
          ·
            refine bind_some hF (fun r4441 h4442 hF => ?_)
            have pq4837 : ∀ {l : List Cond}, HoldAll E H hn99 l → HoldAll E H hn99 (.test (beqb (bnot r4260.1.only_) false) true :: .test (beqb (bnot r4260.1.only_) false) true :: .test (beqb (bnot r4260.1.only_) false) true :: .test (beqb (bnot r4260.1.only_) false) true :: .test (beqb (ieq a4247 0) true) true :: .test (bnot r4260.1.only_) false :: .test (ieq a4247 0) true :: .test (beqb a4251 true) true :: .test (beqb a4251 true) true :: .test (beqb a4251 true) true :: .test (beqb a4251 true) true :: .test (beqb a4251 true) true :: .call 159 [.one (.lit (.int .i64 a4250)), .one (.lit (.int .i64 a4249))] (F159_res r4441) :: .test (leadsAny (Res.mk [(.one (.im (.lit (.bool r4441))))] [])) false :: .test a4251 true :: l) := fun z => ⟨(beqb_ff (bnot_t h4440)), (beqb_ff (bnot_t h4440)), (beqb_ff (bnot_t h4440)), (beqb_ff (bnot_t h4440)), (beqb_t h4439), (bnot_t h4440), h4439, (beqb_t h4259), (beqb_t h4259), (beqb_t h4259), (beqb_t h4259), (beqb_t h4259), (F159_ok K a4250 a4249 _ h4442), (leads_ok (by simp only [leadsAny, List.any_cons, List.any_nil, RV.leads, RC.leads, leadsT, hasSl_lit, Bool.or_false, flat_ns (eInt_ns _), flat_ns eBool_ns, flat_ns eStr_ns, flat_ns eGJob_ns, flat_ns eGEdge_ns, flat_ns eGAsked_ns, flat_ns eGMsg_ns, flat_ns eGrule_ns, flat_ns eGA199_ns, flat_ns eGA202_ns])), h4259, z⟩
            refine cond_some hF (fun h4443 hF => ?_) (fun h4443 hF => ?_)
            ·
              have pq4838 : ∀ {l : List Cond}, HoldAll E H hn99 l → HoldAll E H hn99 (.test r4441 true :: .test (bnot true) false :: .int (nlen (len r4437)) (nlen (len r4437)) :: l) := fun z => ⟨h4443, (bnot_t rfl), rfl, z⟩
              refine bind_some hF (fun y4474 h4473 hF => ?_)
              refine sum_some hF (fun w4475 hx hF => ?_) (fun w4476 hx hF => ?_)
              ·
                subst hx
                have hr := Option.some.inj hF
                subst hr
                have pz : HoldAll E H hn99 [.loop 0 c99_0 (F99_l0_2_S a4250 r4260.1.only_ r4437 [] 0) .ret (F99_l0_2_X0 a4250 r4260.1.only_ r4437 w4475)] := ⟨(F99_l0_2_ok K a4250 r4260.1.only_ r4437 K [] 0 _ h4473), trivial⟩
                exact fn_playC hn99 (f := 99) (ads := [.agg (eGGraph a4245), .agg (eGJob a4246), .one (.lit (.int .i64 a4247)), .one (.lit (.int .i64 a4248)), .one (.lit (.int .i64 a4249)), .one (.lit (.int .i64 a4250)), .one (.lit (.bool a4251))]) (r := F99_res (0, ([], (false, 8)))) (pq4812 (pq4813 (pq4814 (pq4835 (pq4836 (pq4837 (pq4838 pz))))))) (by kernel_rfl) (by kernel_rfl)
              subst hx
              have hr := Option.some.inj hF
              subst hr
              have pz : HoldAll E H hn99 [.loop 0 c99_0 (F99_l0_2_S a4250 r4260.1.only_ r4437 [] 0) (.exit 0) (F99_l0_2_X1 a4250 r4260.1.only_ r4437 w4476)] := ⟨(F99_l0_2_ok K a4250 r4260.1.only_ r4437 K [] 0 _ h4473), trivial⟩
              exact fn_playC hn99 (f := 99) (ads := [.agg (eGGraph a4245), .agg (eGJob a4246), .one (.lit (.int .i64 a4247)), .one (.lit (.int .i64 a4248)), .one (.lit (.int .i64 a4249)), .one (.lit (.int .i64 a4250)), .one (.lit (.bool a4251))]) (r := F99_res (a4250, (w4476, (true, 0)))) (pq4812 (pq4813 (pq4814 (pq4835 (pq4836 (pq4837 (pq4838 pz))))))) (by kernel_rfl) (by kernel_rfl)
            refine cond_some hF (fun h4478 hF => ?_) (fun h4478 hF => ?_)
            ·
              have pq4839 : ∀ {l : List Cond}, HoldAll E H hn99 l → HoldAll E H hn99 (.test r4441 false :: .test (bnot (ieq a4248 a4246.Source)) false :: .int (nlen (len r4437)) (nlen (len r4437)) :: l) := fun z => ⟨h4443, (bnot_t h4478), rfl, z⟩
              refine bind_some hF (fun y4484 h4483 hF => ?_)
              refine sum_some hF (fun w4485 hx hF => ?_) (fun w4486 hx hF => ?_)
              ·
                subst hx
                have hr := Option.some.inj hF
                subst hr
                have pz : HoldAll E H hn99 [.loop 0 c99_0 (F99_l0_2_S a4249 r4260.1.only_ r4437 [] 0) .ret (F99_l0_2_X0 a4249 r4260.1.only_ r4437 w4485)] := ⟨(F99_l0_2_ok K a4249 r4260.1.only_ r4437 K [] 0 _ h4483), trivial⟩
                exact fn_playC hn99 (f := 99) (ads := [.agg (eGGraph a4245), .agg (eGJob a4246), .one (.lit (.int .i64 a4247)), .one (.lit (.int .i64 a4248)), .one (.lit (.int .i64 a4249)), .one (.lit (.int .i64 a4250)), .one (.lit (.bool a4251))]) (r := F99_res (0, ([], (false, 8)))) (pq4812 (pq4813 (pq4814 (pq4835 (pq4836 (pq4837 (pq4839 pz))))))) (by kernel_rfl) (by kernel_rfl)
              subst hx
              have hr := Option.some.inj hF
              subst hr
              have pz : HoldAll E H hn99 [.loop 0 c99_0 (F99_l0_2_S a4249 r4260.1.only_ r4437 [] 0) (.exit 0) (F99_l0_2_X1 a4249 r4260.1.only_ r4437 w4486)] := ⟨(F99_l0_2_ok K a4249 r4260.1.only_ r4437 K [] 0 _ h4483), trivial⟩
              exact fn_playC hn99 (f := 99) (ads := [.agg (eGGraph a4245), .agg (eGJob a4246), .one (.lit (.int .i64 a4247)), .one (.lit (.int .i64 a4248)), .one (.lit (.int .i64 a4249)), .one (.lit (.int .i64 a4250)), .one (.lit (.bool a4251))]) (r := F99_res (a4249, (w4486, (true, 0)))) (pq4812 (pq4813 (pq4814 (pq4835 (pq4836 (pq4837 (pq4839 pz))))))) (by kernel_rfl) (by kernel_rfl)
            have hr := Option.some.inj hF
            subst hr
            have pz : HoldAll E H hn99 [.test r4441 false, .test (bnot (ieq a4248 a4246.Source)) true] := ⟨h4443, (bnot_f h4478), trivial⟩
            exact fn_playC hn99 (f := 99) (ads := [.agg (eGGraph a4245), .agg (eGJob a4246), .one (.lit (.int .i64 a4247)), .one (.lit (.int .i64 a4248)), .one (.lit (.int .i64 a4249)), .one (.lit (.int .i64 a4250)), .one (.lit (.bool a4251))]) (r := F99_res (a4249, ([], (true, 0)))) (pq4812 (pq4813 (pq4814 (pq4835 (pq4836 (pq4837 pz)))))) (by kernel_rfl) (by kernel_rfl)
          refine bind_some hF (fun r4488 h4489 hF => ?_)
          have pq4840 : ∀ {l : List Cond}, HoldAll E H hn99 l → HoldAll E H hn99 (.test (beqb (bnot r4260.1.only_) false) false :: .test (beqb (bnot r4260.1.only_) false) false :: .test (beqb (bnot r4260.1.only_) false) false :: .test (beqb (bnot r4260.1.only_) false) false :: .test (beqb (ieq a4247 0) true) true :: .test (bnot r4260.1.only_) true :: .test (ieq a4247 0) true :: .test (beqb a4251 true) true :: .test (beqb a4251 true) true :: .test (beqb a4251 true) true :: .test (beqb a4251 true) true :: .test (beqb a4251 true) true :: .call 159 [.one (.lit (.int .i64 a4250)), .one (.lit (.int .i64 a4249))] (F159_res r4488) :: .test (leadsAny (Res.mk [(.one (.im (.lit (.bool r4488))))] [])) false :: .test a4251 true :: l) := fun z => ⟨(beqb_ft (bnot_f h4440)), (beqb_ft (bnot_f h4440)), (beqb_ft (bnot_f h4440)), (beqb_ft (bnot_f h4440)), (beqb_t h4439), (bnot_f h4440), h4439, (beqb_t h4259), (beqb_t h4259), (beqb_t h4259), (beqb_t h4259), (beqb_t h4259), (F159_ok K a4250 a4249 _ h4489), (leads_ok (by simp only [leadsAny, List.any_cons, List.any_nil, RV.leads, RC.leads, leadsT, hasSl_lit, Bool.or_false, flat_ns (eInt_ns _), flat_ns eBool_ns, flat_ns eStr_ns, flat_ns eGJob_ns, flat_ns eGEdge_ns, flat_ns eGAsked_ns, flat_ns eGMsg_ns, flat_ns eGrule_ns, flat_ns eGA199_ns, flat_ns eGA202_ns])), h4259, z⟩
          refine cond_some hF (fun h4490 hF => ?_) (fun h4490 hF => ?_)
          ·
            have pq4841 : ∀ {l : List Cond}, HoldAll E H hn99 l → HoldAll E H hn99 (.test r4488 true :: .test (bnot true) false :: .int (nlen (len r4437)) (nlen (len r4437)) :: l) := fun z => ⟨h4490, (bnot_t rfl), rfl, z⟩
            refine bind_some hF (fun y4496 h4495 hF => ?_)
            refine sum_some hF (fun w4497 hx hF => ?_) (fun w4498 hx hF => ?_)
            ·
              subst hx
              have hr := Option.some.inj hF
              subst hr
              have pz : HoldAll E H hn99 [.loop 0 c99_0 (F99_l0_2_S a4250 r4260.1.only_ r4437 [] 0) .ret (F99_l0_2_X0 a4250 r4260.1.only_ r4437 w4497)] := ⟨(F99_l0_2_ok K a4250 r4260.1.only_ r4437 K [] 0 _ h4495), trivial⟩
              exact fn_playC hn99 (f := 99) (ads := [.agg (eGGraph a4245), .agg (eGJob a4246), .one (.lit (.int .i64 a4247)), .one (.lit (.int .i64 a4248)), .one (.lit (.int .i64 a4249)), .one (.lit (.int .i64 a4250)), .one (.lit (.bool a4251))]) (r := F99_res (0, ([], (false, 8)))) (pq4812 (pq4813 (pq4814 (pq4835 (pq4836 (pq4840 (pq4841 pz))))))) (by kernel_rfl) (by kernel_rfl)
            subst hx
            have hr := Option.some.inj hF
            subst hr
            have pz : HoldAll E H hn99 [.loop 0 c99_0 (F99_l0_2_S a4250 r4260.1.only_ r4437 [] 0) (.exit 0) (F99_l0_2_X1 a4250 r4260.1.only_ r4437 w4498)] := ⟨(F99_l0_2_ok K a4250 r4260.1.only_ r4437 K [] 0 _ h4495), trivial⟩
            exact fn_playC hn99 (f := 99) (ads := [.agg (eGGraph a4245), .agg (eGJob a4246), .one (.lit (.int .i64 a4247)), .one (.lit (.int .i64 a4248)), .one (.lit (.int .i64 a4249)), .one (.lit (.int .i64 a4250)), .one (.lit (.bool a4251))]) (r := F99_res (a4250, (w4498, (true, 0)))) (pq4812 (pq4813 (pq4814 (pq4835 (pq4836 (pq4840 (pq4841 pz))))))) (by kernel_rfl) (by kernel_rfl)
          have pq4842 : ∀ {l : List Cond}, HoldAll E H hn99 l → HoldAll E H hn99 (.test r4488 false :: .test (bnot true) false :: .int (nlen (len r4437)) (nlen (len r4437)) :: l) := fun z => ⟨h4490, (bnot_t rfl), rfl, z⟩
          refine bind_some hF (fun y4505 h4504 hF => ?_)
          refine sum_some hF (fun w4506 hx hF => ?_) (fun w4507 hx hF => ?_)
          ·
            subst hx
            have hr := Option.some.inj hF
            subst hr
            have pz : HoldAll E H hn99 [.loop 0 c99_0 (F99_l0_2_S a4249 r4260.1.only_ r4437 [] 0) .ret (F99_l0_2_X0 a4249 r4260.1.only_ r4437 w4506)] := ⟨(F99_l0_2_ok K a4249 r4260.1.only_ r4437 K [] 0 _ h4504), trivial⟩
            exact fn_playC hn99 (f := 99) (ads := [.agg (eGGraph a4245), .agg (eGJob a4246), .one (.lit (.int .i64 a4247)), .one (.lit (.int .i64 a4248)), .one (.lit (.int .i64 a4249)), .one (.lit (.int .i64 a4250)), .one (.lit (.bool a4251))]) (r := F99_res (0, ([], (false, 8)))) (pq4812 (pq4813 (pq4814 (pq4835 (pq4836 (pq4840 (pq4842 pz))))))) (by kernel_rfl) (by kernel_rfl)
          subst hx
          have hr := Option.some.inj hF
          subst hr
          have pz : HoldAll E H hn99 [.loop 0 c99_0 (F99_l0_2_S a4249 r4260.1.only_ r4437 [] 0) (.exit 0) (F99_l0_2_X1 a4249 r4260.1.only_ r4437 w4507)] := ⟨(F99_l0_2_ok K a4249 r4260.1.only_ r4437 K [] 0 _ h4504), trivial⟩
          exact fn_playC hn99 (f := 99) (ads := [.agg (eGGraph a4245), .agg (eGJob a4246), .one (.lit (.int .i64 a4247)), .one (.lit (.int .i64 a4248)), .one (.lit (.int .i64 a4249)), .one (.lit (.int .i64 a4250)), .one (.lit (.bool a4251))]) (r := F99_res (a4249, (w4507, (true, 0)))) (pq4812 (pq4813 (pq4814 (pq4835 (pq4836 (pq4840 (pq4842 pz))))))) (by kernel_rfl) (by kernel_rfl)
        refine bind_some hF (fun r4509 h4510 hF => ?_)
        have pq4843 : ∀ {l : List Cond}, HoldAll E H hn99 l → HoldAll E H hn99 (.test (beqb (ieq a4247 0) true) false :: .test (beqb (ieq a4247 0) true) false :: .test (beqb (ieq a4247 0) true) false :: .test (beqb (ieq a4247 0) true) false :: .test (beqb (ieq a4247 0) true) false :: .test (ieq a4247 0) false :: .test (beqb a4251 true) true :: .test (beqb a4251 true) true :: .test (beqb a4251 true) true :: .test (beqb a4251 true) true :: .test (beqb a4251 true) true :: .call 159 [.one (.lit (.int .i64 a4250)), .one (.lit (.int .i64 a4249))] (F159_res r4509) :: .test (leadsAny (Res.mk [(.one (.im (.lit (.bool r4509))))] [])) false :: .test a4251 true :: l) := fun z => ⟨(beqb_t h4439), (beqb_t h4439), (beqb_t h4439), (beqb_t h4439), (beqb_t h4439), h4439, (beqb_t h4259), (beqb_t h4259), (beqb_t h4259), (beqb_t h4259), (beqb_t h4259), (F159_ok K a4250 a4249 _ h4510), (leads_ok (by simp only [leadsAny, List.any_cons, List.any_nil, RV.leads, RC.leads, leadsT, hasSl_lit, Bool.or_false, flat_ns (eInt_ns _), flat_ns eBool_ns, flat_ns eStr_ns, flat_ns eGJob_ns, flat_ns eGEdge_ns, flat_ns eGAsked_ns, flat_ns eGMsg_ns, flat_ns eGrule_ns, flat_ns eGA199_ns, flat_ns eGA202_ns])), h4259, z⟩
        refine cond_some hF (fun h4511 hF => ?_) (fun h4511 hF => ?_)
        ·
          have pq4844 : ∀ {l : List Cond}, HoldAll E H hn99 l → HoldAll E H hn99 (.test r4509 true :: .test (bnot true) false :: .int (nlen (len r4437)) (nlen (len r4437)) :: l) := fun z => ⟨h4511, (bnot_t rfl), rfl, z⟩
          refine bind_some hF (fun y4517 h4516 hF => ?_)
          refine sum_some hF (fun w4518 hx hF => ?_) (fun w4519 hx hF => ?_)
          ·
            subst hx
            have hr := Option.some.inj hF
            subst hr
            have pz : HoldAll E H hn99 [.loop 0 c99_0 (F99_l0_2_S a4250 r4260.1.only_ r4437 [] 0) .ret (F99_l0_2_X0 a4250 r4260.1.only_ r4437 w4518)] := ⟨(F99_l0_2_ok K a4250 r4260.1.only_ r4437 K [] 0 _ h4516), trivial⟩
            exact fn_playC hn99 (f := 99) (ads := [.agg (eGGraph a4245), .agg (eGJob a4246), .one (.lit (.int .i64 a4247)), .one (.lit (.int .i64 a4248)), .one (.lit (.int .i64 a4249)), .one (.lit (.int .i64 a4250)), .one (.lit (.bool a4251))]) (r := F99_res (0, ([], (false, 8)))) (pq4812 (pq4813 (pq4814 (pq4835 (pq4843 (pq4844 pz)))))) (by kernel_rfl) (by kernel_rfl)
          subst hx
          have hr := Option.some.inj hF
          subst hr
          have pz : HoldAll E H hn99 [.loop 0 c99_0 (F99_l0_2_S a4250 r4260.1.only_ r4437 [] 0) (.exit 0) (F99_l0_2_X1 a4250 r4260.1.only_ r4437 w4519)] := ⟨(F99_l0_2_ok K a4250 r4260.1.only_ r4437 K [] 0 _ h4516), trivial⟩
          exact fn_playC hn99 (f := 99) (ads := [.agg (eGGraph a4245), .agg (eGJob a4246), .one (.lit (.int .i64 a4247)), .one (.lit (.int .i64 a4248)), .one (.lit (.int .i64 a4249)), .one (.lit (.int .i64 a4250)), .one (.lit (.bool a4251))]) (r := F99_res (a4250, (w4519, (true, 0)))) (pq4812 (pq4813 (pq4814 (pq4835 (pq4843 (pq4844 pz)))))) (by kernel_rfl) (by kernel_rfl)
        have hr := Option.some.inj hF
        subst hr
        have pz : HoldAll E H hn99 [.test r4509 false, .test (bnot false) true] := ⟨h4511, (bnot_f rfl), trivial⟩
        exact fn_playC hn99 (f := 99) (ads := [.agg (eGGraph a4245), .agg (eGJob a4246), .one (.lit (.int .i64 a4247)), .one (.lit (.int .i64 a4248)), .one (.lit (.int .i64 a4249)), .one (.lit (.int .i64 a4250)), .one (.lit (.bool a4251))]) (r := F99_res (a4249, ([], (true, 0)))) (pq4812 (pq4813 (pq4814 (pq4835 (pq4843 pz))))) (by kernel_rfl) (by kernel_rfl)
      refine cond_some hF (fun h4521 hF => ?_) (fun h4521 hF => ?_)
      ·
        refine bind_some hF (fun r4522 h4523 hF => ?_)
        have pq4845 : ∀ {l : List Cond}, HoldAll E H hn99 l → HoldAll E H hn99 (.test (igt a4247 40) false :: .test (bnot a4251) false :: .call 143 [.one (.lit (.int .i64 a4246.Prog))] (F143_res3 r4260) :: .test (leadsAny (Res.mk [(.agg [(.im (.lit (fnV 164))), (.im (.lit (fnV 165))), (.im (.lit (.bool r4260.1.only_))), (.im (.lit (fnV 163)))]), (.one (.im (.lit (.bool r4260.2))))] [])) false :: .call 68 [.agg (eGGraph a4245), .one (.lit (.int .i64 a4248))] (F68_res r4522) :: .test (leadsAny (Res.mk [(.one (.own 89 (.sl (len r4522) (flat eGEdge r4522))))] [])) false :: .test false false :: l) := fun z => ⟨(igt_eq h4258), (bnot_t h4259), (F143_ok3 _ h4521 (F143_ok K a4246.Prog _ h4261)), (leads_ok (by simp only [leadsAny, List.any_cons, List.any_nil, RV.leads, RC.leads, leadsT, hasSl_lit, Bool.or_false, flat_ns (eInt_ns _), flat_ns eBool_ns, flat_ns eStr_ns, flat_ns eGJob_ns, flat_ns eGEdge_ns, flat_ns eGAsked_ns, flat_ns eGMsg_ns, flat_ns eGrule_ns, flat_ns eGA199_ns, flat_ns eGA202_ns])), (F68_ok K a4245 a4248 _ h4523), (leads_ok (by simp only [leadsAny, List.any_cons, List.any_nil, RV.leads, RC.leads, leadsT, hasSl_lit, Bool.or_false, flat_ns (eInt_ns _), flat_ns eBool_ns, flat_ns eStr_ns, flat_ns eGJob_ns, flat_ns eGEdge_ns, flat_ns eGAsked_ns, flat_ns eGMsg_ns, flat_ns eGrule_ns, flat_ns eGA199_ns, flat_ns eGA202_ns])), rfl, z⟩
        refine cond_some hF (fun h4524 hF => ?_) (fun h4524 hF => ?_)
        ·
          have pq4846 : ∀ {l : List Cond}, HoldAll E H hn99 l → HoldAll E H hn99 (.test (beqb (ieq a4247 0) true) true :: .test (beqb (ieq a4247 0) true) true :: .test (beqb (ieq a4247 0) true) true :: .test (beqb (ieq a4247 0) true) true :: l) := fun z => ⟨(beqb_t h4524), (beqb_t h4524), (beqb_t h4524), (beqb_t h4524), z⟩
          refine cond_some hF (fun h4525 hF => ?_) (fun h4525 hF => ?_)
          ·
            refine bind_some hF (fun r4526 h4527 hF => ?_)
            have pq4847 : ∀ {l : List Cond}, HoldAll E H hn99 l → HoldAll E H hn99 (.test (beqb (bnot r4260.1.only_) false) true :: .test (beqb (bnot r4260.1.only_) false) true :: .test (beqb (bnot r4260.1.only_) false) true :: .test (beqb (bnot r4260.1.only_) false) true :: .test (beqb (ieq a4247 0) true) true :: .test (bnot r4260.1.only_) false :: .test (ieq a4247 0) true :: .test (beqb a4251 true) true :: .test (beqb a4251 true) true :: .test (beqb a4251 true) true :: .test (beqb a4251 true) true :: .test (beqb a4251 true) true :: .call 165 [.one (.lit (.int .i64 a4250)), .one (.lit (.int .i64 a4249))] (F165_res r4526) :: .test (leadsAny (Res.mk [(.one (.im (.lit (.bool r4526))))] [])) false :: .test a4251 true :: l) := fun z => ⟨(beqb_ff (bnot_t h4525)), (beqb_ff (bnot_t h4525)), (beqb_ff (bnot_t h4525)), (beqb_ff (bnot_t h4525)), (beqb_t h4524), (bnot_t h4525), h4524, (beqb_t h4259), (beqb_t h4259), (beqb_t h4259), (beqb_t h4259), (beqb_t h4259), (F165_ok K a4250 a4249 _ h4527), (leads_ok (by simp only [leadsAny, List.any_cons, List.any_nil, RV.leads, RC.leads, leadsT, hasSl_lit, Bool.or_false, flat_ns (eInt_ns _), flat_ns eBool_ns, flat_ns eStr_ns, flat_ns eGJob_ns, flat_ns eGEdge_ns, flat_ns eGAsked_ns, flat_ns eGMsg_ns, flat_ns eGrule_ns, flat_ns eGA199_ns, flat_ns eGA202_ns])), h4259, z⟩
            refine cond_some hF (fun h4528 hF => ?_) (fun h4528 hF => ?_)
            ·
              have pq4848 : ∀ {l : List Cond}, HoldAll E H hn99 l → HoldAll E H hn99 (.test r4526 true :: .test (bnot true) false :: .int (nlen (len r4522)) (nlen (len r4522)) :: l) := fun z => ⟨h4528, (bnot_t rfl), rfl, z⟩
              refine bind_some hF (fun y4556 h4555 hF => ?_)
              refine sum_some hF (fun w4557 hx hF => ?_) (fun w4558 hx hF => ?_)
              ·
                subst hx
                have hr := Option.some.inj hF
                subst hr
                have pz : HoldAll E H hn99 [.loop 0 c99_0 (F99_l0_3_S a4250 r4260.1.only_ r4522 [] 0) .ret (F99_l0_3_X0 a4250 r4260.1.only_ r4522 w4557)] := ⟨(F99_l0_3_ok K a4250 r4260.1.only_ r4522 K [] 0 _ h4555), trivial⟩
                exact fn_playC hn99 (f := 99) (ads := [.agg (eGGraph a4245), .agg (eGJob a4246), .one (.lit (.int .i64 a4247)), .one (.lit (.int .i64 a4248)), .one (.lit (.int .i64 a4249)), .one (.lit (.int .i64 a4250)), .one (.lit (.bool a4251))]) (r := F99_res (0, ([], (false, 8)))) (pq4812 (pq4813 (pq4814 (pq4845 (pq4846 (pq4847 (pq4848 pz))))))) (by kernel_rfl) (by kernel_rfl)
              subst hx
              have hr := Option.some.inj hF
              subst hr
              have pz : HoldAll E H hn99 [.loop 0 c99_0 (F99_l0_3_S a4250 r4260.1.only_ r4522 [] 0) (.exit 0) (F99_l0_3_X1 a4250 r4260.1.only_ r4522 w4558)] := ⟨(F99_l0_3_ok K a4250 r4260.1.only_ r4522 K [] 0 _ h4555), trivial⟩
              exact fn_playC hn99 (f := 99) (ads := [.agg (eGGraph a4245), .agg (eGJob a4246), .one (.lit (.int .i64 a4247)), .one (.lit (.int .i64 a4248)), .one (.lit (.int .i64 a4249)), .one (.lit (.int .i64 a4250)), .one (.lit (.bool a4251))]) (r := F99_res (a4250, (w4558, (true, 0)))) (pq4812 (pq4813 (pq4814 (pq4845 (pq4846 (pq4847 (pq4848 pz))))))) (by kernel_rfl) (by kernel_rfl)
            refine cond_some hF (fun h4560 hF => ?_) (fun h4560 hF => ?_)
            ·
              have pq4849 : ∀ {l : List Cond}, HoldAll E H hn99 l → HoldAll E H hn99 (.test r4526 false :: .test (bnot (ieq a4248 a4246.Source)) false :: .int (nlen (len r4522)) (nlen (len r4522)) :: l) := fun z => ⟨h4528, (bnot_t h4560), rfl, z⟩
              refine bind_some hF (fun y4566 h4565 hF => ?_)
              refine sum_some hF (fun w4567 hx hF => ?_) (fun w4568 hx hF => ?_)
              ·
                subst hx
                have hr := Option.some.inj hF
                subst hr
                have pz : HoldAll E H hn99 [.loop 0 c99_0 (F99_l0_3_S a4249 r4260.1.only_ r4522 [] 0) .ret (F99_l0_3_X0 a4249 r4260.1.only_ r4522 w4567)] := ⟨(F99_l0_3_ok K a4249 r4260.1.only_ r4522 K [] 0 _ h4565), trivial⟩
                exact fn_playC hn99 (f := 99) (ads := [.agg (eGGraph a4245), .agg (eGJob a4246), .one (.lit (.int .i64 a4247)), .one (.lit (.int .i64 a4248)), .one (.lit (.int .i64 a4249)), .one (.lit (.int .i64 a4250)), .one (.lit (.bool a4251))]) (r := F99_res (0, ([], (false, 8)))) (pq4812 (pq4813 (pq4814 (pq4845 (pq4846 (pq4847 (pq4849 pz))))))) (by kernel_rfl) (by kernel_rfl)
              subst hx
              have hr := Option.some.inj hF
              subst hr
              have pz : HoldAll E H hn99 [.loop 0 c99_0 (F99_l0_3_S a4249 r4260.1.only_ r4522 [] 0) (.exit 0) (F99_l0_3_X1 a4249 r4260.1.only_ r4522 w4568)] := ⟨(F99_l0_3_ok K a4249 r4260.1.only_ r4522 K [] 0 _ h4565), trivial⟩
              exact fn_playC hn99 (f := 99) (ads := [.agg (eGGraph a4245), .agg (eGJob a4246), .one (.lit (.int .i64 a4247)), .one (.lit (.int .i64 a4248)), .one (.lit (.int .i64 a4249)), .one (.lit (.int .i64 a4250)), .one (.lit (.bool a4251))]) (r := F99_res (a4249, (w4568, (true, 0)))) (pq4812 (pq4813 (pq4814 (pq4845 (pq4846 (pq4847 (pq4849 pz))))))) (by kernel_rfl) (by kernel_rfl)
            have hr := Option.some.inj hF
            subst hr
            have pz : HoldAll E H hn99 [.test r4526 false, .test (bnot (ieq a4248 a4246.Source)) true] := ⟨h4528, (bnot_f h4560), trivial⟩
            exact fn_playC hn99 (f := 99) (ads := [.agg (eGGraph a4245), .agg (eGJob a4246), .one (.lit (.int .i64 a4247)), .one (.lit (.int .i64 a4248)), .one (.lit (.int .i64 a4249)), .one (.lit (.int .i64 a4250)), .one (.lit (.bool a4251))]) (r := F99_res (a4249, ([], (true, 0)))) (pq4812 (pq4813 (pq4814 (pq4845 (pq4846 (pq4847 pz)))))) (by kernel_rfl) (by kernel_rfl)
          refine bind_some hF (fun r4570 h4571 hF => ?_)
          have pq4850 : ∀ {l : List Cond}, HoldAll E H hn99 l → HoldAll E H hn99 (.test (beqb (bnot r4260.1.only_) false) false :: .test (beqb (bnot r4260.1.only_) false) false :: .test (beqb (bnot r4260.1.only_) false) false :: .test (beqb (bnot r4260.1.only_) false) false :: .test (beqb (ieq a4247 0) true) true :: .test (bnot r4260.1.only_) true :: .test (ieq a4247 0) true :: .test (beqb a4251 true) true :: .test (beqb a4251 true) true :: .test (beqb a4251 true) true :: .test (beqb a4251 true) true :: .test (beqb a4251 true) true :: .call 165 [.one (.lit (.int .i64 a4250)), .one (.lit (.int .i64 a4249))] (F165_res r4570) :: .test (leadsAny (Res.mk [(.one (.im (.lit (.bool r4570))))] [])) false :: .test a4251 true :: l) := fun z => ⟨(beqb_ft (bnot_f h4525)), (beqb_ft (bnot_f h4525)), (beqb_ft (bnot_f h4525)), (beqb_ft (bnot_f h4525)), (beqb_t h4524), (bnot_f h4525), h4524, (beqb_t h4259), (beqb_t h4259), (beqb_t h4259), (beqb_t h4259), (beqb_t h4259), (F165_ok K a4250 a4249 _ h4571), (leads_ok (by simp only [leadsAny, List.any_cons, List.any_nil, RV.leads, RC.leads, leadsT, hasSl_lit, Bool.or_false, flat_ns (eInt_ns _), flat_ns eBool_ns, flat_ns eStr_ns, flat_ns eGJob_ns, flat_ns eGEdge_ns, flat_ns eGAsked_ns, flat_ns eGMsg_ns, flat_ns eGrule_ns, flat_ns eGA199_ns, flat_ns eGA202_ns])), h4259, z⟩
          refine cond_some hF (fun h4572 hF => ?_) (fun h4572 hF => ?_)
          ·
            have pq4851 : ∀ {l : List Cond}, HoldAll E H hn99 l → HoldAll E H hn99 (.test r4570 true :: .test (bnot true) false :: .int (nlen (len r4522)) (nlen (len r4522)) :: l) := fun z => ⟨h4572, (bnot_t rfl), rfl, z⟩
            refine bind_some hF (fun y4578 h4577 hF => ?_)
            refine sum_some hF (fun w4579 hx hF => ?_) (fun w4580 hx hF => ?_)
            ·
              subst hx
              have hr := Option.some.inj hF
              subst hr
              have pz : HoldAll E H hn99 [.loop 0 c99_0 (F99_l0_3_S a4250 r4260.1.only_ r4522 [] 0) .ret (F99_l0_3_X0 a4250 r4260.1.only_ r4522 w4579)] := ⟨(F99_l0_3_ok K a4250 r4260.1.only_ r4522 K [] 0 _ h4577), trivial⟩
              exact fn_playC hn99 (f := 99) (ads := [.agg (eGGraph a4245), .agg (eGJob a4246), .one (.lit (.int .i64 a4247)), .one (.lit (.int .i64 a4248)), .one (.lit (.int .i64 a4249)), .one (.lit (.int .i64 a4250)), .one (.lit (.bool a4251))]) (r := F99_res (0, ([], (false, 8)))) (pq4812 (pq4813 (pq4814 (pq4845 (pq4846 (pq4850 (pq4851 pz))))))) (by kernel_rfl) (by kernel_rfl)
            subst hx
            have hr := Option.some.inj hF
            subst hr
            have pz : HoldAll E H hn99 [.loop 0 c99_0 (F99_l0_3_S a4250 r4260.1.only_ r4522 [] 0) (.exit 0) (F99_l0_3_X1 a4250 r4260.1.only_ r4522 w4580)] := ⟨(F99_l0_3_ok K a4250 r4260.1.only_ r4522 K [] 0 _ h4577), trivial⟩
            exact fn_playC hn99 (f := 99) (ads := [.agg (eGGraph a4245), .agg (eGJob a4246), .one (.lit (.int .i64 a4247)), .one (.lit (.int .i64 a4248)), .one (.lit (.int .i64 a4249)), .one (.lit (.int .i64 a4250)), .one (.lit (.bool a4251))]) (r := F99_res (a4250, (w4580, (true, 0)))) (pq4812 (pq4813 (pq4814 (pq4845 (pq4846 (pq4850 (pq4851 pz))))))) (by kernel_rfl) (by kernel_rfl)
          have pq4852 : ∀ {l : List Cond}, HoldAll E H hn99 l → HoldAll E H hn99 (.test r4570 false :: .test (bnot true) false :: .int (nlen (len r4522)) (nlen (len r4522)) :: l) := fun z => ⟨h4572, (bnot_t rfl), rfl, z⟩
          refine bind_some hF (fun y4587 h4586 hF => ?_)
          refine sum_some hF (fun w4588 hx hF => ?_) (fun w4589 hx hF => ?_)
          ·
            subst hx
            have hr := Option.some.inj hF
            subst hr
            have pz : HoldAll E H hn99 [.loop 0 c99_0 (F99_l0_3_S a4249 r4260.1.only_ r4522 [] 0) .ret (F99_l0_3_X0 a4249 r4260.1.only_ r4522 w4588)] := ⟨(F99_l0_3_ok K a4249 r4260.1.only_ r4522 K [] 0 _ h4586), trivial⟩
            exact fn_playC hn99 (f := 99) (ads := [.agg (eGGraph a4245), .agg (eGJob a4246), .one (.lit (.int .i64 a4247)), .one (.lit (.int .i64 a4248)), .one (.lit (.int .i64 a4249)), .one (.lit (.int .i64 a4250)), .one (.lit (.bool a4251))]) (r := F99_res (0, ([], (false, 8)))) (pq4812 (pq4813 (pq4814 (pq4845 (pq4846 (pq4850 (pq4852 pz))))))) (by kernel_rfl) (by kernel_rfl)
          subst hx
          have hr := Option.some.inj hF
          subst hr
          have pz : HoldAll E H hn99 [.loop 0 c99_0 (F99_l0_3_S a4249 r4260.1.only_ r4522 [] 0) (.exit 0) (F99_l0_3_X1 a4249 r4260.1.only_ r4522 w4589)] := ⟨(F99_l0_3_ok K a4249 r4260.1.only_ r4522 K [] 0 _ h4586), trivial⟩
          exact fn_playC hn99 (f := 99) (ads := [.agg (eGGraph a4245), .agg (eGJob a4246), .one (.lit (.int .i64 a4247)), .one (.lit (.int .i64 a4248)), .one (.lit (.int .i64 a4249)), .one (.lit (.int .i64 a4250)), .one (.lit (.bool a4251))]) (r := F99_res (a4249, (w4589, (true, 0)))) (pq4812 (pq4813 (pq4814 (pq4845 (pq4846 (pq4850 (pq4852 pz))))))) (by kernel_rfl) (by kernel_rfl)
        refine bind_some hF (fun r4591 h4592 hF => ?_)
        have pq4853 : ∀ {l : List Cond}, HoldAll E H hn99 l → HoldAll E H hn99 (.test (beqb (ieq a4247 0) true) false :: .test (beqb (ieq a4247 0) true) false :: .test (beqb (ieq a4247 0) true) false :: .test (beqb (ieq a4247 0) true) false :: .test (beqb (ieq a4247 0) true) false :: .test (ieq a4247 0) false :: .test (beqb a4251 true) true :: .test (beqb a4251 true) true :: .test (beqb a4251 true) true :: .test (beqb a4251 true) true :: .test (beqb a4251 true) true :: .call 165 [.one (.lit (.int .i64 a4250)), .one (.lit (.int .i64 a4249))] (F165_res r4591) :: .test (leadsAny (Res.mk [(.one (.im (.lit (.bool r4591))))] [])) false :: .test a4251 true :: l) := fun z => ⟨(beqb_t h4524), (beqb_t h4524), (beqb_t h4524), (beqb_t h4524), (beqb_t h4524), h4524, (beqb_t h4259), (beqb_t h4259), (beqb_t h4259), (beqb_t h4259), (beqb_t h4259), (F165_ok K a4250 a4249 _ h4592), (leads_ok (by simp only [leadsAny, List.any_cons, List.any_nil, RV.leads, RC.leads, leadsT, hasSl_lit, Bool.or_false, flat_ns (eInt_ns _), flat_ns eBool_ns, flat_ns eStr_ns, flat_ns eGJob_ns, flat_ns eGEdge_ns, flat_ns eGAsked_ns, flat_ns eGMsg_ns, flat_ns eGrule_ns, flat_ns eGA199_ns, flat_ns eGA202_ns])), h4259, z⟩
        refine cond_some hF (fun h4593 hF => ?_) (fun h4593 hF => ?_)
        ·
          have pq4854 : ∀ {l : List Cond}, HoldAll E H hn99 l → HoldAll E H hn99 (.test r4591 true :: .test (bnot true) false :: .int (nlen (len r4522)) (nlen (len r4522)) :: l) := fun z => ⟨h4593, (bnot_t rfl), rfl, z⟩
          refine bind_some hF (fun y4599 h4598 hF => ?_)
          refine sum_some hF (fun w4600 hx hF => ?_) (fun w4601 hx hF => ?_)
          ·
            subst hx
            have hr := Option.some.inj hF
            subst hr
            have pz : HoldAll E H hn99 [.loop 0 c99_0 (F99_l0_3_S a4250 r4260.1.only_ r4522 [] 0) .ret (F99_l0_3_X0 a4250 r4260.1.only_ r4522 w4600)] := ⟨(F99_l0_3_ok K a4250 r4260.1.only_ r4522 K [] 0 _ h4598), trivial⟩
            exact fn_playC hn99 (f := 99) (ads := [.agg (eGGraph a4245), .agg (eGJob a4246), .one (.lit (.int .i64 a4247)), .one (.lit (.int .i64 a4248)), .one (.lit (.int .i64 a4249)), .one (.lit (.int .i64 a4250)), .one (.lit (.bool a4251))]) (r := F99_res (0, ([], (false, 8)))) (pq4812 (pq4813 (pq4814 (pq4845 (pq4853 (pq4854 pz)))))) (by kernel_rfl) (by kernel_rfl)
          subst hx
          have hr := Option.some.inj hF
          subst hr
          have pz : HoldAll E H hn99 [.loop 0 c99_0 (F99_l0_3_S a4250 r4260.1.only_ r4522 [] 0) (.exit 0) (F99_l0_3_X1 a4250 r4260.1.only_ r4522 w4601)] := ⟨(F99_l0_3_ok K a4250 r4260.1.only_ r4522 K [] 0 _ h4598), trivial⟩
          exact fn_playC hn99 (f := 99) (ads := [.agg (eGGraph a4245), .agg (eGJob a4246), .one (.lit (.int .i64 a4247)), .one (.lit (.int .i64 a4248)), .one (.lit (.int .i64 a4249)), .one (.lit (.int .i64 a4250)), .one (.lit (.bool a4251))]) (r := F99_res (a4250, (w4601, (true, 0)))) (pq4812 (pq4813 (pq4814 (pq4845 (pq4853 (pq4854 pz)))))) (by kernel_rfl) (by kernel_rfl)
        have hr := Option.some.inj hF
        subst hr
        have pz : HoldAll E H hn99 [.test r4591 false, .test (bnot false) true] := ⟨h4593, (bnot_f rfl), trivial⟩
        exact fn_playC hn99 (f := 99) (ads := [.agg (eGGraph a4245), .agg (eGJob a4246), .one (.lit (.int .i64 a4247)), .one (.lit (.int .i64 a4248)), .one (.lit (.int .i64 a4249)), .one (.lit (.int .i64 a4250)), .one (.lit (.bool a4251))]) (r := F99_res (a4249, ([], (true, 0)))) (pq4812 (pq4813 (pq4814 (pq4845 (pq4853 pz))))) (by kernel_rfl) (by kernel_rfl)
      refine cond_some hF (fun h4603 hF => ?_) (fun h4603 hF => ?_)
      ·
        refine bind_some hF (fun r4604 h4605 hF => ?_)
        refine bind_some hF (fun r4697 h4698 hF => ?_)
        have hr := Option.some.inj hF
        subst hr
        have pz : HoldAll E H hn99 [.test (igt a4247 40) false, .test (bnot a4251) false, .call 143 [.one (.lit (.int .i64 a4246.Prog))] (F143_res4 r4260), .test (leadsAny (Res.mk [(.agg [(.im (.lit (fnV 166))), (.im (.lit .nilFunc)), (.im (.lit (.bool r4260.1.only_))), (.im (.lit (fnV 163)))]), (.one (.im (.lit (.bool r4260.2))))] [])) false, .call 68 [.agg (eGGraph a4245), .one (.lit (.int .i64 a4248))] (F68_res r4604), .test (leadsAny (Res.mk [(.one (.own 89 (.sl (len r4604) (flat eGEdge r4604))))] [])) false, .test true true, .call 146 [.one (.sl (len r4604) (flat eGEdge r4604)), .one (.lit (.int .i64 a4247)), .one (.lit (.int .i64 a4249)), .one (.lit (.int .i64 a4250))] (F146_res r4697), .test (leadsAny (Res.mk [(.one (.im (.lit (.int .i64 r4697.1)))), (.one (.own 130 (.sl (len r4697.2.1) (flat eGMsg r4697.2.1)))), (.one (.im (.lit (.bool r4697.2.2.1)))), (.one (.im (.lit (.int .i64 r4697.2.2.2))))] [])) false] := ⟨(igt_eq h4258), (bnot_t h4259), (F143_ok4 _ h4603 (F143_ok K a4246.Prog _ h4261)), (leads_ok (by simp only [leadsAny, List.any_cons, List.any_nil, RV.leads, RC.leads, leadsT, hasSl_lit, Bool.or_false, flat_ns (eInt_ns _), flat_ns eBool_ns, flat_ns eStr_ns, flat_ns eGJob_ns, flat_ns eGEdge_ns, flat_ns eGAsked_ns, flat_ns eGMsg_ns, flat_ns eGrule_ns, flat_ns eGA199_ns, flat_ns eGA202_ns])), (F68_ok K a4245 a4248 _ h4605), (leads_ok (by simp only [leadsAny, List.any_cons, List.any_nil, RV.leads, RC.leads, leadsT, hasSl_lit, Bool.or_false, flat_ns (eInt_ns _), flat_ns eBool_ns, flat_ns eStr_ns, flat_ns eGJob_ns, flat_ns eGEdge_ns, flat_ns eGAsked_ns, flat_ns eGMsg_ns, flat_ns eGrule_ns, flat_ns eGA199_ns, flat_ns eGA202_ns])), rfl, (F146_ok K r4604 a4247 a4249 a4250 _ h4698), (leads_ok (by simp only [leadsAny, List.any_cons, List.any_nil, RV.leads, RC.leads, leadsT, hasSl_lit, Bool.or_false, flat_ns (eInt_ns _), flat_ns eBool_ns, flat_ns eStr_ns, flat_ns eGJob_ns, flat_ns eGEdge_ns, flat_ns eGAsked_ns, flat_ns eGMsg_ns, flat_ns eGrule_ns, flat_ns eGA199_ns, flat_ns eGA202_ns])), trivial⟩
        exact fn_playC hn99 (f := 99) (ads := [.agg (eGGraph a4245), .agg (eGJob a4246), .one (.lit (.int .i64 a4247)), .one (.lit (.int .i64 a4248)), .one (.lit (.int .i64 a4249)), .one (.lit (.int .i64 a4250)), .one (.lit (.bool a4251))]) (r := F99_res (r4697.1, (r4697.2.1, (r4697.2.2.1, r4697.2.2.2)))) (pq4812 (pq4813 (pq4814 pz))) (by kernel_rfl) (by kernel_rfl)
      refine cond_some hF (fun h4699 hF => ?_) (fun _ hF => nomatch hF)
      refine bind_some hF (fun r4700 h4701 hF => ?_)
      refine bind_some hF (fun r4702 h4703 hF => ?_)
      have hr := Option.some.inj hF
      subst hr
      have pz : HoldAll E H hn99 [.test (igt a4247 40) false, .test (bnot a4251) false, .call 143 [.one (.lit (.int .i64 a4246.Prog))] (F143_res5 r4260), .test (leadsAny (Res.mk [(.agg [(.im (.lit .nilFunc)), (.im (.lit .nilFunc)), (.im (.lit (.bool r4260.1.only_))), (.im (.lit .nilFunc))]), (.one (.im (.lit (.bool r4260.2))))] [])) false, .call 68 [.agg (eGGraph a4245), .one (.lit (.int .i64 a4248))] (F68_res r4700), .test (leadsAny (Res.mk [(.one (.own 89 (.sl (len r4700) (flat eGEdge r4700))))] [])) false, .test true true, .call 146 [.one (.sl (len r4700) (flat eGEdge r4700)), .one (.lit (.int .i64 a4247)), .one (.lit (.int .i64 a4249)), .one (.lit (.int .i64 a4250))] (F146_res r4702), .test (leadsAny (Res.mk [(.one (.im (.lit (.int .i64 r4702.1)))), (.one (.own 130 (.sl (len r4702.2.1) (flat eGMsg r4702.2.1)))), (.one (.im (.lit (.bool r4702.2.2.1)))), (.one (.im (.lit (.int .i64 r4702.2.2.2))))] [])) false] := ⟨(igt_eq h4258), (bnot_t h4259), (F143_ok5 _ h4699 (F143_ok K a4246.Prog _ h4261)), (leads_ok (by simp only [leadsAny, List.any_cons, List.any_nil, RV.leads, RC.leads, leadsT, hasSl_lit, Bool.or_false, flat_ns (eInt_ns _), flat_ns eBool_ns, flat_ns eStr_ns, flat_ns eGJob_ns, flat_ns eGEdge_ns, flat_ns eGAsked_ns, flat_ns eGMsg_ns, flat_ns eGrule_ns, flat_ns eGA199_ns, flat_ns eGA202_ns])), (F68_ok K a4245 a4248 _ h4701), (leads_ok (by simp only [leadsAny, List.any_cons, List.any_nil, RV.leads, RC.leads, leadsT, hasSl_lit, Bool.or_false, flat_ns (eInt_ns _), flat_ns eBool_ns, flat_ns eStr_ns, flat_ns eGJob_ns, flat_ns eGEdge_ns, flat_ns eGAsked_ns, flat_ns eGMsg_ns, flat_ns eGrule_ns, flat_ns eGA199_ns, flat_ns eGA202_ns])), rfl, (F146_ok K r4700 a4247 a4249 a4250 _ h4703), (leads_ok (by simp only [leadsAny, List.any_cons, List.any_nil, RV.leads, RC.leads, leadsT, hasSl_lit, Bool.or_false, flat_ns (eInt_ns _), flat_ns eBool_ns, flat_ns eStr_ns, flat_ns eGJob_ns, flat_ns eGEdge_ns, flat_ns eGAsked_ns, flat_ns eGMsg_ns, flat_ns eGrule_ns, flat_ns eGA199_ns, flat_ns eGA202_ns])), trivial⟩
      exact fn_playC hn99 (f := 99) (ads := [.agg (eGGraph a4245), .agg (eGJob a4246), .one (.lit (.int .i64 a4247)), .one (.lit (.int .i64 a4248)), .one (.lit (.int .i64 a4249)), .one (.lit (.int .i64 a4250)), .one (.lit (.bool a4251))]) (r := F99_res (r4702.1, (r4702.2.1, (r4702.2.2.1, r4702.2.2.2)))) (pq4812 (pq4813 (pq4814 pz))) (by kernel_rfl) (by kernel_rfl)
    refine bind_some hF (fun r4704 h4705 hF => ?_)
    refine cond_some hF (fun h4706 hF => ?_) (fun h4706 hF => ?_)
    ·
      refine bind_some hF (fun r4707 h4708 hF => ?_)
      have pq4855 : ∀ {l : List Cond}, HoldAll E H hn99 l → HoldAll E H hn99 (.test (igt a4247 40) false :: .test (bnot a4251) true :: .call 143 [.one (.lit (.int .i64 a4246.Prog))] (F143_res0 r4704) :: .test (leadsAny (Res.mk [(.agg [(.im (.lit (fnV 158))), (.im (.lit (fnV 159))), (.im (.lit (.bool r4704.1.only_))), (.im (.lit (fnV 160)))]), (.one (.im (.lit (.bool r4704.2))))] [])) false :: .call 68 [.agg (eGGraph a4245), .one (.lit (.int .i64 a4248))] (F68_res r4707) :: .test (leadsAny (Res.mk [(.one (.own 89 (.sl (len r4707) (flat eGEdge r4707))))] [])) false :: .test false false :: l) := fun z => ⟨(igt_eq h4258), (bnot_f h4259), (F143_ok0 _ h4706 (F143_ok K a4246.Prog _ h4705)), (leads_ok (by simp only [leadsAny, List.any_cons, List.any_nil, RV.leads, RC.leads, leadsT, hasSl_lit, Bool.or_false, flat_ns (eInt_ns _), flat_ns eBool_ns, flat_ns eStr_ns, flat_ns eGJob_ns, flat_ns eGEdge_ns, flat_ns eGAsked_ns, flat_ns eGMsg_ns, flat_ns eGrule_ns, flat_ns eGA199_ns, flat_ns eGA202_ns])), (F68_ok K a4245 a4248 _ h4708), (leads_ok (by simp only [leadsAny, List.any_cons, List.any_nil, RV.leads, RC.leads, leadsT, hasSl_lit, Bool.or_false, flat_ns (eInt_ns _), flat_ns eBool_ns, flat_ns eStr_ns, flat_ns eGJob_ns, flat_ns eGEdge_ns, flat_ns eGAsked_ns, flat_ns eGMsg_ns, flat_ns eGrule_ns, flat_ns eGA199_ns, flat_ns eGA202_ns])), rfl, z⟩
      refine cond_some hF (fun h4709 hF => ?_) (fun h4709 hF => ?_)
      ·
        have pq4856 : ∀ {l : List Cond}, HoldAll E H hn99 l → HoldAll E H hn99 (.test (beqb (ieq a4247 0) true) true :: .test (beqb (ieq a4247 0) true) true :: .test (beqb (ieq a4247 0) true) true :: .test (beqb (ieq a4247 0) true) true :: l) := fun z => ⟨(beqb_t h4709), (beqb_t h4709), (beqb_t h4709), (beqb_t h4709), z⟩
        refine cond_some hF (fun h4710 hF => ?_) (fun h4710 hF => ?_)
        ·
          have pq4857 : ∀ {l : List Cond}, HoldAll E H hn99 l → HoldAll E H hn99 (.test (beqb (bnot r4704.1.only_) false) true :: .test (beqb (bnot r4704.1.only_) false) true :: .test (beqb (bnot r4704.1.only_) false) true :: .test (beqb (bnot r4704.1.only_) false) true :: .test (beqb (ieq a4247 0) true) true :: .test (bnot r4704.1.only_) false :: .test (ieq a4247 0) true :: .test (beqb a4251 true) false :: .test (beqb a4251 true) false :: .test (beqb a4251 true) false :: .test (beqb a4251 true) false :: .test (beqb a4251 true) false :: .test a4251 false :: .test false false :: l) := fun z => ⟨(beqb_ff (bnot_t h4710)), (beqb_ff (bnot_t h4710)), (beqb_ff (bnot_t h4710)), (beqb_ff (bnot_t h4710)), (beqb_t h4709), (bnot_t h4710), h4709, (beqb_t h4259), (beqb_t h4259), (beqb_t h4259), (beqb_t h4259), (beqb_t h4259), h4259, rfl, z⟩
          refine cond_some hF (fun h4711 hF => ?_) (fun h4711 hF => ?_)
          ·
            refine bind_some hF (fun y4717 h4716 hF => ?_)
            refine sum_some hF (fun w4718 hx hF => ?_) (fun w4719 hx hF => ?_)
            ·
              subst hx
              have hr := Option.some.inj hF
              subst hr
              have pz : HoldAll E H hn99 [.test (bnot (ieq a4248 a4246.Source)) false, .int (nlen (len r4707)) (nlen (len r4707)), .loop 0 c99_0 (F99_l0_0_S a4249 r4704.1.only_ r4707 [] 0) .ret (F99_l0_0_X0 a4249 r4704.1.only_ r4707 w4718)] := ⟨(bnot_t h4711), rfl, (F99_l0_0_ok K a4249 r4704.1.only_ r4707 K [] 0 _ h4716), trivial⟩
              exact fn_playC hn99 (f := 99) (ads := [.agg (eGGraph a4245), .agg (eGJob a4246), .one (.lit (.int .i64 a4247)), .one (.lit (.int .i64 a4248)), .one (.lit (.int .i64 a4249)), .one (.lit (.int .i64 a4250)), .one (.lit (.bool a4251))]) (r := F99_res (0, ([], (false, 8)))) (pq4812 (pq4813 (pq4814 (pq4855 (pq4856 (pq4857 pz)))))) (by kernel_rfl) (by kernel_rfl)
            subst hx
            have hr := Option.some.inj hF
            subst hr
            have pz : HoldAll E H hn99 [.test (bnot (ieq a4248 a4246.Source)) false, .int (nlen (len r4707)) (nlen (len r4707)), .loop 0 c99_0 (F99_l0_0_S a4249 r4704.1.only_ r4707 [] 0) (.exit 0) (F99_l0_0_X1 a4249 r4704.1.only_ r4707 w4719)] := ⟨(bnot_t h4711), rfl, (F99_l0_0_ok K a4249 r4704.1.only_ r4707 K [] 0 _ h4716), trivial⟩
            exact fn_playC hn99 (f := 99) (ads := [.agg (eGGraph a4245), .agg (eGJob a4246), .one (.lit (.int .i64 a4247)), .one (.lit (.int .i64 a4248)), .one (.lit (.int .i64 a4249)), .one (.lit (.int .i64 a4250)), .one (.lit (.bool a4251))]) (r := F99_res (a4249, (w4719, (true, 0)))) (pq4812 (pq4813 (pq4814 (pq4855 (pq4856 (pq4857 pz)))))) (by kernel_rfl) (by kernel_rfl)
          have hr := Option.some.inj hF
          subst hr
          have pz : HoldAll E H hn99 [.test (bnot (ieq a4248 a4246.Source)) true] := ⟨(bnot_f h4711), trivial⟩
          exact fn_playC hn99 (f := 99) (ads := [.agg (eGGraph a4245), .agg (eGJob a4246), .one (.lit (.int .i64 a4247)), .one (.lit (.int .i64 a4248)), .one (.lit (.int .i64 a4249)), .one (.lit (.int .i64 a4250)), .one (.lit (.bool a4251))]) (r := F99_res (a4249, ([], (true, 0)))) (pq4812 (pq4813 (pq4814 (pq4855 (pq4856 (pq4857 pz)))))) (by kernel_rfl) (by kernel_rfl)
        have pq4858 : ∀ {l : List Cond}, HoldAll E H hn99 l → HoldAll E H hn99 (.test (beqb (bnot r4704.1.only_) false) false :: .test (beqb (bnot r4704.1.only_) false) false :: .test (beqb (bnot r4704.1.only_) false) false :: .test (beqb (bnot r4704.1.only_) false) false :: .test (beqb (ieq a4247 0) true) true :: .test (bnot r4704.1.only_) true :: .test (ieq a4247 0) true :: .test (beqb a4251 true) false :: .test (beqb a4251 true) false :: .test (beqb a4251 true) false :: .test (beqb a4251 true) false :: .test (beqb a4251 true) false :: .test a4251 false :: .test false false :: .test (bnot true) false :: .int (nlen (len r4707)) (nlen (len r4707)) :: l) := fun z => ⟨(beqb_ft (bnot_f h4710)), (beqb_ft (bnot_f h4710)), (beqb_ft (bnot_f h4710)), (beqb_ft (bnot_f h4710)), (beqb_t h4709), (bnot_f h4710), h4709, (beqb_t h4259), (beqb_t h4259), (beqb_t h4259), (beqb_t h4259), (beqb_t h4259), h4259, rfl, (bnot_t rfl), rfl, z⟩
        refine bind_some hF (fun y4726 h4725 hF => ?_)
        refine sum_some hF (fun w4727 hx hF => ?_) (fun w4728 hx hF => ?_)
        ·
          subst hx
          have hr := Option.some.inj hF
          subst hr
          have pz : HoldAll E H hn99 [.loop 0 c99_0 (F99_l0_0_S a4249 r4704.1.only_ r4707 [] 0) .ret (F99_l0_0_X0 a4249 r4704.1.only_ r4707 w4727)] := ⟨(F99_l0_0_ok K a4249 r4704.1.only_ r4707 K [] 0 _ h4725), trivial⟩
          exact fn_playC hn99 (f := 99) (ads := [.agg (eGGraph a4245), .agg (eGJob a4246), .one (.lit (.int .i64 a4247)), .one (.lit (.int .i64 a4248)), .one (.lit (.int .i64 a4249)), .one (.lit (.int .i64 a4250)), .one (.lit (.bool a4251))]) (r := F99_res (0, ([], (false, 8)))) (pq4812 (pq4813 (pq4814 (pq4855 (pq4856 (pq4858 pz)))))) (by kernel_rfl) (by kernel_rfl)
        subst hx
        have hr := Option.some.inj hF
        subst hr
        have pz : HoldAll E H hn99 [.loop 0 c99_0 (F99_l0_0_S a4249 r4704.1.only_ r4707 [] 0) (.exit 0) (F99_l0_0_X1 a4249 r4704.1.only_ r4707 w4728)] := ⟨(F99_l0_0_ok K a4249 r4704.1.only_ r4707 K [] 0 _ h4725), trivial⟩
        exact fn_playC hn99 (f := 99) (ads := [.agg (eGGraph a4245), .agg (eGJob a4246), .one (.lit (.int .i64 a4247)), .one (.lit (.int .i64 a4248)), .one (.lit (.int .i64 a4249)), .one (.lit (.int .i64 a4250)), .one (.lit (.bool a4251))]) (r := F99_res (a4249, (w4728, (true, 0)))) (pq4812 (pq4813 (pq4814 (pq4855 (pq4856 (pq4858 pz)))))) (by kernel_rfl) (by kernel_rfl)
      have hr := Option.some.inj hF
      subst hr
      have pz : HoldAll E H hn99 [.test (beqb (ieq a4247 0) true) false, .test (beqb (ieq a4247 0) true) false, .test (beqb (ieq a4247 0) true) false, .test (beqb (ieq a4247 0) true) false, .test (beqb (ieq a4247 0) true) false, .test (ieq a4247 0) false, .test (beqb a4251 true) false, .test (beqb a4251 true) false, .test (beqb a4251 true) false, .test (beqb a4251 true) false, .test (beqb a4251 true) false, .test a4251 false, .test false false, .test (bnot false) true] := ⟨(beqb_t h4709), (beqb_t h4709), (beqb_t h4709), (beqb_t h4709), (beqb_t h4709), h4709, (beqb_t h4259), (beqb_t h4259), (beqb_t h4259), (beqb_t h4259), (beqb_t h4259), h4259, rfl, (bnot_f rfl), trivial⟩
      exact fn_playC hn99 (f := 99) (ads := [.agg (eGGraph a4245), .agg (eGJob a4246), .one (.lit (.int .i64 a4247)), .one (.lit (.int .i64 a4248)), .one (.lit (.int .i64 a4249)), .one (.lit (.int .i64 a4250)), .one (.lit (.bool a4251))]) (r := F99_res (a4249, ([], (true, 0)))) (pq4812 (pq4813 (pq4814 (pq4855 pz)))) (by kernel_rfl) (by kernel_rfl)
    refine cond_some hF (fun h4730 hF => ?_) (fun h4730 hF => ?_)
    ·
      refine bind_some hF (fun r4731 h4732 hF => ?_)
      have pq4859 : ∀ {l : List Cond}, HoldAll E H hn99 l → HoldAll E H hn99 (.test (igt a4247 40) false :: .test (bnot a4251) true :: .call 143 [.one (.lit (.int .i64 a4246.Prog))] (F143_res1 r4704) :: .test (leadsAny (Res.mk [(.agg [(.im (.lit (fnV 158))), (.im (.lit (fnV 159))), (.im (.lit (.bool r4704.1.only_))), (.im (.lit (fnV 161)))]), (.one (.im (.lit (.bool r4704.2))))] [])) false :: .call 68 [.agg (eGGraph a4245), .one (.lit (.int .i64 a4248))] (F68_res r4731) :: .test (leadsAny (Res.mk [(.one (.own 89 (.sl (len r4731) (flat eGEdge r4731))))] [])) false :: .test false false :: l) := fun z => ⟨(igt_eq h4258), (bnot_f h4259), (F143_ok1 _ h4730 (F143_ok K a4246.Prog _ h4705)), (leads_ok (by simp only [leadsAny, List.any_cons, List.any_nil, RV.leads, RC.leads, leadsT, hasSl_lit, Bool.or_false, flat_ns (eInt_ns _), flat_ns eBool_ns, flat_ns eStr_ns, flat_ns eGJob_ns, flat_ns eGEdge_ns, flat_ns eGAsked_ns, flat_ns eGMsg_ns, flat_ns eGrule_ns, flat_ns eGA199_ns, flat_ns eGA202_ns])), (F68_ok K a4245 a4248 _ h4732), (leads_ok (by simp only [leadsAny, List.any_cons, List.any_nil, RV.leads, RC.leads, leadsT, hasSl_lit, Bool.or_false, flat_ns (eInt_ns _), flat_ns eBool_ns, flat_ns eStr_ns, flat_ns eGJob_ns, flat_ns eGEdge_ns, flat_ns eGAsked_ns, flat_ns eGMsg_ns, flat_ns eGrule_ns, flat_ns eGA199_ns, flat_ns eGA202_ns])), rfl, z⟩
      refine cond_some hF (fun h4733 hF => ?_) (fun h4733 hF => ?_)
      ·
        have pq4860 : ∀ {l : List Cond}, HoldAll E H hn99 l → HoldAll E H hn99 (.test (beqb (ieq a4247 0) true) true :: .test (beqb (ieq a4247 0) true) true :: .test (beqb (ieq a4247 0) true) true :: .test (beqb (ieq a4247 0) true) true :: l) := fun z => ⟨(beqb_t h4733), (beqb_t h4733), (beqb_t h4733), (beqb_t h4733), z⟩
        refine cond_some hF (fun h4734 hF => ?_) (fun h4734 hF => ?_)
        ·
          have pq4861 : ∀ {l : List Cond}, HoldAll E H hn99 l → HoldAll E H hn99 (.test (beqb (bnot r4704.1.only_) false) true :: .test (beqb (bnot r4704.1.only_) false) true :: .test (beqb (bnot r4704.1.only_) false) true :: .test (beqb (bnot r4704.1.only_) false) true :: .test (beqb (ieq a4247 0) true) true :: .test (bnot r4704.1.only_) false :: .test (ieq a4247 0) true :: .test (beqb a4251 true) false :: .test (beqb a4251 true) false :: .test (beqb a4251 true) false :: .test (beqb a4251 true) false :: .test (beqb a4251 true) false :: .test a4251 false :: .test false false :: l) := fun z => ⟨(beqb_ff (bnot_t h4734)), (beqb_ff (bnot_t h4734)), (beqb_ff (bnot_t h4734)), (beqb_ff (bnot_t h4734)), (beqb_t h4733), (bnot_t h4734), h4733, (beqb_t h4259), (beqb_t h4259), (beqb_t h4259), (beqb_t h4259), (beqb_t h4259), h4259, rfl, z⟩
          refine cond_some hF (fun h4735 hF => ?_) (fun h4735 hF => ?_)
          ·
            refine bind_some hF (fun y4741 h4740 hF => ?_)
            refine sum_some hF (fun w4742 hx hF => ?_) (fun w4743 hx hF => ?_)
            ·
              subst hx
              have hr := Option.some.inj hF
              subst hr
              have pz : HoldAll E H hn99 [.test (bnot (ieq a4248 a4246.Source)) false, .int (nlen (len r4731)) (nlen (len r4731)), .loop 0 c99_0 (F99_l0_1_S a4249 r4704.1.only_ r4731 [] 0) .ret (F99_l0_1_X0 a4249 r4704.1.only_ r4731 w4742)] := ⟨(bnot_t h4735), rfl, (F99_l0_1_ok K a4249 r4704.1.only_ r4731 K [] 0 _ h4740), trivial⟩
              exact fn_playC hn99 (f := 99) (ads := [.agg (eGGraph a4245), .agg (eGJob a4246), .one (.lit (.int .i64 a4247)), .one (.lit (.int .i64 a4248)), .one (.lit (.int .i64 a4249)), .one (.lit (.int .i64 a4250)), .one (.lit (.bool a4251))]) (r := F99_res (0, ([], (false, 8)))) (pq4812 (pq4813 (pq4814 (pq4859 (pq4860 (pq4861 pz)))))) (by kernel_rfl) (by kernel_rfl)
            subst hx
            have hr := Option.some.inj hF
            subst hr
            have pz : HoldAll E H hn99 [.test (bnot (ieq a4248 a4246.Source)) false, .int (nlen (len r4731)) (nlen (len r4731)), .loop 0 c99_0 (F99_l0_1_S a4249 r4704.1.only_ r4731 [] 0) (.exit 0) (F99_l0_1_X1 a4249 r4704.1.only_ r4731 w4743)] := ⟨(bnot_t h4735), rfl, (F99_l0_1_ok K a4249 r4704.1.only_ r4731 K [] 0 _ h4740), trivial⟩
            exact fn_playC hn99 (f := 99) (ads := [.agg (eGGraph a4245), .agg (eGJob a4246), .one (.lit (.int .i64 a4247)), .one (.lit (.int .i64 a4248)), .one (.lit (.int .i64 a4249)), .one (.lit (.int .i64 a4250)), .one (.lit (.bool a4251))]) (r := F99_res (a4249, (w4743, (true, 0)))) (pq4812 (pq4813 (pq4814 (pq4859 (pq4860 (pq4861 pz)))))) (by kernel_rfl) (by kernel_rfl)
          have hr := Option.some.inj hF
          subst hr
          have pz : HoldAll E H hn99 [.test (bnot (ieq a4248 a4246.Source)) true] := ⟨(bnot_f h4735), trivial⟩
          exact fn_playC hn99 (f := 99) (ads := [.agg (eGGraph a4245), .agg (eGJob a4246), .one (.lit (.int .i64 a4247)), .one (.lit (.int .i64 a4248)), .one (.lit (.int .i64 a4249)), .one (.lit (.int .i64 a4250)), .one (.lit (.bool a4251))]) (r := F99_res (a4249, ([], (true, 0)))) (pq4812 (pq4813 (pq4814 (pq4859 (pq4860 (pq4861 pz)))))) (by kernel_rfl) (by kernel_rfl)
        have pq4862 : ∀ {l : List Cond}, HoldAll E H hn99 l → HoldAll E H hn99 (.test (beqb (bnot r4704.1.only_) false) false :: .test (beqb (bnot r4704.1.only_) false) false :: .test (beqb (bnot r4704.1.only_) false) false :: .test (beqb (bnot r4704.1.only_) false) false :: .test (beqb (ieq a4247 0) true) true :: .test (bnot r4704.1.only_) true :: .test (ieq a4247 0) true :: .test (beqb a4251 true) false :: .test (beqb a4251 true) false :: .test (beqb a4251 true) false :: .test (beqb a4251 true) false :: .test (beqb a4251 true) false :: .test a4251 false :: .test false false :: .test (bnot true) false :: .int (nlen (len r4731)) (nlen (len r4731)) :: l) := fun z => ⟨(beqb_ft (bnot_f h4734)), (beqb_ft (bnot_f h4734)), (beqb_ft (bnot_f h4734)), (beqb_ft (bnot_f h4734)), (beqb_t h4733), (bnot_f h4734), h4733, (beqb_t h4259), (beqb_t h4259), (beqb_t h4259), (beqb_t h4259), (beqb_t h4259), h4259, rfl, (bnot_t rfl), rfl, z⟩
        refine bind_some hF (fun y4750 h4749 hF => ?_)
        refine sum_some hF (fun w4751 hx hF => ?_) (fun w4752 hx hF => ?_)
        ·
          subst hx
          have hr := Option.some.inj hF
          subst hr
          have pz : HoldAll E H hn99 [.loop 0 c99_0 (F99_l0_1_S a4249 r4704.1.only_ r4731 [] 0) .ret (F99_l0_1_X0 a4249 r4704.1.only_ r4731 w4751)] := ⟨(F99_l0_1_ok K a4249 r4704.1.only_ r4731 K [] 0 _ h4749), trivial⟩
          exact fn_playC hn99 (f := 99) (ads := [.agg (eGGraph a4245), .agg (eGJob a4246), .one (.lit (.int .i64 a4247)), .one (.lit (.int .i64 a4248)), .one (.lit (.int .i64 a4249)), .one (.lit (.int .i64 a4250)), .one (.lit (.bool a4251))]) (r := F99_res (0, ([], (false, 8)))) (pq4812 (pq4813 (pq4814 (pq4859 (pq4860 (pq4862 pz)))))) (by kernel_rfl) (by kernel_rfl)
        subst hx
        have hr := Option.some.inj hF
        subst hr
        have pz : HoldAll E H hn99 [.loop 0 c99_0 (F99_l0_1_S a4249 r4704.1.only_ r4731 [] 0) (.exit 0) (F99_l0_1_X1 a4249 r4704.1.only_ r4731 w4752)] := ⟨(F99_l0_1_ok K a4249 r4704.1.only_ r4731 K [] 0 _ h4749), trivial⟩
        exact fn_playC hn99 (f := 99) (ads := [.agg (eGGraph a4245), .agg (eGJob a4246), .one (.lit (.int .i64 a4247)), .one (.lit (.int .i64 a4248)), .one (.lit (.int .i64 a4249)), .one (.lit (.int .i64 a4250)), .one (.lit (.bool a4251))]) (r := F99_res (a4249, (w4752, (true, 0)))) (pq4812 (pq4813 (pq4814 (pq4859 (pq4860 (pq4862 pz)))))) (by kernel_rfl) (by kernel_rfl)
      have hr := Option.some.inj hF
      subst hr
      have pz : HoldAll E H hn99 [.test (beqb (ieq a4247 0) true) false, .test (beqb (ieq a4247 0) true) false, .test (beqb (ieq a4247 0) true) false, .test (beqb (ieq a4247 0) true) false, .test (beqb (ieq a4247 0) true) false, .test (ieq a4247 0) false, .test (beqb a4251 true) false, .test (beqb a4251 true) false, .test (beqb a4251 true) false, .test (beqb a4251 true) false, .test (beqb a4251 true) false, .test a4251 false, .test false false, .test (bnot false) true] := ⟨(beqb_t h4733), (beqb_t h4733), (beqb_t h4733), (beqb_t h4733), (beqb_t h4733), h4733, (beqb_t h4259), (beqb_t h4259), (beqb_t h4259), (beqb_t h4259), (beqb_t h4259), h4259, rfl, (bnot_f rfl), trivial⟩
      exact fn_playC hn99 (f := 99) (ads := [.agg (eGGraph a4245), .agg (eGJob a4246), .one (.lit (.int .i64 a4247)), .one (.lit (.int .i64 a4248)), .one (.lit (.int .i64 a4249)), .one (.lit (.int .i64 a4250)), .one (.lit (.bool a4251))]) (r := F99_res (a4249, ([], (true, 0)))) (pq4812 (pq4813 (pq4814 (pq4859 pz)))) (by kernel_rfl) (by kernel_rfl)
    refine cond_some hF (fun h4754 hF => ?_) (fun h4754 hF => ?_)
    ·
      refine bind_some hF (fun r4755 h4756 hF => ?_)
      have pq4863 : ∀ {l : List Cond}, HoldAll E H hn99 l → HoldAll E H hn99 (.test (igt a4247 40) false :: .test (bnot a4251) true :: .call 143 [.one (.lit (.int .i64 a4246.Prog))] (F143_res2 r4704) :: .test (leadsAny (Res.mk [(.agg [(.im (.lit (fnV 162))), (.im (.lit (fnV 159))), (.im (.lit (.bool r4704.1.only_))), (.im (.lit (fnV 163)))]), (.one (.im (.lit (.bool r4704.2))))] [])) false :: .call 68 [.agg (eGGraph a4245), .one (.lit (.int .i64 a4248))] (F68_res r4755) :: .test (leadsAny (Res.mk [(.one (.own 89 (.sl (len r4755) (flat eGEdge r4755))))] [])) false :: .test false false :: l) := fun z => ⟨(igt_eq h4258), (bnot_f h4259), (F143_ok2 _ h4754 (F143_ok K a4246.Prog _ h4705)), (leads_ok (by simp only [leadsAny, List.any_cons, List.any_nil, RV.leads, RC.leads, leadsT, hasSl_lit, Bool.or_false, flat_ns (eInt_ns _), flat_ns eBool_ns, flat_ns eStr_ns, flat_ns eGJob_ns, flat_ns eGEdge_ns, flat_ns eGAsked_ns, flat_ns eGMsg_ns, flat_ns eGrule_ns, flat_ns eGA199_ns, flat_ns eGA202_ns])), (F68_ok K a4245 a4248 _ h4756), (leads_ok (by simp only [leadsAny, List.any_cons, List.any_nil, RV.leads, RC.leads, leadsT, hasSl_lit, Bool.or_false, flat_ns (eInt_ns _), flat_ns eBool_ns, flat_ns eStr_ns, flat_ns eGJob_ns, flat_ns eGEdge_ns, flat_ns eGAsked_ns, flat_ns eGMsg_ns, flat_ns eGrule_ns, flat_ns eGA199_ns, flat_ns eGA202_ns])), rfl, z⟩
      refine cond_some hF (fun h4757 hF => ?_) (fun h4757 hF => ?_)
      ·
        have pq4864 : ∀ {l : List Cond}, HoldAll E H hn99 l → HoldAll E H hn99 (.test (beqb (ieq a4247 0) true) true :: .test (beqb (ieq a4247 0) true) true :: .test (beqb (ieq a4247 0) true) true :: .test (beqb (ieq a4247 0) true) true :: l) := fun z => ⟨(beqb_t h4757), (beqb_t h4757), (beqb_t h4757), (beqb_t h4757), z⟩
        refine cond_some hF (fun h4758 hF => ?_) (fun h4758 hF => ?_)
        ·
          have pq4865 : ∀ {l : List Cond}, HoldAll E H hn99 l → HoldAll E H hn99 (.test (beqb (bnot r4704.1.only_) false) true :: .test (beqb (bnot r4704.1.only_) false) true :: .test (beqb (bnot r4704.1.only_) false) true :: .test (beqb (bnot r4704.1.only_) false) true :: .test (beqb (ieq a4247 0) true) true :: .test (bnot r4704.1.only_) false :: .test (ieq a4247 0) true :: .test (beqb a4251 true) false :: .test (beqb a4251 true) false :: .test (beqb a4251 true) false :: .test (beqb a4251 true) false :: .test (beqb a4251 true) false :: .test a4251 false :: .test false false :: l) := fun z => ⟨(beqb_ff (bnot_t h4758)), (beqb_ff (bnot_t h4758)), (beqb_ff (bnot_t h4758)), (beqb_ff (bnot_t h4758)), (beqb_t h4757), (bnot_t h4758), h4757, (beqb_t h4259), (beqb_t h4259), (beqb_t h4259), (beqb_t h4259), (beqb_t h4259), h4259, rfl, z⟩
          refine cond_some hF (fun h4759 hF => ?_) (fun h4759 hF => ?_)
          ·
            refine bind_some hF (fun y4765 h4764 hF => ?_)
            refine sum_some hF (fun w4766 hx hF => ?_) (fun w4767 hx hF => ?_)
            ·
              subst hx
              have hr := Option.some.inj hF
              subst hr
              have pz : HoldAll E H hn99 [.test (bnot (ieq a4248 a4246.Source)) false, .int (nlen (len r4755)) (nlen (len r4755)), .loop 0 c99_0 (F99_l0_2_S a4249 r4704.1.only_ r4755 [] 0) .ret (F99_l0_2_X0 a4249 r4704.1.only_ r4755 w4766)] := ⟨(bnot_t h4759), rfl, (F99_l0_2_ok K a4249 r4704.1.only_ r4755 K [] 0 _ h4764), trivial⟩
              exact fn_playC hn99 (f := 99) (ads := [.agg (eGGraph a4245), .agg (eGJob a4246), .one (.lit (.int .i64 a4247)), .one (.lit (.int .i64 a4248)), .one (.lit (.int .i64 a4249)), .one (.lit (.int .i64 a4250)), .one (.lit (.bool a4251))]) (r := F99_res (0, ([], (false, 8)))) (pq4812 (pq4813 (pq4814 (pq4863 (pq4864 (pq4865 pz)))))) (by kernel_rfl) (by kernel_rfl)
            subst hx
            have hr := Option.some.inj hF
            subst hr
            have pz : HoldAll E H hn99 [.test (bnot (ieq a4248 a4246.Source)) false, .int (nlen (len r4755)) (nlen (len r4755)), .loop 0 c99_0 (F99_l0_2_S a4249 r4704.1.only_ r4755 [] 0) (.exit 0) (F99_l0_2_X1 a4249 r4704.1.only_ r4755 w4767)] := ⟨(bnot_t h4759), rfl, (F99_l0_2_ok K a4249 r4704.1.only_ r4755 K [] 0 _ h4764), trivial⟩
            exact fn_playC hn99 (f := 99) (ads := [.agg (eGGraph a4245), .agg (eGJob a4246), .one (.lit (.int .i64 a4247)), .one (.lit (.int .i64 a4248)), .one (.lit (.int .i64 a4249)), .one (.lit (.int .i64 a4250)), .one (.lit (.bool a4251))]) (r := F99_res (a4249, (w4767, (true, 0)))) (pq4812 (pq4813 (pq4814 (pq4863 (pq4864 (pq4865 pz)))))) (by kernel_rfl) (by kernel_rfl)
          have hr := Option.some.inj hF
          subst hr
          have pz : HoldAll E H hn99 [.test (bnot (ieq a4248 a4246.Source)) true] := ⟨(bnot_f h4759), trivial⟩
          exact fn_playC hn99 (f := 99) (ads := [.agg (eGGraph a4245), .agg (eGJob a4246), .one (.lit (.int .i64 a4247)), .one (.lit (.int .i64 a4248)), .one (.lit (.int .i64 a4249)), .one (.lit (.int .i64 a4250)), .one (.lit (.bool a4251))]) (r := F99_res (a4249, ([], (true, 0)))) (pq4812 (pq4813 (pq4814 (pq4863 (pq4864 (pq4865 pz)))))) (by kernel_rfl) (by kernel_rfl)
        have pq4866 : ∀ {l : List Cond}, HoldAll E H hn99 l → HoldAll E H hn99 (.test (beqb (bnot r4704.1.only_) false) false :: .test (beqb (bnot r4704.1.only_) false) false :: .test (beqb (bnot r4704.1.only_) false) false :: .test (beqb (bnot r4704.1.only_) false) false :: .test (beqb (ieq a4247 0) true) true :: .test (bnot r4704.1.only_) true :: .test (ieq a4247 0) true :: .test (beqb a4251 true) false :: .test (beqb a4251 true) false :: .test (beqb a4251 true) false :: .test (beqb a4251 true) false :: .test (beqb a4251 true) false :: .test a4251 false :: .test false false :: .test (bnot true) false :: .int (nlen (len r4755)) (nlen (len r4755)) :: l) := fun z => ⟨(beqb_ft (bnot_f h4758)), (beqb_ft (bnot_f h4758)), (beqb_ft (bnot_f h4758)), (beqb_ft (bnot_f h4758)), (beqb_t h4757), (bnot_f h4758), h4757, (beqb_t h4259), (beqb_t h4259), (beqb_t h4259), (beqb_t h4259), (beqb_t h4259), h4259, rfl, (bnot_t rfl), rfl, z⟩
        refine bind_some hF (fun y4774 h4773 hF => ?_)
        refine sum_some hF (fun w4775 hx hF => ?_) (fun w4776 hx hF => ?_)
        ·
          subst hx
          have hr := Option.some.inj hF
          subst hr
          have pz : HoldAll E H hn99 [.loop 0 c99_0 (F99_l0_2_S a4249 r4704.1.only_ r4755 [] 0) .ret (F99_l0_2_X0 a4249 r4704.1.only_ r4755 w4775)] := ⟨(F99_l0_2_ok K a4249 r4704.1.only_ r4755 K [] 0 _ h4773), trivial⟩
          exact fn_playC hn99 (f := 99) (ads := [.agg (eGGraph a4245), .agg (eGJob a4246), .one (.lit (.int .i64 a4247)), .one (.lit (.int .i64 a4248)), .one (.lit (.int .i64 a4249)), .one (.lit (.int .i64 a4250)), .one (.lit (.bool a4251))]) (r := F99_res (0, ([], (false, 8)))) (pq4812 (pq4813 (pq4814 (pq4863 (pq4864 (pq4866 pz)))))) (by kernel_rfl) (by kernel_rfl)
        subst hx
        have hr := Option.some.inj hF
        subst hr
        have pz : HoldAll E H hn99 [.loop 0 c99_0 (F99_l0_2_S a4249 r4704.1.only_ r4755 [] 0) (.exit 0) (F99_l0_2_X1 a4249 r4704.1.only_ r4755 w4776)] := ⟨(F99_l0_2_ok K a4249 r4704.1.only_ r4755 K [] 0 _ h4773), trivial⟩
        exact fn_playC hn99 (f := 99) (ads := [.agg (eGGraph a4245), .agg (eGJob a4246), .one (.lit (.int .i64 a4247)), .one (.lit (.int .i64 a4248)), .one (.lit (.int .i64 a4249)), .one (.lit (.int .i64 a4250)), .one (.lit (.bool a4251))]) (r := F99_res (a4249, (w4776, (true, 0)))) (pq4812 (pq4813 (pq4814 (pq4863 (pq4864 (pq4866 pz)))))) (by kernel_rfl) (by kernel_rfl)
      have hr := Option.some.inj hF
      subst hr
      have pz : HoldAll E H hn99 [.test (beqb (ieq a4247 0) true) false, .test (beqb (ieq a4247 0) true) false, .test (beqb (ieq a4247 0) true) false, .test (beqb (ieq a4247 0) true) false, .test (beqb (ieq a4247 0) true) false, .test (ieq a4247 0) false, .test (beqb a4251 true) false, .test (beqb a4251 true) false, .test (beqb a4251 true) false, .test (beqb a4251 true) false, .test (beqb a4251 true) false, .test a4251 false, .test false false, .test (bnot false) true] := ⟨(beqb_t h4757), (beqb_t h4757), (beqb_t h4757), (beqb_t h4757), (beqb_t h4757), h4757, (beqb_t h4259), (beqb_t h4259), (beqb_t h4259), (beqb_t h4259), (beqb_t h4259), h4259, rfl, (bnot_f rfl), trivial⟩
      exact fn_playC hn99 (f := 99) (ads := [.agg (eGGraph a4245), .agg (eGJob a4246), .one (.lit (.int .i64 a4247)), .one (.lit (.int .i64 a4248)), .one (.lit (.int .i64 a4249)), .one (.lit (.int .i64 a4250)), .one (.lit (.bool a4251))]) (r := F99_res (a4249, ([], (true, 0)))) (pq4812 (pq4813 (pq4814 (pq4863 pz)))) (by kernel_rfl) (by kernel_rfl)
    refine cond_some hF (fun h4778 hF => ?_) (fun h4778 hF => ?_)
    ·
      refine bind_some hF (fun r4779 h4780 hF => ?_)
      have pq4867 : ∀ {l : List Cond}, HoldAll E H hn99 l → HoldAll E H hn99 (.test (igt a4247 40) false :: .test (bnot a4251) true :: .call 143 [.one (.lit (.int .i64 a4246.Prog))] (F143_res3 r4704) :: .test (leadsAny (Res.mk [(.agg [(.im (.lit (fnV 164))), (.im (.lit (fnV 165))), (.im (.lit (.bool r4704.1.only_))), (.im (.lit (fnV 163)))]), (.one (.im (.lit (.bool r4704.2))))] [])) false :: .call 68 [.agg (eGGraph a4245), .one (.lit (.int .i64 a4248))] (F68_res r4779) :: .test (leadsAny (Res.mk [(.one (.own 89 (.sl (len r4779) (flat eGEdge r4779))))] [])) false :: .test false false :: l) := fun z => ⟨(igt_eq h4258), (bnot_f h4259), (F143_ok3 _ h4778 (F143_ok K a4246.Prog _ h4705)), (leads_ok (by simp only [leadsAny, List.any_cons, List.any_nil, RV.leads, RC.leads, leadsT, hasSl_lit, Bool.or_false, flat_ns (eInt_ns _), flat_ns eBool_ns, flat_ns eStr_ns, flat_ns eGJob_ns, flat_ns eGEdge_ns, flat_ns eGAsked_ns, flat_ns eGMsg_ns, flat_ns eGrule_ns, flat_ns eGA199_ns, flat_ns eGA202_ns])), (F68_ok K a4245 a4248 _ h4780), (leads_ok (by simp only [leadsAny, List.any_cons, List.any_nil, RV.leads, RC.leads, leadsT, hasSl_lit, Bool.or_false, flat_ns (eInt_ns _), flat_ns eBool_ns, flat_ns eStr_ns, flat_ns eGJob_ns, flat_ns eGEdge_ns, flat_ns eGAsked_ns, flat_ns eGMsg_ns, flat_ns eGrule_ns, flat_ns eGA199_ns, flat_ns eGA202_ns])), rfl, z⟩
      refine cond_some hF (fun h4781 hF => ?_) (fun h4781 hF => ?_)
      ·
        have pq4868 : ∀ {l : List Cond}, HoldAll E H hn99 l → HoldAll E H hn99 (.test (beqb (ieq a4247 0) true) true :: .test (beqb (ieq a4247 0) true) true :: .test (beqb (ieq a4247 0) true) true :: .test (beqb (ieq a4247 0) true) true :: l) := fun z => ⟨(beqb_t h4781), (beqb_t h4781), (beqb_t h4781), (beqb_t h4781), z⟩
        refine cond_some hF (fun h4782 hF => ?_) (fun h4782 hF => ?_)
        ·
          have pq4869 : ∀ {l : List Cond}, HoldAll E H hn99 l → HoldAll E H hn99 (.test (beqb (bnot r4704.1.only_) false) true :: .test (beqb (bnot r4704.1.only_) false) true :: .test (beqb (bnot r4704.1.only_) false) true :: .test (beqb (bnot r4704.1.only_) false) true :: .test (beqb (ieq a4247 0) true) true :: .test (bnot r4704.1.only_) false :: .test (ieq a4247 0) true :: .test (beqb a4251 true) false :: .test (beqb a4251 true) false :: .test (beqb a4251 true) false :: .test (beqb a4251 true) false :: .test (beqb a4251 true) false :: .test a4251 false :: .test false false :: l) := fun z => ⟨(beqb_ff (bnot_t h4782)), (beqb_ff (bnot_t h4782)), (beqb_ff (bnot_t h4782)), (beqb_ff (bnot_t h4782)), (beqb_t h4781), (bnot_t h4782), h4781, (beqb_t h4259), (beqb_t h4259), (beqb_t h4259), (beqb_t h4259), (beqb_t h4259), h4259, rfl, z⟩
          refine cond_some hF (fun h4783 hF => ?_) (fun h4783 hF => ?_)
          ·
            refine bind_some hF (fun y4789 h4788 hF => ?_)
            refine sum_some hF (fun w4790 hx hF => ?_) (fun w4791 hx hF => ?_)
            ·
              subst hx
              have hr := Option.some.inj hF
              subst hr
              have pz : HoldAll E H hn99 [.test (bnot (ieq a4248 a4246.Source)) false, .int (nlen (len r4779)) (nlen (len r4779)), .loop 0 c99_0 (F99_l0_3_S a4249 r4704.1.only_ r4779 [] 0) .ret (F99_l0_3_X0 a4249 r4704.1.only_ r4779 w4790)] := ⟨(bnot_t h4783), rfl, (F99_l0_3_ok K a4249 r4704.1.only_ r4779 K [] 0 _ h4788), trivial⟩
              exact fn_playC hn99 (f := 99) (ads := [.agg (eGGraph a4245), .agg (eGJob a4246), .one (.lit (.int .i64 a4247)), .one (.lit (.int .i64 a4248)), .one (.lit (.int .i64 a4249)), .one (.lit (.int .i64 a4250)), .one (.lit (.bool a4251))]) (r := F99_res (0, ([], (false, 8)))) (pq4812 (pq4813 (pq4814 (pq4867 (pq4868 (pq4869 pz)))))) (by kernel_rfl) (by kernel_rfl)
            subst hx
            have hr := Option.some.inj hF
            subst hr
            have pz : HoldAll E H hn99 [.test (bnot (ieq a4248 a4246.Source)) false, .int (nlen (len r4779)) (nlen (len r4779)), .loop 0 c99_0 (F99_l0_3_S a4249 r4704.1.only_ r4779 [] 0) (.exit 0) (F99_l0_3_X1 a4249 r4704.1.only_ r4779 w4791)] := ⟨(bnot_t h4783), rfl, (F99_l0_3_ok K a4249 r4704.1.only_ r4779 K [] 0 _ h4788), trivial⟩
            exact fn_playC hn99 (f := 99) (ads := [.agg (eGGraph a4245), .agg (eGJob a4246), .one (.lit (.int .i64 a4247)), .one (.lit (.int .i64 a4248)), .one (.lit (.int .i64 a4249)), .one (.lit (.int .i64 a4250)), .one (.lit (.bool a4251))]) (r := F99_res (a4249, (w4791, (true, 0)))) (pq4812 (pq4813 (pq4814 (pq4867 (pq4868 (pq4869 pz)))))) (by kernel_rfl) (by kernel_rfl)
          have hr := Option.some.inj hF
          subst hr
          have pz : HoldAll E H hn99 [.test (bnot (ieq a4248 a4246.Source)) true] := ⟨(bnot_f h4783), trivial⟩
          exact fn_playC hn99 (f := 99) (ads := [.agg (eGGraph a4245), .agg (eGJob a4246), .one (.lit (.int .i64 a4247)), .one (.lit (.int .i64 a4248)), .one (.lit (.int .i64 a4249)), .one (.lit (.int .i64 a4250)), .one (.lit (.bool a4251))]) (r := F99_res (a4249, ([], (true, 0)))) (pq4812 (pq4813 (pq4814 (pq4867 (pq4868 (pq4869 pz)))))) (by kernel_rfl) (by kernel_rfl)
        have pq4870 : ∀ {l : List Cond}, HoldAll E H hn99 l → HoldAll E H hn99 (.test (beqb (bnot r4704.1.only_) false) false :: .test (beqb (bnot r4704.1.only_) false) false :: .test (beqb (bnot r4704.1.only_) false) false :: .test (beqb (bnot r4704.1.only_) false) false :: .test (beqb (ieq a4247 0) true) true :: .test (bnot r4704.1.only_) true :: .test (ieq a4247 0) true :: .test (beqb a4251 true) false :: .test (beqb a4251 true) false :: .test (beqb a4251 true) false :: .test (beqb a4251 true) false :: .test (beqb a4251 true) false :: .test a4251 false :: .test false false :: .test (bnot true) false :: .int (nlen (len r4779)) (nlen (len r4779)) :: l) := fun z => ⟨(beqb_ft (bnot_f h4782)), (beqb_ft (bnot_f h4782)), (beqb_ft (bnot_f h4782)), (beqb_ft (bnot_f h4782)), (beqb_t h4781), (bnot_f h4782), h4781, (beqb_t h4259), (beqb_t h4259), (beqb_t h4259), (beqb_t h4259), (beqb_t h4259), h4259, rfl, (bnot_t rfl), rfl, z⟩
        refine bind_some hF (fun y4798 h4797 hF => ?_)
        refine sum_some hF (fun w4799 hx hF => ?_) (fun w4800 hx hF => ?_)
        ·
          subst hx
          have hr := Option.some.inj hF
          subst hr
          have pz : HoldAll E H hn99 [.loop 0 c99_0 (F99_l0_3_S a4249 r4704.1.only_ r4779 [] 0) .ret (F99_l0_3_X0 a4249 r4704.1.only_ r4779 w4799)] := ⟨(F99_l0_3_ok K a4249 r4704.1.only_ r4779 K [] 0 _ h4797), trivial⟩
          exact fn_playC hn99 (f := 99) (ads := [.agg (eGGraph a4245), .agg (eGJob a4246), .one (.lit (.int .i64 a4247)), .one (.lit (.int .i64 a4248)), .one (.lit (.int .i64 a4249)), .one (.lit (.int .i64 a4250)), .one (.lit (.bool a4251))]) (r := F99_res (0, ([], (false, 8)))) (pq4812 (pq4813 (pq4814 (pq4867 (pq4868 (pq4870 pz)))))) (by kernel_rfl) (by kernel_rfl)
        subst hx
        have hr := Option.some.inj hF
        subst hr
        have pz : HoldAll E H hn99 [.loop 0 c99_0 (F99_l0_3_S a4249 r4704.1.only_ r4779 [] 0) (.exit 0) (F99_l0_3_X1 a4249 r4704.1.only_ r4779 w4800)] := ⟨(F99_l0_3_ok K a4249 r4704.1.only_ r4779 K [] 0 _ h4797), trivial⟩
        exact fn_playC hn99 (f := 99) (ads := [.agg (eGGraph a4245), .agg (eGJob a4246), .one (.lit (.int .i64 a4247)), .one (.lit (.int .i64 a4248)), .one (.lit (.int .i64 a4249)), .one (.lit (.int .i64 a4250)), .one (.lit (.bool a4251))]) (r := F99_res (a4249, (w4800, (true, 0)))) (pq4812 (pq4813 (pq4814 (pq4867 (pq4868 (pq4870 pz)))))) (by kernel_rfl) (by kernel_rfl)
      have hr := Option.some.inj hF
      subst hr
      have pz : HoldAll E H hn99 [.test (beqb (ieq a4247 0) true) false, .test (beqb (ieq a4247 0) true) false, .test (beqb (ieq a4247 0) true) false, .test (beqb (ieq a4247 0) true) false, .test (beqb (ieq a4247 0) true) false, .test (ieq a4247 0) false, .test (beqb a4251 true) false, .test (beqb a4251 true) false, .test (beqb a4251 true) false, .test (beqb a4251 true) false, .test (beqb a4251 true) false, .test a4251 false, .test false false, .test (bnot false) true] := ⟨(beqb_t h4781), (beqb_t h4781), (beqb_t h4781), (beqb_t h4781), (beqb_t h4781), h4781, (beqb_t h4259), (beqb_t h4259), (beqb_t h4259), (beqb_t h4259), (beqb_t h4259), h4259, rfl, (bnot_f rfl), trivial⟩
      exact fn_playC hn99 (f := 99) (ads := [.agg (eGGraph a4245), .agg (eGJob a4246), .one (.lit (.int .i64 a4247)), .one (.lit (.int .i64 a4248)), .one (.lit (.int .i64 a4249)), .one (.lit (.int .i64 a4250)), .one (.lit (.bool a4251))]) (r := F99_res (a4249, ([], (true, 0)))) (pq4812 (pq4813 (pq4814 (pq4867 pz)))) (by kernel_rfl) (by kernel_rfl)
    refine cond_some hF (fun h4802 hF => ?_) (fun h4802 hF => ?_)
    ·
      refine bind_some hF (fun r4803 h4804 hF => ?_)
      refine bind_some hF (fun r4805 h4806 hF => ?_)
      have hr := Option.some.inj hF
      subst hr
      have pz : HoldAll E H hn99 [.test (igt a4247 40) false, .test (bnot a4251) true, .call 143 [.one (.lit (.int .i64 a4246.Prog))] (F143_res4 r4704), .test (leadsAny (Res.mk [(.agg [(.im (.lit (fnV 166))), (.im (.lit .nilFunc)), (.im (.lit (.bool r4704.1.only_))), (.im (.lit (fnV 163)))]), (.one (.im (.lit (.bool r4704.2))))] [])) false, .call 68 [.agg (eGGraph a4245), .one (.lit (.int .i64 a4248))] (F68_res r4803), .test (leadsAny (Res.mk [(.one (.own 89 (.sl (len r4803) (flat eGEdge r4803))))] [])) false, .test true true, .call 146 [.one (.sl (len r4803) (flat eGEdge r4803)), .one (.lit (.int .i64 a4247)), .one (.lit (.int .i64 a4249)), .one (.lit (.int .i64 0))] (F146_res r4805), .test (leadsAny (Res.mk [(.one (.im (.lit (.int .i64 r4805.1)))), (.one (.own 130 (.sl (len r4805.2.1) (flat eGMsg r4805.2.1)))), (.one (.im (.lit (.bool r4805.2.2.1)))), (.one (.im (.lit (.int .i64 r4805.2.2.2))))] [])) false] := ⟨(igt_eq h4258), (bnot_f h4259), (F143_ok4 _ h4802 (F143_ok K a4246.Prog _ h4705)), (leads_ok (by simp only [leadsAny, List.any_cons, List.any_nil, RV.leads, RC.leads, leadsT, hasSl_lit, Bool.or_false, flat_ns (eInt_ns _), flat_ns eBool_ns, flat_ns eStr_ns, flat_ns eGJob_ns, flat_ns eGEdge_ns, flat_ns eGAsked_ns, flat_ns eGMsg_ns, flat_ns eGrule_ns, flat_ns eGA199_ns, flat_ns eGA202_ns])), (F68_ok K a4245 a4248 _ h4804), (leads_ok (by simp only [leadsAny, List.any_cons, List.any_nil, RV.leads, RC.leads, leadsT, hasSl_lit, Bool.or_false, flat_ns (eInt_ns _), flat_ns eBool_ns, flat_ns eStr_ns, flat_ns eGJob_ns, flat_ns eGEdge_ns, flat_ns eGAsked_ns, flat_ns eGMsg_ns, flat_ns eGrule_ns, flat_ns eGA199_ns, flat_ns eGA202_ns])), rfl, (F146_ok K r4803 a4247 a4249 0 _ h4806), (leads_ok (by simp only [leadsAny, List.any_cons, List.any_nil, RV.leads, RC.leads, leadsT, hasSl_lit, Bool.or_false, flat_ns (eInt_ns _), flat_ns eBool_ns, flat_ns eStr_ns, flat_ns eGJob_ns, flat_ns eGEdge_ns, flat_ns eGAsked_ns, flat_ns eGMsg_ns, flat_ns eGrule_ns, flat_ns eGA199_ns, flat_ns eGA202_ns])), trivial⟩
      exact fn_playC hn99 (f := 99) (ads := [.agg (eGGraph a4245), .agg (eGJob a4246), .one (.lit (.int .i64 a4247)), .one (.lit (.int .i64 a4248)), .one (.lit (.int .i64 a4249)), .one (.lit (.int .i64 a4250)), .one (.lit (.bool a4251))]) (r := F99_res (r4805.1, (r4805.2.1, (r4805.2.2.1, r4805.2.2.2)))) (pq4812 (pq4813 (pq4814 pz))) (by kernel_rfl) (by kernel_rfl)
    refine cond_some hF (fun h4807 hF => ?_) (fun _ hF => nomatch hF)
    refine bind_some hF (fun r4808 h4809 hF => ?_)
    refine bind_some hF (fun r4810 h4811 hF => ?_)
    have hr := Option.some.inj hF
    subst hr
    have pz : HoldAll E H hn99 [.test (igt a4247 40) false, .test (bnot a4251) true, .call 143 [.one (.lit (.int .i64 a4246.Prog))] (F143_res5 r4704), .test (leadsAny (Res.mk [(.agg [(.im (.lit .nilFunc)), (.im (.lit .nilFunc)), (.im (.lit (.bool r4704.1.only_))), (.im (.lit .nilFunc))]), (.one (.im (.lit (.bool r4704.2))))] [])) false, .call 68 [.agg (eGGraph a4245), .one (.lit (.int .i64 a4248))] (F68_res r4808), .test (leadsAny (Res.mk [(.one (.own 89 (.sl (len r4808) (flat eGEdge r4808))))] [])) false, .test true true, .call 146 [.one (.sl (len r4808) (flat eGEdge r4808)), .one (.lit (.int .i64 a4247)), .one (.lit (.int .i64 a4249)), .one (.lit (.int .i64 0))] (F146_res r4810), .test (leadsAny (Res.mk [(.one (.im (.lit (.int .i64 r4810.1)))), (.one (.own 130 (.sl (len r4810.2.1) (flat eGMsg r4810.2.1)))), (.one (.im (.lit (.bool r4810.2.2.1)))), (.one (.im (.lit (.int .i64 r4810.2.2.2))))] [])) false] := ⟨(igt_eq h4258), (bnot_f h4259), (F143_ok5 _ h4807 (F143_ok K a4246.Prog _ h4705)), (leads_ok (by simp only [leadsAny, List.any_cons, List.any_nil, RV.leads, RC.leads, leadsT, hasSl_lit, Bool.or_false, flat_ns (eInt_ns _), flat_ns eBool_ns, flat_ns eStr_ns, flat_ns eGJob_ns, flat_ns eGEdge_ns, flat_ns eGAsked_ns, flat_ns eGMsg_ns, flat_ns eGrule_ns, flat_ns eGA199_ns, flat_ns eGA202_ns])), (F68_ok K a4245 a4248 _ h4809), (leads_ok (by simp only [leadsAny, List.any_cons, List.any_nil, RV.leads, RC.leads, leadsT, hasSl_lit, Bool.or_false, flat_ns (eInt_ns _), flat_ns eBool_ns, flat_ns eStr_ns, flat_ns eGJob_ns, flat_ns eGEdge_ns, flat_ns eGAsked_ns, flat_ns eGMsg_ns, flat_ns eGrule_ns, flat_ns eGA199_ns, flat_ns eGA202_ns])), rfl, (F146_ok K r4808 a4247 a4249 0 _ h4811), (leads_ok (by simp only [leadsAny, List.any_cons, List.any_nil, RV.leads, RC.leads, leadsT, hasSl_lit, Bool.or_false, flat_ns (eInt_ns _), flat_ns eBool_ns, flat_ns eStr_ns, flat_ns eGJob_ns, flat_ns eGEdge_ns, flat_ns eGAsked_ns, flat_ns eGMsg_ns, flat_ns eGrule_ns, flat_ns eGA199_ns, flat_ns eGA202_ns])), trivial⟩
    exact fn_playC hn99 (f := 99) (ads := [.agg (eGGraph a4245), .agg (eGJob a4246), .one (.lit (.int .i64 a4247)), .one (.lit (.int .i64 a4248)), .one (.lit (.int .i64 a4249)), .one (.lit (.int .i64 a4250)), .one (.lit (.bool a4251))]) (r := F99_res (r4810.1, (r4810.2.1, (r4810.2.2.1, r4810.2.2.2)))) (pq4812 (pq4813 (pq4814 pz))) (by kernel_rfl) (by kernel_rfl)
  have hr := Option.some.inj hF
  subst hr
  have pz : HoldAll E H hn99 [.call 94 [.agg (eGGraph a4245), .agg (eGJob a4246)] (F94_res r4252), .test (leadsAny (Res.mk [(.one (.im (.lit (.int .i64 r4252))))] [])) false, .test (ine r4252 0) true] := ⟨(F94_ok K a4245 a4246 _ h4253), (leads_ok (by simp only [leadsAny, List.any_cons, List.any_nil, RV.leads, RC.leads, leadsT, hasSl_lit, Bool.or_false, flat_ns (eInt_ns _), flat_ns eBool_ns, flat_ns eStr_ns, flat_ns eGJob_ns, flat_ns eGEdge_ns, flat_ns eGAsked_ns, flat_ns eGMsg_ns, flat_ns eGrule_ns, flat_ns eGA199_ns, flat_ns eGA202_ns])), (ine_f h4254), trivial⟩
  exact fn_playC hn99 (f := 99) (ads := [.agg (eGGraph a4245), .agg (eGJob a4246), .one (.lit (.int .i64 a4247)), .one (.lit (.int .i64 a4248)), .one (.lit (.int .i64 a4249)), .one (.lit (.int .i64 a4250)), .one (.lit (.bool a4251))]) (r := F99_res (0, ([], (false, r4252)))) pz (by kernel_rfl) (by kernel_rfl)

end Go.Proofs.Ytnjanliihnadjaa.Tm

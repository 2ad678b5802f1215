/- Printed by program: what each function computes, and that the machine answers so. Conditions: none. -/
import Derived.Test.YtnjanliihnadjaaTy
import Derived.Test.YtnjanliihnadjaaTab
import Derived.Test.YtnjanliihnadjaaKn
import Derived.KernelRfl
set_option linter.unusedVariables false
set_option linter.unusedSimpArgs false
namespace Go.Proofs.Ytnjanliihnadjaa.Tm
open Go
/-! ### haywain/haywainref04.Start -/
noncomputable def hn96 : Hint := { H 96 with nt := 24, prot := 0 }
def F96_res (r1145 : Int) : Res := ⟨[(.one (.im (.lit (.int .i64 r1145))))], []⟩
def F96 (K : Nat) (a1138 : GJob) (a1139 : Int) : Option (Int) :=
  bif (ieq a1138.Prog 2) then
    (some a1139)
  else
  bif (ieq a1138.Prog 4) then
    (some (wrem (wadd .i64 (wmul .i64 (wmul .i64 a1139 a1139) 31) 7) 1009))
  else
  bif (ieq a1138.Prog 5) then
    (some 1000000)
  else
  bif (ieq a1139 a1138.Source) then
    (some 0)
  else
  some 9223372036854775807
theorem F96_ok (K : Nat) (a1138 : GJob) (a1139 : Int) (r : Int) (hF : F96 K a1138 a1139 = some r) : Evt E H 96 [.agg (eGJob a1138), .one (.lit (.int .i64 a1139))] (F96_res r) := by
  rw [F96] at hF
  refine cond_some hF (fun h1140 hF => ?_) (fun h1140 hF => ?_)
  ·
    have hr := Option.some.inj hF
    subst hr
    have pz : HoldAll E H hn96 [.test (ieq a1138.Prog 2) true] := ⟨h1140, trivial⟩
    exact fn_playC hn96 (f := 96) (ads := [.agg (eGJob a1138), .one (.lit (.int .i64 a1139))]) (r := F96_res a1139) pz (by kernel_rfl) (by kernel_rfl)
  refine cond_some hF (fun h1141 hF => ?_) (fun h1141 hF => ?_)
  ·
    have hr := Option.some.inj hF
    subst hr
    have pz : HoldAll E H hn96 [.test (ieq a1138.Prog 2) false, .test (ieq a1138.Prog 4) true, .int (wmul .i64 a1139 a1139) (wmul .i64 a1139 a1139), .int (wmul .i64 (wmul .i64 a1139 a1139) 31) (wmul .i64 (wmul .i64 a1139 a1139) 31), .int (wadd .i64 (wmul .i64 (wmul .i64 a1139 a1139) 31) 7) (wadd .i64 (wmul .i64 (wmul .i64 a1139 a1139) 31) 7), .test (izero 1009) false, .int (wrem (wadd .i64 (wmul .i64 (wmul .i64 a1139 a1139) 31) 7) 1009) (wrem (wadd .i64 (wmul .i64 (wmul .i64 a1139 a1139) 31) 7) 1009)] := ⟨h1140, h1141, rfl, rfl, rfl, (by first | exact rfl | (unfold Cond.Holds; decide)), rfl, trivial⟩
    exact fn_playC hn96 (f := 96) (ads := [.agg (eGJob a1138), .one (.lit (.int .i64 a1139))]) (r := F96_res (wrem (wadd .i64 (wmul .i64 (wmul .i64 a1139 a1139) 31) 7) 1009)) pz (by kernel_rfl) (by kernel_rfl)
  refine cond_some hF (fun h1142 hF => ?_) (fun h1142 hF => ?_)
  ·
    have hr := Option.some.inj hF
    subst hr
    have pz : HoldAll E H hn96 [.test (ieq a1138.Prog 2) false, .test (ieq a1138.Prog 4) false, .test (ieq a1138.Prog 5) true] := ⟨h1140, h1141, h1142, trivial⟩
    exact fn_playC hn96 (f := 96) (ads := [.agg (eGJob a1138), .one (.lit (.int .i64 a1139))]) (r := F96_res 1000000) pz (by kernel_rfl) (by kernel_rfl)
  have pq1144 : ∀ {l : List Cond}, HoldAll E H hn96 l → HoldAll E H hn96 (.test (ieq a1138.Prog 2) false :: .test (ieq a1138.Prog 4) false :: .test (ieq a1138.Prog 5) false :: l) := fun z => ⟨h1140, h1141, h1142, z⟩
  refine cond_some hF (fun h1143 hF => ?_) (fun h1143 hF => ?_)
  ·
    have hr := Option.some.inj hF
    subst hr
    have pz : HoldAll E H hn96 [.test (ieq a1139 a1138.Source) true] := ⟨h1143, trivial⟩
    exact fn_playC hn96 (f := 96) (ads := [.agg (eGJob a1138), .one (.lit (.int .i64 a1139))]) (r := F96_res 0) (pq1144 pz) (by kernel_rfl) (by kernel_rfl)
  have hr := Option.some.inj hF
  subst hr
  have pz : HoldAll E H hn96 [.test (ieq a1139 a1138.Source) false] := ⟨h1143, trivial⟩
  exact fn_playC hn96 (f := 96) (ads := [.agg (eGJob a1138), .one (.lit (.int .i64 a1139))]) (r := F96_res 9223372036854775807) (pq1144 pz) (by kernel_rfl) (by kernel_rfl)

end Go.Proofs.Ytnjanliihnadjaa.Tm

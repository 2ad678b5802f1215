/- Printed by program: what each function computes, and that the machine answers so. Conditions: none. -/
import Derived.Test.YtnjanliihnadjaaTy
import Derived.Test.YtnjanliihnadjaaTab
import Derived.Test.YtnjanliihnadjaaKn
import Derived.Test.YtnjanliihnadjaaFP
import Derived.KernelRfl
set_option linter.unusedVariables false
set_option linter.unusedSimpArgs false
namespace Go.Proofs.Ytnjanliihnadjaa.Tm
open Go
/-! ### haywain/haywainlaw04.great -/
noncomputable def hn92 : Hint := { H 92 with nt := 7, prot := 0 }
def F92_res (r4060 : Bool) : Res := ⟨[(.one (.im (.lit (.bool r4060))))], []⟩
def F92 (K : Nat) (a4059 : GGraph) : Option (Bool) :=
  some (igt (nlen (len a4059.Edges)) 200)
theorem F92_ok (K : Nat) (a4059 : GGraph) (r : Bool) (hF : F92 K a4059 = some r) : Evt E H 92 [.agg (eGGraph a4059)] (F92_res r) := by
  rw [F92] at hF
  have hr := Option.some.inj hF
  subst hr
  have pz : HoldAll E H hn92 [.int (nlen (len a4059.Edges)) (nlen (len a4059.Edges))] := ⟨rfl, trivial⟩
  exact fn_playC hn92 (f := 92) (ads := [.agg (eGGraph a4059)]) (r := F92_res (igt (nlen (len a4059.Edges)) 200)) pz (by kernel_rfl) (by kernel_rfl)

/-! ### haywain/prog.source -/
noncomputable def hn158 : Hint := { H 158 with nt := 9, prot := 0 }
def F158_res (r4091 : Int) : Res := ⟨[(.one (.im (.lit (.int .i64 r4091))))], []⟩
def F158 (K : Nat) (a4088 : GJob) (a4089 : Int) : Option (Int) :=
  bif (ieq a4089 a4088.Source) then
    (some 0)
  else
  some 9223372036854775807
theorem F158_ok (K : Nat) (a4088 : GJob) (a4089 : Int) (r : Int) (hF : F158 K a4088 a4089 = some r) : Evt E H 158 [.agg (eGJob a4088), .one (.lit (.int .i64 a4089))] (F158_res r) := by
  rw [F158] at hF
  refine cond_some hF (fun h4090 hF => ?_) (fun h4090 hF => ?_)
  ·
    have hr := Option.some.inj hF
    subst hr
    have pz : HoldAll E H hn158 [.test (ieq a4089 a4088.Source) true] := ⟨h4090, trivial⟩
    exact fn_playC hn158 (f := 158) (ads := [.agg (eGJob a4088), .one (.lit (.int .i64 a4089))]) (r := F158_res 0) pz (by kernel_rfl) (by kernel_rfl)
  have hr := Option.some.inj hF
  subst hr
  have pz : HoldAll E H hn158 [.test (ieq a4089 a4088.Source) false] := ⟨h4090, trivial⟩
  exact fn_playC hn158 (f := 158) (ads := [.agg (eGJob a4088), .one (.lit (.int .i64 a4089))]) (r := F158_res 9223372036854775807) pz (by kernel_rfl) (by kernel_rfl)

/-! ### haywain/prog.rules$3 -/
noncomputable def hn162 : Hint := { H 162 with nt := 6, prot := 0 }
def F162_res (r4100 : Int) : Res := ⟨[(.one (.im (.lit (.int .i64 r4100))))], []⟩
def F162 (K : Nat) (a4098 : GJob) (a4099 : Int) : Option (Int) :=
  some a4099
theorem F162_ok (K : Nat) (a4098 : GJob) (a4099 : Int) (r : Int) (hF : F162 K a4098 a4099 = some r) : Evt E H 162 [.agg (eGJob a4098), .one (.lit (.int .i64 a4099))] (F162_res r) := by
  rw [F162] at hF
  have hr := Option.some.inj hF
  subst hr
  have pz : HoldAll E H hn162 [] := trivial
  exact fn_playC hn162 (f := 162) (ads := [.agg (eGJob a4098), .one (.lit (.int .i64 a4099))]) (r := F162_res a4099) pz (by kernel_rfl) (by kernel_rfl)

/-! ### haywain/prog.rules$4 -/
noncomputable def hn164 : Hint := { H 164 with nt := 11, prot := 0 }
def F164_res (r4106 : Int) : Res := ⟨[(.one (.im (.lit (.int .i64 r4106))))], []⟩
def F164 (K : Nat) (a4104 : GJob) (a4105 : Int) : Option (Int) :=
  some (wrem (wadd .i64 (wmul .i64 (wmul .i64 31 a4105) a4105) 7) 1009)
theorem F164_ok (K : Nat) (a4104 : GJob) (a4105 : Int) (r : Int) (hF : F164 K a4104 a4105 = some r) : Evt E H 164 [.agg (eGJob a4104), .one (.lit (.int .i64 a4105))] (F164_res r) := by
  rw [F164] at hF
  have hr := Option.some.inj hF
  subst hr
  have pz : HoldAll E H hn164 [.int (wmul .i64 31 a4105) (wmul .i64 31 a4105), .int (wmul .i64 (wmul .i64 31 a4105) a4105) (wmul .i64 (wmul .i64 31 a4105) a4105), .int (wadd .i64 (wmul .i64 (wmul .i64 31 a4105) a4105) 7) (wadd .i64 (wmul .i64 (wmul .i64 31 a4105) a4105) 7), .test (izero 1009) false, .int (wrem (wadd .i64 (wmul .i64 (wmul .i64 31 a4105) a4105) 7) 1009) (wrem (wadd .i64 (wmul .i64 (wmul .i64 31 a4105) a4105) 7) 1009)] := ⟨rfl, rfl, rfl, (by first | exact rfl | (unfold Cond.Holds; decide)), rfl, trivial⟩
  exact fn_playC hn164 (f := 164) (ads := [.agg (eGJob a4104), .one (.lit (.int .i64 a4105))]) (r := F164_res (wrem (wadd .i64 (wmul .i64 (wmul .i64 31 a4105) a4105) 7) 1009)) pz (by kernel_rfl) (by kernel_rfl)

/-! ### haywain/prog.rules$6 -/
noncomputable def hn166 : Hint := { H 166 with nt := 5, prot := 0 }
def F166_res (r4112 : Int) : Res := ⟨[(.one (.im (.lit (.int .i64 r4112))))], []⟩
def F166 (K : Nat) (a4110 : GJob) (a4111 : Int) : Option (Int) :=
  some 1000000
theorem F166_ok (K : Nat) (a4110 : GJob) (a4111 : Int) (r : Int) (hF : F166 K a4110 a4111 = some r) : Evt E H 166 [.agg (eGJob a4110), .one (.lit (.int .i64 a4111))] (F166_res r) := by
  rw [F166] at hF
  have hr := Option.some.inj hF
  subst hr
  have pz : HoldAll E H hn166 [] := trivial
  exact fn_playC hn166 (f := 166) (ads := [.agg (eGJob a4110), .one (.lit (.int .i64 a4111))]) (r := F166_res 1000000) pz (by kernel_rfl) (by kernel_rfl)

/-! ### haywain/prog.Start -/
noncomputable def hn95 : Hint := { H 95 with nt := 36, prot := 0 }
def F95_res (r4118 : Int × Int) : Res := ⟨[(.one (.im (.lit (.int .i64 r4118.1)))), (.one (.im (.lit (.int .i64 r4118.2))))], []⟩
def F95 (K : Nat) (a4077 : GGraph) (a4078 : GJob) (a4079 : Int) : Option (Int × Int) :=
  (F94 K a4077 a4078).bind fun r4080 =>
  bif (ieq r4080 0) then
    (bif (ilt a4079 0) then
      (some (0, 4))
    else
    bif (ile a4077.N a4079) then
      (some (0, 4))
    else
    (F143 K a4078.Prog).bind fun r4085 =>
    bif (areFns [r4085.1.start_, r4085.1.better_, r4085.1.send_] [158, 159, 160]) then
      ((F158 K a4078 a4079).bind fun r4092 =>
      some (r4092, 0))
    else
    bif (areFns [r4085.1.start_, r4085.1.better_, r4085.1.send_] [158, 159, 161]) then
      ((F158 K a4078 a4079).bind fun r4095 =>
      some (r4095, 0))
    else
    bif (areFns [r4085.1.start_, r4085.1.better_, r4085.1.send_] [162, 159, 163]) then
      ((F162 K a4078 a4079).bind fun r4101 =>
      some (r4101, 0))
    else
    bif (areFns [r4085.1.start_, r4085.1.better_, r4085.1.send_] [164, 165, 163]) then
      ((F164 K a4078 a4079).bind fun r4107 =>
      some (r4107, 0))
    else
    bif (areFns [r4085.1.start_, r4085.1.better_, r4085.1.send_] [166, 0, 163]) then
      ((F166 K a4078 a4079).bind fun r4113 =>
      some (r4113, 0))
    else
    bif (areFns [r4085.1.start_, r4085.1.better_, r4085.1.send_] [0, 0, 0]) then
    none
    else none)
  else
  some (0, r4080)
theorem F95_ok (K : Nat) (a4077 : GGraph) (a4078 : GJob) (a4079 : Int) (r : Int × Int) (hF : F95 K a4077 a4078 a4079 = some r) : Evt E H 95 [.agg (eGGraph a4077), .agg (eGJob a4078), .one (.lit (.int .i64 a4079))] (F95_res r) := by
  rw [F95] at hF
  refine bind_some hF (fun r4080 h4081 hF => ?_)
  refine cond_some hF (fun h4082 hF => ?_) (fun h4082 hF => ?_)
  ·
    have pq4116 : ∀ {l : List Cond}, HoldAll E H hn95 l → HoldAll E H hn95 (.call 94 [.agg (eGGraph a4077), .agg (eGJob a4078)] (F94_res r4080) :: .test (leadsAny (Res.mk [(.one (.im (.lit (.int .i64 r4080))))] [])) false :: .test (ine r4080 0) false :: l) := fun z => ⟨(F94_ok K a4077 a4078 _ h4081), (leads_ok (by simp only [leadsAny, List.any_cons, List.any_nil, RV.leads, RC.leads, leadsT, hasSl_lit, Bool.or_false, flat_ns (eInt_ns _), flat_ns eBool_ns, flat_ns eStr_ns, flat_ns eGJob_ns, flat_ns eGEdge_ns, flat_ns eGAsked_ns, flat_ns eGMsg_ns, flat_ns eGrule_ns, flat_ns eGA199_ns, flat_ns eGA202_ns])), (ine_t h4082), z⟩
    refine cond_some hF (fun h4083 hF => ?_) (fun h4083 hF => ?_)
    ·
      have hr := Option.some.inj hF
      subst hr
      have pz : HoldAll E H hn95 [.test (beqb (ilt a4079 0) false) false, .test (beqb (ilt a4079 0) false) false, .test (beqb (ilt a4079 0) false) false, .test (beqb (ilt a4079 0) false) false, .test (ilt a4079 0) true, .test true true] := ⟨(beqb_ft h4083), (beqb_ft h4083), (beqb_ft h4083), (beqb_ft h4083), h4083, rfl, trivial⟩
      exact fn_playC hn95 (f := 95) (ads := [.agg (eGGraph a4077), .agg (eGJob a4078), .one (.lit (.int .i64 a4079))]) (r := F95_res (0, 4)) (pq4116 pz) (by kernel_rfl) (by kernel_rfl)
    have pq4117 : ∀ {l : List Cond}, HoldAll E H hn95 l → HoldAll E H hn95 (.test (beqb (ilt a4079 0) false) true :: .test (beqb (ilt a4079 0) false) true :: .test (beqb (ilt a4079 0) false) true :: .test (beqb (ilt a4079 0) false) true :: .test (ilt a4079 0) false :: l) := fun z => ⟨(beqb_ff h4083), (beqb_ff h4083), (beqb_ff h4083), (beqb_ff h4083), h4083, z⟩
    refine cond_some hF (fun h4084 hF => ?_) (fun h4084 hF => ?_)
    ·
      have hr := Option.some.inj hF
      subst hr
      have pz : HoldAll E H hn95 [.test (ige a4079 a4077.N) true] := ⟨(ige_eq h4084), trivial⟩
      exact fn_playC hn95 (f := 95) (ads := [.agg (eGGraph a4077), .agg (eGJob a4078), .one (.lit (.int .i64 a4079))]) (r := F95_res (0, 4)) (pq4116 (pq4117 pz)) (by kernel_rfl) (by kernel_rfl)
    refine bind_some hF (fun r4085 h4086 hF => ?_)
    refine cond_some hF (fun h4087 hF => ?_) (fun h4087 hF => ?_)
    ·
      refine bind_some hF (fun r4092 h4093 hF => ?_)
      have hr := Option.some.inj hF
      subst hr
      have pz : HoldAll E H hn95 [.test (ige a4079 a4077.N) false, .call 143 [.one (.lit (.int .i64 a4078.Prog))] (F143_res0 r4085), .test (leadsAny (Res.mk [(.agg [(.im (.lit (fnV 158))), (.im (.lit (fnV 159))), (.im (.lit (.bool r4085.1.only_))), (.im (.lit (fnV 160)))]), (.one (.im (.lit (.bool r4085.2))))] [])) false, .call 158 [.agg (eGJob a4078), .one (.lit (.int .i64 a4079))] (F158_res r4092), .test (leadsAny (Res.mk [(.one (.im (.lit (.int .i64 r4092))))] [])) false] := ⟨(ige_eq h4084), (F143_ok0 _ h4087 (F143_ok K a4078.Prog _ h4086)), (leads_ok (by simp only [leadsAny, List.any_cons, List.any_nil, RV.leads, RC.leads, leadsT, hasSl_lit, Bool.or_false, flat_ns (eInt_ns _), flat_ns eBool_ns, flat_ns eStr_ns, flat_ns eGJob_ns, flat_ns eGEdge_ns, flat_ns eGAsked_ns, flat_ns eGMsg_ns, flat_ns eGrule_ns, flat_ns eGA199_ns, flat_ns eGA202_ns])), (F158_ok K a4078 a4079 _ h4093), (leads_ok (by simp only [leadsAny, List.any_cons, List.any_nil, RV.leads, RC.leads, leadsT, hasSl_lit, Bool.or_false, flat_ns (eInt_ns _), flat_ns eBool_ns, flat_ns eStr_ns, flat_ns eGJob_ns, flat_ns eGEdge_ns, flat_ns eGAsked_ns, flat_ns eGMsg_ns, flat_ns eGrule_ns, flat_ns eGA199_ns, flat_ns eGA202_ns])), trivial⟩
      exact fn_playC hn95 (f := 95) (ads := [.agg (eGGraph a4077), .agg (eGJob a4078), .one (.lit (.int .i64 a4079))]) (r := F95_res (r4092, 0)) (pq4116 (pq4117 pz)) (by kernel_rfl) (by kernel_rfl)
    refine cond_some hF (fun h4094 hF => ?_) (fun h4094 hF => ?_)
    ·
      refine bind_some hF (fun r4095 h4096 hF => ?_)
      have hr := Option.some.inj hF
      subst hr
      have pz : HoldAll E H hn95 [.test (ige a4079 a4077.N) false, .call 143 [.one (.lit (.int .i64 a4078.Prog))] (F143_res1 r4085), .test (leadsAny (Res.mk [(.agg [(.im (.lit (fnV 158))), (.im (.lit (fnV 159))), (.im (.lit (.bool r4085.1.only_))), (.im (.lit (fnV 161)))]), (.one (.im (.lit (.bool r4085.2))))] [])) false, .call 158 [.agg (eGJob a4078), .one (.lit (.int .i64 a4079))] (F158_res r4095), .test (leadsAny (Res.mk [(.one (.im (.lit (.int .i64 r4095))))] [])) false] := ⟨(ige_eq h4084), (F143_ok1 _ h4094 (F143_ok K a4078.Prog _ h4086)), (leads_ok (by simp only [leadsAny, List.any_cons, List.any_nil, RV.leads, RC.leads, leadsT, hasSl_lit, Bool.or_false, flat_ns (eInt_ns _), flat_ns eBool_ns, flat_ns eStr_ns, flat_ns eGJob_ns, flat_ns eGEdge_ns, flat_ns eGAsked_ns, flat_ns eGMsg_ns, flat_ns eGrule_ns, flat_ns eGA199_ns, flat_ns eGA202_ns])), (F158_ok K a4078 a4079 _ h4096), (leads_ok (by simp only [leadsAny, List.any_cons, List.any_nil, RV.leads, RC.leads, leadsT, hasSl_lit, Bool.or_false, flat_ns (eInt_ns _), flat_ns eBool_ns, flat_ns eStr_ns, flat_ns eGJob_ns, flat_ns eGEdge_ns, flat_ns eGAsked_ns, flat_ns eGMsg_ns, flat_ns eGrule_ns, flat_ns eGA199_ns, flat_ns eGA202_ns])), trivial⟩
      exact fn_playC hn95 (f := 95) (ads := [.agg (eGGraph a4077), .agg (eGJob a4078), .one (.lit (.int .i64 a4079))]) (r := F95_res (r4095, 0)) (pq4116 (pq4117 pz)) (by kernel_rfl) (by kernel_rfl)
    refine cond_some hF (fun h4097 hF => ?_) (fun h4097 hF => ?_)
    ·
      refine bind_some hF (fun r4101 h4102 hF => ?_)
      have hr := Option.some.inj hF
      subst hr
      have pz : HoldAll E H hn95 [.test (ige a4079 a4077.N) false, .call 143 [.one (.lit (.int .i64 a4078.Prog))] (F143_res2 r4085), .test (leadsAny (Res.mk [(.agg [(.im (.lit (fnV 162))), (.im (.lit (fnV 159))), (.im (.lit (.bool r4085.1.only_))), (.im (.lit (fnV 163)))]), (.one (.im (.lit (.bool r4085.2))))] [])) false, .call 162 [.agg (eGJob a4078), .one (.lit (.int .i64 a4079))] (F162_res r4101), .test (leadsAny (Res.mk [(.one (.im (.lit (.int .i64 r4101))))] [])) false] := ⟨(ige_eq h4084), (F143_ok2 _ h4097 (F143_ok K a4078.Prog _ h4086)), (leads_ok (by simp only [leadsAny, List.any_cons, List.any_nil, RV.leads, RC.leads, leadsT, hasSl_lit, Bool.or_false, flat_ns (eInt_ns _), flat_ns eBool_ns, flat_ns eStr_ns, flat_ns eGJob_ns, flat_ns eGEdge_ns, flat_ns eGAsked_ns, flat_ns eGMsg_ns, flat_ns eGrule_ns, flat_ns eGA199_ns, flat_ns eGA202_ns])), (F162_ok K a4078 a4079 _ h4102), (leads_ok (by simp only [leadsAny, List.any_cons, List.any_nil, RV.leads, RC.leads, leadsT, hasSl_lit, Bool.or_false, flat_ns (eInt_ns _), flat_ns eBool_ns, flat_ns eStr_ns, flat_ns eGJob_ns, flat_ns eGEdge_ns, flat_ns eGAsked_ns, flat_ns eGMsg_ns, flat_ns eGrule_ns, flat_ns eGA199_ns, flat_ns eGA202_ns])), trivial⟩
      exact fn_playC hn95 (f := 95) (ads := [.agg (eGGraph a4077), .agg (eGJob a4078), .one (.lit (.int .i64 a4079))]) (r := F95_res (r4101, 0)) (pq4116 (pq4117 pz)) (by kernel_rfl) (by kernel_rfl)
    refine cond_some hF (fun h4103 hF => ?_) (fun h4103 hF => ?_)
    ·
      refine bind_some hF (fun r4107 h4108 hF => ?_)
      have hr := Option.some.inj hF
      subst hr
      have pz : HoldAll E H hn95 [.test (ige a4079 a4077.N) false, .call 143 [.one (.lit (.int .i64 a4078.Prog))] (F143_res3 r4085), .test (leadsAny (Res.mk [(.agg [(.im (.lit (fnV 164))), (.im (.lit (fnV 165))), (.im (.lit (.bool r4085.1.only_))), (.im (.lit (fnV 163)))]), (.one (.im (.lit (.bool r4085.2))))] [])) false, .call 164 [.agg (eGJob a4078), .one (.lit (.int .i64 a4079))] (F164_res r4107), .test (leadsAny (Res.mk [(.one (.im (.lit (.int .i64 r4107))))] [])) false] := ⟨(ige_eq h4084), (F143_ok3 _ h4103 (F143_ok K a4078.Prog _ h4086)), (leads_ok (by simp only [leadsAny, List.any_cons, List.any_nil, RV.leads, RC.leads, leadsT, hasSl_lit, Bool.or_false, flat_ns (eInt_ns _), flat_ns eBool_ns, flat_ns eStr_ns, flat_ns eGJob_ns, flat_ns eGEdge_ns, flat_ns eGAsked_ns, flat_ns eGMsg_ns, flat_ns eGrule_ns, flat_ns eGA199_ns, flat_ns eGA202_ns])), (F164_ok K a4078 a4079 _ h4108), (leads_ok (by simp only [leadsAny, List.any_cons, List.any_nil, RV.leads, RC.leads, leadsT, hasSl_lit, Bool.or_false, flat_ns (eInt_ns _), flat_ns eBool_ns, flat_ns eStr_ns, flat_ns eGJob_ns, flat_ns eGEdge_ns, flat_ns eGAsked_ns, flat_ns eGMsg_ns, flat_ns eGrule_ns, flat_ns eGA199_ns, flat_ns eGA202_ns])), trivial⟩
      exact fn_playC hn95 (f := 95) (ads := [.agg (eGGraph a4077), .agg (eGJob a4078), .one (.lit (.int .i64 a4079))]) (r := F95_res (r4107, 0)) (pq4116 (pq4117 pz)) (by kernel_rfl) (by kernel_rfl)
    refine cond_some hF (fun h4109 hF => ?_) (fun h4109 hF => ?_)
    ·
      refine bind_some hF (fun r4113 h4114 hF => ?_)
      have hr := Option.some.inj hF
      subst hr
      have pz : HoldAll E H hn95 [.test (ige a4079 a4077.N) false, .call 143 [.one (.lit (.int .i64 a4078.Prog))] (F143_res4 r4085), .test (leadsAny (Res.mk [(.agg [(.im (.lit (fnV 166))), (.im (.lit .nilFunc)), (.im (.lit (.bool r4085.1.only_))), (.im (.lit (fnV 163)))]), (.one (.im (.lit (.bool r4085.2))))] [])) false, .call 166 [.agg (eGJob a4078), .one (.lit (.int .i64 a4079))] (F166_res r4113), .test (leadsAny (Res.mk [(.one (.im (.lit (.int .i64 r4113))))] [])) false] := ⟨(ige_eq h4084), (F143_ok4 _ h4109 (F143_ok K a4078.Prog _ h4086)), (leads_ok (by simp only [leadsAny, List.any_cons, List.any_nil, RV.leads, RC.leads, leadsT, hasSl_lit, Bool.or_false, flat_ns (eInt_ns _), flat_ns eBool_ns, flat_ns eStr_ns, flat_ns eGJob_ns, flat_ns eGEdge_ns, flat_ns eGAsked_ns, flat_ns eGMsg_ns, flat_ns eGrule_ns, flat_ns eGA199_ns, flat_ns eGA202_ns])), (F166_ok K a4078 a4079 _ h4114), (leads_ok (by simp only [leadsAny, List.any_cons, List.any_nil, RV.leads, RC.leads, leadsT, hasSl_lit, Bool.or_false, flat_ns (eInt_ns _), flat_ns eBool_ns, flat_ns eStr_ns, flat_ns eGJob_ns, flat_ns eGEdge_ns, flat_ns eGAsked_ns, flat_ns eGMsg_ns, flat_ns eGrule_ns, flat_ns eGA199_ns, flat_ns eGA202_ns])), trivial⟩
      exact fn_playC hn95 (f := 95) (ads := [.agg (eGGraph a4077), .agg (eGJob a4078), .one (.lit (.int .i64 a4079))]) (r := F95_res (r4113, 0)) (pq4116 (pq4117 pz)) (by kernel_rfl) (by kernel_rfl)
    refine cond_some hF (fun h4115 hF => ?_) (fun _ hF => nomatch hF)
    cases hF
  have hr := Option.some.inj hF
  subst hr
  have pz : HoldAll E H hn95 [.call 94 [.agg (eGGraph a4077), .agg (eGJob a4078)] (F94_res r4080), .test (leadsAny (Res.mk [(.one (.im (.lit (.int .i64 r4080))))] [])) false, .test (ine r4080 0) true] := ⟨(F94_ok K a4077 a4078 _ h4081), (leads_ok (by simp only [leadsAny, List.any_cons, List.any_nil, RV.leads, RC.leads, leadsT, hasSl_lit, Bool.or_false, flat_ns (eInt_ns _), flat_ns eBool_ns, flat_ns eStr_ns, flat_ns eGJob_ns, flat_ns eGEdge_ns, flat_ns eGAsked_ns, flat_ns eGMsg_ns, flat_ns eGrule_ns, flat_ns eGA199_ns, flat_ns eGA202_ns])), (ine_f h4082), trivial⟩
  exact fn_playC hn95 (f := 95) (ads := [.agg (eGGraph a4077), .agg (eGJob a4078), .one (.lit (.int .i64 a4079))]) (r := F95_res (0, r4080)) pz (by kernel_rfl) (by kernel_rfl)

end Go.Proofs.Ytnjanliihnadjaa.Tm

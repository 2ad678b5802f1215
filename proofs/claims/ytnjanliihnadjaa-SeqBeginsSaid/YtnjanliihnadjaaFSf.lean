/- Printed by program: what each function computes, and that the machine answers so. Conditions: none. -/
import Derived.Test.YtnjanliihnadjaaTy
import Derived.Test.YtnjanliihnadjaaTab
import Derived.Test.YtnjanliihnadjaaKn
import Derived.Test.YtnjanliihnadjaaFP
import Derived.KernelRfl
set_option linter.unusedVariables false
set_option linter.unusedSimpArgs false
namespace Go.Proofs.Ytnjanliihnadjaa.Tm
open Go
/-! ### haywain/prog.less -/
noncomputable def hn159 : Hint := { H 159 with nt := 8, prot := 0 }
def F159_res (r4157 : Bool) : Res := ⟨[(.one (.im (.lit (.bool r4157))))], []⟩
def F159 (K : Nat) (a4155 : Int) (a4156 : Int) : Option (Bool) :=
  some (ilt a4155 a4156)
theorem F159_ok (K : Nat) (a4155 : Int) (a4156 : Int) (r : Bool) (hF : F159 K a4155 a4156 = some r) : Evt E H 159 [.one (.lit (.int .i64 a4155)), .one (.lit (.int .i64 a4156))] (F159_res r) := by
  rw [F159] at hF
  have hr := Option.some.inj hF
  subst hr
  have pz : HoldAll E H hn159 [] := trivial
  exact fn_playC hn159 (f := 159) (ads := [.one (.lit (.int .i64 a4155)), .one (.lit (.int .i64 a4156))]) (r := F159_res (ilt a4155 a4156)) pz (by kernel_rfl) (by kernel_rfl)

/-! ### haywain/prog.rules$5 -/
noncomputable def hn165 : Hint := { H 165 with nt := 8, prot := 0 }
def F165_res (r4175 : Bool) : Res := ⟨[(.one (.im (.lit (.bool r4175))))], []⟩
def F165 (K : Nat) (a4173 : Int) (a4174 : Int) : Option (Bool) :=
  some (igt a4173 a4174)
theorem F165_ok (K : Nat) (a4173 : Int) (a4174 : Int) (r : Bool) (hF : F165 K a4173 a4174 = some r) : Evt E H 165 [.one (.lit (.int .i64 a4173)), .one (.lit (.int .i64 a4174))] (F165_res r) := by
  rw [F165] at hF
  have hr := Option.some.inj hF
  subst hr
  have pz : HoldAll E H hn165 [] := trivial
  exact fn_playC hn165 (f := 165) (ads := [.one (.lit (.int .i64 a4173)), .one (.lit (.int .i64 a4174))]) (r := F165_res (igt a4173 a4174)) pz (by kernel_rfl) (by kernel_rfl)

/-! ### haywain/num.Add -/
noncomputable def hn144 : Hint := { H 144 with nt := 23, prot := 0 }
def F144_res (r4186 : Int × Bool) : Res := ⟨[(.one (.im (.lit (.int .i64 r4186.1)))), (.one (.im (.lit (.bool r4186.2))))], []⟩
def F144 (K : Nat) (a4181 : Int) (a4182 : Int) : Option (Int × Bool) :=
  bif (beqb (ige a4181 0) (ige a4182 0)) then
    (bif (beqb (ige (wadd .i64 a4181 a4182) 0) (ige a4181 0)) then
      (some ((wadd .i64 a4181 a4182), true))
    else
    some (0, false))
  else
  some ((wadd .i64 a4181 a4182), true)
theorem F144_ok (K : Nat) (a4181 : Int) (a4182 : Int) (r : Int × Bool) (hF : F144 K a4181 a4182 = some r) : Evt E H 144 [.one (.lit (.int .i64 a4181)), .one (.lit (.int .i64 a4182))] (F144_res r) := by
  rw [F144] at hF
  refine cond_some hF (fun h4183 hF => ?_) (fun h4183 hF => ?_)
  ·
    have pq4185 : ∀ {l : List Cond}, HoldAll E H hn144 l → HoldAll E H hn144 (.int (wadd .i64 a4181 a4182) (wadd .i64 a4181 a4182) :: .test (beqb (beqb (ige a4181 0) (ige a4182 0)) true) true :: .test (beqb (beqb (ige a4181 0) (ige a4182 0)) true) true :: .test (beqb (beqb (ige a4181 0) (ige a4182 0)) true) true :: .test (beqb (beqb (ige a4181 0) (ige a4182 0)) true) true :: .test (beqb (beqb (ige a4181 0) (ige a4182 0)) true) true :: .test (beqb (ige a4181 0) (ige a4182 0)) true :: l) := fun z => ⟨rfl, (beqb_t h4183), (beqb_t h4183), (beqb_t h4183), (beqb_t h4183), (beqb_t h4183), h4183, z⟩
    refine cond_some hF (fun h4184 hF => ?_) (fun h4184 hF => ?_)
    ·
      have hr := Option.some.inj hF
      subst hr
      have pz : HoldAll E H hn144 [.test (bnot (beqb (ige (wadd .i64 a4181 a4182) 0) (ige a4181 0))) false] := ⟨(bnot_t h4184), trivial⟩
      exact fn_playC hn144 (f := 144) (ads := [.one (.lit (.int .i64 a4181)), .one (.lit (.int .i64 a4182))]) (r := F144_res ((wadd .i64 a4181 a4182), true)) (pq4185 pz) (by kernel_rfl) (by kernel_rfl)
    have hr := Option.some.inj hF
    subst hr
    have pz : HoldAll E H hn144 [.test (bnot (beqb (ige (wadd .i64 a4181 a4182) 0) (ige a4181 0))) true] := ⟨(bnot_f h4184), trivial⟩
    exact fn_playC hn144 (f := 144) (ads := [.one (.lit (.int .i64 a4181)), .one (.lit (.int .i64 a4182))]) (r := F144_res (0, false)) (pq4185 pz) (by kernel_rfl) (by kernel_rfl)
  have hr := Option.some.inj hF
  subst hr
  have pz : HoldAll E H hn144 [.int (wadd .i64 a4181 a4182) (wadd .i64 a4181 a4182), .test (beqb (beqb (ige a4181 0) (ige a4182 0)) true) false, .test (beqb (beqb (ige a4181 0) (ige a4182 0)) true) false, .test (beqb (beqb (ige a4181 0) (ige a4182 0)) true) false, .test (beqb (beqb (ige a4181 0) (ige a4182 0)) true) false, .test (beqb (beqb (ige a4181 0) (ige a4182 0)) true) false, .test (beqb (ige a4181 0) (ige a4182 0)) false, .test false false] := ⟨rfl, (beqb_t h4183), (beqb_t h4183), (beqb_t h4183), (beqb_t h4183), (beqb_t h4183), h4183, rfl, trivial⟩
  exact fn_playC hn144 (f := 144) (ads := [.one (.lit (.int .i64 a4181)), .one (.lit (.int .i64 a4182))]) (r := F144_res ((wadd .i64 a4181 a4182), true)) pz (by kernel_rfl) (by kernel_rfl)

/-! ### haywain/prog.Fold -/
noncomputable def hn97 : Hint := { H 97 with nt := 41, prot := 0 }
def F97_res (r4201 : Int × Int) : Res := ⟨[(.one (.im (.lit (.int .i64 r4201.1)))), (.one (.im (.lit (.int .i64 r4201.2))))], []⟩
def F97 (K : Nat) (a4148 : Int) (a4149 : Int) (a4150 : Int) : Option (Int × Int) :=
  (F143 K a4148).bind fun r4151 =>
  bif (areFns [r4151.1.start_, r4151.1.better_, r4151.1.send_] [158, 159, 160]) then
    (bif r4151.2 then
      ((F159 K a4150 a4149).bind fun r4158 =>
      bif r4158 then
        (some (a4150, 0))
      else
      some (a4149, 0))
    else
    some (0, 1))
  else
  bif (areFns [r4151.1.start_, r4151.1.better_, r4151.1.send_] [158, 159, 161]) then
    (bif r4151.2 then
      ((F159 K a4150 a4149).bind fun r4163 =>
      bif r4163 then
        (some (a4150, 0))
      else
      some (a4149, 0))
    else
    some (0, 1))
  else
  bif (areFns [r4151.1.start_, r4151.1.better_, r4151.1.send_] [162, 159, 163]) then
    (bif r4151.2 then
      ((F159 K a4150 a4149).bind fun r4168 =>
      bif r4168 then
        (some (a4150, 0))
      else
      some (a4149, 0))
    else
    some (0, 1))
  else
  bif (areFns [r4151.1.start_, r4151.1.better_, r4151.1.send_] [164, 165, 163]) then
    (bif r4151.2 then
      ((F165 K a4150 a4149).bind fun r4176 =>
      bif r4176 then
        (some (a4150, 0))
      else
      some (a4149, 0))
    else
    some (0, 1))
  else
  bif (areFns [r4151.1.start_, r4151.1.better_, r4151.1.send_] [166, 0, 163]) then
    (bif r4151.2 then
      ((F144 K a4149 a4150).bind fun r4187 =>
      bif r4187.2 then
        (some (r4187.1, 0))
      else
      some (0, 8))
    else
    some (0, 1))
  else
  bif (areFns [r4151.1.start_, r4151.1.better_, r4151.1.send_] [0, 0, 0]) then
  bif r4151.2 then
    ((F144 K a4149 a4150).bind fun r4192 =>
    bif r4192.2 then
      (some (r4192.1, 0))
    else
    some (0, 8))
  else
  some (0, 1)
  else none
theorem F97_ok (K : Nat) (a4148 : Int) (a4149 : Int) (a4150 : Int) (r : Int × Int) (hF : F97 K a4148 a4149 a4150 = some r) : Evt E H 97 [.one (.lit (.int .i64 a4148)), .one (.lit (.int .i64 a4149)), .one (.lit (.int .i64 a4150))] (F97_res r) := by
  rw [F97] at hF
  refine bind_some hF (fun r4151 h4152 hF => ?_)
  refine cond_some hF (fun h4153 hF => ?_) (fun h4153 hF => ?_)
  ·
    refine cond_some hF (fun h4154 hF => ?_) (fun h4154 hF => ?_)
    ·
      refine bind_some hF (fun r4158 h4159 hF => ?_)
      have pq4195 : ∀ {l : List Cond}, HoldAll E H hn97 l → HoldAll E H hn97 (.call 143 [.one (.lit (.int .i64 a4148))] (F143_res0 r4151) :: .test (leadsAny (Res.mk [(.agg [(.im (.lit (fnV 158))), (.im (.lit (fnV 159))), (.im (.lit (.bool r4151.1.only_))), (.im (.lit (fnV 160)))]), (.one (.im (.lit (.bool r4151.2))))] [])) false :: .test (bnot r4151.2) false :: .test false false :: .call 159 [.one (.lit (.int .i64 a4150)), .one (.lit (.int .i64 a4149))] (F159_res r4158) :: .test (leadsAny (Res.mk [(.one (.im (.lit (.bool r4158))))] [])) false :: l) := fun z => ⟨(F143_ok0 _ h4153 (F143_ok K a4148 _ h4152)), (leads_ok (by simp only [leadsAny, List.any_cons, List.any_nil, RV.leads, RC.leads, leadsT, hasSl_lit, Bool.or_false, flat_ns (eInt_ns _), flat_ns eBool_ns, flat_ns eStr_ns, flat_ns eGJob_ns, flat_ns eGEdge_ns, flat_ns eGAsked_ns, flat_ns eGMsg_ns, flat_ns eGrule_ns, flat_ns eGA199_ns, flat_ns eGA202_ns])), (bnot_t h4154), rfl, (F159_ok K a4150 a4149 _ h4159), (leads_ok (by simp only [leadsAny, List.any_cons, List.any_nil, RV.leads, RC.leads, leadsT, hasSl_lit, Bool.or_false, flat_ns (eInt_ns _), flat_ns eBool_ns, flat_ns eStr_ns, flat_ns eGJob_ns, flat_ns eGEdge_ns, flat_ns eGAsked_ns, flat_ns eGMsg_ns, flat_ns eGrule_ns, flat_ns eGA199_ns, flat_ns eGA202_ns])), z⟩
      refine cond_some hF (fun h4160 hF => ?_) (fun h4160 hF => ?_)
      ·
        have hr := Option.some.inj hF
        subst hr
        have pz : HoldAll E H hn97 [.test r4158 true] := ⟨h4160, trivial⟩
        exact fn_playC hn97 (f := 97) (ads := [.one (.lit (.int .i64 a4148)), .one (.lit (.int .i64 a4149)), .one (.lit (.int .i64 a4150))]) (r := F97_res (a4150, 0)) (pq4195 pz) (by kernel_rfl) (by kernel_rfl)
      have hr := Option.some.inj hF
      subst hr
      have pz : HoldAll E H hn97 [.test r4158 false] := ⟨h4160, trivial⟩
      exact fn_playC hn97 (f := 97) (ads := [.one (.lit (.int .i64 a4148)), .one (.lit (.int .i64 a4149)), .one (.lit (.int .i64 a4150))]) (r := F97_res (a4149, 0)) (pq4195 pz) (by kernel_rfl) (by kernel_rfl)
    have hr := Option.some.inj hF
    subst hr
    have pz : HoldAll E H hn97 [.call 143 [.one (.lit (.int .i64 a4148))] (F143_res0 r4151), .test (leadsAny (Res.mk [(.agg [(.im (.lit (fnV 158))), (.im (.lit (fnV 159))), (.im (.lit (.bool r4151.1.only_))), (.im (.lit (fnV 160)))]), (.one (.im (.lit (.bool r4151.2))))] [])) false, .test (bnot r4151.2) true] := ⟨(F143_ok0 _ h4153 (F143_ok K a4148 _ h4152)), (leads_ok (by simp only [leadsAny, List.any_cons, List.any_nil, RV.leads, RC.leads, leadsT, hasSl_lit, Bool.or_false, flat_ns (eInt_ns _), flat_ns eBool_ns, flat_ns eStr_ns, flat_ns eGJob_ns, flat_ns eGEdge_ns, flat_ns eGAsked_ns, flat_ns eGMsg_ns, flat_ns eGrule_ns, flat_ns eGA199_ns, flat_ns eGA202_ns])), (bnot_f h4154), trivial⟩
    exact fn_playC hn97 (f := 97) (ads := [.one (.lit (.int .i64 a4148)), .one (.lit (.int .i64 a4149)), .one (.lit (.int .i64 a4150))]) (r := F97_res (0, 1)) pz (by kernel_rfl) (by kernel_rfl)
  refine cond_some hF (fun h4161 hF => ?_) (fun h4161 hF => ?_)
  ·
    refine cond_some hF (fun h4162 hF => ?_) (fun h4162 hF => ?_)
    ·
      refine bind_some hF (fun r4163 h4164 hF => ?_)
      have pq4196 : ∀ {l : List Cond}, HoldAll E H hn97 l → HoldAll E H hn97 (.call 143 [.one (.lit (.int .i64 a4148))] (F143_res1 r4151) :: .test (leadsAny (Res.mk [(.agg [(.im (.lit (fnV 158))), (.im (.lit (fnV 159))), (.im (.lit (.bool r4151.1.only_))), (.im (.lit (fnV 161)))]), (.one (.im (.lit (.bool r4151.2))))] [])) false :: .test (bnot r4151.2) false :: .test false false :: .call 159 [.one (.lit (.int .i64 a4150)), .one (.lit (.int .i64 a4149))] (F159_res r4163) :: .test (leadsAny (Res.mk [(.one (.im (.lit (.bool r4163))))] [])) false :: l) := fun z => ⟨(F143_ok1 _ h4161 (F143_ok K a4148 _ h4152)), (leads_ok (by simp only [leadsAny, List.any_cons, List.any_nil, RV.leads, RC.leads, leadsT, hasSl_lit, Bool.or_false, flat_ns (eInt_ns _), flat_ns eBool_ns, flat_ns eStr_ns, flat_ns eGJob_ns, flat_ns eGEdge_ns, flat_ns eGAsked_ns, flat_ns eGMsg_ns, flat_ns eGrule_ns, flat_ns eGA199_ns, flat_ns eGA202_ns])), (bnot_t h4162), rfl, (F159_ok K a4150 a4149 _ h4164), (leads_ok (by simp only [leadsAny, List.any_cons, List.any_nil, RV.leads, RC.leads, leadsT, hasSl_lit, Bool.or_false, flat_ns (eInt_ns _), flat_ns eBool_ns, flat_ns eStr_ns, flat_ns eGJob_ns, flat_ns eGEdge_ns, flat_ns eGAsked_ns, flat_ns eGMsg_ns, flat_ns eGrule_ns, flat_ns eGA199_ns, flat_ns eGA202_ns])), z⟩
      refine cond_some hF (fun h4165 hF => ?_) (fun h4165 hF => ?_)
      ·
        have hr := Option.some.inj hF
        subst hr
        have pz : HoldAll E H hn97 [.test r4163 true] := ⟨h4165, trivial⟩
        exact fn_playC hn97 (f := 97) (ads := [.one (.lit (.int .i64 a4148)), .one (.lit (.int .i64 a4149)), .one (.lit (.int .i64 a4150))]) (r := F97_res (a4150, 0)) (pq4196 pz) (by kernel_rfl) (by kernel_rfl)
      have hr := Option.some.inj hF
      subst hr
      have pz : HoldAll E H hn97 [.test r4163 false] := ⟨h4165, trivial⟩
      exact fn_playC hn97 (f := 97) (ads := [.one (.lit (.int .i64 a4148)), .one (.lit (.int .i64 a4149)), .one (.lit (.int .i64 a4150))]) (r := F97_res (a4149, 0)) (pq4196 pz) (by kernel_rfl) (by kernel_rfl)
    have hr := Option.some.inj hF
    subst hr
    have pz : HoldAll E H hn97 [.call 143 [.one (.lit (.int .i64 a4148))] (F143_res1 r4151), .test (leadsAny (Res.mk [(.agg [(.im (.lit (fnV 158))), (.im (.lit (fnV 159))), (.im (.lit (.bool r4151.1.only_))), (.im (.lit (fnV 161)))]), (.one (.im (.lit (.bool r4151.2))))] [])) false, .test (bnot r4151.2) true] := ⟨(F143_ok1 _ h4161 (F143_ok K a4148 _ h4152)), (leads_ok (by simp only [leadsAny, List.any_cons, List.any_nil, RV.leads, RC.leads, leadsT, hasSl_lit, Bool.or_false, flat_ns (eInt_ns _), flat_ns eBool_ns, flat_ns eStr_ns, flat_ns eGJob_ns, flat_ns eGEdge_ns, flat_ns eGAsked_ns, flat_ns eGMsg_ns, flat_ns eGrule_ns, flat_ns eGA199_ns, flat_ns eGA202_ns])), (bnot_f h4162), trivial⟩
    exact fn_playC hn97 (f := 97) (ads := [.one (.lit (.int .i64 a4148)), .one (.lit (.int .i64 a4149)), .one (.lit (.int .i64 a4150))]) (r := F97_res (0, 1)) pz (by kernel_rfl) (by kernel_rfl)
  refine cond_some hF (fun h4166 hF => ?_) (fun h4166 hF => ?_)
  ·
    refine cond_some hF (fun h4167 hF => ?_) (fun h4167 hF => ?_)
    ·
      refine bind_some hF (fun r4168 h4169 hF => ?_)
      have pq4197 : ∀ {l : List Cond}, HoldAll E H hn97 l → HoldAll E H hn97 (.call 143 [.one (.lit (.int .i64 a4148))] (F143_res2 r4151) :: .test (leadsAny (Res.mk [(.agg [(.im (.lit (fnV 162))), (.im (.lit (fnV 159))), (.im (.lit (.bool r4151.1.only_))), (.im (.lit (fnV 163)))]), (.one (.im (.lit (.bool r4151.2))))] [])) false :: .test (bnot r4151.2) false :: .test false false :: .call 159 [.one (.lit (.int .i64 a4150)), .one (.lit (.int .i64 a4149))] (F159_res r4168) :: .test (leadsAny (Res.mk [(.one (.im (.lit (.bool r4168))))] [])) false :: l) := fun z => ⟨(F143_ok2 _ h4166 (F143_ok K a4148 _ h4152)), (leads_ok (by simp only [leadsAny, List.any_cons, List.any_nil, RV.leads, RC.leads, leadsT, hasSl_lit, Bool.or_false, flat_ns (eInt_ns _), flat_ns eBool_ns, flat_ns eStr_ns, flat_ns eGJob_ns, flat_ns eGEdge_ns, flat_ns eGAsked_ns, flat_ns eGMsg_ns, flat_ns eGrule_ns, flat_ns eGA199_ns, flat_ns eGA202_ns])), (bnot_t h4167), rfl, (F159_ok K a4150 a4149 _ h4169), (leads_ok (by simp only [leadsAny, List.any_cons, List.any_nil, RV.leads, RC.leads, leadsT, hasSl_lit, Bool.or_false, flat_ns (eInt_ns _), flat_ns eBool_ns, flat_ns eStr_ns, flat_ns eGJob_ns, flat_ns eGEdge_ns, flat_ns eGAsked_ns, flat_ns eGMsg_ns, flat_ns eGrule_ns, flat_ns eGA199_ns, flat_ns eGA202_ns])), z⟩
      refine cond_some hF (fun h4170 hF => ?_) (fun h4170 hF => ?_)
      ·
        have hr := Option.some.inj hF
        subst hr
        have pz : HoldAll E H hn97 [.test r4168 true] := ⟨h4170, trivial⟩
        exact fn_playC hn97 (f := 97) (ads := [.one (.lit (.int .i64 a4148)), .one (.lit (.int .i64 a4149)), .one (.lit (.int .i64 a4150))]) (r := F97_res (a4150, 0)) (pq4197 pz) (by kernel_rfl) (by kernel_rfl)
      have hr := Option.some.inj hF
      subst hr
      have pz : HoldAll E H hn97 [.test r4168 false] := ⟨h4170, trivial⟩
      exact fn_playC hn97 (f := 97) (ads := [.one (.lit (.int .i64 a4148)), .one (.lit (.int .i64 a4149)), .one (.lit (.int .i64 a4150))]) (r := F97_res (a4149, 0)) (pq4197 pz) (by kernel_rfl) (by kernel_rfl)
    have hr := Option.some.inj hF
    subst hr
    have pz : HoldAll E H hn97 [.call 143 [.one (.lit (.int .i64 a4148))] (F143_res2 r4151), .test (leadsAny (Res.mk [(.agg [(.im (.lit (fnV 162))), (.im (.lit (fnV 159))), (.im (.lit (.bool r4151.1.only_))), (.im (.lit (fnV 163)))]), (.one (.im (.lit (.bool r4151.2))))] [])) false, .test (bnot r4151.2) true] := ⟨(F143_ok2 _ h4166 (F143_ok K a4148 _ h4152)), (leads_ok (by simp only [leadsAny, List.any_cons, List.any_nil, RV.leads, RC.leads, leadsT, hasSl_lit, Bool.or_false, flat_ns (eInt_ns _), flat_ns eBool_ns, flat_ns eStr_ns, flat_ns eGJob_ns, flat_ns eGEdge_ns, flat_ns eGAsked_ns, flat_ns eGMsg_ns, flat_ns eGrule_ns, flat_ns eGA199_ns, flat_ns eGA202_ns])), (bnot_f h4167), trivial⟩
    exact fn_playC hn97 (f := 97) (ads := [.one (.lit (.int .i64 a4148)), .one (.lit (.int .i64 a4149)), .one (.lit (.int .i64 a4150))]) (r := F97_res (0, 1)) pz (by kernel_rfl) (by kernel_rfl)
  refine cond_some hF (fun h4171 hF => ?_) (fun h4171 hF => ?_)
  ·
    refine cond_some hF (fun h4172 hF => ?_) (fun h4172 hF => ?_)
    ·
      refine bind_some hF (fun r4176 h4177 hF => ?_)
      have pq4198 : ∀ {l : List Cond}, HoldAll E H hn97 l → HoldAll E H hn97 (.call 143 [.one (.lit (.int .i64 a4148))] (F143_res3 r4151) :: .test (leadsAny (Res.mk [(.agg [(.im (.lit (fnV 164))), (.im (.lit (fnV 165))), (.im (.lit (.bool r4151.1.only_))), (.im (.lit (fnV 163)))]), (.one (.im (.lit (.bool r4151.2))))] [])) false :: .test (bnot r4151.2) false :: .test false false :: .call 165 [.one (.lit (.int .i64 a4150)), .one (.lit (.int .i64 a4149))] (F165_res r4176) :: .test (leadsAny (Res.mk [(.one (.im (.lit (.bool r4176))))] [])) false :: l) := fun z => ⟨(F143_ok3 _ h4171 (F143_ok K a4148 _ h4152)), (leads_ok (by simp only [leadsAny, List.any_cons, List.any_nil, RV.leads, RC.leads, leadsT, hasSl_lit, Bool.or_false, flat_ns (eInt_ns _), flat_ns eBool_ns, flat_ns eStr_ns, flat_ns eGJob_ns, flat_ns eGEdge_ns, flat_ns eGAsked_ns, flat_ns eGMsg_ns, flat_ns eGrule_ns, flat_ns eGA199_ns, flat_ns eGA202_ns])), (bnot_t h4172), rfl, (F165_ok K a4150 a4149 _ h4177), (leads_ok (by simp only [leadsAny, List.any_cons, List.any_nil, RV.leads, RC.leads, leadsT, hasSl_lit, Bool.or_false, flat_ns (eInt_ns _), flat_ns eBool_ns, flat_ns eStr_ns, flat_ns eGJob_ns, flat_ns eGEdge_ns, flat_ns eGAsked_ns, flat_ns eGMsg_ns, flat_ns eGrule_ns, flat_ns eGA199_ns, flat_ns eGA202_ns])), z⟩
      refine cond_some hF (fun h4178 hF => ?_) (fun h4178 hF => ?_)
      ·
        have hr := Option.some.inj hF
        subst hr
        have pz : HoldAll E H hn97 [.test r4176 true] := ⟨h4178, trivial⟩
        exact fn_playC hn97 (f := 97) (ads := [.one (.lit (.int .i64 a4148)), .one (.lit (.int .i64 a4149)), .one (.lit (.int .i64 a4150))]) (r := F97_res (a4150, 0)) (pq4198 pz) (by kernel_rfl) (by kernel_rfl)
      have hr := Option.some.inj hF
      subst hr
      have pz : HoldAll E H hn97 [.test r4176 false] := ⟨h4178, trivial⟩
      exact fn_playC hn97 (f := 97) (ads := [.one (.lit (.int .i64 a4148)), .one (.lit (.int .i64 a4149)), .one (.lit (.int .i64 a4150))]) (r := F97_res (a4149, 0)) (pq4198 pz) (by kernel_rfl) (by kernel_rfl)
    have hr := Option.some.inj hF
    subst hr
    have pz : HoldAll E H hn97 [.call 143 [.one (.lit (.int .i64 a4148))] (F143_res3 r4151), .test (leadsAny (Res.mk [(.agg [(.im (.lit (fnV 164))), (.im (.lit (fnV 165))), (.im (.lit (.bool r4151.1.only_))), (.im (.lit (fnV 163)))]), (.one (.im (.lit (.bool r4151.2))))] [])) false, .test (bnot r4151.2) true] := ⟨(F143_ok3 _ h4171 (F143_ok K a4148 _ h4152)), (leads_ok (by simp only [leadsAny, List.any_cons, List.any_nil, RV.leads, RC.leads, leadsT, hasSl_lit, Bool.or_false, flat_ns (eInt_ns _), flat_ns eBool_ns, flat_ns eStr_ns, flat_ns eGJob_ns, flat_ns eGEdge_ns, flat_ns eGAsked_ns, flat_ns eGMsg_ns, flat_ns eGrule_ns, flat_ns eGA199_ns, flat_ns eGA202_ns])), (bnot_f h4172), trivial⟩
    exact fn_playC hn97 (f := 97) (ads := [.one (.lit (.int .i64 a4148)), .one (.lit (.int .i64 a4149)), .one (.lit (.int .i64 a4150))]) (r := F97_res (0, 1)) pz (by kernel_rfl) (by kernel_rfl)
  refine cond_some hF (fun h4179 hF => ?_) (fun h4179 hF => ?_)
  ·
    refine cond_some hF (fun h4180 hF => ?_) (fun h4180 hF => ?_)
    ·
      refine bind_some hF (fun r4187 h4188 hF => ?_)
      have pq4199 : ∀ {l : List Cond}, HoldAll E H hn97 l → HoldAll E H hn97 (.call 143 [.one (.lit (.int .i64 a4148))] (F143_res4 r4151) :: .test (leadsAny (Res.mk [(.agg [(.im (.lit (fnV 166))), (.im (.lit .nilFunc)), (.im (.lit (.bool r4151.1.only_))), (.im (.lit (fnV 163)))]), (.one (.im (.lit (.bool r4151.2))))] [])) false :: .test (bnot r4151.2) false :: .test true true :: .call 144 [.one (.lit (.int .i64 a4149)), .one (.lit (.int .i64 a4150))] (F144_res r4187) :: .test (leadsAny (Res.mk [(.one (.im (.lit (.int .i64 r4187.1)))), (.one (.im (.lit (.bool r4187.2))))] [])) false :: l) := fun z => ⟨(F143_ok4 _ h4179 (F143_ok K a4148 _ h4152)), (leads_ok (by simp only [leadsAny, List.any_cons, List.any_nil, RV.leads, RC.leads, leadsT, hasSl_lit, Bool.or_false, flat_ns (eInt_ns _), flat_ns eBool_ns, flat_ns eStr_ns, flat_ns eGJob_ns, flat_ns eGEdge_ns, flat_ns eGAsked_ns, flat_ns eGMsg_ns, flat_ns eGrule_ns, flat_ns eGA199_ns, flat_ns eGA202_ns])), (bnot_t h4180), rfl, (F144_ok K a4149 a4150 _ h4188), (leads_ok (by simp only [leadsAny, List.any_cons, List.any_nil, RV.leads, RC.leads, leadsT, hasSl_lit, Bool.or_false, flat_ns (eInt_ns _), flat_ns eBool_ns, flat_ns eStr_ns, flat_ns eGJob_ns, flat_ns eGEdge_ns, flat_ns eGAsked_ns, flat_ns eGMsg_ns, flat_ns eGrule_ns, flat_ns eGA199_ns, flat_ns eGA202_ns])), z⟩
      refine cond_some hF (fun h4189 hF => ?_) (fun h4189 hF => ?_)
      ·
        have hr := Option.some.inj hF
        subst hr
        have pz : HoldAll E H hn97 [.test (bnot r4187.2) false] := ⟨(bnot_t h4189), trivial⟩
        exact fn_playC hn97 (f := 97) (ads := [.one (.lit (.int .i64 a4148)), .one (.lit (.int .i64 a4149)), .one (.lit (.int .i64 a4150))]) (r := F97_res (r4187.1, 0)) (pq4199 pz) (by kernel_rfl) (by kernel_rfl)
      have hr := Option.some.inj hF
      subst hr
      have pz : HoldAll E H hn97 [.test (bnot r4187.2) true] := ⟨(bnot_f h4189), trivial⟩
      exact fn_playC hn97 (f := 97) (ads := [.one (.lit (.int .i64 a4148)), .one (.lit (.int .i64 a4149)), .one (.lit (.int .i64 a4150))]) (r := F97_res (0, 8)) (pq4199 pz) (by kernel_rfl) (by kernel_rfl)
    have hr := Option.some.inj hF
    subst hr
    have pz : HoldAll E H hn97 [.call 143 [.one (.lit (.int .i64 a4148))] (F143_res4 r4151), .test (leadsAny (Res.mk [(.agg [(.im (.lit (fnV 166))), (.im (.lit .nilFunc)), (.im (.lit (.bool r4151.1.only_))), (.im (.lit (fnV 163)))]), (.one (.im (.lit (.bool r4151.2))))] [])) false, .test (bnot r4151.2) true] := ⟨(F143_ok4 _ h4179 (F143_ok K a4148 _ h4152)), (leads_ok (by simp only [leadsAny, List.any_cons, List.any_nil, RV.leads, RC.leads, leadsT, hasSl_lit, Bool.or_false, flat_ns (eInt_ns _), flat_ns eBool_ns, flat_ns eStr_ns, flat_ns eGJob_ns, flat_ns eGEdge_ns, flat_ns eGAsked_ns, flat_ns eGMsg_ns, flat_ns eGrule_ns, flat_ns eGA199_ns, flat_ns eGA202_ns])), (bnot_f h4180), trivial⟩
    exact fn_playC hn97 (f := 97) (ads := [.one (.lit (.int .i64 a4148)), .one (.lit (.int .i64 a4149)), .one (.lit (.int .i64 a4150))]) (r := F97_res (0, 1)) pz (by kernel_rfl) (by kernel_rfl)
  refine cond_some hF (fun h4190 hF => ?_) (fun _ hF => nomatch hF)
  refine cond_some hF (fun h4191 hF => ?_) (fun h4191 hF => ?_)
  ·
    refine bind_some hF (fun r4192 h4193 hF => ?_)
    have pq4200 : ∀ {l : List Cond}, HoldAll E H hn97 l → HoldAll E H hn97 (.call 143 [.one (.lit (.int .i64 a4148))] (F143_res5 r4151) :: .test (leadsAny (Res.mk [(.agg [(.im (.lit .nilFunc)), (.im (.lit .nilFunc)), (.im (.lit (.bool r4151.1.only_))), (.im (.lit .nilFunc))]), (.one (.im (.lit (.bool r4151.2))))] [])) false :: .test (bnot r4151.2) false :: .test true true :: .call 144 [.one (.lit (.int .i64 a4149)), .one (.lit (.int .i64 a4150))] (F144_res r4192) :: .test (leadsAny (Res.mk [(.one (.im (.lit (.int .i64 r4192.1)))), (.one (.im (.lit (.bool r4192.2))))] [])) false :: l) := fun z => ⟨(F143_ok5 _ h4190 (F143_ok K a4148 _ h4152)), (leads_ok (by simp only [leadsAny, List.any_cons, List.any_nil, RV.leads, RC.leads, leadsT, hasSl_lit, Bool.or_false, flat_ns (eInt_ns _), flat_ns eBool_ns, flat_ns eStr_ns, flat_ns eGJob_ns, flat_ns eGEdge_ns, flat_ns eGAsked_ns, flat_ns eGMsg_ns, flat_ns eGrule_ns, flat_ns eGA199_ns, flat_ns eGA202_ns])), (bnot_t h4191), rfl, (F144_ok K a4149 a4150 _ h4193), (leads_ok (by simp only [leadsAny, List.any_cons, List.any_nil, RV.leads, RC.leads, leadsT, hasSl_lit, Bool.or_false, flat_ns (eInt_ns _), flat_ns eBool_ns, flat_ns eStr_ns, flat_ns eGJob_ns, flat_ns eGEdge_ns, flat_ns eGAsked_ns, flat_ns eGMsg_ns, flat_ns eGrule_ns, flat_ns eGA199_ns, flat_ns eGA202_ns])), z⟩
    refine cond_some hF (fun h4194 hF => ?_) (fun h4194 hF => ?_)
    ·
      have hr := Option.some.inj hF
      subst hr
      have pz : HoldAll E H hn97 [.test (bnot r4192.2) false] := ⟨(bnot_t h4194), trivial⟩
      exact fn_playC hn97 (f := 97) (ads := [.one (.lit (.int .i64 a4148)), .one (.lit (.int .i64 a4149)), .one (.lit (.int .i64 a4150))]) (r := F97_res (r4192.1, 0)) (pq4200 pz) (by kernel_rfl) (by kernel_rfl)
    have hr := Option.some.inj hF
    subst hr
    have pz : HoldAll E H hn97 [.test (bnot r4192.2) true] := ⟨(bnot_f h4194), trivial⟩
    exact fn_playC hn97 (f := 97) (ads := [.one (.lit (.int .i64 a4148)), .one (.lit (.int .i64 a4149)), .one (.lit (.int .i64 a4150))]) (r := F97_res (0, 8)) (pq4200 pz) (by kernel_rfl) (by kernel_rfl)
  have hr := Option.some.inj hF
  subst hr
  have pz : HoldAll E H hn97 [.call 143 [.one (.lit (.int .i64 a4148))] (F143_res5 r4151), .test (leadsAny (Res.mk [(.agg [(.im (.lit .nilFunc)), (.im (.lit .nilFunc)), (.im (.lit (.bool r4151.1.only_))), (.im (.lit .nilFunc))]), (.one (.im (.lit (.bool r4151.2))))] [])) false, .test (bnot r4151.2) true] := ⟨(F143_ok5 _ h4190 (F143_ok K a4148 _ h4152)), (leads_ok (by simp only [leadsAny, List.any_cons, List.any_nil, RV.leads, RC.leads, leadsT, hasSl_lit, Bool.or_false, flat_ns (eInt_ns _), flat_ns eBool_ns, flat_ns eStr_ns, flat_ns eGJob_ns, flat_ns eGEdge_ns, flat_ns eGAsked_ns, flat_ns eGMsg_ns, flat_ns eGrule_ns, flat_ns eGA199_ns, flat_ns eGA202_ns])), (bnot_f h4191), trivial⟩
  exact fn_playC hn97 (f := 97) (ads := [.one (.lit (.int .i64 a4148)), .one (.lit (.int .i64 a4149)), .one (.lit (.int .i64 a4150))]) (r := F97_res (0, 1)) pz (by kernel_rfl) (by kernel_rfl)

end Go.Proofs.Ytnjanliihnadjaa.Tm

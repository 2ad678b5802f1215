/- Printed by program: what each function computes, and that the machine answers so. Conditions: none. -/
import Derived.Test.YtnjanliihnadjaaTy
import Derived.Test.YtnjanliihnadjaaTab
import Derived.Test.YtnjanliihnadjaaKn
import Derived.Test.YtnjanliihnadjaaFE
import Derived.Test.YtnjanliihnadjaaFPs
import Derived.Test.YtnjanliihnadjaaFQ
import Derived.Test.YtnjanliihnadjaaFQj
import Derived.Test.YtnjanliihnadjaaFQs
import Derived.KernelRfl
set_option linter.unusedVariables false
set_option linter.unusedSimpArgs false
namespace Go.Proofs.Ytnjanliihnadjaa.Tm
open Go
/-! ### haywain/haywainlaw07.PartBack -/
noncomputable def hn19 : Hint := { H 19 with nt := 75, prot := 0 }
def F19_res (r3924 : Bool) : Res := ⟨[(.one (.im (.lit (.bool r3924))))], []⟩
def F19 (K : Nat) (a3889 : GGraph) (a3890 : GJob) (a3891 : GState) : Option (Bool) :=
  (F73 K a3889).bind fun r3892 =>
  bif r3892 then
    (some true)
  else
  (F82 K a3891).bind fun r3895 =>
  bif r3895 then
    (some true)
  else
  (F83 K a3889 a3890 a3891).bind fun r3898 =>
  bif (ieq r3898.2 0) then
    ((F85 K a3889 a3890 r3898.1).bind fun r3901 =>
    (F83 K a3889 a3890 r3901.1).bind fun r3903 =>
    (F87 K a3891 r3901.1).bind fun r3905 =>
    bif r3905 then
      (bif (ieq r3901.2 0) then
        ((F84 K r3898.1 r3903.1).bind fun r3909 =>
        bif r3909 then
          (bif (ieq r3903.2 0) then
            (some true)
          else
          some false)
        else
        some false)
      else
      some false)
    else
    some false)
  else
  (F88 K a3889 a3890 a3891).bind fun r3913 =>
  bif r3913 then
    (some false)
  else
  bif (ieq (nlen (len r3898.1)) 0) then
    (some true)
  else
  some false
theorem F19_ok (K : Nat) (a3889 : GGraph) (a3890 : GJob) (a3891 : GState) (r : Bool) (hF : F19 K a3889 a3890 a3891 = some r) : Evt E H 19 [.agg (eGGraph a3889), .agg (eGJob a3890), .agg (eGState a3891)] (F19_res r) := by
  rw [F19] at hF
  refine bind_some hF (fun r3892 h3893 hF => ?_)
  refine cond_some hF (fun h3894 hF => ?_) (fun h3894 hF => ?_)
  ·
    have hr := Option.some.inj hF
    subst hr
    have pz : HoldAll E H hn19 [.call 73 [.agg (eGGraph a3889)] (F73_res r3892), .test (leadsAny (Res.mk [(.one (.im (.lit (.bool r3892))))] [])) false, .test (beqb r3892 false) false, .test (beqb r3892 false) false, .test r3892 true, .test true true, .call 74 [] (Res.mk [(.one (.im (.lit (.bool true))))] []), .test (leadsAny (Res.mk [(.one (.im (.lit (.bool true))))] [])) false] := ⟨(F73_ok K a3889 _ h3893), (leads_ok (by simp only [leadsAny, List.any_cons, List.any_nil, RV.leads, RC.leads, leadsT, hasSl_lit, Bool.or_false, flat_ns (eInt_ns _), flat_ns eBool_ns, flat_ns eStr_ns, flat_ns eGJob_ns, flat_ns eGEdge_ns, flat_ns eGAsked_ns, flat_ns eGMsg_ns, flat_ns eGrule_ns, flat_ns eGA199_ns, flat_ns eGA202_ns])), (beqb_ft h3894), (beqb_ft h3894), h3894, rfl, knows74, (leads_ok (by simp only [leadsAny, List.any_cons, List.any_nil, RV.leads, RC.leads, leadsT, hasSl_lit, Bool.or_false, flat_ns (eInt_ns _), flat_ns eBool_ns, flat_ns eStr_ns, flat_ns eGJob_ns, flat_ns eGEdge_ns, flat_ns eGAsked_ns, flat_ns eGMsg_ns, flat_ns eGrule_ns, flat_ns eGA199_ns, flat_ns eGA202_ns])), trivial⟩
    exact fn_playC hn19 (f := 19) (ads := [.agg (eGGraph a3889), .agg (eGJob a3890), .agg (eGState a3891)]) (r := F19_res true) pz (by kernel_rfl) (by kernel_rfl)
  refine bind_some hF (fun r3895 h3896 hF => ?_)
  have pq3917 : ∀ {l : List Cond}, HoldAll E H hn19 l → HoldAll E H hn19 (.call 73 [.agg (eGGraph a3889)] (F73_res r3892) :: .test (leadsAny (Res.mk [(.one (.im (.lit (.bool r3892))))] [])) false :: .test (beqb r3892 false) true :: .test (beqb r3892 false) true :: .call 82 [.agg (eGState a3891)] (F82_res r3895) :: .test (leadsAny (Res.mk [(.one (.im (.lit (.bool r3895))))] [])) false :: .test r3892 false :: l) := fun z => ⟨(F73_ok K a3889 _ h3893), (leads_ok (by simp only [leadsAny, List.any_cons, List.any_nil, RV.leads, RC.leads, leadsT, hasSl_lit, Bool.or_false, flat_ns (eInt_ns _), flat_ns eBool_ns, flat_ns eStr_ns, flat_ns eGJob_ns, flat_ns eGEdge_ns, flat_ns eGAsked_ns, flat_ns eGMsg_ns, flat_ns eGrule_ns, flat_ns eGA199_ns, flat_ns eGA202_ns])), (beqb_ff h3894), (beqb_ff h3894), (F82_ok K a3891 _ h3896), (leads_ok (by simp only [leadsAny, List.any_cons, List.any_nil, RV.leads, RC.leads, leadsT, hasSl_lit, Bool.or_false, flat_ns (eInt_ns _), flat_ns eBool_ns, flat_ns eStr_ns, flat_ns eGJob_ns, flat_ns eGEdge_ns, flat_ns eGAsked_ns, flat_ns eGMsg_ns, flat_ns eGrule_ns, flat_ns eGA199_ns, flat_ns eGA202_ns])), h3894, z⟩
  refine cond_some hF (fun h3897 hF => ?_) (fun h3897 hF => ?_)
  ·
    have hr := Option.some.inj hF
    subst hr
    have pz : HoldAll E H hn19 [.test r3895 true, .call 74 [] (Res.mk [(.one (.im (.lit (.bool true))))] []), .test (leadsAny (Res.mk [(.one (.im (.lit (.bool true))))] [])) false] := ⟨h3897, knows74, (leads_ok (by simp only [leadsAny, List.any_cons, List.any_nil, RV.leads, RC.leads, leadsT, hasSl_lit, Bool.or_false, flat_ns (eInt_ns _), flat_ns eBool_ns, flat_ns eStr_ns, flat_ns eGJob_ns, flat_ns eGEdge_ns, flat_ns eGAsked_ns, flat_ns eGMsg_ns, flat_ns eGrule_ns, flat_ns eGA199_ns, flat_ns eGA202_ns])), trivial⟩
    exact fn_playC hn19 (f := 19) (ads := [.agg (eGGraph a3889), .agg (eGJob a3890), .agg (eGState a3891)]) (r := F19_res true) (pq3917 pz) (by kernel_rfl) (by kernel_rfl)
  refine bind_some hF (fun r3898 h3899 hF => ?_)
  refine cond_some hF (fun h3900 hF => ?_) (fun h3900 hF => ?_)
  ·
    refine bind_some hF (fun r3901 h3902 hF => ?_)
    refine bind_some hF (fun r3903 h3904 hF => ?_)
    refine bind_some hF (fun r3905 h3906 hF => ?_)
    have pq3918 : ∀ {l : List Cond}, HoldAll E H hn19 l → HoldAll E H hn19 (.test r3895 false :: .call 83 [.agg (eGGraph a3889), .agg (eGJob a3890), .agg (eGState a3891)] (F83_res r3898) :: .test (ine r3898.2 0) false :: .call 85 [.agg (eGGraph a3889), .agg (eGJob a3890), .one (.sl (len r3898.1) (flat eGPart r3898.1))] (F85_res r3901) :: .test (leadsAny (Res.mk [(.agg [(.im (.lit (.int .i64 r3901.1.Step))), (.own 2 (.sl (len r3901.1.Vals) (flat (eInt .i64) r3901.1.Vals))), (.own 4 (.sl (len r3901.1.Rest) (flat eBool r3901.1.Rest))), (.own 130 (.sl (len r3901.1.In) (flat eGMsg r3901.1.In)))]), (.one (.im (.lit (.int .i64 r3901.2))))] [])) false :: .call 83 [.agg (eGGraph a3889), .agg (eGJob a3890), .agg (eGState r3901.1)] (F83_res r3903) :: .call 87 [.agg (eGState a3891), .agg (eGState r3901.1)] (F87_res r3905) :: .test (leadsAny (Res.mk [(.one (.im (.lit (.bool r3905))))] [])) false :: l) := fun z => ⟨h3897, (F83_ok K a3889 a3890 a3891 _ h3899), (ine_t h3900), (F85_ok K a3889 a3890 r3898.1 _ h3902), (leads_ok (by simp only [leadsAny, List.any_cons, List.any_nil, RV.leads, RC.leads, leadsT, hasSl_lit, Bool.or_false, flat_ns (eInt_ns _), flat_ns eBool_ns, flat_ns eStr_ns, flat_ns eGJob_ns, flat_ns eGEdge_ns, flat_ns eGAsked_ns, flat_ns eGMsg_ns, flat_ns eGrule_ns, flat_ns eGA199_ns, flat_ns eGA202_ns])), (F83_ok K a3889 a3890 r3901.1 _ h3904), (F87_ok K a3891 r3901.1 _ h3906), (leads_ok (by simp only [leadsAny, List.any_cons, List.any_nil, RV.leads, RC.leads, leadsT, hasSl_lit, Bool.or_false, flat_ns (eInt_ns _), flat_ns eBool_ns, flat_ns eStr_ns, flat_ns eGJob_ns, flat_ns eGEdge_ns, flat_ns eGAsked_ns, flat_ns eGMsg_ns, flat_ns eGrule_ns, flat_ns eGA199_ns, flat_ns eGA202_ns])), z⟩
    refine cond_some hF (fun h3907 hF => ?_) (fun h3907 hF => ?_)
    ·
      have pq3919 : ∀ {l : List Cond}, HoldAll E H hn19 l → HoldAll E H hn19 (.test (beqb r3905 true) true :: .test (beqb r3905 true) true :: .test r3905 true :: l) := fun z => ⟨(beqb_t h3907), (beqb_t h3907), h3907, z⟩
      refine cond_some hF (fun h3908 hF => ?_) (fun h3908 hF => ?_)
      ·
        refine bind_some hF (fun r3909 h3910 hF => ?_)
        have pq3920 : ∀ {l : List Cond}, HoldAll E H hn19 l → HoldAll E H hn19 (.test (beqb (ieq r3901.2 0) true) true :: .test (beqb (ieq r3901.2 0) true) true :: .test (beqb (ieq r3901.2 0) true) true :: .call 84 [.one (.sl (len r3898.1) (flat eGPart r3898.1)), .one (.sl (len r3903.1) (flat eGPart r3903.1))] (F84_res r3909) :: .test (leadsAny (Res.mk [(.one (.im (.lit (.bool r3909))))] [])) false :: .test (ieq r3901.2 0) true :: l) := fun z => ⟨(beqb_t h3908), (beqb_t h3908), (beqb_t h3908), (F84_ok K r3898.1 r3903.1 _ h3910), (leads_ok (by simp only [leadsAny, List.any_cons, List.any_nil, RV.leads, RC.leads, leadsT, hasSl_lit, Bool.or_false, flat_ns (eInt_ns _), flat_ns eBool_ns, flat_ns eStr_ns, flat_ns eGJob_ns, flat_ns eGEdge_ns, flat_ns eGAsked_ns, flat_ns eGMsg_ns, flat_ns eGrule_ns, flat_ns eGA199_ns, flat_ns eGA202_ns])), h3908, z⟩
        refine cond_some hF (fun h3911 hF => ?_) (fun h3911 hF => ?_)
        ·
          have pq3921 : ∀ {l : List Cond}, HoldAll E H hn19 l → HoldAll E H hn19 (.test (beqb r3909 true) true :: .test (beqb r3909 true) true :: .test r3909 true :: l) := fun z => ⟨(beqb_t h3911), (beqb_t h3911), h3911, z⟩
          refine cond_some hF (fun h3912 hF => ?_) (fun h3912 hF => ?_)
          ·
            have hr := Option.some.inj hF
            subst hr
            have pz : HoldAll E H hn19 [.test (beqb (ieq r3903.2 0) true) true, .call 74 [] (Res.mk [(.one (.im (.lit (.bool true))))] []), .test (leadsAny (Res.mk [(.one (.im (.lit (.bool true))))] [])) false, .test (ieq r3903.2 0) true] := ⟨(beqb_t h3912), knows74, (leads_ok (by simp only [leadsAny, List.any_cons, List.any_nil, RV.leads, RC.leads, leadsT, hasSl_lit, Bool.or_false, flat_ns (eInt_ns _), flat_ns eBool_ns, flat_ns eStr_ns, flat_ns eGJob_ns, flat_ns eGEdge_ns, flat_ns eGAsked_ns, flat_ns eGMsg_ns, flat_ns eGrule_ns, flat_ns eGA199_ns, flat_ns eGA202_ns])), h3912, trivial⟩
            exact fn_playC hn19 (f := 19) (ads := [.agg (eGGraph a3889), .agg (eGJob a3890), .agg (eGState a3891)]) (r := F19_res true) (pq3917 (pq3918 (pq3919 (pq3920 (pq3921 pz))))) (by kernel_rfl) (by kernel_rfl)
          have hr := Option.some.inj hF
          subst hr
          have pz : HoldAll E H hn19 [.test (beqb (ieq r3903.2 0) true) false, .test (ieq r3903.2 0) false] := ⟨(beqb_t h3912), h3912, trivial⟩
          exact fn_playC hn19 (f := 19) (ads := [.agg (eGGraph a3889), .agg (eGJob a3890), .agg (eGState a3891)]) (r := F19_res false) (pq3917 (pq3918 (pq3919 (pq3920 (pq3921 pz))))) (by kernel_rfl) (by kernel_rfl)
        have hr := Option.some.inj hF
        subst hr
        have pz : HoldAll E H hn19 [.test (beqb r3909 true) false, .test (beqb r3909 true) false, .test r3909 false, .test (beqb false true) false, .test false false] := ⟨(beqb_t h3911), (beqb_t h3911), h3911, (beqb_t rfl), rfl, trivial⟩
        exact fn_playC hn19 (f := 19) (ads := [.agg (eGGraph a3889), .agg (eGJob a3890), .agg (eGState a3891)]) (r := F19_res false) (pq3917 (pq3918 (pq3919 (pq3920 pz)))) (by kernel_rfl) (by kernel_rfl)
      have hr := Option.some.inj hF
      subst hr
      have pz : HoldAll E H hn19 [.test (beqb (ieq r3901.2 0) true) false, .test (beqb (ieq r3901.2 0) true) false, .test (beqb (ieq r3901.2 0) true) false, .test (ieq r3901.2 0) false, .test (beqb false true) false, .test (beqb false true) false, .test false false, .test (beqb false true) false, .test false false] := ⟨(beqb_t h3908), (beqb_t h3908), (beqb_t h3908), h3908, (beqb_t rfl), (beqb_t rfl), rfl, (beqb_t rfl), rfl, trivial⟩
      exact fn_playC hn19 (f := 19) (ads := [.agg (eGGraph a3889), .agg (eGJob a3890), .agg (eGState a3891)]) (r := F19_res false) (pq3917 (pq3918 (pq3919 pz))) (by kernel_rfl) (by kernel_rfl)
    have hr := Option.some.inj hF
    subst hr
    have pz : HoldAll E H hn19 [.test (beqb r3905 true) false, .test (beqb r3905 true) false, .test r3905 false, .test (beqb false true) false, .test (beqb false true) false, .test (beqb false true) false, .test false false, .test (beqb false true) false, .test (beqb false true) false, .test false false, .test (beqb false true) false, .test false false] := ⟨(beqb_t h3907), (beqb_t h3907), h3907, (beqb_t rfl), (beqb_t rfl), (beqb_t rfl), rfl, (beqb_t rfl), (beqb_t rfl), rfl, (beqb_t rfl), rfl, trivial⟩
    exact fn_playC hn19 (f := 19) (ads := [.agg (eGGraph a3889), .agg (eGJob a3890), .agg (eGState a3891)]) (r := F19_res false) (pq3917 (pq3918 pz)) (by kernel_rfl) (by kernel_rfl)
  refine bind_some hF (fun r3913 h3914 hF => ?_)
  have pq3922 : ∀ {l : List Cond}, HoldAll E H hn19 l → HoldAll E H hn19 (.test r3895 false :: .call 83 [.agg (eGGraph a3889), .agg (eGJob a3890), .agg (eGState a3891)] (F83_res r3898) :: .test (ine r3898.2 0) true :: .call 88 [.agg (eGGraph a3889), .agg (eGJob a3890), .agg (eGState a3891)] (F88_res r3913) :: .test (leadsAny (Res.mk [(.one (.im (.lit (.bool r3913))))] [])) false :: l) := fun z => ⟨h3897, (F83_ok K a3889 a3890 a3891 _ h3899), (ine_f h3900), (F88_ok K a3889 a3890 a3891 _ h3914), (leads_ok (by simp only [leadsAny, List.any_cons, List.any_nil, RV.leads, RC.leads, leadsT, hasSl_lit, Bool.or_false, flat_ns (eInt_ns _), flat_ns eBool_ns, flat_ns eStr_ns, flat_ns eGJob_ns, flat_ns eGEdge_ns, flat_ns eGAsked_ns, flat_ns eGMsg_ns, flat_ns eGrule_ns, flat_ns eGA199_ns, flat_ns eGA202_ns])), z⟩
  refine cond_some hF (fun h3915 hF => ?_) (fun h3915 hF => ?_)
  ·
    have hr := Option.some.inj hF
    subst hr
    have pz : HoldAll E H hn19 [.test (beqb (bnot r3913) true) false, .test (beqb (bnot r3913) true) false, .test (beqb (bnot r3913) true) false, .test (bnot r3913) false, .test (beqb false true) false, .test false false] := ⟨(beqb_t (bnot_t h3915)), (beqb_t (bnot_t h3915)), (beqb_t (bnot_t h3915)), (bnot_t h3915), (beqb_t rfl), rfl, trivial⟩
    exact fn_playC hn19 (f := 19) (ads := [.agg (eGGraph a3889), .agg (eGJob a3890), .agg (eGState a3891)]) (r := F19_res false) (pq3917 (pq3922 pz)) (by kernel_rfl) (by kernel_rfl)
  have pq3923 : ∀ {l : List Cond}, HoldAll E H hn19 l → HoldAll E H hn19 (.test (beqb (bnot r3913) true) true :: .test (beqb (bnot r3913) true) true :: .int (nlen (len r3898.1)) (nlen (len r3898.1)) :: .test (beqb (bnot r3913) true) true :: .test (bnot r3913) true :: l) := fun z => ⟨(beqb_t (bnot_f h3915)), (beqb_t (bnot_f h3915)), rfl, (beqb_t (bnot_f h3915)), (bnot_f h3915), z⟩
  refine cond_some hF (fun h3916 hF => ?_) (fun h3916 hF => ?_)
  ·
    have hr := Option.some.inj hF
    subst hr
    have pz : HoldAll E H hn19 [.test (beqb (ieq (nlen (len r3898.1)) 0) true) true, .call 74 [] (Res.mk [(.one (.im (.lit (.bool true))))] []), .test (leadsAny (Res.mk [(.one (.im (.lit (.bool true))))] [])) false, .test (ieq (nlen (len r3898.1)) 0) true] := ⟨(beqb_t h3916), knows74, (leads_ok (by simp only [leadsAny, List.any_cons, List.any_nil, RV.leads, RC.leads, leadsT, hasSl_lit, Bool.or_false, flat_ns (eInt_ns _), flat_ns eBool_ns, flat_ns eStr_ns, flat_ns eGJob_ns, flat_ns eGEdge_ns, flat_ns eGAsked_ns, flat_ns eGMsg_ns, flat_ns eGrule_ns, flat_ns eGA199_ns, flat_ns eGA202_ns])), h3916, trivial⟩
    exact fn_playC hn19 (f := 19) (ads := [.agg (eGGraph a3889), .agg (eGJob a3890), .agg (eGState a3891)]) (r := F19_res true) (pq3917 (pq3922 (pq3923 pz))) (by kernel_rfl) (by kernel_rfl)
  have hr := Option.some.inj hF
  subst hr
  have pz : HoldAll E H hn19 [.test (beqb (ieq (nlen (len r3898.1)) 0) true) false, .test (ieq (nlen (len r3898.1)) 0) false] := ⟨(beqb_t h3916), h3916, trivial⟩
  exact fn_playC hn19 (f := 19) (ads := [.agg (eGGraph a3889), .agg (eGJob a3890), .agg (eGState a3891)]) (r := F19_res false) (pq3917 (pq3922 (pq3923 pz))) (by kernel_rfl) (by kernel_rfl)

end Go.Proofs.Ytnjanliihnadjaa.Tm

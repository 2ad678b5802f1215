/- Printed by program: what each function computes, and that the machine answers so. Conditions: none. -/
import Derived.Test.YtnjanliihnadjaaTy
import Derived.Test.YtnjanliihnadjaaTab
import Derived.Test.YtnjanliihnadjaaKn
import Derived.Test.YtnjanliihnadjaaFA
import Derived.Test.YtnjanliihnadjaaFB
import Derived.KernelRfl
set_option linter.unusedVariables false
set_option linter.unusedSimpArgs false
namespace Go.Proofs.Ytnjanliihnadjaa.Tm
open Go
/-! ### haywain/haywainlaw19.BarrierStale -/
noncomputable def hn7 : Hint := { H 7 with nt := 85, prot := 0 }
def F7_res (r1046 : Bool) : Res := ⟨[(.one (.im (.lit (.bool r1046))))], []⟩
def F7 (K : Nat) (a965 : GBarrier) (a966 : Int) (a967 : Int) (a968 : GPart) : Option (Bool) :=
  (F46 K a965).bind fun r969 =>
  bif r969 then
    (some true)
  else
  (F47 K a968).bind fun r972 =>
  bif r972 then
    (some true)
  else
  (F44 K a965).bind fun r975 =>
  (F49 K r975).bind fun r977 =>
  bif r977 then
    (bif (ieq a966 a965.Epoch) then
      (bif (ieq a968.Step (wadd .i64 a965.Step 1)) then
        (bif (ieq a967 a965.Step) then
          (some true)
        else
        (F54 K a965 a966 a967).bind fun r983 =>
        bif (ieq r983.2 9) then
          ((F44 K a965).bind fun r986 =>
          (F44 K r983.1).bind fun r988 =>
          (F43 K r986 r988).bind fun r990 =>
          bif r990 then
            (some true)
          else
          some false)
        else
        some false)
      else
      (F52 K a965 a966 a968).bind fun r993 =>
      bif (ieq r993.2 9) then
        ((F44 K a965).bind fun r996 =>
        (F44 K r993.1).bind fun r998 =>
        (F43 K r996 r998).bind fun r1000 =>
        bif r1000 then
          (bif (ieq a967 a965.Step) then
            (some true)
          else
          (F54 K a965 a966 a967).bind fun r1004 =>
          bif (ieq r1004.2 9) then
            ((F44 K a965).bind fun r1007 =>
            (F44 K r1004.1).bind fun r1009 =>
            (F43 K r1007 r1009).bind fun r1011 =>
            bif r1011 then
              (some true)
            else
            some false)
          else
          some false)
        else
        some false)
      else
      some false)
    else
    (F52 K a965 a966 a968).bind fun r1014 =>
    bif (ieq r1014.2 9) then
      ((F44 K a965).bind fun r1017 =>
      (F44 K r1014.1).bind fun r1019 =>
      (F43 K r1017 r1019).bind fun r1021 =>
      bif r1021 then
        ((F54 K a965 a966 a967).bind fun r1024 =>
        bif (ieq r1024.2 9) then
          ((F44 K a965).bind fun r1027 =>
          (F44 K r1024.1).bind fun r1029 =>
          (F43 K r1027 r1029).bind fun r1031 =>
          bif r1031 then
            (some true)
          else
          some false)
        else
        some false)
      else
      some false)
    else
    some false)
  else
  some true
theorem F7_ok (K : Nat) (a965 : GBarrier) (a966 : Int) (a967 : Int) (a968 : GPart) (r : Bool) (hF : F7 K a965 a966 a967 a968 = some r) : Evt E H 7 [.agg (eGBarrier a965), .one (.lit (.int .i64 a966)), .one (.lit (.int .i64 a967)), .agg (eGPart a968)] (F7_res r) := by
  rw [F7] at hF
  refine bind_some hF (fun r969 h970 hF => ?_)
  refine cond_some hF (fun h971 hF => ?_) (fun h971 hF => ?_)
  ·
    have hr := Option.some.inj hF
    subst hr
    have pz : HoldAll E H hn7 [.call 46 [.agg (eGBarrier a965)] (F46_res r969), .test (leadsAny (Res.mk [(.one (.im (.lit (.bool r969))))] [])) false, .test (beqb r969 false) false, .test (beqb r969 false) false, .test r969 true, .test (beqb true false) false, .test (beqb true false) false, .test (beqb true false) false, .test (beqb true false) false, .test true true, .test true true, .call 45 [] (Res.mk [(.one (.im (.lit (.bool true))))] []), .test (leadsAny (Res.mk [(.one (.im (.lit (.bool true))))] [])) false] := ⟨(F46_ok K a965 _ h970), (leads_ok (by simp only [leadsAny, List.any_cons, List.any_nil, RV.leads, RC.leads, leadsT, hasSl_lit, Bool.or_false, flat_ns (eInt_ns _), flat_ns eBool_ns, flat_ns eStr_ns, flat_ns eGJob_ns, flat_ns eGEdge_ns, flat_ns eGAsked_ns, flat_ns eGMsg_ns, flat_ns eGrule_ns, flat_ns eGA199_ns, flat_ns eGA202_ns])), (beqb_ft h971), (beqb_ft h971), h971, (beqb_ft rfl), (beqb_ft rfl), (beqb_ft rfl), (beqb_ft rfl), rfl, rfl, knows45, (leads_ok (by simp only [leadsAny, List.any_cons, List.any_nil, RV.leads, RC.leads, leadsT, hasSl_lit, Bool.or_false, flat_ns (eInt_ns _), flat_ns eBool_ns, flat_ns eStr_ns, flat_ns eGJob_ns, flat_ns eGEdge_ns, flat_ns eGAsked_ns, flat_ns eGMsg_ns, flat_ns eGrule_ns, flat_ns eGA199_ns, flat_ns eGA202_ns])), trivial⟩
    exact fn_playC hn7 (f := 7) (ads := [.agg (eGBarrier a965), .one (.lit (.int .i64 a966)), .one (.lit (.int .i64 a967)), .agg (eGPart a968)]) (r := F7_res true) pz (by kernel_rfl) (by kernel_rfl)
  refine bind_some hF (fun r972 h973 hF => ?_)
  have pq1034 : ∀ {l : List Cond}, HoldAll E H hn7 l → HoldAll E H hn7 (.call 46 [.agg (eGBarrier a965)] (F46_res r969) :: .test (leadsAny (Res.mk [(.one (.im (.lit (.bool r969))))] [])) false :: .test (beqb r969 false) true :: .test (beqb r969 false) true :: .call 47 [.agg (eGPart a968)] (F47_res r972) :: .test (leadsAny (Res.mk [(.one (.im (.lit (.bool r972))))] [])) false :: .test r969 false :: l) := fun z => ⟨(F46_ok K a965 _ h970), (leads_ok (by simp only [leadsAny, List.any_cons, List.any_nil, RV.leads, RC.leads, leadsT, hasSl_lit, Bool.or_false, flat_ns (eInt_ns _), flat_ns eBool_ns, flat_ns eStr_ns, flat_ns eGJob_ns, flat_ns eGEdge_ns, flat_ns eGAsked_ns, flat_ns eGMsg_ns, flat_ns eGrule_ns, flat_ns eGA199_ns, flat_ns eGA202_ns])), (beqb_ff h971), (beqb_ff h971), (F47_ok K a968 _ h973), (leads_ok (by simp only [leadsAny, List.any_cons, List.any_nil, RV.leads, RC.leads, leadsT, hasSl_lit, Bool.or_false, flat_ns (eInt_ns _), flat_ns eBool_ns, flat_ns eStr_ns, flat_ns eGJob_ns, flat_ns eGEdge_ns, flat_ns eGAsked_ns, flat_ns eGMsg_ns, flat_ns eGrule_ns, flat_ns eGA199_ns, flat_ns eGA202_ns])), h971, z⟩
  refine cond_some hF (fun h974 hF => ?_) (fun h974 hF => ?_)
  ·
    have hr := Option.some.inj hF
    subst hr
    have pz : HoldAll E H hn7 [.test (beqb r972 false) false, .test (beqb r972 false) false, .test (beqb r972 false) false, .test (beqb r972 false) false, .test r972 true, .test true true, .call 45 [] (Res.mk [(.one (.im (.lit (.bool true))))] []), .test (leadsAny (Res.mk [(.one (.im (.lit (.bool true))))] [])) false] := ⟨(beqb_ft h974), (beqb_ft h974), (beqb_ft h974), (beqb_ft h974), h974, rfl, knows45, (leads_ok (by simp only [leadsAny, List.any_cons, List.any_nil, RV.leads, RC.leads, leadsT, hasSl_lit, Bool.or_false, flat_ns (eInt_ns _), flat_ns eBool_ns, flat_ns eStr_ns, flat_ns eGJob_ns, flat_ns eGEdge_ns, flat_ns eGAsked_ns, flat_ns eGMsg_ns, flat_ns eGrule_ns, flat_ns eGA199_ns, flat_ns eGA202_ns])), trivial⟩
    exact fn_playC hn7 (f := 7) (ads := [.agg (eGBarrier a965), .one (.lit (.int .i64 a966)), .one (.lit (.int .i64 a967)), .agg (eGPart a968)]) (r := F7_res true) (pq1034 pz) (by kernel_rfl) (by kernel_rfl)
  refine bind_some hF (fun r975 h976 hF => ?_)
  refine bind_some hF (fun r977 h978 hF => ?_)
  have pq1035 : ∀ {l : List Cond}, HoldAll E H hn7 l → HoldAll E H hn7 (.test (beqb r972 false) true :: .test (beqb r972 false) true :: .call 44 [.agg (eGBarrier a965)] (F44_res r975) :: .test (beqb r972 false) true :: .call 49 [.agg (eGBarrier r975)] (F49_res r977) :: .test (leadsAny (Res.mk [(.one (.im (.lit (.bool r977))))] [])) false :: .test (beqb r972 false) true :: .test r972 false :: l) := fun z => ⟨(beqb_ff h974), (beqb_ff h974), (F44_ok K a965 _ h976), (beqb_ff h974), (F49_ok K r975 _ h978), (leads_ok (by simp only [leadsAny, List.any_cons, List.any_nil, RV.leads, RC.leads, leadsT, hasSl_lit, Bool.or_false, flat_ns (eInt_ns _), flat_ns eBool_ns, flat_ns eStr_ns, flat_ns eGJob_ns, flat_ns eGEdge_ns, flat_ns eGAsked_ns, flat_ns eGMsg_ns, flat_ns eGrule_ns, flat_ns eGA199_ns, flat_ns eGA202_ns])), (beqb_ff h974), h974, z⟩
  refine cond_some hF (fun h979 hF => ?_) (fun h979 hF => ?_)
  ·
    refine cond_some hF (fun h980 hF => ?_) (fun h980 hF => ?_)
    ·
      have pq1036 : ∀ {l : List Cond}, HoldAll E H hn7 l → HoldAll E H hn7 (.test (bnot r977) false :: .test (beqb (ine a966 a965.Epoch) false) true :: .test (beqb (ine a966 a965.Epoch) false) true :: .test (beqb (ine a966 a965.Epoch) false) true :: .test (beqb (ine a966 a965.Epoch) false) true :: .test (beqb (ine a966 a965.Epoch) false) true :: .int (wadd .i64 a965.Step 1) (wadd .i64 a965.Step 1) :: .test (beqb (ine a966 a965.Epoch) false) true :: .test (ine a966 a965.Epoch) false :: l) := fun z => ⟨(bnot_t h979), (beqb_ff (ine_t h980)), (beqb_ff (ine_t h980)), (beqb_ff (ine_t h980)), (beqb_ff (ine_t h980)), (beqb_ff (ine_t h980)), rfl, (beqb_ff (ine_t h980)), (ine_t h980), z⟩
      refine cond_some hF (fun h981 hF => ?_) (fun h981 hF => ?_)
      ·
        have pq1037 : ∀ {l : List Cond}, HoldAll E H hn7 l → HoldAll E H hn7 (.test (ine a968.Step (wadd .i64 a965.Step 1)) false :: .test (beqb (ine a966 a965.Epoch) false) true :: .test (beqb (ine a966 a965.Epoch) false) true :: .test (beqb (ine a966 a965.Epoch) false) true :: .test (beqb (ine a966 a965.Epoch) false) true :: .test (ine a966 a965.Epoch) false :: l) := fun z => ⟨(ine_t h981), (beqb_ff (ine_t h980)), (beqb_ff (ine_t h980)), (beqb_ff (ine_t h980)), (beqb_ff (ine_t h980)), (ine_t h980), z⟩
        refine cond_some hF (fun h982 hF => ?_) (fun h982 hF => ?_)
        ·
          have hr := Option.some.inj hF
          subst hr
          have pz : HoldAll E H hn7 [.test (ine a967 a965.Step) false, .call 45 [] (Res.mk [(.one (.im (.lit (.bool true))))] []), .test (leadsAny (Res.mk [(.one (.im (.lit (.bool true))))] [])) false] := ⟨(ine_t h982), knows45, (leads_ok (by simp only [leadsAny, List.any_cons, List.any_nil, RV.leads, RC.leads, leadsT, hasSl_lit, Bool.or_false, flat_ns (eInt_ns _), flat_ns eBool_ns, flat_ns eStr_ns, flat_ns eGJob_ns, flat_ns eGEdge_ns, flat_ns eGAsked_ns, flat_ns eGMsg_ns, flat_ns eGrule_ns, flat_ns eGA199_ns, flat_ns eGA202_ns])), trivial⟩
          exact fn_playC hn7 (f := 7) (ads := [.agg (eGBarrier a965), .one (.lit (.int .i64 a966)), .one (.lit (.int .i64 a967)), .agg (eGPart a968)]) (r := F7_res true) (pq1034 (pq1035 (pq1036 (pq1037 pz)))) (by kernel_rfl) (by kernel_rfl)
        refine bind_some hF (fun r983 h984 hF => ?_)
        refine cond_some hF (fun h985 hF => ?_) (fun h985 hF => ?_)
        ·
          refine bind_some hF (fun r986 h987 hF => ?_)
          refine bind_some hF (fun r988 h989 hF => ?_)
          refine bind_some hF (fun r990 h991 hF => ?_)
          have pq1038 : ∀ {l : List Cond}, HoldAll E H hn7 l → HoldAll E H hn7 (.test (ine a967 a965.Step) true :: .call 54 [.agg (eGBarrier a965), .one (.lit (.int .i64 a966)), .one (.lit (.int .i64 a967))] (F54_res r983) :: .test (beqb (ieq r983.2 9) true) true :: .test (beqb (ieq r983.2 9) true) true :: .call 44 [.agg (eGBarrier a965)] (F44_res r986) :: .test (beqb (ieq r983.2 9) true) true :: .test (beqb (ieq r983.2 9) true) true :: .call 44 [.agg (eGBarrier r983.1)] (F44_res r988) :: .test (beqb (ieq r983.2 9) true) true :: .call 43 [.agg (eGBarrier r986), .agg (eGBarrier r988)] (F43_res r990) :: .test (leadsAny (Res.mk [(.one (.im (.lit (.bool r990))))] [])) false :: .test (ieq r983.2 9) true :: l) := fun z => ⟨(ine_f h982), (F54_ok K a965 a966 a967 _ h984), (beqb_t h985), (beqb_t h985), (F44_ok K a965 _ h987), (beqb_t h985), (beqb_t h985), (F44_ok K r983.1 _ h989), (beqb_t h985), (F43_ok K r986 r988 _ h991), (leads_ok (by simp only [leadsAny, List.any_cons, List.any_nil, RV.leads, RC.leads, leadsT, hasSl_lit, Bool.or_false, flat_ns (eInt_ns _), flat_ns eBool_ns, flat_ns eStr_ns, flat_ns eGJob_ns, flat_ns eGEdge_ns, flat_ns eGAsked_ns, flat_ns eGMsg_ns, flat_ns eGrule_ns, flat_ns eGA199_ns, flat_ns eGA202_ns])), h985, z⟩
          refine cond_some hF (fun h992 hF => ?_) (fun h992 hF => ?_)
          ·
            have hr := Option.some.inj hF
            subst hr
            have pz : HoldAll E H hn7 [.test (beqb r990 true) true, .call 45 [] (Res.mk [(.one (.im (.lit (.bool true))))] []), .test (leadsAny (Res.mk [(.one (.im (.lit (.bool true))))] [])) false, .test r990 true] := ⟨(beqb_t h992), knows45, (leads_ok (by simp only [leadsAny, List.any_cons, List.any_nil, RV.leads, RC.leads, leadsT, hasSl_lit, Bool.or_false, flat_ns (eInt_ns _), flat_ns eBool_ns, flat_ns eStr_ns, flat_ns eGJob_ns, flat_ns eGEdge_ns, flat_ns eGAsked_ns, flat_ns eGMsg_ns, flat_ns eGrule_ns, flat_ns eGA199_ns, flat_ns eGA202_ns])), h992, trivial⟩
            exact fn_playC hn7 (f := 7) (ads := [.agg (eGBarrier a965), .one (.lit (.int .i64 a966)), .one (.lit (.int .i64 a967)), .agg (eGPart a968)]) (r := F7_res true) (pq1034 (pq1035 (pq1036 (pq1037 (pq1038 pz))))) (by kernel_rfl) (by kernel_rfl)
          have hr := Option.some.inj hF
          subst hr
          have pz : HoldAll E H hn7 [.test (beqb r990 true) false, .test r990 false] := ⟨(beqb_t h992), h992, trivial⟩
          exact fn_playC hn7 (f := 7) (ads := [.agg (eGBarrier a965), .one (.lit (.int .i64 a966)), .one (.lit (.int .i64 a967)), .agg (eGPart a968)]) (r := F7_res false) (pq1034 (pq1035 (pq1036 (pq1037 (pq1038 pz))))) (by kernel_rfl) (by kernel_rfl)
        have hr := Option.some.inj hF
        subst hr
        have pz : HoldAll E H hn7 [.test (ine a967 a965.Step) true, .call 54 [.agg (eGBarrier a965), .one (.lit (.int .i64 a966)), .one (.lit (.int .i64 a967))] (F54_res r983), .test (beqb (ieq r983.2 9) true) false, .test (beqb (ieq r983.2 9) true) false, .test (beqb (ieq r983.2 9) true) false, .test (beqb (ieq r983.2 9) true) false, .test (beqb (ieq r983.2 9) true) false, .test (ieq r983.2 9) false, .test (beqb false true) false, .test false false] := ⟨(ine_f h982), (F54_ok K a965 a966 a967 _ h984), (beqb_t h985), (beqb_t h985), (beqb_t h985), (beqb_t h985), (beqb_t h985), h985, (beqb_t rfl), rfl, trivial⟩
        exact fn_playC hn7 (f := 7) (ads := [.agg (eGBarrier a965), .one (.lit (.int .i64 a966)), .one (.lit (.int .i64 a967)), .agg (eGPart a968)]) (r := F7_res false) (pq1034 (pq1035 (pq1036 (pq1037 pz)))) (by kernel_rfl) (by kernel_rfl)
      refine bind_some hF (fun r993 h994 hF => ?_)
      refine cond_some hF (fun h995 hF => ?_) (fun h995 hF => ?_)
      ·
        refine bind_some hF (fun r996 h997 hF => ?_)
        refine bind_some hF (fun r998 h999 hF => ?_)
        refine bind_some hF (fun r1000 h1001 hF => ?_)
        have pq1039 : ∀ {l : List Cond}, HoldAll E H hn7 l → HoldAll E H hn7 (.test (ine a968.Step (wadd .i64 a965.Step 1)) true :: .call 52 [.agg (eGBarrier a965), .one (.lit (.int .i64 a966)), .agg (eGPart a968)] (F52_res r993) :: .test (beqb (ine r993.2 9) false) true :: .test (beqb (ine r993.2 9) false) true :: .call 44 [.agg (eGBarrier a965)] (F44_res r996) :: .test (beqb (ine r993.2 9) false) true :: .test (beqb (ine r993.2 9) false) true :: .call 44 [.agg (eGBarrier r993.1)] (F44_res r998) :: .test (beqb (ine r993.2 9) false) true :: .call 43 [.agg (eGBarrier r996), .agg (eGBarrier r998)] (F43_res r1000) :: .test (leadsAny (Res.mk [(.one (.im (.lit (.bool r1000))))] [])) false :: .test (beqb (ine r993.2 9) false) true :: .test (ine r993.2 9) false :: l) := fun z => ⟨(ine_f h981), (F52_ok K a965 a966 a968 _ h994), (beqb_ff (ine_t h995)), (beqb_ff (ine_t h995)), (F44_ok K a965 _ h997), (beqb_ff (ine_t h995)), (beqb_ff (ine_t h995)), (F44_ok K r993.1 _ h999), (beqb_ff (ine_t h995)), (F43_ok K r996 r998 _ h1001), (leads_ok (by simp only [leadsAny, List.any_cons, List.any_nil, RV.leads, RC.leads, leadsT, hasSl_lit, Bool.or_false, flat_ns (eInt_ns _), flat_ns eBool_ns, flat_ns eStr_ns, flat_ns eGJob_ns, flat_ns eGEdge_ns, flat_ns eGAsked_ns, flat_ns eGMsg_ns, flat_ns eGrule_ns, flat_ns eGA199_ns, flat_ns eGA202_ns])), (beqb_ff (ine_t h995)), (ine_t h995), z⟩
        refine cond_some hF (fun h1002 hF => ?_) (fun h1002 hF => ?_)
        ·
          have pq1040 : ∀ {l : List Cond}, HoldAll E H hn7 l → HoldAll E H hn7 (.test (bnot r1000) false :: .test (beqb (ine a966 a965.Epoch) false) true :: .test (beqb (ine a966 a965.Epoch) false) true :: .test (beqb (ine a966 a965.Epoch) false) true :: .test (beqb (ine a966 a965.Epoch) false) true :: .test (ine a966 a965.Epoch) false :: l) := fun z => ⟨(bnot_t h1002), (beqb_ff (ine_t h980)), (beqb_ff (ine_t h980)), (beqb_ff (ine_t h980)), (beqb_ff (ine_t h980)), (ine_t h980), z⟩
          refine cond_some hF (fun h1003 hF => ?_) (fun h1003 hF => ?_)
          ·
            have hr := Option.some.inj hF
            subst hr
            have pz : HoldAll E H hn7 [.test (ine a967 a965.Step) false, .call 45 [] (Res.mk [(.one (.im (.lit (.bool true))))] []), .test (leadsAny (Res.mk [(.one (.im (.lit (.bool true))))] [])) false] := ⟨(ine_t h1003), knows45, (leads_ok (by simp only [leadsAny, List.any_cons, List.any_nil, RV.leads, RC.leads, leadsT, hasSl_lit, Bool.or_false, flat_ns (eInt_ns _), flat_ns eBool_ns, flat_ns eStr_ns, flat_ns eGJob_ns, flat_ns eGEdge_ns, flat_ns eGAsked_ns, flat_ns eGMsg_ns, flat_ns eGrule_ns, flat_ns eGA199_ns, flat_ns eGA202_ns])), trivial⟩
            exact fn_playC hn7 (f := 7) (ads := [.agg (eGBarrier a965), .one (.lit (.int .i64 a966)), .one (.lit (.int .i64 a967)), .agg (eGPart a968)]) (r := F7_res true) (pq1034 (pq1035 (pq1036 (pq1039 (pq1040 pz))))) (by kernel_rfl) (by kernel_rfl)
          refine bind_some hF (fun r1004 h1005 hF => ?_)
          refine cond_some hF (fun h1006 hF => ?_) (fun h1006 hF => ?_)
          ·
            refine bind_some hF (fun r1007 h1008 hF => ?_)
            refine bind_some hF (fun r1009 h1010 hF => ?_)
            refine bind_some hF (fun r1011 h1012 hF => ?_)
            have pq1041 : ∀ {l : List Cond}, HoldAll E H hn7 l → HoldAll E H hn7 (.test (ine a967 a965.Step) true :: .call 54 [.agg (eGBarrier a965), .one (.lit (.int .i64 a966)), .one (.lit (.int .i64 a967))] (F54_res r1004) :: .test (beqb (ieq r1004.2 9) true) true :: .test (beqb (ieq r1004.2 9) true) true :: .call 44 [.agg (eGBarrier a965)] (F44_res r1007) :: .test (beqb (ieq r1004.2 9) true) true :: .test (beqb (ieq r1004.2 9) true) true :: .call 44 [.agg (eGBarrier r1004.1)] (F44_res r1009) :: .test (beqb (ieq r1004.2 9) true) true :: .call 43 [.agg (eGBarrier r1007), .agg (eGBarrier r1009)] (F43_res r1011) :: .test (leadsAny (Res.mk [(.one (.im (.lit (.bool r1011))))] [])) false :: .test (ieq r1004.2 9) true :: l) := fun z => ⟨(ine_f h1003), (F54_ok K a965 a966 a967 _ h1005), (beqb_t h1006), (beqb_t h1006), (F44_ok K a965 _ h1008), (beqb_t h1006), (beqb_t h1006), (F44_ok K r1004.1 _ h1010), (beqb_t h1006), (F43_ok K r1007 r1009 _ h1012), (leads_ok (by simp only [leadsAny, List.any_cons, List.any_nil, RV.leads, RC.leads, leadsT, hasSl_lit, Bool.or_false, flat_ns (eInt_ns _), flat_ns eBool_ns, flat_ns eStr_ns, flat_ns eGJob_ns, flat_ns eGEdge_ns, flat_ns eGAsked_ns, flat_ns eGMsg_ns, flat_ns eGrule_ns, flat_ns eGA199_ns, flat_ns eGA202_ns])), h1006, z⟩
            refine cond_some hF (fun h1013 hF => ?_) (fun h1013 hF => ?_)
            ·
              have hr := Option.some.inj hF
              subst hr
              have pz : HoldAll E H hn7 [.test (beqb r1011 true) true, .call 45 [] (Res.mk [(.one (.im (.lit (.bool true))))] []), .test (leadsAny (Res.mk [(.one (.im (.lit (.bool true))))] [])) false, .test r1011 true] := ⟨(beqb_t h1013), knows45, (leads_ok (by simp only [leadsAny, List.any_cons, List.any_nil, RV.leads, RC.leads, leadsT, hasSl_lit, Bool.or_false, flat_ns (eInt_ns _), flat_ns eBool_ns, flat_ns eStr_ns, flat_ns eGJob_ns, flat_ns eGEdge_ns, flat_ns eGAsked_ns, flat_ns eGMsg_ns, flat_ns eGrule_ns, flat_ns eGA199_ns, flat_ns eGA202_ns])), h1013, trivial⟩
              exact fn_playC hn7 (f := 7) (ads := [.agg (eGBarrier a965), .one (.lit (.int .i64 a966)), .one (.lit (.int .i64 a967)), .agg (eGPart a968)]) (r := F7_res true) (pq1034 (pq1035 (pq1036 (pq1039 (pq1040 (pq1041 pz)))))) (by kernel_rfl) (by kernel_rfl)
            have hr := Option.some.inj hF
            subst hr
            have pz : HoldAll E H hn7 [.test (beqb r1011 true) false, .test r1011 false] := ⟨(beqb_t h1013), h1013, trivial⟩
            exact fn_playC hn7 (f := 7) (ads := [.agg (eGBarrier a965), .one (.lit (.int .i64 a966)), .one (.lit (.int .i64 a967)), .agg (eGPart a968)]) (r := F7_res false) (pq1034 (pq1035 (pq1036 (pq1039 (pq1040 (pq1041 pz)))))) (by kernel_rfl) (by kernel_rfl)
          have hr := Option.some.inj hF
          subst hr
          have pz : HoldAll E H hn7 [.test (ine a967 a965.Step) true, .call 54 [.agg (eGBarrier a965), .one (.lit (.int .i64 a966)), .one (.lit (.int .i64 a967))] (F54_res r1004), .test (beqb (ieq r1004.2 9) true) false, .test (beqb (ieq r1004.2 9) true) false, .test (beqb (ieq r1004.2 9) true) false, .test (beqb (ieq r1004.2 9) true) false, .test (beqb (ieq r1004.2 9) true) false, .test (ieq r1004.2 9) false, .test (beqb false true) false, .test false false] := ⟨(ine_f h1003), (F54_ok K a965 a966 a967 _ h1005), (beqb_t h1006), (beqb_t h1006), (beqb_t h1006), (beqb_t h1006), (beqb_t h1006), h1006, (beqb_t rfl), rfl, trivial⟩
          exact fn_playC hn7 (f := 7) (ads := [.agg (eGBarrier a965), .one (.lit (.int .i64 a966)), .one (.lit (.int .i64 a967)), .agg (eGPart a968)]) (r := F7_res false) (pq1034 (pq1035 (pq1036 (pq1039 (pq1040 pz))))) (by kernel_rfl) (by kernel_rfl)
        have hr := Option.some.inj hF
        subst hr
        have pz : HoldAll E H hn7 [.test (bnot r1000) true] := ⟨(bnot_f h1002), trivial⟩
        exact fn_playC hn7 (f := 7) (ads := [.agg (eGBarrier a965), .one (.lit (.int .i64 a966)), .one (.lit (.int .i64 a967)), .agg (eGPart a968)]) (r := F7_res false) (pq1034 (pq1035 (pq1036 (pq1039 pz)))) (by kernel_rfl) (by kernel_rfl)
      have hr := Option.some.inj hF
      subst hr
      have pz : HoldAll E H hn7 [.test (ine a968.Step (wadd .i64 a965.Step 1)) true, .call 52 [.agg (eGBarrier a965), .one (.lit (.int .i64 a966)), .agg (eGPart a968)] (F52_res r993), .test (beqb (ine r993.2 9) false) false, .test (beqb (ine r993.2 9) false) false, .test (beqb (ine r993.2 9) false) false, .test (beqb (ine r993.2 9) false) false, .test (beqb (ine r993.2 9) false) false, .test (beqb (ine r993.2 9) false) false, .test (ine r993.2 9) true, .test true true] := ⟨(ine_f h981), (F52_ok K a965 a966 a968 _ h994), (beqb_ft (ine_f h995)), (beqb_ft (ine_f h995)), (beqb_ft (ine_f h995)), (beqb_ft (ine_f h995)), (beqb_ft (ine_f h995)), (beqb_ft (ine_f h995)), (ine_f h995), rfl, trivial⟩
      exact fn_playC hn7 (f := 7) (ads := [.agg (eGBarrier a965), .one (.lit (.int .i64 a966)), .one (.lit (.int .i64 a967)), .agg (eGPart a968)]) (r := F7_res false) (pq1034 (pq1035 (pq1036 pz))) (by kernel_rfl) (by kernel_rfl)
    refine bind_some hF (fun r1014 h1015 hF => ?_)
    have pq1042 : ∀ {l : List Cond}, HoldAll E H hn7 l → HoldAll E H hn7 (.test (bnot r977) false :: .test (beqb (ine a966 a965.Epoch) false) false :: .test (beqb (ine a966 a965.Epoch) false) false :: .test (beqb (ine a966 a965.Epoch) false) false :: .test (beqb (ine a966 a965.Epoch) false) false :: .test (beqb (ine a966 a965.Epoch) false) false :: .test (beqb (ine a966 a965.Epoch) false) false :: .test (ine a966 a965.Epoch) true :: .test true true :: .call 52 [.agg (eGBarrier a965), .one (.lit (.int .i64 a966)), .agg (eGPart a968)] (F52_res r1014) :: l) := fun z => ⟨(bnot_t h979), (beqb_ft (ine_f h980)), (beqb_ft (ine_f h980)), (beqb_ft (ine_f h980)), (beqb_ft (ine_f h980)), (beqb_ft (ine_f h980)), (beqb_ft (ine_f h980)), (ine_f h980), rfl, (F52_ok K a965 a966 a968 _ h1015), z⟩
    refine cond_some hF (fun h1016 hF => ?_) (fun h1016 hF => ?_)
    ·
      refine bind_some hF (fun r1017 h1018 hF => ?_)
      refine bind_some hF (fun r1019 h1020 hF => ?_)
      refine bind_some hF (fun r1021 h1022 hF => ?_)
      have pq1043 : ∀ {l : List Cond}, HoldAll E H hn7 l → HoldAll E H hn7 (.test (beqb (ine r1014.2 9) false) true :: .test (beqb (ine r1014.2 9) false) true :: .call 44 [.agg (eGBarrier a965)] (F44_res r1017) :: .test (beqb (ine r1014.2 9) false) true :: .test (beqb (ine r1014.2 9) false) true :: .call 44 [.agg (eGBarrier r1014.1)] (F44_res r1019) :: .test (beqb (ine r1014.2 9) false) true :: .call 43 [.agg (eGBarrier r1017), .agg (eGBarrier r1019)] (F43_res r1021) :: .test (leadsAny (Res.mk [(.one (.im (.lit (.bool r1021))))] [])) false :: .test (beqb (ine r1014.2 9) false) true :: .test (ine r1014.2 9) false :: l) := fun z => ⟨(beqb_ff (ine_t h1016)), (beqb_ff (ine_t h1016)), (F44_ok K a965 _ h1018), (beqb_ff (ine_t h1016)), (beqb_ff (ine_t h1016)), (F44_ok K r1014.1 _ h1020), (beqb_ff (ine_t h1016)), (F43_ok K r1017 r1019 _ h1022), (leads_ok (by simp only [leadsAny, List.any_cons, List.any_nil, RV.leads, RC.leads, leadsT, hasSl_lit, Bool.or_false, flat_ns (eInt_ns _), flat_ns eBool_ns, flat_ns eStr_ns, flat_ns eGJob_ns, flat_ns eGEdge_ns, flat_ns eGAsked_ns, flat_ns eGMsg_ns, flat_ns eGrule_ns, flat_ns eGA199_ns, flat_ns eGA202_ns])), (beqb_ff (ine_t h1016)), (ine_t h1016), z⟩
      refine cond_some hF (fun h1023 hF => ?_) (fun h1023 hF => ?_)
      ·
        refine bind_some hF (fun r1024 h1025 hF => ?_)
        have pq1044 : ∀ {l : List Cond}, HoldAll E H hn7 l → HoldAll E H hn7 (.test (bnot r1021) false :: .test (beqb (ine a966 a965.Epoch) false) false :: .test (beqb (ine a966 a965.Epoch) false) false :: .test (beqb (ine a966 a965.Epoch) false) false :: .test (beqb (ine a966 a965.Epoch) false) false :: .test (ine a966 a965.Epoch) true :: .test true true :: .call 54 [.agg (eGBarrier a965), .one (.lit (.int .i64 a966)), .one (.lit (.int .i64 a967))] (F54_res r1024) :: l) := fun z => ⟨(bnot_t h1023), (beqb_ft (ine_f h980)), (beqb_ft (ine_f h980)), (beqb_ft (ine_f h980)), (beqb_ft (ine_f h980)), (ine_f h980), rfl, (F54_ok K a965 a966 a967 _ h1025), z⟩
        refine cond_some hF (fun h1026 hF => ?_) (fun h1026 hF => ?_)
        ·
          refine bind_some hF (fun r1027 h1028 hF => ?_)
          refine bind_some hF (fun r1029 h1030 hF => ?_)
          refine bind_some hF (fun r1031 h1032 hF => ?_)
          have pq1045 : ∀ {l : List Cond}, HoldAll E H hn7 l → HoldAll E H hn7 (.test (beqb (ieq r1024.2 9) true) true :: .test (beqb (ieq r1024.2 9) true) true :: .call 44 [.agg (eGBarrier a965)] (F44_res r1027) :: .test (beqb (ieq r1024.2 9) true) true :: .test (beqb (ieq r1024.2 9) true) true :: .call 44 [.agg (eGBarrier r1024.1)] (F44_res r1029) :: .test (beqb (ieq r1024.2 9) true) true :: .call 43 [.agg (eGBarrier r1027), .agg (eGBarrier r1029)] (F43_res r1031) :: .test (leadsAny (Res.mk [(.one (.im (.lit (.bool r1031))))] [])) false :: .test (ieq r1024.2 9) true :: l) := fun z => ⟨(beqb_t h1026), (beqb_t h1026), (F44_ok K a965 _ h1028), (beqb_t h1026), (beqb_t h1026), (F44_ok K r1024.1 _ h1030), (beqb_t h1026), (F43_ok K r1027 r1029 _ h1032), (leads_ok (by simp only [leadsAny, List.any_cons, List.any_nil, RV.leads, RC.leads, leadsT, hasSl_lit, Bool.or_false, flat_ns (eInt_ns _), flat_ns eBool_ns, flat_ns eStr_ns, flat_ns eGJob_ns, flat_ns eGEdge_ns, flat_ns eGAsked_ns, flat_ns eGMsg_ns, flat_ns eGrule_ns, flat_ns eGA199_ns, flat_ns eGA202_ns])), h1026, z⟩
          refine cond_some hF (fun h1033 hF => ?_) (fun h1033 hF => ?_)
          ·
            have hr := Option.some.inj hF
            subst hr
            have pz : HoldAll E H hn7 [.test (beqb r1031 true) true, .call 45 [] (Res.mk [(.one (.im (.lit (.bool true))))] []), .test (leadsAny (Res.mk [(.one (.im (.lit (.bool true))))] [])) false, .test r1031 true] := ⟨(beqb_t h1033), knows45, (leads_ok (by simp only [leadsAny, List.any_cons, List.any_nil, RV.leads, RC.leads, leadsT, hasSl_lit, Bool.or_false, flat_ns (eInt_ns _), flat_ns eBool_ns, flat_ns eStr_ns, flat_ns eGJob_ns, flat_ns eGEdge_ns, flat_ns eGAsked_ns, flat_ns eGMsg_ns, flat_ns eGrule_ns, flat_ns eGA199_ns, flat_ns eGA202_ns])), h1033, trivial⟩
            exact fn_playC hn7 (f := 7) (ads := [.agg (eGBarrier a965), .one (.lit (.int .i64 a966)), .one (.lit (.int .i64 a967)), .agg (eGPart a968)]) (r := F7_res true) (pq1034 (pq1035 (pq1042 (pq1043 (pq1044 (pq1045 pz)))))) (by kernel_rfl) (by kernel_rfl)
          have hr := Option.some.inj hF
          subst hr
          have pz : HoldAll E H hn7 [.test (beqb r1031 true) false, .test r1031 false] := ⟨(beqb_t h1033), h1033, trivial⟩
          exact fn_playC hn7 (f := 7) (ads := [.agg (eGBarrier a965), .one (.lit (.int .i64 a966)), .one (.lit (.int .i64 a967)), .agg (eGPart a968)]) (r := F7_res false) (pq1034 (pq1035 (pq1042 (pq1043 (pq1044 (pq1045 pz)))))) (by kernel_rfl) (by kernel_rfl)
        have hr := Option.some.inj hF
        subst hr
        have pz : HoldAll E H hn7 [.test (beqb (ieq r1024.2 9) true) false, .test (beqb (ieq r1024.2 9) true) false, .test (beqb (ieq r1024.2 9) true) false, .test (beqb (ieq r1024.2 9) true) false, .test (beqb (ieq r1024.2 9) true) false, .test (ieq r1024.2 9) false, .test (beqb false true) false, .test false false] := ⟨(beqb_t h1026), (beqb_t h1026), (beqb_t h1026), (beqb_t h1026), (beqb_t h1026), h1026, (beqb_t rfl), rfl, trivial⟩
        exact fn_playC hn7 (f := 7) (ads := [.agg (eGBarrier a965), .one (.lit (.int .i64 a966)), .one (.lit (.int .i64 a967)), .agg (eGPart a968)]) (r := F7_res false) (pq1034 (pq1035 (pq1042 (pq1043 (pq1044 pz))))) (by kernel_rfl) (by kernel_rfl)
      have hr := Option.some.inj hF
      subst hr
      have pz : HoldAll E H hn7 [.test (bnot r1021) true] := ⟨(bnot_f h1023), trivial⟩
      exact fn_playC hn7 (f := 7) (ads := [.agg (eGBarrier a965), .one (.lit (.int .i64 a966)), .one (.lit (.int .i64 a967)), .agg (eGPart a968)]) (r := F7_res false) (pq1034 (pq1035 (pq1042 (pq1043 pz)))) (by kernel_rfl) (by kernel_rfl)
    have hr := Option.some.inj hF
    subst hr
    have pz : HoldAll E H hn7 [.test (beqb (ine r1014.2 9) false) false, .test (beqb (ine r1014.2 9) false) false, .test (beqb (ine r1014.2 9) false) false, .test (beqb (ine r1014.2 9) false) false, .test (beqb (ine r1014.2 9) false) false, .test (beqb (ine r1014.2 9) false) false, .test (ine r1014.2 9) true, .test true true] := ⟨(beqb_ft (ine_f h1016)), (beqb_ft (ine_f h1016)), (beqb_ft (ine_f h1016)), (beqb_ft (ine_f h1016)), (beqb_ft (ine_f h1016)), (beqb_ft (ine_f h1016)), (ine_f h1016), rfl, trivial⟩
    exact fn_playC hn7 (f := 7) (ads := [.agg (eGBarrier a965), .one (.lit (.int .i64 a966)), .one (.lit (.int .i64 a967)), .agg (eGPart a968)]) (r := F7_res false) (pq1034 (pq1035 (pq1042 pz))) (by kernel_rfl) (by kernel_rfl)
  have hr := Option.some.inj hF
  subst hr
  have pz : HoldAll E H hn7 [.test (bnot r977) true, .call 45 [] (Res.mk [(.one (.im (.lit (.bool true))))] []), .test (leadsAny (Res.mk [(.one (.im (.lit (.bool true))))] [])) false] := ⟨(bnot_f h979), knows45, (leads_ok (by simp only [leadsAny, List.any_cons, List.any_nil, RV.leads, RC.leads, leadsT, hasSl_lit, Bool.or_false, flat_ns (eInt_ns _), flat_ns eBool_ns, flat_ns eStr_ns, flat_ns eGJob_ns, flat_ns eGEdge_ns, flat_ns eGAsked_ns, flat_ns eGMsg_ns, flat_ns eGrule_ns, flat_ns eGA199_ns, flat_ns eGA202_ns])), trivial⟩
  exact fn_playC hn7 (f := 7) (ads := [.agg (eGBarrier a965), .one (.lit (.int .i64 a966)), .one (.lit (.int .i64 a967)), .agg (eGPart a968)]) (r := F7_res true) (pq1034 (pq1035 pz)) (by kernel_rfl) (by kernel_rfl)

end Go.Proofs.Ytnjanliihnadjaa.Tm

/- Printed by program: what each function computes, and that the machine answers so. Conditions: none. -/
import Derived.Test.YtnjanliihnadjaaTy
import Derived.Test.YtnjanliihnadjaaTab
import Derived.Test.YtnjanliihnadjaaKn
import Derived.Test.YtnjanliihnadjaaFO
import Derived.Test.YtnjanliihnadjaaFP
import Derived.Test.YtnjanliihnadjaaFTf
import Derived.KernelRfl
set_option linter.unusedVariables false
set_option linter.unusedSimpArgs false
namespace Go.Proofs.Ytnjanliihnadjaa.Tm
open Go
/-! ### haywain/haywainref01.Mul -/
noncomputable def hn171 : Hint := { H 171 with nt := 37, prot := 0 }
def F171_res (r1302 : Int × Bool) : Res := ⟨[(.one (.im (.lit (.int .i64 r1302.1)))), (.one (.im (.lit (.bool r1302.2))))], []⟩
def F171 (K : Nat) (a1284 : Int) (a1285 : Int) : Option (Int × Bool) :=
  bif (ieq a1284 0) then
    (some (0, true))
  else
  bif (ieq a1285 0) then
    (some (0, true))
  else
  bif (ieq a1284 (-1)) then
    (bif (ieq a1284 (-9223372036854775808)) then
      (some (0, false))
    else
    bif (ieq a1285 (-9223372036854775808)) then
      (some (0, false))
    else
    some ((wmul .i64 a1284 a1285), true))
  else
  bif (ieq a1285 (-1)) then
    (bif (ieq a1284 (-9223372036854775808)) then
      (some (0, false))
    else
    bif (ieq a1285 (-9223372036854775808)) then
      (some (0, false))
    else
    some ((wmul .i64 a1284 a1285), true))
  else
  bif (izero a1285) then none else
  bif (ieq (wquo .i64 (wmul .i64 a1284 a1285) a1285) a1284) then
    (some ((wmul .i64 a1284 a1285), true))
  else
  some (0, false)
theorem F171_ok (K : Nat) (a1284 : Int) (a1285 : Int) (r : Int × Bool) (hF : F171 K a1284 a1285 = some r) : Evt E H 171 [.one (.lit (.int .i64 a1284)), .one (.lit (.int .i64 a1285))] (F171_res r) := by
  rw [F171] at hF
  refine cond_some hF (fun h1286 hF => ?_) (fun h1286 hF => ?_)
  ·
    have hr := Option.some.inj hF
    subst hr
    have pz : HoldAll E H hn171 [.test (beqb (ieq a1284 0) false) false, .test (beqb (ieq a1284 0) false) false, .test (ieq a1284 0) true, .test true true] := ⟨(beqb_ft h1286), (beqb_ft h1286), h1286, rfl, trivial⟩
    exact fn_playC hn171 (f := 171) (ads := [.one (.lit (.int .i64 a1284)), .one (.lit (.int .i64 a1285))]) (r := F171_res (0, true)) pz (by kernel_rfl) (by kernel_rfl)
  have pq1296 : ∀ {l : List Cond}, HoldAll E H hn171 l → HoldAll E H hn171 (.test (beqb (ieq a1284 0) false) true :: .test (beqb (ieq a1284 0) false) true :: .test (ieq a1284 0) false :: l) := fun z => ⟨(beqb_ff h1286), (beqb_ff h1286), h1286, z⟩
  refine cond_some hF (fun h1287 hF => ?_) (fun h1287 hF => ?_)
  ·
    have hr := Option.some.inj hF
    subst hr
    have pz : HoldAll E H hn171 [.test (ieq a1285 0) true] := ⟨h1287, trivial⟩
    exact fn_playC hn171 (f := 171) (ads := [.one (.lit (.int .i64 a1284)), .one (.lit (.int .i64 a1285))]) (r := F171_res (0, true)) (pq1296 pz) (by kernel_rfl) (by kernel_rfl)
  refine cond_some hF (fun h1288 hF => ?_) (fun h1288 hF => ?_)
  ·
    have pq1297 : ∀ {l : List Cond}, HoldAll E H hn171 l → HoldAll E H hn171 (.test (ieq a1285 0) false :: .test (beqb (ieq a1284 (-1)) false) false :: .test (beqb (ieq a1284 (-1)) false) false :: .test (ieq a1284 (-1)) true :: .test true true :: l) := fun z => ⟨h1287, (beqb_ft h1288), (beqb_ft h1288), h1288, rfl, z⟩
    refine cond_some hF (fun h1289 hF => ?_) (fun h1289 hF => ?_)
    ·
      have hr := Option.some.inj hF
      subst hr
      have pz : HoldAll E H hn171 [.test (beqb (ieq a1284 (-9223372036854775808)) false) false, .test (beqb (ieq a1284 (-9223372036854775808)) false) false, .test (ieq a1284 (-9223372036854775808)) true, .test true true] := ⟨(beqb_ft h1289), (beqb_ft h1289), h1289, rfl, trivial⟩
      exact fn_playC hn171 (f := 171) (ads := [.one (.lit (.int .i64 a1284)), .one (.lit (.int .i64 a1285))]) (r := F171_res (0, false)) (pq1296 (pq1297 pz)) (by kernel_rfl) (by kernel_rfl)
    have pq1298 : ∀ {l : List Cond}, HoldAll E H hn171 l → HoldAll E H hn171 (.test (beqb (ieq a1284 (-9223372036854775808)) false) true :: .test (beqb (ieq a1284 (-9223372036854775808)) false) true :: .test (ieq a1284 (-9223372036854775808)) false :: l) := fun z => ⟨(beqb_ff h1289), (beqb_ff h1289), h1289, z⟩
    refine cond_some hF (fun h1290 hF => ?_) (fun h1290 hF => ?_)
    ·
      have hr := Option.some.inj hF
      subst hr
      have pz : HoldAll E H hn171 [.test (ieq a1285 (-9223372036854775808)) true] := ⟨h1290, trivial⟩
      exact fn_playC hn171 (f := 171) (ads := [.one (.lit (.int .i64 a1284)), .one (.lit (.int .i64 a1285))]) (r := F171_res (0, false)) (pq1296 (pq1297 (pq1298 pz))) (by kernel_rfl) (by kernel_rfl)
    have hr := Option.some.inj hF
    subst hr
    have pz : HoldAll E H hn171 [.test (ieq a1285 (-9223372036854775808)) false, .int (wmul .i64 a1284 a1285) (wmul .i64 a1284 a1285)] := ⟨h1290, rfl, trivial⟩
    exact fn_playC hn171 (f := 171) (ads := [.one (.lit (.int .i64 a1284)), .one (.lit (.int .i64 a1285))]) (r := F171_res ((wmul .i64 a1284 a1285), true)) (pq1296 (pq1297 (pq1298 pz))) (by kernel_rfl) (by kernel_rfl)
  have pq1299 : ∀ {l : List Cond}, HoldAll E H hn171 l → HoldAll E H hn171 (.test (ieq a1285 0) false :: .test (beqb (ieq a1284 (-1)) false) true :: .test (beqb (ieq a1284 (-1)) false) true :: .test (ieq a1284 (-1)) false :: l) := fun z => ⟨h1287, (beqb_ff h1288), (beqb_ff h1288), h1288, z⟩
  refine cond_some hF (fun h1291 hF => ?_) (fun h1291 hF => ?_)
  ·
    refine cond_some hF (fun h1292 hF => ?_) (fun h1292 hF => ?_)
    ·
      have hr := Option.some.inj hF
      subst hr
      have pz : HoldAll E H hn171 [.test (ieq a1285 (-1)) true, .test (beqb (ieq a1284 (-9223372036854775808)) false) false, .test (beqb (ieq a1284 (-9223372036854775808)) false) false, .test (ieq a1284 (-9223372036854775808)) true, .test true true] := ⟨h1291, (beqb_ft h1292), (beqb_ft h1292), h1292, rfl, trivial⟩
      exact fn_playC hn171 (f := 171) (ads := [.one (.lit (.int .i64 a1284)), .one (.lit (.int .i64 a1285))]) (r := F171_res (0, false)) (pq1296 (pq1299 pz)) (by kernel_rfl) (by kernel_rfl)
    have pq1300 : ∀ {l : List Cond}, HoldAll E H hn171 l → HoldAll E H hn171 (.test (ieq a1285 (-1)) true :: .test (beqb (ieq a1284 (-9223372036854775808)) false) true :: .test (beqb (ieq a1284 (-9223372036854775808)) false) true :: .test (ieq a1284 (-9223372036854775808)) false :: l) := fun z => ⟨h1291, (beqb_ff h1292), (beqb_ff h1292), h1292, z⟩
    refine cond_some hF (fun h1293 hF => ?_) (fun h1293 hF => ?_)
    ·
      have hr := Option.some.inj hF
      subst hr
      have pz : HoldAll E H hn171 [.test (ieq a1285 (-9223372036854775808)) true] := ⟨h1293, trivial⟩
      exact fn_playC hn171 (f := 171) (ads := [.one (.lit (.int .i64 a1284)), .one (.lit (.int .i64 a1285))]) (r := F171_res (0, false)) (pq1296 (pq1299 (pq1300 pz))) (by kernel_rfl) (by kernel_rfl)
    have hr := Option.some.inj hF
    subst hr
    have pz : HoldAll E H hn171 [.test (ieq a1285 (-9223372036854775808)) false, .int (wmul .i64 a1284 a1285) (wmul .i64 a1284 a1285)] := ⟨h1293, rfl, trivial⟩
    exact fn_playC hn171 (f := 171) (ads := [.one (.lit (.int .i64 a1284)), .one (.lit (.int .i64 a1285))]) (r := F171_res ((wmul .i64 a1284 a1285), true)) (pq1296 (pq1299 (pq1300 pz))) (by kernel_rfl) (by kernel_rfl)
  refine cond_some hF (fun _ hF => nomatch hF) (fun h1294 hF => ?_)
  have pq1301 : ∀ {l : List Cond}, HoldAll E H hn171 l → HoldAll E H hn171 (.test (ieq a1285 (-1)) false :: .int (wmul .i64 a1284 a1285) (wmul .i64 a1284 a1285) :: .test (izero a1285) false :: .int (wquo .i64 (wmul .i64 a1284 a1285) a1285) (wquo .i64 (wmul .i64 a1284 a1285) a1285) :: l) := fun z => ⟨h1291, rfl, h1294, rfl, z⟩
  refine cond_some hF (fun h1295 hF => ?_) (fun h1295 hF => ?_)
  ·
    have hr := Option.some.inj hF
    subst hr
    have pz : HoldAll E H hn171 [.test (ine (wquo .i64 (wmul .i64 a1284 a1285) a1285) a1284) false] := ⟨(ine_t h1295), trivial⟩
    exact fn_playC hn171 (f := 171) (ads := [.one (.lit (.int .i64 a1284)), .one (.lit (.int .i64 a1285))]) (r := F171_res ((wmul .i64 a1284 a1285), true)) (pq1296 (pq1299 (pq1301 pz))) (by kernel_rfl) (by kernel_rfl)
  have hr := Option.some.inj hF
  subst hr
  have pz : HoldAll E H hn171 [.test (ine (wquo .i64 (wmul .i64 a1284 a1285) a1285) a1284) true] := ⟨(ine_f h1295), trivial⟩
  exact fn_playC hn171 (f := 171) (ads := [.one (.lit (.int .i64 a1284)), .one (.lit (.int .i64 a1285))]) (r := F171_res (0, false)) (pq1296 (pq1299 (pq1301 pz))) (by kernel_rfl) (by kernel_rfl)

/-! ### haywain/haywainref01.Ratio -/
noncomputable def hn168 : Hint := { H 168 with nt := 23, prot := 0 }
def F168_res (r1308 : Int × Bool) : Res := ⟨[(.one (.im (.lit (.int .i64 r1308.1)))), (.one (.im (.lit (.bool r1308.2))))], []⟩
def F168 (K : Nat) (a1280 : Int) (a1281 : Int) (a1282 : Int) : Option (Int × Bool) :=
  bif (ilt a1282 1) then
    (some (0, false))
  else
  (F171 K a1280 a1281).bind fun r1303 =>
  bif r1303.2 then
    (bif (izero a1282) then none else
    some ((wquo .i64 r1303.1 a1282), true))
  else
  some (0, false)
theorem F168_ok (K : Nat) (a1280 : Int) (a1281 : Int) (a1282 : Int) (r : Int × Bool) (hF : F168 K a1280 a1281 a1282 = some r) : Evt E H 168 [.one (.lit (.int .i64 a1280)), .one (.lit (.int .i64 a1281)), .one (.lit (.int .i64 a1282))] (F168_res r) := by
  rw [F168] at hF
  refine cond_some hF (fun h1283 hF => ?_) (fun h1283 hF => ?_)
  ·
    have hr := Option.some.inj hF
    subst hr
    have pz : HoldAll E H hn168 [.test (ilt a1282 1) true] := ⟨h1283, trivial⟩
    exact fn_playC hn168 (f := 168) (ads := [.one (.lit (.int .i64 a1280)), .one (.lit (.int .i64 a1281)), .one (.lit (.int .i64 a1282))]) (r := F168_res (0, false)) pz (by kernel_rfl) (by kernel_rfl)
  refine bind_some hF (fun r1303 h1304 hF => ?_)
  have pq1307 : ∀ {l : List Cond}, HoldAll E H hn168 l → HoldAll E H hn168 (.test (ilt a1282 1) false :: .call 171 [.one (.lit (.int .i64 a1280)), .one (.lit (.int .i64 a1281))] (F171_res r1303) :: .test (leadsAny (Res.mk [(.one (.im (.lit (.int .i64 r1303.1)))), (.one (.im (.lit (.bool r1303.2))))] [])) false :: l) := fun z => ⟨h1283, (F171_ok K a1280 a1281 _ h1304), (leads_ok (by simp only [leadsAny, List.any_cons, List.any_nil, RV.leads, RC.leads, leadsT, hasSl_lit, Bool.or_false, flat_ns (eInt_ns _), flat_ns eBool_ns, flat_ns eStr_ns, flat_ns eGJob_ns, flat_ns eGEdge_ns, flat_ns eGAsked_ns, flat_ns eGMsg_ns, flat_ns eGrule_ns, flat_ns eGA199_ns, flat_ns eGA202_ns])), z⟩
  refine cond_some hF (fun h1305 hF => ?_) (fun h1305 hF => ?_)
  ·
    refine cond_some hF (fun _ hF => nomatch hF) (fun h1306 hF => ?_)
    have hr := Option.some.inj hF
    subst hr
    have pz : HoldAll E H hn168 [.test (bnot r1303.2) false, .test (izero a1282) false, .int (wquo .i64 r1303.1 a1282) (wquo .i64 r1303.1 a1282)] := ⟨(bnot_t h1305), h1306, rfl, trivial⟩
    exact fn_playC hn168 (f := 168) (ads := [.one (.lit (.int .i64 a1280)), .one (.lit (.int .i64 a1281)), .one (.lit (.int .i64 a1282))]) (r := F168_res ((wquo .i64 r1303.1 a1282), true)) (pq1307 pz) (by kernel_rfl) (by kernel_rfl)
  have hr := Option.some.inj hF
  subst hr
  have pz : HoldAll E H hn168 [.test (bnot r1303.2) true] := ⟨(bnot_f h1305), trivial⟩
  exact fn_playC hn168 (f := 168) (ads := [.one (.lit (.int .i64 a1280)), .one (.lit (.int .i64 a1281)), .one (.lit (.int .i64 a1282))]) (r := F168_res (0, false)) (pq1307 pz) (by kernel_rfl) (by kernel_rfl)

/-! ### haywain/haywainref04.sum -/
noncomputable def hn147 : Hint := { H 147 with nt := 17, prot := 0 }
def F147_res (r1328 : Int × Bool) : Res := ⟨[(.one (.im (.lit (.int .i64 r1328.1)))), (.one (.im (.lit (.bool r1328.2))))], []⟩
def F147 (K : Nat) (a1279 : Int) : Option (Int × Bool) :=
  (F168 K a1279 85 100).bind fun r1309 =>
  bif r1309.2 then
    ((F145 K 150000 r1309.1).bind fun r1326 =>
    some (r1326.1, r1326.2))
  else
  some (0, false)
theorem F147_ok (K : Nat) (a1279 : Int) (r : Int × Bool) (hF : F147 K a1279 = some r) : Evt E H 147 [.one (.lit (.int .i64 a1279))] (F147_res r) := by
  rw [F147] at hF
  refine bind_some hF (fun r1309 h1310 hF => ?_)
  refine cond_some hF (fun h1311 hF => ?_) (fun h1311 hF => ?_)
  ·
    refine bind_some hF (fun r1326 h1327 hF => ?_)
    have hr := Option.some.inj hF
    subst hr
    have pz : HoldAll E H hn147 [.call 168 [.one (.lit (.int .i64 a1279)), .one (.lit (.int .i64 85)), .one (.lit (.int .i64 100))] (F168_res r1309), .test (leadsAny (Res.mk [(.one (.im (.lit (.int .i64 r1309.1)))), (.one (.im (.lit (.bool r1309.2))))] [])) false, .test (bnot r1309.2) false, .call 145 [.one (.lit (.int .i64 150000)), .one (.lit (.int .i64 r1309.1))] (F145_res r1326), .test (leadsAny (Res.mk [(.one (.im (.lit (.int .i64 r1326.1)))), (.one (.im (.lit (.bool r1326.2))))] [])) false] := ⟨(F168_ok K a1279 85 100 _ h1310), (leads_ok (by simp only [leadsAny, List.any_cons, List.any_nil, RV.leads, RC.leads, leadsT, hasSl_lit, Bool.or_false, flat_ns (eInt_ns _), flat_ns eBool_ns, flat_ns eStr_ns, flat_ns eGJob_ns, flat_ns eGEdge_ns, flat_ns eGAsked_ns, flat_ns eGMsg_ns, flat_ns eGrule_ns, flat_ns eGA199_ns, flat_ns eGA202_ns])), (bnot_t h1311), (F145_ok K 150000 r1309.1 _ h1327), (leads_ok (by simp only [leadsAny, List.any_cons, List.any_nil, RV.leads, RC.leads, leadsT, hasSl_lit, Bool.or_false, flat_ns (eInt_ns _), flat_ns eBool_ns, flat_ns eStr_ns, flat_ns eGJob_ns, flat_ns eGEdge_ns, flat_ns eGAsked_ns, flat_ns eGMsg_ns, flat_ns eGrule_ns, flat_ns eGA199_ns, flat_ns eGA202_ns])), trivial⟩
    exact fn_playC hn147 (f := 147) (ads := [.one (.lit (.int .i64 a1279))]) (r := F147_res (r1326.1, r1326.2)) pz (by kernel_rfl) (by kernel_rfl)
  have hr := Option.some.inj hF
  subst hr
  have pz : HoldAll E H hn147 [.call 168 [.one (.lit (.int .i64 a1279)), .one (.lit (.int .i64 85)), .one (.lit (.int .i64 100))] (F168_res r1309), .test (leadsAny (Res.mk [(.one (.im (.lit (.int .i64 r1309.1)))), (.one (.im (.lit (.bool r1309.2))))] [])) false, .test (bnot r1309.2) true] := ⟨(F168_ok K a1279 85 100 _ h1310), (leads_ok (by simp only [leadsAny, List.any_cons, List.any_nil, RV.leads, RC.leads, leadsT, hasSl_lit, Bool.or_false, flat_ns (eInt_ns _), flat_ns eBool_ns, flat_ns eStr_ns, flat_ns eGJob_ns, flat_ns eGEdge_ns, flat_ns eGAsked_ns, flat_ns eGMsg_ns, flat_ns eGrule_ns, flat_ns eGA199_ns, flat_ns eGA202_ns])), (bnot_f h1311), trivial⟩
  exact fn_playC hn147 (f := 147) (ads := [.one (.lit (.int .i64 a1279))]) (r := F147_res (0, false)) pz (by kernel_rfl) (by kernel_rfl)

/-! ### haywain/haywainref04.sent -/
noncomputable def hn148 : Hint := { H 148 with nt := 33, prot := 0 }
def F148_res (r1388 : Int × Bool) : Res := ⟨[(.one (.im (.lit (.int .i64 r1388.1)))), (.one (.im (.lit (.bool r1388.2))))], []⟩
def F148 (K : Nat) (a1375 : Int) (a1376 : Int) (a1377 : GEdge) (a1378 : Int) : Option (Int × Bool) :=
  bif (ieq a1375 1) then
    ((F145 K a1376 a1377.W).bind fun r1380 =>
    some (r1380.1, r1380.2))
  else
  bif (ieq a1375 3) then
    ((F145 K a1376 1).bind fun r1383 =>
    some (r1383.1, r1383.2))
  else
  bif (ieq a1375 5) then
    ((F168 K a1376 1 a1378).bind fun r1386 =>
    some (r1386.1, r1386.2))
  else
  some (a1376, true)
theorem F148_ok (K : Nat) (a1375 : Int) (a1376 : Int) (a1377 : GEdge) (a1378 : Int) (r : Int × Bool) (hF : F148 K a1375 a1376 a1377 a1378 = some r) : Evt E H 148 [.one (.lit (.int .i64 a1375)), .one (.lit (.int .i64 a1376)), .agg (eGEdge a1377), .one (.lit (.int .i64 a1378))] (F148_res r) := by
  rw [F148] at hF
  refine cond_some hF (fun h1379 hF => ?_) (fun h1379 hF => ?_)
  ·
    refine bind_some hF (fun r1380 h1381 hF => ?_)
    have hr := Option.some.inj hF
    subst hr
    have pz : HoldAll E H hn148 [.test (ieq a1375 1) true, .call 145 [.one (.lit (.int .i64 a1376)), .one (.lit (.int .i64 a1377.W))] (F145_res r1380), .test (leadsAny (Res.mk [(.one (.im (.lit (.int .i64 r1380.1)))), (.one (.im (.lit (.bool r1380.2))))] [])) false] := ⟨h1379, (F145_ok K a1376 a1377.W _ h1381), (leads_ok (by simp only [leadsAny, List.any_cons, List.any_nil, RV.leads, RC.leads, leadsT, hasSl_lit, Bool.or_false, flat_ns (eInt_ns _), flat_ns eBool_ns, flat_ns eStr_ns, flat_ns eGJob_ns, flat_ns eGEdge_ns, flat_ns eGAsked_ns, flat_ns eGMsg_ns, flat_ns eGrule_ns, flat_ns eGA199_ns, flat_ns eGA202_ns])), trivial⟩
    exact fn_playC hn148 (f := 148) (ads := [.one (.lit (.int .i64 a1375)), .one (.lit (.int .i64 a1376)), .agg (eGEdge a1377), .one (.lit (.int .i64 a1378))]) (r := F148_res (r1380.1, r1380.2)) pz (by kernel_rfl) (by kernel_rfl)
  refine cond_some hF (fun h1382 hF => ?_) (fun h1382 hF => ?_)
  ·
    refine bind_some hF (fun r1383 h1384 hF => ?_)
    have hr := Option.some.inj hF
    subst hr
    have pz : HoldAll E H hn148 [.test (ieq a1375 1) false, .test (ieq a1375 3) true, .call 145 [.one (.lit (.int .i64 a1376)), .one (.lit (.int .i64 1))] (F145_res r1383), .test (leadsAny (Res.mk [(.one (.im (.lit (.int .i64 r1383.1)))), (.one (.im (.lit (.bool r1383.2))))] [])) false] := ⟨h1379, h1382, (F145_ok K a1376 1 _ h1384), (leads_ok (by simp only [leadsAny, List.any_cons, List.any_nil, RV.leads, RC.leads, leadsT, hasSl_lit, Bool.or_false, flat_ns (eInt_ns _), flat_ns eBool_ns, flat_ns eStr_ns, flat_ns eGJob_ns, flat_ns eGEdge_ns, flat_ns eGAsked_ns, flat_ns eGMsg_ns, flat_ns eGrule_ns, flat_ns eGA199_ns, flat_ns eGA202_ns])), trivial⟩
    exact fn_playC hn148 (f := 148) (ads := [.one (.lit (.int .i64 a1375)), .one (.lit (.int .i64 a1376)), .agg (eGEdge a1377), .one (.lit (.int .i64 a1378))]) (r := F148_res (r1383.1, r1383.2)) pz (by kernel_rfl) (by kernel_rfl)
  refine cond_some hF (fun h1385 hF => ?_) (fun h1385 hF => ?_)
  ·
    refine bind_some hF (fun r1386 h1387 hF => ?_)
    have hr := Option.some.inj hF
    subst hr
    have pz : HoldAll E H hn148 [.test (ieq a1375 1) false, .test (ieq a1375 3) false, .test (ieq a1375 5) true, .call 168 [.one (.lit (.int .i64 a1376)), .one (.lit (.int .i64 1)), .one (.lit (.int .i64 a1378))] (F168_res r1386), .test (leadsAny (Res.mk [(.one (.im (.lit (.int .i64 r1386.1)))), (.one (.im (.lit (.bool r1386.2))))] [])) false] := ⟨h1379, h1382, h1385, (F168_ok K a1376 1 a1378 _ h1387), (leads_ok (by simp only [leadsAny, List.any_cons, List.any_nil, RV.leads, RC.leads, leadsT, hasSl_lit, Bool.or_false, flat_ns (eInt_ns _), flat_ns eBool_ns, flat_ns eStr_ns, flat_ns eGJob_ns, flat_ns eGEdge_ns, flat_ns eGAsked_ns, flat_ns eGMsg_ns, flat_ns eGrule_ns, flat_ns eGA199_ns, flat_ns eGA202_ns])), trivial⟩
    exact fn_playC hn148 (f := 148) (ads := [.one (.lit (.int .i64 a1375)), .one (.lit (.int .i64 a1376)), .agg (eGEdge a1377), .one (.lit (.int .i64 a1378))]) (r := F148_res (r1386.1, r1386.2)) pz (by kernel_rfl) (by kernel_rfl)
  have hr := Option.some.inj hF
  subst hr
  have pz : HoldAll E H hn148 [.test (ieq a1375 1) false, .test (ieq a1375 3) false, .test (ieq a1375 5) false] := ⟨h1379, h1382, h1385, trivial⟩
  exact fn_playC hn148 (f := 148) (ads := [.one (.lit (.int .i64 a1375)), .one (.lit (.int .i64 a1376)), .agg (eGEdge a1377), .one (.lit (.int .i64 a1378))]) (r := F148_res (a1376, true)) pz (by kernel_rfl) (by kernel_rfl)

/-! ### haywain/haywainref04.Turn -/
noncomputable def hn100 : Hint := { H 100 with nt := 145, prot := 0 }
noncomputable def c100_0 : Code := loopOf E 100 0
def F100_res (r1848 : GTurned) : Res := ⟨[(.agg [(.im (.lit (.int .i64 r1848.Val))), (.own 130 (.sl (len r1848.Out) (flat eGMsg r1848.Out))), (.im (.lit (.bool r1848.Rest))), (.im (.lit (.int .i64 r1848.E)))])], []⟩
def F100_l0_0 (K : Nat) (v1361 : Int) (v1362 : Int) (v1363 : Int) (v1364 : Int) (v1365 : Int) (v1366 : Bool) (v1369 : List GEdge) : Nat → List GMsg → Int → Option ((Unit) ⊕ (List GMsg))
  | 0, _, _ => none
  | k + 1, v1393, v1394 =>
    bif (ilt v1394 (nlen (len v1369))) then
      (bif v1366 then
        (bif (inr v1394 (len v1369)) then
        (elAt v1369 v1394).bind fun x1398 =>
        (F148 K v1362 v1361 x1398 (nlen (len v1369))).bind fun r1400 =>
        bif r1400.2 then
          (bif (apok (len v1393) 1 16) then
          F100_l0_0 K v1361 v1362 v1363 v1364 v1365 v1366 v1369 k (appL v1393 [(GMsg.mk x1398.To r1400.1)]) (wadd .i64 v1394 1)
          else none)
        else
        some (.inl ())
        else none)
      else
      some (.inr v1393))
    else
    some (.inr v1393)
def F100_l0_0_S (v1361 : Int) (v1362 : Int) (v1363 : Int) (v1364 : Int) (v1365 : Int) (v1366 : Bool) (v1369 : List GEdge) (v1393 : List GMsg) (v1394 : Int) : TS := .on [256, 257, 512, 513, 514, 515, 516, 896, 897, 898, 899, 900, 1088, 1089, 1344, 1345, 1346, 1347, 1348, 1408, 1409, 1472, 1473] [(256, ⟨.one, 0, nob⟩), (257, ⟨.im, 0, (.lit (.int .i64 v1361))⟩), (512, ⟨(.box 64 4), 0, nob⟩), (513, ⟨.im, 0, (.lit (.int .i64 v1362))⟩), (514, ⟨.im, 0, (.lit (.int .i64 v1363))⟩), (515, ⟨.im, 0, (.lit (.int .i64 v1364))⟩), (516, ⟨.im, 0, (.lit (.int .i64 v1365))⟩), (896, ⟨(.box 126 4), 0, nob⟩), (897, ⟨.im, 0, (.lit (.int .i64 0))⟩), (898, ⟨(.own 130), 0, (.sl 0 [])⟩), (899, ⟨.im, 0, (.lit (.bool false))⟩), (900, ⟨.im, 0, (.lit (.int .i64 0))⟩), (1088, ⟨.one, 0, nob⟩), (1089, ⟨.im, 0, (.lit (.bool v1366))⟩), (1344, ⟨(.box 126 4), 0, nob⟩), (1345, ⟨.im, 0, (.lit (.int .i64 v1361))⟩), (1346, ⟨(.own 130), 0, (.sl (len v1393) (flat eGMsg v1393))⟩), (1347, ⟨.im, 0, (.lit (.bool (bnot v1366)))⟩), (1348, ⟨.im, 0, (.lit (.int .i64 0))⟩), (1408, ⟨.one, 0, nob⟩), (1409, ⟨(.own 89), 0, (.sl (len v1369) (flat eGEdge v1369))⟩), (1472, ⟨.one, 0, nob⟩), (1473, ⟨.im, 0, (.lit (.int .i64 v1394))⟩)]
def F100_l0_0_X0 (v1361 : Int) (v1362 : Int) (v1363 : Int) (v1364 : Int) (v1365 : Int) (v1366 : Bool) (v1369 : List GEdge) (w1404 : Unit) : TS := .on [896, 897, 898, 899, 900] [(896, ⟨(.box 126 4), 0, nob⟩), (897, ⟨.im, 0, (.lit (.int .i64 0))⟩), (898, ⟨(.own 130), 0, (.sl 0 [])⟩), (899, ⟨.im, 0, (.lit (.bool false))⟩), (900, ⟨.im, 0, (.lit (.int .i64 8))⟩)]
def F100_l0_0_X1 (v1361 : Int) (v1362 : Int) (v1363 : Int) (v1364 : Int) (v1365 : Int) (v1366 : Bool) (v1369 : List GEdge) (w1405 : List GMsg) : TS := .on [896, 897, 898, 899, 900, 1344, 1345, 1346, 1347, 1348] [(896, ⟨(.box 126 4), 0, nob⟩), (897, ⟨.im, 0, (.lit (.int .i64 0))⟩), (898, ⟨(.own 130), 0, (.sl 0 [])⟩), (899, ⟨.im, 0, (.lit (.bool false))⟩), (900, ⟨.im, 0, (.lit (.int .i64 0))⟩), (1344, ⟨(.box 126 4), 0, nob⟩), (1345, ⟨.im, 0, (.lit (.int .i64 v1361))⟩), (1346, ⟨(.own 130), 0, (.sl (len w1405) (flat eGMsg w1405))⟩), (1347, ⟨.im, 0, (.lit (.bool (bnot v1366)))⟩), (1348, ⟨.im, 0, (.lit (.int .i64 0))⟩)]
theorem F100_l0_0_ok (K : Nat) (v1361 : Int) (v1362 : Int) (v1363 : Int) (v1364 : Int) (v1365 : Int) (v1366 : Bool) (v1369 : List GEdge) : ∀ (k : Nat) (v1393 : List GMsg) (v1394 : Int) (r : (Unit) ⊕ (List GMsg)), F100_l0_0 K v1361 v1362 v1363 v1364 v1365 v1366 v1369 k v1393 v1394 = some r → (Sum.elim (fun w => LoopEv E H hn100 0 c100_0 (F100_l0_0_S v1361 v1362 v1363 v1364 v1365 v1366 v1369 v1393 v1394) .ret (F100_l0_0_X0 v1361 v1362 v1363 v1364 v1365 v1366 v1369 w)) (fun w => LoopEv E H hn100 0 c100_0 (F100_l0_0_S v1361 v1362 v1363 v1364 v1365 v1366 v1369 v1393 v1394) (.exit 0) (F100_l0_0_X1 v1361 v1362 v1363 v1364 v1365 v1366 v1369 w))) r := by
  intro k
  induction k with
  | zero => intro v1393 v1394 r hF; cases hF
  | succ k ih =>
    intro v1393 v1394 r hF
    rw [F100_l0_0] at hF
    refine cond_some hF (fun h1395 hF => ?_) (fun h1395 hF => ?_)
    ·
      have pq1407 : ∀ {l : List Cond}, HoldAll E H hn100 l → HoldAll E H hn100 (.int (nlen (len v1369)) (nlen (len v1369)) :: .test (beqb (ilt v1394 (nlen (len v1369))) true) true :: .test (ilt v1394 (nlen (len v1369))) true :: l) := fun z => ⟨rfl, (beqb_t h1395), h1395, z⟩
      refine cond_some hF (fun h1396 hF => ?_) (fun h1396 hF => ?_)
      ·
        refine cond_some hF (fun h1397 hF => ?_) (fun _ hF => nomatch hF)
        refine bind_some hF (fun x1398 h1399 hF => ?_)
        refine bind_some hF (fun r1400 h1401 hF => ?_)
        have pq1408 : ∀ {l : List Cond}, HoldAll E H hn100 l → HoldAll E H hn100 (.test v1366 true :: .test (inr v1394 (len v1369)) true :: .sub (flat eGEdge v1369) (nidx v1394 3) 3 [(.lit (.int .i64 x1398.From)), (.lit (.int .i64 x1398.To)), (.lit (.int .i64 x1398.W))] :: .int (nlen (len v1369)) (nlen (len v1369)) :: .call 148 [.one (.lit (.int .i64 v1362)), .one (.lit (.int .i64 v1361)), .agg (eGEdge x1398), .one (.lit (.int .i64 (nlen (len v1369))))] (F148_res r1400) :: .test (leadsAny (Res.mk [(.one (.im (.lit (.int .i64 r1400.1)))), (.one (.im (.lit (.bool r1400.2))))] [])) false :: l) := fun z => ⟨h1396, h1397, ⟨rfl, sub_flat0 eGEdge_len h1399 3 (by decide)⟩, rfl, (F148_ok K v1362 v1361 x1398 (nlen (len v1369)) _ h1401), (leads_ok (by simp only [leadsAny, List.any_cons, List.any_nil, RV.leads, RC.leads, leadsT, hasSl_lit, Bool.or_false, flat_ns (eInt_ns _), flat_ns eBool_ns, flat_ns eStr_ns, flat_ns eGJob_ns, flat_ns eGEdge_ns, flat_ns eGAsked_ns, flat_ns eGMsg_ns, flat_ns eGrule_ns, flat_ns eGA199_ns, flat_ns eGA202_ns])), z⟩
        refine cond_some hF (fun h1402 hF => ?_) (fun h1402 hF => ?_)
        ·
          refine cond_some hF (fun h1403 hF => ?_) (fun _ hF => nomatch hF)
          have pz : HoldAll E H hn100 [.test (bnot r1400.2) false, .test (inr v1394 (len v1369)) true, .sub (flat eGEdge v1369) (nadd (nidx v1394 3) 1) 1 [(.lit (.int .i64 x1398.To))], .test (leqm [(.lit (.int .i64 x1398.To)), (.lit (.int .i64 r1400.1))] 1 2) true, .test (apok (len v1393) 1 16) true, .sl (nadd (len v1393) 1) (lapp (flat eGMsg v1393) [(.lit (.int .i64 x1398.To)), (.lit (.int .i64 r1400.1))]) (len (α := GMsg) (appL v1393 [(GMsg.mk x1398.To r1400.1)])) (flat eGMsg (appL v1393 [(GMsg.mk x1398.To r1400.1)])), .int (wadd .i64 v1394 1) (wadd .i64 v1394 1)] := ⟨(bnot_t h1402), h1397, ⟨rfl, sub_flat eGEdge_len h1399 1 1 (by decide)⟩, rfl, h1403, (app_ok (enc := eGMsg) (v1393 : List GMsg) [(GMsg.mk x1398.To r1400.1)]), rfl, trivial⟩
          have h0 := ih _ _ _ hF
          have hn := fun ex ts' => loop_nextC (h := hn100) (l := 0) (c := c100_0) (ts := F100_l0_0_S v1361 v1362 v1363 v1364 v1365 v1366 v1369 v1393 v1394) (ts1 := (F100_l0_0_S v1361 v1362 v1363 v1364 v1365 v1366 v1369 (appL v1393 [(GMsg.mk x1398.To r1400.1)]) (wadd .i64 v1394 1))) (ex := ex) (ts' := ts') (pq1407 (pq1408 pz)) (by kernel_rfl)
          cases r with
          | inl w => exact hn _ _ h0
          | inr w => exact hn _ _ h0
        have hr := Option.some.inj hF
        subst hr
        have pz : HoldAll E H hn100 [.test (bnot r1400.2) true] := ⟨(bnot_f h1402), trivial⟩
        exact loop_endC (h := hn100) (l := 0) (c := c100_0) (ts := F100_l0_0_S v1361 v1362 v1363 v1364 v1365 v1366 v1369 v1393 v1394) (ts' := F100_l0_0_X0 v1361 v1362 v1363 v1364 v1365 v1366 v1369 ()) (ex := .ret) (pq1407 (pq1408 pz)) (by kernel_rfl) trivial
      have hr := Option.some.inj hF
      subst hr
      have pz : HoldAll E H hn100 [.test v1366 false] := ⟨h1396, trivial⟩
      exact loop_endC (h := hn100) (l := 0) (c := c100_0) (ts := F100_l0_0_S v1361 v1362 v1363 v1364 v1365 v1366 v1369 v1393 v1394) (ts' := F100_l0_0_X1 v1361 v1362 v1363 v1364 v1365 v1366 v1369 v1393) (ex := (.exit 0)) (pq1407 pz) (by kernel_rfl) trivial
    have hr := Option.some.inj hF
    subst hr
    have pz : HoldAll E H hn100 [.int (nlen (len v1369)) (nlen (len v1369)), .test (beqb (ilt v1394 (nlen (len v1369))) true) false, .test (ilt v1394 (nlen (len v1369))) false, .test false false] := ⟨rfl, (beqb_t h1395), h1395, rfl, trivial⟩
    exact loop_endC (h := hn100) (l := 0) (c := c100_0) (ts := F100_l0_0_S v1361 v1362 v1363 v1364 v1365 v1366 v1369 v1393 v1394) (ts' := F100_l0_0_X1 v1361 v1362 v1363 v1364 v1365 v1366 v1369 v1393) (ex := (.exit 0)) pz (by kernel_rfl) trivial

def F100_l0_1 (K : Nat) (v1491 : Int) (v1492 : Int) (v1493 : Int) (v1494 : Int) (v1495 : Int) (v1497 : List GEdge) : Nat → List GMsg → Int → Option ((Unit) ⊕ (List GMsg))
  | 0, _, _ => none
  | k + 1, v1506, v1507 =>
    bif (ilt v1507 (nlen (len v1497))) then
      (bif (inr v1507 (len v1497)) then
      (elAt v1497 v1507).bind fun x1510 =>
      (F148 K v1492 v1491 x1510 (nlen (len v1497))).bind fun r1512 =>
      bif r1512.2 then
        (bif (apok (len v1506) 1 16) then
        F100_l0_1 K v1491 v1492 v1493 v1494 v1495 v1497 k (appL v1506 [(GMsg.mk x1510.To r1512.1)]) (wadd .i64 v1507 1)
        else none)
      else
      some (.inl ())
      else none)
    else
    some (.inr v1506)
def F100_l0_1_S (v1491 : Int) (v1492 : Int) (v1493 : Int) (v1494 : Int) (v1495 : Int) (v1497 : List GEdge) (v1506 : List GMsg) (v1507 : Int) : TS := .on [256, 257, 512, 513, 514, 515, 516, 896, 897, 898, 899, 900, 1088, 1089, 1344, 1345, 1346, 1347, 1348, 1408, 1409, 1472, 1473] [(256, ⟨.one, 0, nob⟩), (257, ⟨.im, 0, (.lit (.int .i64 v1491))⟩), (512, ⟨(.box 64 4), 0, nob⟩), (513, ⟨.im, 0, (.lit (.int .i64 v1492))⟩), (514, ⟨.im, 0, (.lit (.int .i64 v1493))⟩), (515, ⟨.im, 0, (.lit (.int .i64 v1494))⟩), (516, ⟨.im, 0, (.lit (.int .i64 v1495))⟩), (896, ⟨(.box 126 4), 0, nob⟩), (897, ⟨.im, 0, (.lit (.int .i64 0))⟩), (898, ⟨(.own 130), 0, (.sl 0 [])⟩), (899, ⟨.im, 0, (.lit (.bool false))⟩), (900, ⟨.im, 0, (.lit (.int .i64 0))⟩), (1088, ⟨.one, 0, nob⟩), (1089, ⟨.im, 0, (.lit (.bool true))⟩), (1344, ⟨(.box 126 4), 0, nob⟩), (1345, ⟨.im, 0, (.lit (.int .i64 v1491))⟩), (1346, ⟨(.own 130), 0, (.sl (len v1506) (flat eGMsg v1506))⟩), (1347, ⟨.im, 0, (.lit (.bool true))⟩), (1348, ⟨.im, 0, (.lit (.int .i64 0))⟩), (1408, ⟨.one, 0, nob⟩), (1409, ⟨(.own 89), 0, (.sl (len v1497) (flat eGEdge v1497))⟩), (1472, ⟨.one, 0, nob⟩), (1473, ⟨.im, 0, (.lit (.int .i64 v1507))⟩)]
def F100_l0_1_X0 (v1491 : Int) (v1492 : Int) (v1493 : Int) (v1494 : Int) (v1495 : Int) (v1497 : List GEdge) (w1516 : Unit) : TS := .on [896, 897, 898, 899, 900] [(896, ⟨(.box 126 4), 0, nob⟩), (897, ⟨.im, 0, (.lit (.int .i64 0))⟩), (898, ⟨(.own 130), 0, (.sl 0 [])⟩), (899, ⟨.im, 0, (.lit (.bool false))⟩), (900, ⟨.im, 0, (.lit (.int .i64 8))⟩)]
def F100_l0_1_X1 (v1491 : Int) (v1492 : Int) (v1493 : Int) (v1494 : Int) (v1495 : Int) (v1497 : List GEdge) (w1517 : List GMsg) : TS := .on [896, 897, 898, 899, 900, 1344, 1345, 1346, 1347, 1348] [(896, ⟨(.box 126 4), 0, nob⟩), (897, ⟨.im, 0, (.lit (.int .i64 0))⟩), (898, ⟨(.own 130), 0, (.sl 0 [])⟩), (899, ⟨.im, 0, (.lit (.bool false))⟩), (900, ⟨.im, 0, (.lit (.int .i64 0))⟩), (1344, ⟨(.box 126 4), 0, nob⟩), (1345, ⟨.im, 0, (.lit (.int .i64 v1491))⟩), (1346, ⟨(.own 130), 0, (.sl (len w1517) (flat eGMsg w1517))⟩), (1347, ⟨.im, 0, (.lit (.bool true))⟩), (1348, ⟨.im, 0, (.lit (.int .i64 0))⟩)]
theorem F100_l0_1_ok (K : Nat) (v1491 : Int) (v1492 : Int) (v1493 : Int) (v1494 : Int) (v1495 : Int) (v1497 : List GEdge) : ∀ (k : Nat) (v1506 : List GMsg) (v1507 : Int) (r : (Unit) ⊕ (List GMsg)), F100_l0_1 K v1491 v1492 v1493 v1494 v1495 v1497 k v1506 v1507 = some r → (Sum.elim (fun w => LoopEv E H hn100 0 c100_0 (F100_l0_1_S v1491 v1492 v1493 v1494 v1495 v1497 v1506 v1507) .ret (F100_l0_1_X0 v1491 v1492 v1493 v1494 v1495 v1497 w)) (fun w => LoopEv E H hn100 0 c100_0 (F100_l0_1_S v1491 v1492 v1493 v1494 v1495 v1497 v1506 v1507) (.exit 0) (F100_l0_1_X1 v1491 v1492 v1493 v1494 v1495 v1497 w))) r := by
  intro k
  induction k with
  | zero => intro v1506 v1507 r hF; cases hF
  | succ k ih =>
    intro v1506 v1507 r hF
    rw [F100_l0_1] at hF
    refine cond_some hF (fun h1508 hF => ?_) (fun h1508 hF => ?_)
    ·
      refine cond_some hF (fun h1509 hF => ?_) (fun _ hF => nomatch hF)
      refine bind_some hF (fun x1510 h1511 hF => ?_)
      refine bind_some hF (fun r1512 h1513 hF => ?_)
      have pq1519 : ∀ {l : List Cond}, HoldAll E H hn100 l → HoldAll E H hn100 (.int (nlen (len v1497)) (nlen (len v1497)) :: .test (beqb (ilt v1507 (nlen (len v1497))) true) true :: .test (ilt v1507 (nlen (len v1497))) true :: .test true true :: .test (inr v1507 (len v1497)) true :: .sub (flat eGEdge v1497) (nidx v1507 3) 3 [(.lit (.int .i64 x1510.From)), (.lit (.int .i64 x1510.To)), (.lit (.int .i64 x1510.W))] :: .int (nlen (len v1497)) (nlen (len v1497)) :: .call 148 [.one (.lit (.int .i64 v1492)), .one (.lit (.int .i64 v1491)), .agg (eGEdge x1510), .one (.lit (.int .i64 (nlen (len v1497))))] (F148_res r1512) :: .test (leadsAny (Res.mk [(.one (.im (.lit (.int .i64 r1512.1)))), (.one (.im (.lit (.bool r1512.2))))] [])) false :: l) := fun z => ⟨rfl, (beqb_t h1508), h1508, rfl, h1509, ⟨rfl, sub_flat0 eGEdge_len h1511 3 (by decide)⟩, rfl, (F148_ok K v1492 v1491 x1510 (nlen (len v1497)) _ h1513), (leads_ok (by simp only [leadsAny, List.any_cons, List.any_nil, RV.leads, RC.leads, leadsT, hasSl_lit, Bool.or_false, flat_ns (eInt_ns _), flat_ns eBool_ns, flat_ns eStr_ns, flat_ns eGJob_ns, flat_ns eGEdge_ns, flat_ns eGAsked_ns, flat_ns eGMsg_ns, flat_ns eGrule_ns, flat_ns eGA199_ns, flat_ns eGA202_ns])), z⟩
      refine cond_some hF (fun h1514 hF => ?_) (fun h1514 hF => ?_)
      ·
        refine cond_some hF (fun h1515 hF => ?_) (fun _ hF => nomatch hF)
        have pz : HoldAll E H hn100 [.test (bnot r1512.2) false, .test (inr v1507 (len v1497)) true, .sub (flat eGEdge v1497) (nadd (nidx v1507 3) 1) 1 [(.lit (.int .i64 x1510.To))], .test (leqm [(.lit (.int .i64 x1510.To)), (.lit (.int .i64 r1512.1))] 1 2) true, .test (apok (len v1506) 1 16) true, .sl (nadd (len v1506) 1) (lapp (flat eGMsg v1506) [(.lit (.int .i64 x1510.To)), (.lit (.int .i64 r1512.1))]) (len (α := GMsg) (appL v1506 [(GMsg.mk x1510.To r1512.1)])) (flat eGMsg (appL v1506 [(GMsg.mk x1510.To r1512.1)])), .int (wadd .i64 v1507 1) (wadd .i64 v1507 1)] := ⟨(bnot_t h1514), h1509, ⟨rfl, sub_flat eGEdge_len h1511 1 1 (by decide)⟩, rfl, h1515, (app_ok (enc := eGMsg) (v1506 : List GMsg) [(GMsg.mk x1510.To r1512.1)]), rfl, trivial⟩
        have h0 := ih _ _ _ hF
        have hn := fun ex ts' => loop_nextC (h := hn100) (l := 0) (c := c100_0) (ts := F100_l0_1_S v1491 v1492 v1493 v1494 v1495 v1497 v1506 v1507) (ts1 := (F100_l0_1_S v1491 v1492 v1493 v1494 v1495 v1497 (appL v1506 [(GMsg.mk x1510.To r1512.1)]) (wadd .i64 v1507 1))) (ex := ex) (ts' := ts') (pq1519 pz) (by kernel_rfl)
        cases r with
        | inl w => exact hn _ _ h0
        | inr w => exact hn _ _ h0
      have hr := Option.some.inj hF
      subst hr
      have pz : HoldAll E H hn100 [.test (bnot r1512.2) true] := ⟨(bnot_f h1514), trivial⟩
      exact loop_endC (h := hn100) (l := 0) (c := c100_0) (ts := F100_l0_1_S v1491 v1492 v1493 v1494 v1495 v1497 v1506 v1507) (ts' := F100_l0_1_X0 v1491 v1492 v1493 v1494 v1495 v1497 ()) (ex := .ret) (pq1519 pz) (by kernel_rfl) trivial
    have hr := Option.some.inj hF
    subst hr
    have pz : HoldAll E H hn100 [.int (nlen (len v1497)) (nlen (len v1497)), .test (beqb (ilt v1507 (nlen (len v1497))) true) false, .test (ilt v1507 (nlen (len v1497))) false, .test false false] := ⟨rfl, (beqb_t h1508), h1508, rfl, trivial⟩
    exact loop_endC (h := hn100) (l := 0) (c := c100_0) (ts := F100_l0_1_S v1491 v1492 v1493 v1494 v1495 v1497 v1506 v1507) (ts' := F100_l0_1_X1 v1491 v1492 v1493 v1494 v1495 v1497 v1506) (ex := (.exit 0)) pz (by kernel_rfl) trivial

def F100_l0_2 (K : Nat) (v1527 : Int) (v1528 : Int) (v1529 : Int) (v1530 : Int) (v1531 : Int) (v1532 : Bool) (v1534 : List GEdge) : Nat → List GMsg → Int → Option ((Unit) ⊕ (List GMsg))
  | 0, _, _ => none
  | k + 1, v1544, v1545 =>
    bif (ilt v1545 (nlen (len v1534))) then
      (bif v1532 then
        (bif (inr v1545 (len v1534)) then
        (elAt v1534 v1545).bind fun x1549 =>
        (F148 K v1528 v1527 x1549 (nlen (len v1534))).bind fun r1551 =>
        bif r1551.2 then
          (bif (apok (len v1544) 1 16) then
          F100_l0_2 K v1527 v1528 v1529 v1530 v1531 v1532 v1534 k (appL v1544 [(GMsg.mk x1549.To r1551.1)]) (wadd .i64 v1545 1)
          else none)
        else
        some (.inl ())
        else none)
      else
      some (.inr v1544))
    else
    some (.inr v1544)
def F100_l0_2_S (v1527 : Int) (v1528 : Int) (v1529 : Int) (v1530 : Int) (v1531 : Int) (v1532 : Bool) (v1534 : List GEdge) (v1544 : List GMsg) (v1545 : Int) : TS := .on [256, 257, 512, 513, 514, 515, 516, 896, 897, 898, 899, 900, 1088, 1089, 1344, 1345, 1346, 1347, 1348, 1408, 1409, 1472, 1473] [(256, ⟨.one, 0, nob⟩), (257, ⟨.im, 0, (.lit (.int .i64 v1527))⟩), (512, ⟨(.box 64 4), 0, nob⟩), (513, ⟨.im, 0, (.lit (.int .i64 v1528))⟩), (514, ⟨.im, 0, (.lit (.int .i64 v1529))⟩), (515, ⟨.im, 0, (.lit (.int .i64 v1530))⟩), (516, ⟨.im, 0, (.lit (.int .i64 v1531))⟩), (896, ⟨(.box 126 4), 0, nob⟩), (897, ⟨.im, 0, (.lit (.int .i64 0))⟩), (898, ⟨(.own 130), 0, (.sl 0 [])⟩), (899, ⟨.im, 0, (.lit (.bool false))⟩), (900, ⟨.im, 0, (.lit (.int .i64 0))⟩), (1088, ⟨.one, 0, nob⟩), (1089, ⟨.im, 0, (.lit (.bool v1532))⟩), (1344, ⟨(.box 126 4), 0, nob⟩), (1345, ⟨.im, 0, (.lit (.int .i64 v1527))⟩), (1346, ⟨(.own 130), 0, (.sl (len v1544) (flat eGMsg v1544))⟩), (1347, ⟨.im, 0, (.lit (.bool true))⟩), (1348, ⟨.im, 0, (.lit (.int .i64 0))⟩), (1408, ⟨.one, 0, nob⟩), (1409, ⟨(.own 89), 0, (.sl (len v1534) (flat eGEdge v1534))⟩), (1472, ⟨.one, 0, nob⟩), (1473, ⟨.im, 0, (.lit (.int .i64 v1545))⟩)]
def F100_l0_2_X0 (v1527 : Int) (v1528 : Int) (v1529 : Int) (v1530 : Int) (v1531 : Int) (v1532 : Bool) (v1534 : List GEdge) (w1555 : Unit) : TS := .on [896, 897, 898, 899, 900] [(896, ⟨(.box 126 4), 0, nob⟩), (897, ⟨.im, 0, (.lit (.int .i64 0))⟩), (898, ⟨(.own 130), 0, (.sl 0 [])⟩), (899, ⟨.im, 0, (.lit (.bool false))⟩), (900, ⟨.im, 0, (.lit (.int .i64 8))⟩)]
def F100_l0_2_X1 (v1527 : Int) (v1528 : Int) (v1529 : Int) (v1530 : Int) (v1531 : Int) (v1532 : Bool) (v1534 : List GEdge) (w1556 : List GMsg) : TS := .on [896, 897, 898, 899, 900, 1344, 1345, 1346, 1347, 1348] [(896, ⟨(.box 126 4), 0, nob⟩), (897, ⟨.im, 0, (.lit (.int .i64 0))⟩), (898, ⟨(.own 130), 0, (.sl 0 [])⟩), (899, ⟨.im, 0, (.lit (.bool false))⟩), (900, ⟨.im, 0, (.lit (.int .i64 0))⟩), (1344, ⟨(.box 126 4), 0, nob⟩), (1345, ⟨.im, 0, (.lit (.int .i64 v1527))⟩), (1346, ⟨(.own 130), 0, (.sl (len w1556) (flat eGMsg w1556))⟩), (1347, ⟨.im, 0, (.lit (.bool true))⟩), (1348, ⟨.im, 0, (.lit (.int .i64 0))⟩)]
theorem F100_l0_2_ok (K : Nat) (v1527 : Int) (v1528 : Int) (v1529 : Int) (v1530 : Int) (v1531 : Int) (v1532 : Bool) (v1534 : List GEdge) : ∀ (k : Nat) (v1544 : List GMsg) (v1545 : Int) (r : (Unit) ⊕ (List GMsg)), F100_l0_2 K v1527 v1528 v1529 v1530 v1531 v1532 v1534 k v1544 v1545 = some r → (Sum.elim (fun w => LoopEv E H hn100 0 c100_0 (F100_l0_2_S v1527 v1528 v1529 v1530 v1531 v1532 v1534 v1544 v1545) .ret (F100_l0_2_X0 v1527 v1528 v1529 v1530 v1531 v1532 v1534 w)) (fun w => LoopEv E H hn100 0 c100_0 (F100_l0_2_S v1527 v1528 v1529 v1530 v1531 v1532 v1534 v1544 v1545) (.exit 0) (F100_l0_2_X1 v1527 v1528 v1529 v1530 v1531 v1532 v1534 w))) r := by
  intro k
  induction k with
  | zero => intro v1544 v1545 r hF; cases hF
  | succ k ih =>
    intro v1544 v1545 r hF
    rw [F100_l0_2] at hF
    refine cond_some hF (fun h1546 hF => ?_) (fun h1546 hF => ?_)
    ·
      have pq1558 : ∀ {l : List Cond}, HoldAll E H hn100 l → HoldAll E H hn100 (.int (nlen (len v1534)) (nlen (len v1534)) :: .test (beqb (ilt v1545 (nlen (len v1534))) true) true :: .test (ilt v1545 (nlen (len v1534))) true :: l) := fun z => ⟨rfl, (beqb_t h1546), h1546, z⟩
      refine cond_some hF (fun h1547 hF => ?_) (fun h1547 hF => ?_)
      ·
        refine cond_some hF (fun h1548 hF => ?_) (fun _ hF => nomatch hF)
        refine bind_some hF (fun x1549 h1550 hF => ?_)
        refine bind_some hF (fun r1551 h1552 hF => ?_)
        have pq1559 : ∀ {l : List Cond}, HoldAll E H hn100 l → HoldAll E H hn100 (.test v1532 true :: .test (inr v1545 (len v1534)) true :: .sub (flat eGEdge v1534) (nidx v1545 3) 3 [(.lit (.int .i64 x1549.From)), (.lit (.int .i64 x1549.To)), (.lit (.int .i64 x1549.W))] :: .int (nlen (len v1534)) (nlen (len v1534)) :: .call 148 [.one (.lit (.int .i64 v1528)), .one (.lit (.int .i64 v1527)), .agg (eGEdge x1549), .one (.lit (.int .i64 (nlen (len v1534))))] (F148_res r1551) :: .test (leadsAny (Res.mk [(.one (.im (.lit (.int .i64 r1551.1)))), (.one (.im (.lit (.bool r1551.2))))] [])) false :: l) := fun z => ⟨h1547, h1548, ⟨rfl, sub_flat0 eGEdge_len h1550 3 (by decide)⟩, rfl, (F148_ok K v1528 v1527 x1549 (nlen (len v1534)) _ h1552), (leads_ok (by simp only [leadsAny, List.any_cons, List.any_nil, RV.leads, RC.leads, leadsT, hasSl_lit, Bool.or_false, flat_ns (eInt_ns _), flat_ns eBool_ns, flat_ns eStr_ns, flat_ns eGJob_ns, flat_ns eGEdge_ns, flat_ns eGAsked_ns, flat_ns eGMsg_ns, flat_ns eGrule_ns, flat_ns eGA199_ns, flat_ns eGA202_ns])), z⟩
        refine cond_some hF (fun h1553 hF => ?_) (fun h1553 hF => ?_)
        ·
          refine cond_some hF (fun h1554 hF => ?_) (fun _ hF => nomatch hF)
          have pz : HoldAll E H hn100 [.test (bnot r1551.2) false, .test (inr v1545 (len v1534)) true, .sub (flat eGEdge v1534) (nadd (nidx v1545 3) 1) 1 [(.lit (.int .i64 x1549.To))], .test (leqm [(.lit (.int .i64 x1549.To)), (.lit (.int .i64 r1551.1))] 1 2) true, .test (apok (len v1544) 1 16) true, .sl (nadd (len v1544) 1) (lapp (flat eGMsg v1544) [(.lit (.int .i64 x1549.To)), (.lit (.int .i64 r1551.1))]) (len (α := GMsg) (appL v1544 [(GMsg.mk x1549.To r1551.1)])) (flat eGMsg (appL v1544 [(GMsg.mk x1549.To r1551.1)])), .int (wadd .i64 v1545 1) (wadd .i64 v1545 1)] := ⟨(bnot_t h1553), h1548, ⟨rfl, sub_flat eGEdge_len h1550 1 1 (by decide)⟩, rfl, h1554, (app_ok (enc := eGMsg) (v1544 : List GMsg) [(GMsg.mk x1549.To r1551.1)]), rfl, trivial⟩
          have h0 := ih _ _ _ hF
          have hn := fun ex ts' => loop_nextC (h := hn100) (l := 0) (c := c100_0) (ts := F100_l0_2_S v1527 v1528 v1529 v1530 v1531 v1532 v1534 v1544 v1545) (ts1 := (F100_l0_2_S v1527 v1528 v1529 v1530 v1531 v1532 v1534 (appL v1544 [(GMsg.mk x1549.To r1551.1)]) (wadd .i64 v1545 1))) (ex := ex) (ts' := ts') (pq1558 (pq1559 pz)) (by kernel_rfl)
          cases r with
          | inl w => exact hn _ _ h0
          | inr w => exact hn _ _ h0
        have hr := Option.some.inj hF
        subst hr
        have pz : HoldAll E H hn100 [.test (bnot r1551.2) true] := ⟨(bnot_f h1553), trivial⟩
        exact loop_endC (h := hn100) (l := 0) (c := c100_0) (ts := F100_l0_2_S v1527 v1528 v1529 v1530 v1531 v1532 v1534 v1544 v1545) (ts' := F100_l0_2_X0 v1527 v1528 v1529 v1530 v1531 v1532 v1534 ()) (ex := .ret) (pq1558 (pq1559 pz)) (by kernel_rfl) trivial
      have hr := Option.some.inj hF
      subst hr
      have pz : HoldAll E H hn100 [.test v1532 false] := ⟨h1547, trivial⟩
      exact loop_endC (h := hn100) (l := 0) (c := c100_0) (ts := F100_l0_2_S v1527 v1528 v1529 v1530 v1531 v1532 v1534 v1544 v1545) (ts' := F100_l0_2_X1 v1527 v1528 v1529 v1530 v1531 v1532 v1534 v1544) (ex := (.exit 0)) (pq1558 pz) (by kernel_rfl) trivial
    have hr := Option.some.inj hF
    subst hr
    have pz : HoldAll E H hn100 [.int (nlen (len v1534)) (nlen (len v1534)), .test (beqb (ilt v1545 (nlen (len v1534))) true) false, .test (ilt v1545 (nlen (len v1534))) false, .test false false] := ⟨rfl, (beqb_t h1546), h1546, rfl, trivial⟩
    exact loop_endC (h := hn100) (l := 0) (c := c100_0) (ts := F100_l0_2_S v1527 v1528 v1529 v1530 v1531 v1532 v1534 v1544 v1545) (ts' := F100_l0_2_X1 v1527 v1528 v1529 v1530 v1531 v1532 v1534 v1544) (ex := (.exit 0)) pz (by kernel_rfl) trivial

def F100_l0_3 (K : Nat) (v1582 : Int) (v1583 : Int) (v1584 : Int) (v1585 : Int) (v1586 : Int) (v1589 : List GEdge) : Nat → List GMsg → Int → Option (((List GMsg)) ⊕ (Unit))
  | 0, _, _ => none
  | k + 1, v1599, v1600 =>
    bif (ilt v1600 (nlen (len v1589))) then
      (bif (ieq v1582 v1582) then
        (some (.inl v1599))
      else
      bif (inr v1600 (len v1589)) then
      (elAt v1589 v1600).bind fun x1604 =>
      (F148 K v1583 v1582 x1604 (nlen (len v1589))).bind fun r1606 =>
      bif r1606.2 then
        (bif (apok (len v1599) 1 16) then
        F100_l0_3 K v1582 v1583 v1584 v1585 v1586 v1589 k (appL v1599 [(GMsg.mk x1604.To r1606.1)]) (wadd .i64 v1600 1)
        else none)
      else
      some (.inr ())
      else none)
    else
    some (.inl v1599)
def F100_l0_3_S (v1582 : Int) (v1583 : Int) (v1584 : Int) (v1585 : Int) (v1586 : Int) (v1589 : List GEdge) (v1599 : List GMsg) (v1600 : Int) : TS := .on [256, 257, 512, 513, 514, 515, 516, 896, 897, 898, 899, 900, 1088, 1089, 1344, 1345, 1346, 1347, 1348, 1408, 1409, 1472, 1473] [(256, ⟨.one, 0, nob⟩), (257, ⟨.im, 0, (.lit (.int .i64 v1582))⟩), (512, ⟨(.box 64 4), 0, nob⟩), (513, ⟨.im, 0, (.lit (.int .i64 v1583))⟩), (514, ⟨.im, 0, (.lit (.int .i64 v1584))⟩), (515, ⟨.im, 0, (.lit (.int .i64 v1585))⟩), (516, ⟨.im, 0, (.lit (.int .i64 v1586))⟩), (896, ⟨(.box 126 4), 0, nob⟩), (897, ⟨.im, 0, (.lit (.int .i64 0))⟩), (898, ⟨(.own 130), 0, (.sl 0 [])⟩), (899, ⟨.im, 0, (.lit (.bool false))⟩), (900, ⟨.im, 0, (.lit (.int .i64 0))⟩), (1088, ⟨.one, 0, nob⟩), (1089, ⟨.im, 0, (.lit (.bool (ine v1582 v1582)))⟩), (1344, ⟨(.box 126 4), 0, nob⟩), (1345, ⟨.im, 0, (.lit (.int .i64 v1582))⟩), (1346, ⟨(.own 130), 0, (.sl (len v1599) (flat eGMsg v1599))⟩), (1347, ⟨.im, 0, (.lit (.bool true))⟩), (1348, ⟨.im, 0, (.lit (.int .i64 0))⟩), (1408, ⟨.one, 0, nob⟩), (1409, ⟨(.own 89), 0, (.sl (len v1589) (flat eGEdge v1589))⟩), (1472, ⟨.one, 0, nob⟩), (1473, ⟨.im, 0, (.lit (.int .i64 v1600))⟩)]
def F100_l0_3_X0 (v1582 : Int) (v1583 : Int) (v1584 : Int) (v1585 : Int) (v1586 : Int) (v1589 : List GEdge) (w1610 : List GMsg) : TS := .on [896, 897, 898, 899, 900, 1344, 1345, 1346, 1347, 1348] [(896, ⟨(.box 126 4), 0, nob⟩), (897, ⟨.im, 0, (.lit (.int .i64 0))⟩), (898, ⟨(.own 130), 0, (.sl 0 [])⟩), (899, ⟨.im, 0, (.lit (.bool false))⟩), (900, ⟨.im, 0, (.lit (.int .i64 0))⟩), (1344, ⟨(.box 126 4), 0, nob⟩), (1345, ⟨.im, 0, (.lit (.int .i64 v1582))⟩), (1346, ⟨(.own 130), 0, (.sl (len w1610) (flat eGMsg w1610))⟩), (1347, ⟨.im, 0, (.lit (.bool true))⟩), (1348, ⟨.im, 0, (.lit (.int .i64 0))⟩)]
def F100_l0_3_X1 (v1582 : Int) (v1583 : Int) (v1584 : Int) (v1585 : Int) (v1586 : Int) (v1589 : List GEdge) (w1612 : Unit) : TS := .on [896, 897, 898, 899, 900] [(896, ⟨(.box 126 4), 0, nob⟩), (897, ⟨.im, 0, (.lit (.int .i64 0))⟩), (898, ⟨(.own 130), 0, (.sl 0 [])⟩), (899, ⟨.im, 0, (.lit (.bool false))⟩), (900, ⟨.im, 0, (.lit (.int .i64 8))⟩)]
theorem F100_l0_3_ok (K : Nat) (v1582 : Int) (v1583 : Int) (v1584 : Int) (v1585 : Int) (v1586 : Int) (v1589 : List GEdge) : ∀ (k : Nat) (v1599 : List GMsg) (v1600 : Int) (r : ((List GMsg)) ⊕ (Unit)), F100_l0_3 K v1582 v1583 v1584 v1585 v1586 v1589 k v1599 v1600 = some r → (Sum.elim (fun w => LoopEv E H hn100 0 c100_0 (F100_l0_3_S v1582 v1583 v1584 v1585 v1586 v1589 v1599 v1600) (.exit 0) (F100_l0_3_X0 v1582 v1583 v1584 v1585 v1586 v1589 w)) (fun w => LoopEv E H hn100 0 c100_0 (F100_l0_3_S v1582 v1583 v1584 v1585 v1586 v1589 v1599 v1600) .ret (F100_l0_3_X1 v1582 v1583 v1584 v1585 v1586 v1589 w))) r := by
  intro k
  induction k with
  | zero => intro v1599 v1600 r hF; cases hF
  | succ k ih =>
    intro v1599 v1600 r hF
    rw [F100_l0_3] at hF
    refine cond_some hF (fun h1601 hF => ?_) (fun h1601 hF => ?_)
    ·
      have pq1613 : ∀ {l : List Cond}, HoldAll E H hn100 l → HoldAll E H hn100 (.int (nlen (len v1589)) (nlen (len v1589)) :: .test (beqb (ilt v1600 (nlen (len v1589))) true) true :: .test (ilt v1600 (nlen (len v1589))) true :: l) := fun z => ⟨rfl, (beqb_t h1601), h1601, z⟩
      refine cond_some hF (fun h1602 hF => ?_) (fun h1602 hF => ?_)
      ·
        have hr := Option.some.inj hF
        subst hr
        have pz : HoldAll E H hn100 [.test (ine v1582 v1582) false] := ⟨(ine_t h1602), trivial⟩
        exact loop_endC (h := hn100) (l := 0) (c := c100_0) (ts := F100_l0_3_S v1582 v1583 v1584 v1585 v1586 v1589 v1599 v1600) (ts' := F100_l0_3_X0 v1582 v1583 v1584 v1585 v1586 v1589 v1599) (ex := (.exit 0)) (pq1613 pz) (by kernel_rfl) trivial
      refine cond_some hF (fun h1603 hF => ?_) (fun _ hF => nomatch hF)
      refine bind_some hF (fun x1604 h1605 hF => ?_)
      refine bind_some hF (fun r1606 h1607 hF => ?_)
      have pq1614 : ∀ {l : List Cond}, HoldAll E H hn100 l → HoldAll E H hn100 (.test (ine v1582 v1582) true :: .test (inr v1600 (len v1589)) true :: .sub (flat eGEdge v1589) (nidx v1600 3) 3 [(.lit (.int .i64 x1604.From)), (.lit (.int .i64 x1604.To)), (.lit (.int .i64 x1604.W))] :: .int (nlen (len v1589)) (nlen (len v1589)) :: .call 148 [.one (.lit (.int .i64 v1583)), .one (.lit (.int .i64 v1582)), .agg (eGEdge x1604), .one (.lit (.int .i64 (nlen (len v1589))))] (F148_res r1606) :: .test (leadsAny (Res.mk [(.one (.im (.lit (.int .i64 r1606.1)))), (.one (.im (.lit (.bool r1606.2))))] [])) false :: l) := fun z => ⟨(ine_f h1602), h1603, ⟨rfl, sub_flat0 eGEdge_len h1605 3 (by decide)⟩, rfl, (F148_ok K v1583 v1582 x1604 (nlen (len v1589)) _ h1607), (leads_ok (by simp only [leadsAny, List.any_cons, List.any_nil, RV.leads, RC.leads, leadsT, hasSl_lit, Bool.or_false, flat_ns (eInt_ns _), flat_ns eBool_ns, flat_ns eStr_ns, flat_ns eGJob_ns, flat_ns eGEdge_ns, flat_ns eGAsked_ns, flat_ns eGMsg_ns, flat_ns eGrule_ns, flat_ns eGA199_ns, flat_ns eGA202_ns])), z⟩
      refine cond_some hF (fun h1608 hF => ?_) (fun h1608 hF => ?_)
      ·
        refine cond_some hF (fun h1609 hF => ?_) (fun _ hF => nomatch hF)
        have pz : HoldAll E H hn100 [.test (bnot r1606.2) false, .test (inr v1600 (len v1589)) true, .sub (flat eGEdge v1589) (nadd (nidx v1600 3) 1) 1 [(.lit (.int .i64 x1604.To))], .test (leqm [(.lit (.int .i64 x1604.To)), (.lit (.int .i64 r1606.1))] 1 2) true, .test (apok (len v1599) 1 16) true, .sl (nadd (len v1599) 1) (lapp (flat eGMsg v1599) [(.lit (.int .i64 x1604.To)), (.lit (.int .i64 r1606.1))]) (len (α := GMsg) (appL v1599 [(GMsg.mk x1604.To r1606.1)])) (flat eGMsg (appL v1599 [(GMsg.mk x1604.To r1606.1)])), .int (wadd .i64 v1600 1) (wadd .i64 v1600 1)] := ⟨(bnot_t h1608), h1603, ⟨rfl, sub_flat eGEdge_len h1605 1 1 (by decide)⟩, rfl, h1609, (app_ok (enc := eGMsg) (v1599 : List GMsg) [(GMsg.mk x1604.To r1606.1)]), rfl, trivial⟩
        have h0 := ih _ _ _ hF
        have hn := fun ex ts' => loop_nextC (h := hn100) (l := 0) (c := c100_0) (ts := F100_l0_3_S v1582 v1583 v1584 v1585 v1586 v1589 v1599 v1600) (ts1 := (F100_l0_3_S v1582 v1583 v1584 v1585 v1586 v1589 (appL v1599 [(GMsg.mk x1604.To r1606.1)]) (wadd .i64 v1600 1))) (ex := ex) (ts' := ts') (pq1613 (pq1614 pz)) (by kernel_rfl)
        cases r with
        | inl w => exact hn _ _ h0
        | inr w => exact hn _ _ h0
      have hr := Option.some.inj hF
      subst hr
      have pz : HoldAll E H hn100 [.test (bnot r1606.2) true] := ⟨(bnot_f h1608), trivial⟩
      exact loop_endC (h := hn100) (l := 0) (c := c100_0) (ts := F100_l0_3_S v1582 v1583 v1584 v1585 v1586 v1589 v1599 v1600) (ts' := F100_l0_3_X1 v1582 v1583 v1584 v1585 v1586 v1589 ()) (ex := .ret) (pq1613 (pq1614 pz)) (by kernel_rfl) trivial
    have hr := Option.some.inj hF
    subst hr
    have pz : HoldAll E H hn100 [.int (nlen (len v1589)) (nlen (len v1589)), .test (beqb (ilt v1600 (nlen (len v1589))) true) false, .test (ilt v1600 (nlen (len v1589))) false, .test false false] := ⟨rfl, (beqb_t h1601), h1601, rfl, trivial⟩
    exact loop_endC (h := hn100) (l := 0) (c := c100_0) (ts := F100_l0_3_S v1582 v1583 v1584 v1585 v1586 v1589 v1599 v1600) (ts' := F100_l0_3_X0 v1582 v1583 v1584 v1585 v1586 v1589 v1599) (ex := (.exit 0)) pz (by kernel_rfl) trivial

def F100 (K : Nat) (a1262 : GGraph) (a1263 : GJob) (a1264 : Int) (a1265 : Int) (a1266 : Int) (a1267 : Int) (a1268 : Bool) : Option (GTurned) :=
  (F59 K a1262 a1263).bind fun r1269 =>
  bif (ieq r1269 0) then
    (bif (ilt a1265 0) then
      (some (GTurned.mk 0 [] false 4))
    else
    bif (ile a1262.N a1265) then
      (some (GTurned.mk 0 [] false 4))
    else
    bif (ilt a1264 0) then
      (some (GTurned.mk 0 [] false 1))
    else
    bif (ilt 40 a1264) then
      (some (GTurned.mk 0 [] false 1))
    else
    bif (ieq a1263.Prog 5) then
      (bif a1268 then
        (bif (ilt 0 a1264) then
          ((F147 K a1267).bind fun r1329 =>
          bif r1329.2 then
            ((F69 K a1262 a1265).bind fun r1359 =>
            (F100_l0_0 K r1329.1 a1263.Prog a1263.Source a1263.Limit a1263.Parts (ilt a1264 10) r1359 K [] 0).bind fun y1410 =>
            Sum.elim (fun w1411 =>
              some (GTurned.mk 0 [] false 8))
              (fun w1412 =>
              some (GTurned.mk r1329.1 w1412 (bnot (ilt a1264 10)) 0)) y1410)
          else
          some (GTurned.mk 0 [] false 8))
        else
        (F69 K a1262 a1265).bind fun r1414 =>
        (F100_l0_0 K a1266 a1263.Prog a1263.Source a1263.Limit a1263.Parts (ilt a1264 10) r1414 K [] 0).bind fun y1426 =>
        Sum.elim (fun w1427 =>
          some (GTurned.mk 0 [] false 8))
          (fun w1428 =>
          some (GTurned.mk a1266 w1428 (bnot (ilt a1264 10)) 0)) y1426)
      else
      bif (ilt 0 a1264) then
        ((F147 K 0).bind fun r1431 =>
        bif r1431.2 then
          ((F69 K a1262 a1265).bind fun r1434 =>
          (F100_l0_0 K r1431.1 a1263.Prog a1263.Source a1263.Limit a1263.Parts (ilt a1264 10) r1434 K [] 0).bind fun y1446 =>
          Sum.elim (fun w1447 =>
            some (GTurned.mk 0 [] false 8))
            (fun w1448 =>
            some (GTurned.mk r1431.1 w1448 (bnot (ilt a1264 10)) 0)) y1446)
        else
        some (GTurned.mk 0 [] false 8))
      else
      (F69 K a1262 a1265).bind fun r1450 =>
      (F100_l0_0 K a1266 a1263.Prog a1263.Source a1263.Limit a1263.Parts (ilt a1264 10) r1450 K [] 0).bind fun y1462 =>
      Sum.elim (fun w1463 =>
        some (GTurned.mk 0 [] false 8))
        (fun w1464 =>
        some (GTurned.mk a1266 w1464 (bnot (ilt a1264 10)) 0)) y1462)
    else
    bif (ieq a1263.Prog 1) then
      (bif (ieq a1265 a1263.Source) then
        (bif a1268 then
          ((F98 K a1263.Prog a1266 a1267).bind fun r1486 =>
          bif (ieq a1264 0) then
            ((F69 K a1262 a1265).bind fun r1489 =>
            (F100_l0_1 K r1486.1 a1263.Prog a1263.Source a1263.Limit a1263.Parts r1489 K [] 0).bind fun y1521 =>
            Sum.elim (fun w1522 =>
              some (GTurned.mk 0 [] false 8))
              (fun w1523 =>
              some (GTurned.mk r1486.1 w1523 true 0)) y1521)
          else
          (F69 K a1262 a1265).bind fun r1525 =>
          (F100_l0_2 K r1486.1 a1263.Prog a1263.Source a1263.Limit a1263.Parts (ine r1486.1 a1266) r1525 K [] 0).bind fun y1561 =>
          Sum.elim (fun w1562 =>
            some (GTurned.mk 0 [] false 8))
            (fun w1563 =>
            some (GTurned.mk r1486.1 w1563 true 0)) y1561)
        else
        bif (ieq a1264 0) then
          ((F69 K a1262 a1265).bind fun r1566 =>
          (F100_l0_1 K a1266 a1263.Prog a1263.Source a1263.Limit a1263.Parts r1566 K [] 0).bind fun y1576 =>
          Sum.elim (fun w1577 =>
            some (GTurned.mk 0 [] false 8))
            (fun w1578 =>
            some (GTurned.mk a1266 w1578 true 0)) y1576)
        else
        (F69 K a1262 a1265).bind fun r1580 =>
        (F100_l0_3 K a1266 a1263.Prog a1263.Source a1263.Limit a1263.Parts r1580 K [] 0).bind fun y1616 =>
        Sum.elim (fun w1617 =>
          some (GTurned.mk a1266 w1617 true 0))
          (fun w1619 =>
          some (GTurned.mk 0 [] false 8)) y1616)
      else
      bif a1268 then
        ((F98 K a1263.Prog a1266 a1267).bind fun r1621 =>
        (F69 K a1262 a1265).bind fun r1623 =>
        (F100_l0_2 K r1621.1 a1263.Prog a1263.Source a1263.Limit a1263.Parts (ine r1621.1 a1266) r1623 K [] 0).bind fun y1634 =>
        Sum.elim (fun w1635 =>
          some (GTurned.mk 0 [] false 8))
          (fun w1636 =>
          some (GTurned.mk r1621.1 w1636 true 0)) y1634)
      else
      (F69 K a1262 a1265).bind fun r1638 =>
      (F100_l0_3 K a1266 a1263.Prog a1263.Source a1263.Limit a1263.Parts r1638 K [] 0).bind fun y1649 =>
      Sum.elim (fun w1650 =>
        some (GTurned.mk a1266 w1650 true 0))
        (fun w1652 =>
        some (GTurned.mk 0 [] false 8)) y1649)
    else
    bif (ieq a1263.Prog 3) then
      (bif (ieq a1265 a1263.Source) then
        (bif a1268 then
          ((F98 K a1263.Prog a1266 a1267).bind fun r1656 =>
          bif (ieq a1264 0) then
            ((F69 K a1262 a1265).bind fun r1659 =>
            (F100_l0_1 K r1656.1 a1263.Prog a1263.Source a1263.Limit a1263.Parts r1659 K [] 0).bind fun y1669 =>
            Sum.elim (fun w1670 =>
              some (GTurned.mk 0 [] false 8))
              (fun w1671 =>
              some (GTurned.mk r1656.1 w1671 true 0)) y1669)
          else
          (F69 K a1262 a1265).bind fun r1673 =>
          (F100_l0_2 K r1656.1 a1263.Prog a1263.Source a1263.Limit a1263.Parts (ine r1656.1 a1266) r1673 K [] 0).bind fun y1684 =>
          Sum.elim (fun w1685 =>
            some (GTurned.mk 0 [] false 8))
            (fun w1686 =>
            some (GTurned.mk r1656.1 w1686 true 0)) y1684)
        else
        bif (ieq a1264 0) then
          ((F69 K a1262 a1265).bind fun r1689 =>
          (F100_l0_1 K a1266 a1263.Prog a1263.Source a1263.Limit a1263.Parts r1689 K [] 0).bind fun y1699 =>
          Sum.elim (fun w1700 =>
            some (GTurned.mk 0 [] false 8))
            (fun w1701 =>
            some (GTurned.mk a1266 w1701 true 0)) y1699)
        else
        (F69 K a1262 a1265).bind fun r1703 =>
        (F100_l0_3 K a1266 a1263.Prog a1263.Source a1263.Limit a1263.Parts r1703 K [] 0).bind fun y1714 =>
        Sum.elim (fun w1715 =>
          some (GTurned.mk a1266 w1715 true 0))
          (fun w1717 =>
          some (GTurned.mk 0 [] false 8)) y1714)
      else
      bif a1268 then
        ((F98 K a1263.Prog a1266 a1267).bind fun r1719 =>
        (F69 K a1262 a1265).bind fun r1721 =>
        (F100_l0_2 K r1719.1 a1263.Prog a1263.Source a1263.Limit a1263.Parts (ine r1719.1 a1266) r1721 K [] 0).bind fun y1732 =>
        Sum.elim (fun w1733 =>
          some (GTurned.mk 0 [] false 8))
          (fun w1734 =>
          some (GTurned.mk r1719.1 w1734 true 0)) y1732)
      else
      (F69 K a1262 a1265).bind fun r1736 =>
      (F100_l0_3 K a1266 a1263.Prog a1263.Source a1263.Limit a1263.Parts r1736 K [] 0).bind fun y1747 =>
      Sum.elim (fun w1748 =>
        some (GTurned.mk a1266 w1748 true 0))
        (fun w1750 =>
        some (GTurned.mk 0 [] false 8)) y1747)
    else
    bif a1268 then
      ((F98 K a1263.Prog a1266 a1267).bind fun r1752 =>
      bif (ieq a1264 0) then
        ((F69 K a1262 a1265).bind fun r1755 =>
        (F100_l0_1 K r1752.1 a1263.Prog a1263.Source a1263.Limit a1263.Parts r1755 K [] 0).bind fun y1765 =>
        Sum.elim (fun w1766 =>
          some (GTurned.mk 0 [] false 8))
          (fun w1767 =>
          some (GTurned.mk r1752.1 w1767 true 0)) y1765)
      else
      (F69 K a1262 a1265).bind fun r1769 =>
      (F100_l0_2 K r1752.1 a1263.Prog a1263.Source a1263.Limit a1263.Parts (ine r1752.1 a1266) r1769 K [] 0).bind fun y1780 =>
      Sum.elim (fun w1781 =>
        some (GTurned.mk 0 [] false 8))
        (fun w1782 =>
        some (GTurned.mk r1752.1 w1782 true 0)) y1780)
    else
    bif (ieq a1264 0) then
      ((F69 K a1262 a1265).bind fun r1785 =>
      (F100_l0_1 K a1266 a1263.Prog a1263.Source a1263.Limit a1263.Parts r1785 K [] 0).bind fun y1795 =>
      Sum.elim (fun w1796 =>
        some (GTurned.mk 0 [] false 8))
        (fun w1797 =>
        some (GTurned.mk a1266 w1797 true 0)) y1795)
    else
    (F69 K a1262 a1265).bind fun r1799 =>
    (F100_l0_3 K a1266 a1263.Prog a1263.Source a1263.Limit a1263.Parts r1799 K [] 0).bind fun y1810 =>
    Sum.elim (fun w1811 =>
      some (GTurned.mk a1266 w1811 true 0))
      (fun w1813 =>
      some (GTurned.mk 0 [] false 8)) y1810)
  else
  some (GTurned.mk 0 [] false r1269)
theorem F100_ok (K : Nat) (a1262 : GGraph) (a1263 : GJob) (a1264 : Int) (a1265 : Int) (a1266 : Int) (a1267 : Int) (a1268 : Bool) (r : GTurned) (hF : F100 K a1262 a1263 a1264 a1265 a1266 a1267 a1268 = some r) : Evt E H 100 [.agg (eGGraph a1262), .agg (eGJob a1263), .one (.lit (.int .i64 a1264)), .one (.lit (.int .i64 a1265)), .one (.lit (.int .i64 a1266)), .one (.lit (.int .i64 a1267)), .one (.lit (.bool a1268))] (F100_res r) := by
  rw [F100] at hF
  refine bind_some hF (fun r1269 h1270 hF => ?_)
  refine cond_some hF (fun h1271 hF => ?_) (fun h1271 hF => ?_)
  ·
    have pq1814 : ∀ {l : List Cond}, HoldAll E H hn100 l → HoldAll E H hn100 (.call 59 [.agg (eGGraph a1262), .agg (eGJob a1263)] (F59_res r1269) :: .test (leadsAny (Res.mk [(.one (.im (.lit (.int .i64 r1269))))] [])) false :: .test (ine r1269 0) false :: l) := fun z => ⟨(F59_ok K a1262 a1263 _ h1270), (leads_ok (by simp only [leadsAny, List.any_cons, List.any_nil, RV.leads, RC.leads, leadsT, hasSl_lit, Bool.or_false, flat_ns (eInt_ns _), flat_ns eBool_ns, flat_ns eStr_ns, flat_ns eGJob_ns, flat_ns eGEdge_ns, flat_ns eGAsked_ns, flat_ns eGMsg_ns, flat_ns eGrule_ns, flat_ns eGA199_ns, flat_ns eGA202_ns])), (ine_t h1271), z⟩
    refine cond_some hF (fun h1272 hF => ?_) (fun h1272 hF => ?_)
    ·
      have hr := Option.some.inj hF
      subst hr
      have pz : HoldAll E H hn100 [.test (beqb (ilt a1265 0) false) false, .test (beqb (ilt a1265 0) false) false, .test (beqb (ilt a1265 0) false) false, .test (beqb (ilt a1265 0) false) false, .test (ilt a1265 0) true, .test true true] := ⟨(beqb_ft h1272), (beqb_ft h1272), (beqb_ft h1272), (beqb_ft h1272), h1272, rfl, trivial⟩
      exact fn_playC hn100 (f := 100) (ads := [.agg (eGGraph a1262), .agg (eGJob a1263), .one (.lit (.int .i64 a1264)), .one (.lit (.int .i64 a1265)), .one (.lit (.int .i64 a1266)), .one (.lit (.int .i64 a1267)), .one (.lit (.bool a1268))]) (r := F100_res (GTurned.mk 0 [] false 4)) (pq1814 pz) (by kernel_rfl) (by kernel_rfl)
    have pq1815 : ∀ {l : List Cond}, HoldAll E H hn100 l → HoldAll E H hn100 (.test (beqb (ilt a1265 0) false) true :: .test (beqb (ilt a1265 0) false) true :: .test (beqb (ilt a1265 0) false) true :: .test (beqb (ilt a1265 0) false) true :: .test (ilt a1265 0) false :: l) := fun z => ⟨(beqb_ff h1272), (beqb_ff h1272), (beqb_ff h1272), (beqb_ff h1272), h1272, z⟩
    refine cond_some hF (fun h1273 hF => ?_) (fun h1273 hF => ?_)
    ·
      have hr := Option.some.inj hF
      subst hr
      have pz : HoldAll E H hn100 [.test (ige a1265 a1262.N) true] := ⟨(ige_eq h1273), trivial⟩
      exact fn_playC hn100 (f := 100) (ads := [.agg (eGGraph a1262), .agg (eGJob a1263), .one (.lit (.int .i64 a1264)), .one (.lit (.int .i64 a1265)), .one (.lit (.int .i64 a1266)), .one (.lit (.int .i64 a1267)), .one (.lit (.bool a1268))]) (r := F100_res (GTurned.mk 0 [] false 4)) (pq1814 (pq1815 pz)) (by kernel_rfl) (by kernel_rfl)
    refine cond_some hF (fun h1274 hF => ?_) (fun h1274 hF => ?_)
    ·
      have hr := Option.some.inj hF
      subst hr
      have pz : HoldAll E H hn100 [.test (ige a1265 a1262.N) false, .test (beqb (ilt a1264 0) false) false, .test (beqb (ilt a1264 0) false) false, .test (ilt a1264 0) true, .test true true] := ⟨(ige_eq h1273), (beqb_ft h1274), (beqb_ft h1274), h1274, rfl, trivial⟩
      exact fn_playC hn100 (f := 100) (ads := [.agg (eGGraph a1262), .agg (eGJob a1263), .one (.lit (.int .i64 a1264)), .one (.lit (.int .i64 a1265)), .one (.lit (.int .i64 a1266)), .one (.lit (.int .i64 a1267)), .one (.lit (.bool a1268))]) (r := F100_res (GTurned.mk 0 [] false 1)) (pq1814 (pq1815 pz)) (by kernel_rfl) (by kernel_rfl)
    have pq1816 : ∀ {l : List Cond}, HoldAll E H hn100 l → HoldAll E H hn100 (.test (ige a1265 a1262.N) false :: .test (beqb (ilt a1264 0) false) true :: .test (beqb (ilt a1264 0) false) true :: .test (ilt a1264 0) false :: l) := fun z => ⟨(ige_eq h1273), (beqb_ff h1274), (beqb_ff h1274), h1274, z⟩
    refine cond_some hF (fun h1275 hF => ?_) (fun h1275 hF => ?_)
    ·
      have hr := Option.some.inj hF
      subst hr
      have pz : HoldAll E H hn100 [.test (igt a1264 40) true] := ⟨(igt_eq h1275), trivial⟩
      exact fn_playC hn100 (f := 100) (ads := [.agg (eGGraph a1262), .agg (eGJob a1263), .one (.lit (.int .i64 a1264)), .one (.lit (.int .i64 a1265)), .one (.lit (.int .i64 a1266)), .one (.lit (.int .i64 a1267)), .one (.lit (.bool a1268))]) (r := F100_res (GTurned.mk 0 [] false 1)) (pq1814 (pq1815 (pq1816 pz))) (by kernel_rfl) (by kernel_rfl)
    refine cond_some hF (fun h1276 hF => ?_) (fun h1276 hF => ?_)
    ·
      refine cond_some hF (fun h1277 hF => ?_) (fun h1277 hF => ?_)
      ·
        have pq1817 : ∀ {l : List Cond}, HoldAll E H hn100 l → HoldAll E H hn100 (.test (igt a1264 40) false :: .test (ieq a1263.Prog 5) true :: .test (bnot a1268) false :: l) := fun z => ⟨(igt_eq h1275), h1276, (bnot_t h1277), z⟩
        refine cond_some hF (fun h1278 hF => ?_) (fun h1278 hF => ?_)
        ·
          refine bind_some hF (fun r1329 h1330 hF => ?_)
          have pq1818 : ∀ {l : List Cond}, HoldAll E H hn100 l → HoldAll E H hn100 (.test (igt a1264 0) true :: .call 147 [.one (.lit (.int .i64 a1267))] (F147_res r1329) :: .test (leadsAny (Res.mk [(.one (.im (.lit (.int .i64 r1329.1)))), (.one (.im (.lit (.bool r1329.2))))] [])) false :: l) := fun z => ⟨(igt_eq h1278), (F147_ok K a1267 _ h1330), (leads_ok (by simp only [leadsAny, List.any_cons, List.any_nil, RV.leads, RC.leads, leadsT, hasSl_lit, Bool.or_false, flat_ns (eInt_ns _), flat_ns eBool_ns, flat_ns eStr_ns, flat_ns eGJob_ns, flat_ns eGEdge_ns, flat_ns eGAsked_ns, flat_ns eGMsg_ns, flat_ns eGrule_ns, flat_ns eGA199_ns, flat_ns eGA202_ns])), z⟩
          refine cond_some hF (fun h1331 hF => ?_) (fun h1331 hF => ?_)
          ·
            refine bind_some hF (fun r1359 h1360 hF => ?_)
            have pq1819 : ∀ {l : List Cond}, HoldAll E H hn100 l → HoldAll E H hn100 (.test (bnot r1329.2) false :: .call 69 [.agg (eGGraph a1262), .one (.lit (.int .i64 a1265))] (F69_res r1359) :: .test (leadsAny (Res.mk [(.one (.own 89 (.sl (len r1359) (flat eGEdge r1359))))] [])) false :: l) := fun z => ⟨(bnot_t h1331), (F69_ok K a1262 a1265 _ h1360), (leads_ok (by simp only [leadsAny, List.any_cons, List.any_nil, RV.leads, RC.leads, leadsT, hasSl_lit, Bool.or_false, flat_ns (eInt_ns _), flat_ns eBool_ns, flat_ns eStr_ns, flat_ns eGJob_ns, flat_ns eGEdge_ns, flat_ns eGAsked_ns, flat_ns eGMsg_ns, flat_ns eGrule_ns, flat_ns eGA199_ns, flat_ns eGA202_ns])), z⟩
            refine bind_some hF (fun y1410 h1409 hF => ?_)
            refine sum_some hF (fun w1411 hx hF => ?_) (fun w1412 hx hF => ?_)
            ·
              subst hx
              have hr := Option.some.inj hF
              subst hr
              have pz : HoldAll E H hn100 [.loop 0 c100_0 (F100_l0_0_S r1329.1 a1263.Prog a1263.Source a1263.Limit a1263.Parts (ilt a1264 10) r1359 [] 0) .ret (F100_l0_0_X0 r1329.1 a1263.Prog a1263.Source a1263.Limit a1263.Parts (ilt a1264 10) r1359 w1411)] := ⟨(F100_l0_0_ok K r1329.1 a1263.Prog a1263.Source a1263.Limit a1263.Parts (ilt a1264 10) r1359 K [] 0 _ h1409), trivial⟩
              exact fn_playC hn100 (f := 100) (ads := [.agg (eGGraph a1262), .agg (eGJob a1263), .one (.lit (.int .i64 a1264)), .one (.lit (.int .i64 a1265)), .one (.lit (.int .i64 a1266)), .one (.lit (.int .i64 a1267)), .one (.lit (.bool a1268))]) (r := F100_res (GTurned.mk 0 [] false 8)) (pq1814 (pq1815 (pq1816 (pq1817 (pq1818 (pq1819 pz)))))) (by kernel_rfl) (by kernel_rfl)
            subst hx
            have hr := Option.some.inj hF
            subst hr
            have pz : HoldAll E H hn100 [.loop 0 c100_0 (F100_l0_0_S r1329.1 a1263.Prog a1263.Source a1263.Limit a1263.Parts (ilt a1264 10) r1359 [] 0) (.exit 0) (F100_l0_0_X1 r1329.1 a1263.Prog a1263.Source a1263.Limit a1263.Parts (ilt a1264 10) r1359 w1412)] := ⟨(F100_l0_0_ok K r1329.1 a1263.Prog a1263.Source a1263.Limit a1263.Parts (ilt a1264 10) r1359 K [] 0 _ h1409), trivial⟩
            exact fn_playC hn100 (f := 100) (ads := [.agg (eGGraph a1262), .agg (eGJob a1263), .one (.lit (.int .i64 a1264)), .one (.lit (.int .i64 a1265)), .one (.lit (.int .i64 a1266)), .one (.lit (.int .i64 a1267)), .one (.lit (.bool a1268))]) (r := F100_res (GTurned.mk r1329.1 w1412 (bnot (ilt a1264 10)) 0)) (pq1814 (pq1815 (pq1816 (pq1817 (pq1818 (pq1819 pz)))))) (by kernel_rfl) (by kernel_rfl)
          have hr := Option.some.inj hF
          subst hr
          have pz : HoldAll E H hn100 [.test (bnot r1329.2) true] := ⟨(bnot_f h1331), trivial⟩
          exact fn_playC hn100 (f := 100) (ads := [.agg (eGGraph a1262), .agg (eGJob a1263), .one (.lit (.int .i64 a1264)), .one (.lit (.int .i64 a1265)), .one (.lit (.int .i64 a1266)), .one (.lit (.int .i64 a1267)), .one (.lit (.bool a1268))]) (r := F100_res (GTurned.mk 0 [] false 8)) (pq1814 (pq1815 (pq1816 (pq1817 (pq1818 pz))))) (by kernel_rfl) (by kernel_rfl)
        refine bind_some hF (fun r1414 h1415 hF => ?_)
        have pq1820 : ∀ {l : List Cond}, HoldAll E H hn100 l → HoldAll E H hn100 (.test (igt a1264 0) false :: .call 69 [.agg (eGGraph a1262), .one (.lit (.int .i64 a1265))] (F69_res r1414) :: .test (leadsAny (Res.mk [(.one (.own 89 (.sl (len r1414) (flat eGEdge r1414))))] [])) false :: l) := fun z => ⟨(igt_eq h1278), (F69_ok K a1262 a1265 _ h1415), (leads_ok (by simp only [leadsAny, List.any_cons, List.any_nil, RV.leads, RC.leads, leadsT, hasSl_lit, Bool.or_false, flat_ns (eInt_ns _), flat_ns eBool_ns, flat_ns eStr_ns, flat_ns eGJob_ns, flat_ns eGEdge_ns, flat_ns eGAsked_ns, flat_ns eGMsg_ns, flat_ns eGrule_ns, flat_ns eGA199_ns, flat_ns eGA202_ns])), z⟩
        refine bind_some hF (fun y1426 h1425 hF => ?_)
        refine sum_some hF (fun w1427 hx hF => ?_) (fun w1428 hx hF => ?_)
        ·
          subst hx
          have hr := Option.some.inj hF
          subst hr
          have pz : HoldAll E H hn100 [.loop 0 c100_0 (F100_l0_0_S a1266 a1263.Prog a1263.Source a1263.Limit a1263.Parts (ilt a1264 10) r1414 [] 0) .ret (F100_l0_0_X0 a1266 a1263.Prog a1263.Source a1263.Limit a1263.Parts (ilt a1264 10) r1414 w1427)] := ⟨(F100_l0_0_ok K a1266 a1263.Prog a1263.Source a1263.Limit a1263.Parts (ilt a1264 10) r1414 K [] 0 _ h1425), trivial⟩
          exact fn_playC hn100 (f := 100) (ads := [.agg (eGGraph a1262), .agg (eGJob a1263), .one (.lit (.int .i64 a1264)), .one (.lit (.int .i64 a1265)), .one (.lit (.int .i64 a1266)), .one (.lit (.int .i64 a1267)), .one (.lit (.bool a1268))]) (r := F100_res (GTurned.mk 0 [] false 8)) (pq1814 (pq1815 (pq1816 (pq1817 (pq1820 pz))))) (by kernel_rfl) (by kernel_rfl)
        subst hx
        have hr := Option.some.inj hF
        subst hr
        have pz : HoldAll E H hn100 [.loop 0 c100_0 (F100_l0_0_S a1266 a1263.Prog a1263.Source a1263.Limit a1263.Parts (ilt a1264 10) r1414 [] 0) (.exit 0) (F100_l0_0_X1 a1266 a1263.Prog a1263.Source a1263.Limit a1263.Parts (ilt a1264 10) r1414 w1428)] := ⟨(F100_l0_0_ok K a1266 a1263.Prog a1263.Source a1263.Limit a1263.Parts (ilt a1264 10) r1414 K [] 0 _ h1425), trivial⟩
        exact fn_playC hn100 (f := 100) (ads := [.agg (eGGraph a1262), .agg (eGJob a1263), .one (.lit (.int .i64 a1264)), .one (.lit (.int .i64 a1265)), .one (.lit (.int .i64 a1266)), .one (.lit (.int .i64 a1267)), .one (.lit (.bool a1268))]) (r := F100_res (GTurned.mk a1266 w1428 (bnot (ilt a1264 10)) 0)) (pq1814 (pq1815 (pq1816 (pq1817 (pq1820 pz))))) (by kernel_rfl) (by kernel_rfl)
      have pq1821 : ∀ {l : List Cond}, HoldAll E H hn100 l → HoldAll E H hn100 (.test (igt a1264 40) false :: .test (ieq a1263.Prog 5) true :: .test (bnot a1268) true :: l) := fun z => ⟨(igt_eq h1275), h1276, (bnot_f h1277), z⟩
      refine cond_some hF (fun h1430 hF => ?_) (fun h1430 hF => ?_)
      ·
        refine bind_some hF (fun r1431 h1432 hF => ?_)
        have pq1822 : ∀ {l : List Cond}, HoldAll E H hn100 l → HoldAll E H hn100 (.test (igt a1264 0) true :: .call 147 [.one (.lit (.int .i64 0))] (F147_res r1431) :: .test (leadsAny (Res.mk [(.one (.im (.lit (.int .i64 r1431.1)))), (.one (.im (.lit (.bool r1431.2))))] [])) false :: l) := fun z => ⟨(igt_eq h1430), (F147_ok K 0 _ h1432), (leads_ok (by simp only [leadsAny, List.any_cons, List.any_nil, RV.leads, RC.leads, leadsT, hasSl_lit, Bool.or_false, flat_ns (eInt_ns _), flat_ns eBool_ns, flat_ns eStr_ns, flat_ns eGJob_ns, flat_ns eGEdge_ns, flat_ns eGAsked_ns, flat_ns eGMsg_ns, flat_ns eGrule_ns, flat_ns eGA199_ns, flat_ns eGA202_ns])), z⟩
        refine cond_some hF (fun h1433 hF => ?_) (fun h1433 hF => ?_)
        ·
          refine bind_some hF (fun r1434 h1435 hF => ?_)
          have pq1823 : ∀ {l : List Cond}, HoldAll E H hn100 l → HoldAll E H hn100 (.test (bnot r1431.2) false :: .call 69 [.agg (eGGraph a1262), .one (.lit (.int .i64 a1265))] (F69_res r1434) :: .test (leadsAny (Res.mk [(.one (.own 89 (.sl (len r1434) (flat eGEdge r1434))))] [])) false :: l) := fun z => ⟨(bnot_t h1433), (F69_ok K a1262 a1265 _ h1435), (leads_ok (by simp only [leadsAny, List.any_cons, List.any_nil, RV.leads, RC.leads, leadsT, hasSl_lit, Bool.or_false, flat_ns (eInt_ns _), flat_ns eBool_ns, flat_ns eStr_ns, flat_ns eGJob_ns, flat_ns eGEdge_ns, flat_ns eGAsked_ns, flat_ns eGMsg_ns, flat_ns eGrule_ns, flat_ns eGA199_ns, flat_ns eGA202_ns])), z⟩
          refine bind_some hF (fun y1446 h1445 hF => ?_)
          refine sum_some hF (fun w1447 hx hF => ?_) (fun w1448 hx hF => ?_)
          ·
            subst hx
            have hr := Option.some.inj hF
            subst hr
            have pz : HoldAll E H hn100 [.loop 0 c100_0 (F100_l0_0_S r1431.1 a1263.Prog a1263.Source a1263.Limit a1263.Parts (ilt a1264 10) r1434 [] 0) .ret (F100_l0_0_X0 r1431.1 a1263.Prog a1263.Source a1263.Limit a1263.Parts (ilt a1264 10) r1434 w1447)] := ⟨(F100_l0_0_ok K r1431.1 a1263.Prog a1263.Source a1263.Limit a1263.Parts (ilt a1264 10) r1434 K [] 0 _ h1445), trivial⟩
            exact fn_playC hn100 (f := 100) (ads := [.agg (eGGraph a1262), .agg (eGJob a1263), .one (.lit (.int .i64 a1264)), .one (.lit (.int .i64 a1265)), .one (.lit (.int .i64 a1266)), .one (.lit (.int .i64 a1267)), .one (.lit (.bool a1268))]) (r := F100_res (GTurned.mk 0 [] false 8)) (pq1814 (pq1815 (pq1816 (pq1821 (pq1822 (pq1823 pz)))))) (by kernel_rfl) (by kernel_rfl)
          subst hx
          have hr := Option.some.inj hF
          subst hr
          have pz : HoldAll E H hn100 [.loop 0 c100_0 (F100_l0_0_S r1431.1 a1263.Prog a1263.Source a1263.Limit a1263.Parts (ilt a1264 10) r1434 [] 0) (.exit 0) (F100_l0_0_X1 r1431.1 a1263.Prog a1263.Source a1263.Limit a1263.Parts (ilt a1264 10) r1434 w1448)] := ⟨(F100_l0_0_ok K r1431.1 a1263.Prog a1263.Source a1263.Limit a1263.Parts (ilt a1264 10) r1434 K [] 0 _ h1445), trivial⟩
          exact fn_playC hn100 (f := 100) (ads := [.agg (eGGraph a1262), .agg (eGJob a1263), .one (.lit (.int .i64 a1264)), .one (.lit (.int .i64 a1265)), .one (.lit (.int .i64 a1266)), .one (.lit (.int .i64 a1267)), .one (.lit (.bool a1268))]) (r := F100_res (GTurned.mk r1431.1 w1448 (bnot (ilt a1264 10)) 0)) (pq1814 (pq1815 (pq1816 (pq1821 (pq1822 (pq1823 pz)))))) (by kernel_rfl) (by kernel_rfl)
        have hr := Option.some.inj hF
        subst hr
        have pz : HoldAll E H hn100 [.test (bnot r1431.2) true] := ⟨(bnot_f h1433), trivial⟩
        exact fn_playC hn100 (f := 100) (ads := [.agg (eGGraph a1262), .agg (eGJob a1263), .one (.lit (.int .i64 a1264)), .one (.lit (.int .i64 a1265)), .one (.lit (.int .i64 a1266)), .one (.lit (.int .i64 a1267)), .one (.lit (.bool a1268))]) (r := F100_res (GTurned.mk 0 [] false 8)) (pq1814 (pq1815 (pq1816 (pq1821 (pq1822 pz))))) (by kernel_rfl) (by kernel_rfl)
      refine bind_some hF (fun r1450 h1451 hF => ?_)
      have pq1824 : ∀ {l : List Cond}, HoldAll E H hn100 l → HoldAll E H hn100 (.test (igt a1264 0) false :: .call 69 [.agg (eGGraph a1262), .one (.lit (.int .i64 a1265))] (F69_res r1450) :: .test (leadsAny (Res.mk [(.one (.own 89 (.sl (len r1450) (flat eGEdge r1450))))] [])) false :: l) := fun z => ⟨(igt_eq h1430), (F69_ok K a1262 a1265 _ h1451), (leads_ok (by simp only [leadsAny, List.any_cons, List.any_nil, RV.leads, RC.leads, leadsT, hasSl_lit, Bool.or_false, flat_ns (eInt_ns _), flat_ns eBool_ns, flat_ns eStr_ns, flat_ns eGJob_ns, flat_ns eGEdge_ns, flat_ns eGAsked_ns, flat_ns eGMsg_ns, flat_ns eGrule_ns, flat_ns eGA199_ns, flat_ns eGA202_ns])), z⟩
      refine bind_some hF (fun y1462 h1461 hF => ?_)
      refine sum_some hF (fun w1463 hx hF => ?_) (fun w1464 hx hF => ?_)
      ·
        subst hx
        have hr := Option.some.inj hF
        subst hr
        have pz : HoldAll E H hn100 [.loop 0 c100_0 (F100_l0_0_S a1266 a1263.Prog a1263.Source a1263.Limit a1263.Parts (ilt a1264 10) r1450 [] 0) .ret (F100_l0_0_X0 a1266 a1263.Prog a1263.Source a1263.Limit a1263.Parts (ilt a1264 10) r1450 w1463)] := ⟨(F100_l0_0_ok K a1266 a1263.Prog a1263.Source a1263.Limit a1263.Parts (ilt a1264 10) r1450 K [] 0 _ h1461), trivial⟩
        exact fn_playC hn100 (f := 100) (ads := [.agg (eGGraph a1262), .agg (eGJob a1263), .one (.lit (.int .i64 a1264)), .one (.lit (.int .i64 a1265)), .one (.lit (.int .i64 a1266)), .one (.lit (.int .i64 a1267)), .one (.lit (.bool a1268))]) (r := F100_res (GTurned.mk 0 [] false 8)) (pq1814 (pq1815 (pq1816 (pq1821 (pq1824 pz))))) (by kernel_rfl) (by kernel_rfl)
      subst hx
      have hr := Option.some.inj hF
      subst hr
      have pz : HoldAll E H hn100 [.loop 0 c100_0 (F100_l0_0_S a1266 a1263.Prog a1263.Source a1263.Limit a1263.Parts (ilt a1264 10) r1450 [] 0) (.exit 0) (F100_l0_0_X1 a1266 a1263.Prog a1263.Source a1263.Limit a1263.Parts (ilt a1264 10) r1450 w1464)] := ⟨(F100_l0_0_ok K a1266 a1263.Prog a1263.Source a1263.Limit a1263.Parts (ilt a1264 10) r1450 K [] 0 _ h1461), trivial⟩
      exact fn_playC hn100 (f := 100) (ads := [.agg (eGGraph a1262), .agg (eGJob a1263), .one (.lit (.int .i64 a1264)), .one (.lit (.int .i64 a1265)), .one (.lit (.int .i64 a1266)), .one (.lit (.int .i64 a1267)), .one (.lit (.bool a1268))]) (r := F100_res (GTurned.mk a1266 w1464 (bnot (ilt a1264 10)) 0)) (pq1814 (pq1815 (pq1816 (pq1821 (pq1824 pz))))) (by kernel_rfl) (by kernel_rfl)
    refine cond_some hF (fun h1466 hF => ?_) (fun h1466 hF => ?_)
    ·
      have pq1825 : ∀ {l : List Cond}, HoldAll E H hn100 l → HoldAll E H hn100 (.test (igt a1264 40) false :: .test (ieq a1263.Prog 5) false :: .test (beqb (ieq a1263.Prog 1) false) false :: .test (beqb (ieq a1263.Prog 1) false) false :: .test (beqb (ieq a1263.Prog 1) false) false :: .test (ieq a1263.Prog 1) true :: .test (beqb true true) true :: .test (beqb true true) true :: .test (beqb true true) true :: .test (beqb true true) true :: .test true true :: l) := fun z => ⟨(igt_eq h1275), h1276, (beqb_ft h1466), (beqb_ft h1466), (beqb_ft h1466), h1466, (beqb_t rfl), (beqb_t rfl), (beqb_t rfl), (beqb_t rfl), rfl, z⟩
      refine cond_some hF (fun h1467 hF => ?_) (fun h1467 hF => ?_)
      ·
        refine cond_some hF (fun h1468 hF => ?_) (fun h1468 hF => ?_)
        ·
          refine bind_some hF (fun r1486 h1487 hF => ?_)
          have pq1826 : ∀ {l : List Cond}, HoldAll E H hn100 l → HoldAll E H hn100 (.test (ine a1265 a1263.Source) false :: .test a1268 true :: .call 98 [.one (.lit (.int .i64 a1263.Prog)), .one (.lit (.int .i64 a1266)), .one (.lit (.int .i64 a1267))] (F98_res r1486) :: .test (leadsAny (Res.mk [(.one (.im (.lit (.int .i64 r1486.1)))), (.one (.im (.lit (.int .i64 r1486.2))))] [])) false :: l) := fun z => ⟨(ine_t h1467), h1468, (F98_ok K a1263.Prog a1266 a1267 _ h1487), (leads_ok (by simp only [leadsAny, List.any_cons, List.any_nil, RV.leads, RC.leads, leadsT, hasSl_lit, Bool.or_false, flat_ns (eInt_ns _), flat_ns eBool_ns, flat_ns eStr_ns, flat_ns eGJob_ns, flat_ns eGEdge_ns, flat_ns eGAsked_ns, flat_ns eGMsg_ns, flat_ns eGrule_ns, flat_ns eGA199_ns, flat_ns eGA202_ns])), z⟩
          refine cond_some hF (fun h1488 hF => ?_) (fun h1488 hF => ?_)
          ·
            refine bind_some hF (fun r1489 h1490 hF => ?_)
            have pq1827 : ∀ {l : List Cond}, HoldAll E H hn100 l → HoldAll E H hn100 (.test (beqb (ieq a1264 0) false) false :: .test (beqb (ieq a1264 0) false) false :: .test (beqb (ieq a1264 0) false) false :: .test (ieq a1264 0) true :: .call 69 [.agg (eGGraph a1262), .one (.lit (.int .i64 a1265))] (F69_res r1489) :: .test (leadsAny (Res.mk [(.one (.own 89 (.sl (len r1489) (flat eGEdge r1489))))] [])) false :: l) := fun z => ⟨(beqb_ft h1488), (beqb_ft h1488), (beqb_ft h1488), h1488, (F69_ok K a1262 a1265 _ h1490), (leads_ok (by simp only [leadsAny, List.any_cons, List.any_nil, RV.leads, RC.leads, leadsT, hasSl_lit, Bool.or_false, flat_ns (eInt_ns _), flat_ns eBool_ns, flat_ns eStr_ns, flat_ns eGJob_ns, flat_ns eGEdge_ns, flat_ns eGAsked_ns, flat_ns eGMsg_ns, flat_ns eGrule_ns, flat_ns eGA199_ns, flat_ns eGA202_ns])), z⟩
            refine bind_some hF (fun y1521 h1520 hF => ?_)
            refine sum_some hF (fun w1522 hx hF => ?_) (fun w1523 hx hF => ?_)
            ·
              subst hx
              have hr := Option.some.inj hF
              subst hr
              have pz : HoldAll E H hn100 [.loop 0 c100_0 (F100_l0_1_S r1486.1 a1263.Prog a1263.Source a1263.Limit a1263.Parts r1489 [] 0) .ret (F100_l0_1_X0 r1486.1 a1263.Prog a1263.Source a1263.Limit a1263.Parts r1489 w1522)] := ⟨(F100_l0_1_ok K r1486.1 a1263.Prog a1263.Source a1263.Limit a1263.Parts r1489 K [] 0 _ h1520), trivial⟩
              exact fn_playC hn100 (f := 100) (ads := [.agg (eGGraph a1262), .agg (eGJob a1263), .one (.lit (.int .i64 a1264)), .one (.lit (.int .i64 a1265)), .one (.lit (.int .i64 a1266)), .one (.lit (.int .i64 a1267)), .one (.lit (.bool a1268))]) (r := F100_res (GTurned.mk 0 [] false 8)) (pq1814 (pq1815 (pq1816 (pq1825 (pq1826 (pq1827 pz)))))) (by kernel_rfl) (by kernel_rfl)
            subst hx
            have hr := Option.some.inj hF
            subst hr
            have pz : HoldAll E H hn100 [.loop 0 c100_0 (F100_l0_1_S r1486.1 a1263.Prog a1263.Source a1263.Limit a1263.Parts r1489 [] 0) (.exit 0) (F100_l0_1_X1 r1486.1 a1263.Prog a1263.Source a1263.Limit a1263.Parts r1489 w1523)] := ⟨(F100_l0_1_ok K r1486.1 a1263.Prog a1263.Source a1263.Limit a1263.Parts r1489 K [] 0 _ h1520), trivial⟩
            exact fn_playC hn100 (f := 100) (ads := [.agg (eGGraph a1262), .agg (eGJob a1263), .one (.lit (.int .i64 a1264)), .one (.lit (.int .i64 a1265)), .one (.lit (.int .i64 a1266)), .one (.lit (.int .i64 a1267)), .one (.lit (.bool a1268))]) (r := F100_res (GTurned.mk r1486.1 w1523 true 0)) (pq1814 (pq1815 (pq1816 (pq1825 (pq1826 (pq1827 pz)))))) (by kernel_rfl) (by kernel_rfl)
          refine bind_some hF (fun r1525 h1526 hF => ?_)
          have pq1828 : ∀ {l : List Cond}, HoldAll E H hn100 l → HoldAll E H hn100 (.test (beqb (ieq a1264 0) false) true :: .test (beqb (ieq a1264 0) false) true :: .test (beqb (ieq a1264 0) false) true :: .test (ieq a1264 0) false :: .call 69 [.agg (eGGraph a1262), .one (.lit (.int .i64 a1265))] (F69_res r1525) :: .test (leadsAny (Res.mk [(.one (.own 89 (.sl (len r1525) (flat eGEdge r1525))))] [])) false :: l) := fun z => ⟨(beqb_ff h1488), (beqb_ff h1488), (beqb_ff h1488), h1488, (F69_ok K a1262 a1265 _ h1526), (leads_ok (by simp only [leadsAny, List.any_cons, List.any_nil, RV.leads, RC.leads, leadsT, hasSl_lit, Bool.or_false, flat_ns (eInt_ns _), flat_ns eBool_ns, flat_ns eStr_ns, flat_ns eGJob_ns, flat_ns eGEdge_ns, flat_ns eGAsked_ns, flat_ns eGMsg_ns, flat_ns eGrule_ns, flat_ns eGA199_ns, flat_ns eGA202_ns])), z⟩
          refine bind_some hF (fun y1561 h1560 hF => ?_)
          refine sum_some hF (fun w1562 hx hF => ?_) (fun w1563 hx hF => ?_)
          ·
            subst hx
            have hr := Option.some.inj hF
            subst hr
            have pz : HoldAll E H hn100 [.loop 0 c100_0 (F100_l0_2_S r1486.1 a1263.Prog a1263.Source a1263.Limit a1263.Parts (ine r1486.1 a1266) r1525 [] 0) .ret (F100_l0_2_X0 r1486.1 a1263.Prog a1263.Source a1263.Limit a1263.Parts (ine r1486.1 a1266) r1525 w1562)] := ⟨(F100_l0_2_ok K r1486.1 a1263.Prog a1263.Source a1263.Limit a1263.Parts (ine r1486.1 a1266) r1525 K [] 0 _ h1560), trivial⟩
            exact fn_playC hn100 (f := 100) (ads := [.agg (eGGraph a1262), .agg (eGJob a1263), .one (.lit (.int .i64 a1264)), .one (.lit (.int .i64 a1265)), .one (.lit (.int .i64 a1266)), .one (.lit (.int .i64 a1267)), .one (.lit (.bool a1268))]) (r := F100_res (GTurned.mk 0 [] false 8)) (pq1814 (pq1815 (pq1816 (pq1825 (pq1826 (pq1828 pz)))))) (by kernel_rfl) (by kernel_rfl)
          subst hx
          have hr := Option.some.inj hF
          subst hr
          have pz : HoldAll E H hn100 [.loop 0 c100_0 (F100_l0_2_S r1486.1 a1263.Prog a1263.Source a1263.Limit a1263.Parts (ine r1486.1 a1266) r1525 [] 0) (.exit 0) (F100_l0_2_X1 r1486.1 a1263.Prog a1263.Source a1263.Limit a1263.Parts (ine r1486.1 a1266) r1525 w1563)] := ⟨(F100_l0_2_ok K r1486.1 a1263.Prog a1263.Source a1263.Limit a1263.Parts (ine r1486.1 a1266) r1525 K [] 0 _ h1560), trivial⟩
          exact fn_playC hn100 (f := 100) (ads := [.agg (eGGraph a1262), .agg (eGJob a1263), .one (.lit (.int .i64 a1264)), .one (.lit (.int .i64 a1265)), .one (.lit (.int .i64 a1266)), .one (.lit (.int .i64 a1267)), .one (.lit (.bool a1268))]) (r := F100_res (GTurned.mk r1486.1 w1563 true 0)) (pq1814 (pq1815 (pq1816 (pq1825 (pq1826 (pq1828 pz)))))) (by kernel_rfl) (by kernel_rfl)
        refine cond_some hF (fun h1565 hF => ?_) (fun h1565 hF => ?_)
        ·
          refine bind_some hF (fun r1566 h1567 hF => ?_)
          have pq1829 : ∀ {l : List Cond}, HoldAll E H hn100 l → HoldAll E H hn100 (.test (ine a1265 a1263.Source) false :: .test a1268 false :: .test (beqb (ieq a1264 0) false) false :: .test (beqb (ieq a1264 0) false) false :: .test (beqb (ieq a1264 0) false) false :: .test (ieq a1264 0) true :: .call 69 [.agg (eGGraph a1262), .one (.lit (.int .i64 a1265))] (F69_res r1566) :: .test (leadsAny (Res.mk [(.one (.own 89 (.sl (len r1566) (flat eGEdge r1566))))] [])) false :: l) := fun z => ⟨(ine_t h1467), h1468, (beqb_ft h1565), (beqb_ft h1565), (beqb_ft h1565), h1565, (F69_ok K a1262 a1265 _ h1567), (leads_ok (by simp only [leadsAny, List.any_cons, List.any_nil, RV.leads, RC.leads, leadsT, hasSl_lit, Bool.or_false, flat_ns (eInt_ns _), flat_ns eBool_ns, flat_ns eStr_ns, flat_ns eGJob_ns, flat_ns eGEdge_ns, flat_ns eGAsked_ns, flat_ns eGMsg_ns, flat_ns eGrule_ns, flat_ns eGA199_ns, flat_ns eGA202_ns])), z⟩
          refine bind_some hF (fun y1576 h1575 hF => ?_)
          refine sum_some hF (fun w1577 hx hF => ?_) (fun w1578 hx hF => ?_)
          ·
            subst hx
            have hr := Option.some.inj hF
            subst hr
            have pz : HoldAll E H hn100 [.loop 0 c100_0 (F100_l0_1_S a1266 a1263.Prog a1263.Source a1263.Limit a1263.Parts r1566 [] 0) .ret (F100_l0_1_X0 a1266 a1263.Prog a1263.Source a1263.Limit a1263.Parts r1566 w1577)] := ⟨(F100_l0_1_ok K a1266 a1263.Prog a1263.Source a1263.Limit a1263.Parts r1566 K [] 0 _ h1575), trivial⟩
            exact fn_playC hn100 (f := 100) (ads := [.agg (eGGraph a1262), .agg (eGJob a1263), .one (.lit (.int .i64 a1264)), .one (.lit (.int .i64 a1265)), .one (.lit (.int .i64 a1266)), .one (.lit (.int .i64 a1267)), .one (.lit (.bool a1268))]) (r := F100_res (GTurned.mk 0 [] false 8)) (pq1814 (pq1815 (pq1816 (pq1825 (pq1829 pz))))) (by kernel_rfl) (by kernel_rfl)
          subst hx
          have hr := Option.some.inj hF
          subst hr
          have pz : HoldAll E H hn100 [.loop 0 c100_0 (F100_l0_1_S a1266 a1263.Prog a1263.Source a1263.Limit a1263.Parts r1566 [] 0) (.exit 0) (F100_l0_1_X1 a1266 a1263.Prog a1263.Source a1263.Limit a1263.Parts r1566 w1578)] := ⟨(F100_l0_1_ok K a1266 a1263.Prog a1263.Source a1263.Limit a1263.Parts r1566 K [] 0 _ h1575), trivial⟩
          exact fn_playC hn100 (f := 100) (ads := [.agg (eGGraph a1262), .agg (eGJob a1263), .one (.lit (.int .i64 a1264)), .one (.lit (.int .i64 a1265)), .one (.lit (.int .i64 a1266)), .one (.lit (.int .i64 a1267)), .one (.lit (.bool a1268))]) (r := F100_res (GTurned.mk a1266 w1578 true 0)) (pq1814 (pq1815 (pq1816 (pq1825 (pq1829 pz))))) (by kernel_rfl) (by kernel_rfl)
        refine bind_some hF (fun r1580 h1581 hF => ?_)
        have pq1830 : ∀ {l : List Cond}, HoldAll E H hn100 l → HoldAll E H hn100 (.test (ine a1265 a1263.Source) false :: .test a1268 false :: .test (beqb (ieq a1264 0) false) true :: .test (beqb (ieq a1264 0) false) true :: .test (beqb (ieq a1264 0) false) true :: .test (ieq a1264 0) false :: .call 69 [.agg (eGGraph a1262), .one (.lit (.int .i64 a1265))] (F69_res r1580) :: .test (leadsAny (Res.mk [(.one (.own 89 (.sl (len r1580) (flat eGEdge r1580))))] [])) false :: l) := fun z => ⟨(ine_t h1467), h1468, (beqb_ff h1565), (beqb_ff h1565), (beqb_ff h1565), h1565, (F69_ok K a1262 a1265 _ h1581), (leads_ok (by simp only [leadsAny, List.any_cons, List.any_nil, RV.leads, RC.leads, leadsT, hasSl_lit, Bool.or_false, flat_ns (eInt_ns _), flat_ns eBool_ns, flat_ns eStr_ns, flat_ns eGJob_ns, flat_ns eGEdge_ns, flat_ns eGAsked_ns, flat_ns eGMsg_ns, flat_ns eGrule_ns, flat_ns eGA199_ns, flat_ns eGA202_ns])), z⟩
        refine bind_some hF (fun y1616 h1615 hF => ?_)
        refine sum_some hF (fun w1617 hx hF => ?_) (fun w1619 hx hF => ?_)
        ·
          subst hx
          have hr := Option.some.inj hF
          subst hr
          have pz : HoldAll E H hn100 [.loop 0 c100_0 (F100_l0_3_S a1266 a1263.Prog a1263.Source a1263.Limit a1263.Parts r1580 [] 0) (.exit 0) (F100_l0_3_X0 a1266 a1263.Prog a1263.Source a1263.Limit a1263.Parts r1580 w1617)] := ⟨(F100_l0_3_ok K a1266 a1263.Prog a1263.Source a1263.Limit a1263.Parts r1580 K [] 0 _ h1615), trivial⟩
          exact fn_playC hn100 (f := 100) (ads := [.agg (eGGraph a1262), .agg (eGJob a1263), .one (.lit (.int .i64 a1264)), .one (.lit (.int .i64 a1265)), .one (.lit (.int .i64 a1266)), .one (.lit (.int .i64 a1267)), .one (.lit (.bool a1268))]) (r := F100_res (GTurned.mk a1266 w1617 true 0)) (pq1814 (pq1815 (pq1816 (pq1825 (pq1830 pz))))) (by kernel_rfl) (by kernel_rfl)
        subst hx
        have hr := Option.some.inj hF
        subst hr
        have pz : HoldAll E H hn100 [.loop 0 c100_0 (F100_l0_3_S a1266 a1263.Prog a1263.Source a1263.Limit a1263.Parts r1580 [] 0) .ret (F100_l0_3_X1 a1266 a1263.Prog a1263.Source a1263.Limit a1263.Parts r1580 w1619)] := ⟨(F100_l0_3_ok K a1266 a1263.Prog a1263.Source a1263.Limit a1263.Parts r1580 K [] 0 _ h1615), trivial⟩
        exact fn_playC hn100 (f := 100) (ads := [.agg (eGGraph a1262), .agg (eGJob a1263), .one (.lit (.int .i64 a1264)), .one (.lit (.int .i64 a1265)), .one (.lit (.int .i64 a1266)), .one (.lit (.int .i64 a1267)), .one (.lit (.bool a1268))]) (r := F100_res (GTurned.mk 0 [] false 8)) (pq1814 (pq1815 (pq1816 (pq1825 (pq1830 pz))))) (by kernel_rfl) (by kernel_rfl)
      refine cond_some hF (fun h1620 hF => ?_) (fun h1620 hF => ?_)
      ·
        refine bind_some hF (fun r1621 h1622 hF => ?_)
        refine bind_some hF (fun r1623 h1624 hF => ?_)
        have pq1831 : ∀ {l : List Cond}, HoldAll E H hn100 l → HoldAll E H hn100 (.test (ine a1265 a1263.Source) true :: .test a1268 true :: .call 98 [.one (.lit (.int .i64 a1263.Prog)), .one (.lit (.int .i64 a1266)), .one (.lit (.int .i64 a1267))] (F98_res r1621) :: .test (leadsAny (Res.mk [(.one (.im (.lit (.int .i64 r1621.1)))), (.one (.im (.lit (.int .i64 r1621.2))))] [])) false :: .test (beqb false false) true :: .test (beqb false false) true :: .test (beqb false false) true :: .test false false :: .call 69 [.agg (eGGraph a1262), .one (.lit (.int .i64 a1265))] (F69_res r1623) :: .test (leadsAny (Res.mk [(.one (.own 89 (.sl (len r1623) (flat eGEdge r1623))))] [])) false :: l) := fun z => ⟨(ine_f h1467), h1620, (F98_ok K a1263.Prog a1266 a1267 _ h1622), (leads_ok (by simp only [leadsAny, List.any_cons, List.any_nil, RV.leads, RC.leads, leadsT, hasSl_lit, Bool.or_false, flat_ns (eInt_ns _), flat_ns eBool_ns, flat_ns eStr_ns, flat_ns eGJob_ns, flat_ns eGEdge_ns, flat_ns eGAsked_ns, flat_ns eGMsg_ns, flat_ns eGrule_ns, flat_ns eGA199_ns, flat_ns eGA202_ns])), (beqb_ff rfl), (beqb_ff rfl), (beqb_ff rfl), rfl, (F69_ok K a1262 a1265 _ h1624), (leads_ok (by simp only [leadsAny, List.any_cons, List.any_nil, RV.leads, RC.leads, leadsT, hasSl_lit, Bool.or_false, flat_ns (eInt_ns _), flat_ns eBool_ns, flat_ns eStr_ns, flat_ns eGJob_ns, flat_ns eGEdge_ns, flat_ns eGAsked_ns, flat_ns eGMsg_ns, flat_ns eGrule_ns, flat_ns eGA199_ns, flat_ns eGA202_ns])), z⟩
        refine bind_some hF (fun y1634 h1633 hF => ?_)
        refine sum_some hF (fun w1635 hx hF => ?_) (fun w1636 hx hF => ?_)
        ·
          subst hx
          have hr := Option.some.inj hF
          subst hr
          have pz : HoldAll E H hn100 [.loop 0 c100_0 (F100_l0_2_S r1621.1 a1263.Prog a1263.Source a1263.Limit a1263.Parts (ine r1621.1 a1266) r1623 [] 0) .ret (F100_l0_2_X0 r1621.1 a1263.Prog a1263.Source a1263.Limit a1263.Parts (ine r1621.1 a1266) r1623 w1635)] := ⟨(F100_l0_2_ok K r1621.1 a1263.Prog a1263.Source a1263.Limit a1263.Parts (ine r1621.1 a1266) r1623 K [] 0 _ h1633), trivial⟩
          exact fn_playC hn100 (f := 100) (ads := [.agg (eGGraph a1262), .agg (eGJob a1263), .one (.lit (.int .i64 a1264)), .one (.lit (.int .i64 a1265)), .one (.lit (.int .i64 a1266)), .one (.lit (.int .i64 a1267)), .one (.lit (.bool a1268))]) (r := F100_res (GTurned.mk 0 [] false 8)) (pq1814 (pq1815 (pq1816 (pq1825 (pq1831 pz))))) (by kernel_rfl) (by kernel_rfl)
        subst hx
        have hr := Option.some.inj hF
        subst hr
        have pz : HoldAll E H hn100 [.loop 0 c100_0 (F100_l0_2_S r1621.1 a1263.Prog a1263.Source a1263.Limit a1263.Parts (ine r1621.1 a1266) r1623 [] 0) (.exit 0) (F100_l0_2_X1 r1621.1 a1263.Prog a1263.Source a1263.Limit a1263.Parts (ine r1621.1 a1266) r1623 w1636)] := ⟨(F100_l0_2_ok K r1621.1 a1263.Prog a1263.Source a1263.Limit a1263.Parts (ine r1621.1 a1266) r1623 K [] 0 _ h1633), trivial⟩
        exact fn_playC hn100 (f := 100) (ads := [.agg (eGGraph a1262), .agg (eGJob a1263), .one (.lit (.int .i64 a1264)), .one (.lit (.int .i64 a1265)), .one (.lit (.int .i64 a1266)), .one (.lit (.int .i64 a1267)), .one (.lit (.bool a1268))]) (r := F100_res (GTurned.mk r1621.1 w1636 true 0)) (pq1814 (pq1815 (pq1816 (pq1825 (pq1831 pz))))) (by kernel_rfl) (by kernel_rfl)
      refine bind_some hF (fun r1638 h1639 hF => ?_)
      have pq1832 : ∀ {l : List Cond}, HoldAll E H hn100 l → HoldAll E H hn100 (.test (ine a1265 a1263.Source) true :: .test a1268 false :: .test (beqb false false) true :: .test (beqb false false) true :: .test (beqb false false) true :: .test false false :: .call 69 [.agg (eGGraph a1262), .one (.lit (.int .i64 a1265))] (F69_res r1638) :: .test (leadsAny (Res.mk [(.one (.own 89 (.sl (len r1638) (flat eGEdge r1638))))] [])) false :: l) := fun z => ⟨(ine_f h1467), h1620, (beqb_ff rfl), (beqb_ff rfl), (beqb_ff rfl), rfl, (F69_ok K a1262 a1265 _ h1639), (leads_ok (by simp only [leadsAny, List.any_cons, List.any_nil, RV.leads, RC.leads, leadsT, hasSl_lit, Bool.or_false, flat_ns (eInt_ns _), flat_ns eBool_ns, flat_ns eStr_ns, flat_ns eGJob_ns, flat_ns eGEdge_ns, flat_ns eGAsked_ns, flat_ns eGMsg_ns, flat_ns eGrule_ns, flat_ns eGA199_ns, flat_ns eGA202_ns])), z⟩
      refine bind_some hF (fun y1649 h1648 hF => ?_)
      refine sum_some hF (fun w1650 hx hF => ?_) (fun w1652 hx hF => ?_)
      ·
        subst hx
        have hr := Option.some.inj hF
        subst hr
        have pz : HoldAll E H hn100 [.loop 0 c100_0 (F100_l0_3_S a1266 a1263.Prog a1263.Source a1263.Limit a1263.Parts r1638 [] 0) (.exit 0) (F100_l0_3_X0 a1266 a1263.Prog a1263.Source a1263.Limit a1263.Parts r1638 w1650)] := ⟨(F100_l0_3_ok K a1266 a1263.Prog a1263.Source a1263.Limit a1263.Parts r1638 K [] 0 _ h1648), trivial⟩
        exact fn_playC hn100 (f := 100) (ads := [.agg (eGGraph a1262), .agg (eGJob a1263), .one (.lit (.int .i64 a1264)), .one (.lit (.int .i64 a1265)), .one (.lit (.int .i64 a1266)), .one (.lit (.int .i64 a1267)), .one (.lit (.bool a1268))]) (r := F100_res (GTurned.mk a1266 w1650 true 0)) (pq1814 (pq1815 (pq1816 (pq1825 (pq1832 pz))))) (by kernel_rfl) (by kernel_rfl)
      subst hx
      have hr := Option.some.inj hF
      subst hr
      have pz : HoldAll E H hn100 [.loop 0 c100_0 (F100_l0_3_S a1266 a1263.Prog a1263.Source a1263.Limit a1263.Parts r1638 [] 0) .ret (F100_l0_3_X1 a1266 a1263.Prog a1263.Source a1263.Limit a1263.Parts r1638 w1652)] := ⟨(F100_l0_3_ok K a1266 a1263.Prog a1263.Source a1263.Limit a1263.Parts r1638 K [] 0 _ h1648), trivial⟩
      exact fn_playC hn100 (f := 100) (ads := [.agg (eGGraph a1262), .agg (eGJob a1263), .one (.lit (.int .i64 a1264)), .one (.lit (.int .i64 a1265)), .one (.lit (.int .i64 a1266)), .one (.lit (.int .i64 a1267)), .one (.lit (.bool a1268))]) (r := F100_res (GTurned.mk 0 [] false 8)) (pq1814 (pq1815 (pq1816 (pq1825 (pq1832 pz))))) (by kernel_rfl) (by kernel_rfl)
    have pq1833 : ∀ {l : List Cond}, HoldAll E H hn100 l → HoldAll E H hn100 (.test (igt a1264 40) false :: .test (ieq a1263.Prog 5) false :: .test (beqb (ieq a1263.Prog 1) false) true :: .test (beqb (ieq a1263.Prog 1) false) true :: .test (beqb (ieq a1263.Prog 1) false) true :: .test (ieq a1263.Prog 1) false :: l) := fun z => ⟨(igt_eq h1275), h1276, (beqb_ff h1466), (beqb_ff h1466), (beqb_ff h1466), h1466, z⟩
    refine cond_some hF (fun h1653 hF => ?_) (fun h1653 hF => ?_)
    ·
      have pq1834 : ∀ {l : List Cond}, HoldAll E H hn100 l → HoldAll E H hn100 (.test (beqb (ieq a1263.Prog 3) true) true :: .test (beqb (ieq a1263.Prog 3) true) true :: .test (beqb (ieq a1263.Prog 3) true) true :: .test (beqb (ieq a1263.Prog 3) true) true :: .test (ieq a1263.Prog 3) true :: l) := fun z => ⟨(beqb_t h1653), (beqb_t h1653), (beqb_t h1653), (beqb_t h1653), h1653, z⟩
      refine cond_some hF (fun h1654 hF => ?_) (fun h1654 hF => ?_)
      ·
        refine cond_some hF (fun h1655 hF => ?_) (fun h1655 hF => ?_)
        ·
          refine bind_some hF (fun r1656 h1657 hF => ?_)
          have pq1835 : ∀ {l : List Cond}, HoldAll E H hn100 l → HoldAll E H hn100 (.test (ine a1265 a1263.Source) false :: .test a1268 true :: .call 98 [.one (.lit (.int .i64 a1263.Prog)), .one (.lit (.int .i64 a1266)), .one (.lit (.int .i64 a1267))] (F98_res r1656) :: .test (leadsAny (Res.mk [(.one (.im (.lit (.int .i64 r1656.1)))), (.one (.im (.lit (.int .i64 r1656.2))))] [])) false :: l) := fun z => ⟨(ine_t h1654), h1655, (F98_ok K a1263.Prog a1266 a1267 _ h1657), (leads_ok (by simp only [leadsAny, List.any_cons, List.any_nil, RV.leads, RC.leads, leadsT, hasSl_lit, Bool.or_false, flat_ns (eInt_ns _), flat_ns eBool_ns, flat_ns eStr_ns, flat_ns eGJob_ns, flat_ns eGEdge_ns, flat_ns eGAsked_ns, flat_ns eGMsg_ns, flat_ns eGrule_ns, flat_ns eGA199_ns, flat_ns eGA202_ns])), z⟩
          refine cond_some hF (fun h1658 hF => ?_) (fun h1658 hF => ?_)
          ·
            refine bind_some hF (fun r1659 h1660 hF => ?_)
            have pq1836 : ∀ {l : List Cond}, HoldAll E H hn100 l → HoldAll E H hn100 (.test (beqb (ieq a1264 0) false) false :: .test (beqb (ieq a1264 0) false) false :: .test (beqb (ieq a1264 0) false) false :: .test (ieq a1264 0) true :: .call 69 [.agg (eGGraph a1262), .one (.lit (.int .i64 a1265))] (F69_res r1659) :: .test (leadsAny (Res.mk [(.one (.own 89 (.sl (len r1659) (flat eGEdge r1659))))] [])) false :: l) := fun z => ⟨(beqb_ft h1658), (beqb_ft h1658), (beqb_ft h1658), h1658, (F69_ok K a1262 a1265 _ h1660), (leads_ok (by simp only [leadsAny, List.any_cons, List.any_nil, RV.leads, RC.leads, leadsT, hasSl_lit, Bool.or_false, flat_ns (eInt_ns _), flat_ns eBool_ns, flat_ns eStr_ns, flat_ns eGJob_ns, flat_ns eGEdge_ns, flat_ns eGAsked_ns, flat_ns eGMsg_ns, flat_ns eGrule_ns, flat_ns eGA199_ns, flat_ns eGA202_ns])), z⟩
            refine bind_some hF (fun y1669 h1668 hF => ?_)
            refine sum_some hF (fun w1670 hx hF => ?_) (fun w1671 hx hF => ?_)
            ·
              subst hx
              have hr := Option.some.inj hF
              subst hr
              have pz : HoldAll E H hn100 [.loop 0 c100_0 (F100_l0_1_S r1656.1 a1263.Prog a1263.Source a1263.Limit a1263.Parts r1659 [] 0) .ret (F100_l0_1_X0 r1656.1 a1263.Prog a1263.Source a1263.Limit a1263.Parts r1659 w1670)] := ⟨(F100_l0_1_ok K r1656.1 a1263.Prog a1263.Source a1263.Limit a1263.Parts r1659 K [] 0 _ h1668), trivial⟩
              exact fn_playC hn100 (f := 100) (ads := [.agg (eGGraph a1262), .agg (eGJob a1263), .one (.lit (.int .i64 a1264)), .one (.lit (.int .i64 a1265)), .one (.lit (.int .i64 a1266)), .one (.lit (.int .i64 a1267)), .one (.lit (.bool a1268))]) (r := F100_res (GTurned.mk 0 [] false 8)) (pq1814 (pq1815 (pq1816 (pq1833 (pq1834 (pq1835 (pq1836 pz))))))) (by kernel_rfl) (by kernel_rfl)
            subst hx
            have hr := Option.some.inj hF
            subst hr
            have pz : HoldAll E H hn100 [.loop 0 c100_0 (F100_l0_1_S r1656.1 a1263.Prog a1263.Source a1263.Limit a1263.Parts r1659 [] 0) (.exit 0) (F100_l0_1_X1 r1656.1 a1263.Prog a1263.Source a1263.Limit a1263.Parts r1659 w1671)] := ⟨(F100_l0_1_ok K r1656.1 a1263.Prog a1263.Source a1263.Limit a1263.Parts r1659 K [] 0 _ h1668), trivial⟩
            exact fn_playC hn100 (f := 100) (ads := [.agg (eGGraph a1262), .agg (eGJob a1263), .one (.lit (.int .i64 a1264)), .one (.lit (.int .i64 a1265)), .one (.lit (.int .i64 a1266)), .one (.lit (.int .i64 a1267)), .one (.lit (.bool a1268))]) (r := F100_res (GTurned.mk r1656.1 w1671 true 0)) (pq1814 (pq1815 (pq1816 (pq1833 (pq1834 (pq1835 (pq1836 pz))))))) (by kernel_rfl) (by kernel_rfl)
          refine bind_some hF (fun r1673 h1674 hF => ?_)
          have pq1837 : ∀ {l : List Cond}, HoldAll E H hn100 l → HoldAll E H hn100 (.test (beqb (ieq a1264 0) false) true :: .test (beqb (ieq a1264 0) false) true :: .test (beqb (ieq a1264 0) false) true :: .test (ieq a1264 0) false :: .call 69 [.agg (eGGraph a1262), .one (.lit (.int .i64 a1265))] (F69_res r1673) :: .test (leadsAny (Res.mk [(.one (.own 89 (.sl (len r1673) (flat eGEdge r1673))))] [])) false :: l) := fun z => ⟨(beqb_ff h1658), (beqb_ff h1658), (beqb_ff h1658), h1658, (F69_ok K a1262 a1265 _ h1674), (leads_ok (by simp only [leadsAny, List.any_cons, List.any_nil, RV.leads, RC.leads, leadsT, hasSl_lit, Bool.or_false, flat_ns (eInt_ns _), flat_ns eBool_ns, flat_ns eStr_ns, flat_ns eGJob_ns, flat_ns eGEdge_ns, flat_ns eGAsked_ns, flat_ns eGMsg_ns, flat_ns eGrule_ns, flat_ns eGA199_ns, flat_ns eGA202_ns])), z⟩
          refine bind_some hF (fun y1684 h1683 hF => ?_)
          refine sum_some hF (fun w1685 hx hF => ?_) (fun w1686 hx hF => ?_)
          ·
            subst hx
            have hr := Option.some.inj hF
            subst hr
            have pz : HoldAll E H hn100 [.loop 0 c100_0 (F100_l0_2_S r1656.1 a1263.Prog a1263.Source a1263.Limit a1263.Parts (ine r1656.1 a1266) r1673 [] 0) .ret (F100_l0_2_X0 r1656.1 a1263.Prog a1263.Source a1263.Limit a1263.Parts (ine r1656.1 a1266) r1673 w1685)] := ⟨(F100_l0_2_ok K r1656.1 a1263.Prog a1263.Source a1263.Limit a1263.Parts (ine r1656.1 a1266) r1673 K [] 0 _ h1683), trivial⟩
            exact fn_playC hn100 (f := 100) (ads := [.agg (eGGraph a1262), .agg (eGJob a1263), .one (.lit (.int .i64 a1264)), .one (.lit (.int .i64 a1265)), .one (.lit (.int .i64 a1266)), .one (.lit (.int .i64 a1267)), .one (.lit (.bool a1268))]) (r := F100_res (GTurned.mk 0 [] false 8)) (pq1814 (pq1815 (pq1816 (pq1833 (pq1834 (pq1835 (pq1837 pz))))))) (by kernel_rfl) (by kernel_rfl)
          subst hx
          have hr := Option.some.inj hF
          subst hr
          have pz : HoldAll E H hn100 [.loop 0 c100_0 (F100_l0_2_S r1656.1 a1263.Prog a1263.Source a1263.Limit a1263.Parts (ine r1656.1 a1266) r1673 [] 0) (.exit 0) (F100_l0_2_X1 r1656.1 a1263.Prog a1263.Source a1263.Limit a1263.Parts (ine r1656.1 a1266) r1673 w1686)] := ⟨(F100_l0_2_ok K r1656.1 a1263.Prog a1263.Source a1263.Limit a1263.Parts (ine r1656.1 a1266) r1673 K [] 0 _ h1683), trivial⟩
          exact fn_playC hn100 (f := 100) (ads := [.agg (eGGraph a1262), .agg (eGJob a1263), .one (.lit (.int .i64 a1264)), .one (.lit (.int .i64 a1265)), .one (.lit (.int .i64 a1266)), .one (.lit (.int .i64 a1267)), .one (.lit (.bool a1268))]) (r := F100_res (GTurned.mk r1656.1 w1686 true 0)) (pq1814 (pq1815 (pq1816 (pq1833 (pq1834 (pq1835 (pq1837 pz))))))) (by kernel_rfl) (by kernel_rfl)
        refine cond_some hF (fun h1688 hF => ?_) (fun h1688 hF => ?_)
        ·
          refine bind_some hF (fun r1689 h1690 hF => ?_)
          have pq1838 : ∀ {l : List Cond}, HoldAll E H hn100 l → HoldAll E H hn100 (.test (ine a1265 a1263.Source) false :: .test a1268 false :: .test (beqb (ieq a1264 0) false) false :: .test (beqb (ieq a1264 0) false) false :: .test (beqb (ieq a1264 0) false) false :: .test (ieq a1264 0) true :: .call 69 [.agg (eGGraph a1262), .one (.lit (.int .i64 a1265))] (F69_res r1689) :: .test (leadsAny (Res.mk [(.one (.own 89 (.sl (len r1689) (flat eGEdge r1689))))] [])) false :: l) := fun z => ⟨(ine_t h1654), h1655, (beqb_ft h1688), (beqb_ft h1688), (beqb_ft h1688), h1688, (F69_ok K a1262 a1265 _ h1690), (leads_ok (by simp only [leadsAny, List.any_cons, List.any_nil, RV.leads, RC.leads, leadsT, hasSl_lit, Bool.or_false, flat_ns (eInt_ns _), flat_ns eBool_ns, flat_ns eStr_ns, flat_ns eGJob_ns, flat_ns eGEdge_ns, flat_ns eGAsked_ns, flat_ns eGMsg_ns, flat_ns eGrule_ns, flat_ns eGA199_ns, flat_ns eGA202_ns])), z⟩
          refine bind_some hF (fun y1699 h1698 hF => ?_)
          refine sum_some hF (fun w1700 hx hF => ?_) (fun w1701 hx hF => ?_)
          ·
            subst hx
            have hr := Option.some.inj hF
            subst hr
            have pz : HoldAll E H hn100 [.loop 0 c100_0 (F100_l0_1_S a1266 a1263.Prog a1263.Source a1263.Limit a1263.Parts r1689 [] 0) .ret (F100_l0_1_X0 a1266 a1263.Prog a1263.Source a1263.Limit a1263.Parts r1689 w1700)] := ⟨(F100_l0_1_ok K a1266 a1263.Prog a1263.Source a1263.Limit a1263.Parts r1689 K [] 0 _ h1698), trivial⟩
            exact fn_playC hn100 (f := 100) (ads := [.agg (eGGraph a1262), .agg (eGJob a1263), .one (.lit (.int .i64 a1264)), .one (.lit (.int .i64 a1265)), .one (.lit (.int .i64 a1266)), .one (.lit (.int .i64 a1267)), .one (.lit (.bool a1268))]) (r := F100_res (GTurned.mk 0 [] false 8)) (pq1814 (pq1815 (pq1816 (pq1833 (pq1834 (pq1838 pz)))))) (by kernel_rfl) (by kernel_rfl)
          subst hx
          have hr := Option.some.inj hF
          subst hr
          have pz : HoldAll E H hn100 [.loop 0 c100_0 (F100_l0_1_S a1266 a1263.Prog a1263.Source a1263.Limit a1263.Parts r1689 [] 0) (.exit 0) (F100_l0_1_X1 a1266 a1263.Prog a1263.Source a1263.Limit a1263.Parts r1689 w1701)] := ⟨(F100_l0_1_ok K a1266 a1263.Prog a1263.Source a1263.Limit a1263.Parts r1689 K [] 0 _ h1698), trivial⟩
          exact fn_playC hn100 (f := 100) (ads := [.agg (eGGraph a1262), .agg (eGJob a1263), .one (.lit (.int .i64 a1264)), .one (.lit (.int .i64 a1265)), .one (.lit (.int .i64 a1266)), .one (.lit (.int .i64 a1267)), .one (.lit (.bool a1268))]) (r := F100_res (GTurned.mk a1266 w1701 true 0)) (pq1814 (pq1815 (pq1816 (pq1833 (pq1834 (pq1838 pz)))))) (by kernel_rfl) (by kernel_rfl)
        refine bind_some hF (fun r1703 h1704 hF => ?_)
        have pq1839 : ∀ {l : List Cond}, HoldAll E H hn100 l → HoldAll E H hn100 (.test (ine a1265 a1263.Source) false :: .test a1268 false :: .test (beqb (ieq a1264 0) false) true :: .test (beqb (ieq a1264 0) false) true :: .test (beqb (ieq a1264 0) false) true :: .test (ieq a1264 0) false :: .call 69 [.agg (eGGraph a1262), .one (.lit (.int .i64 a1265))] (F69_res r1703) :: .test (leadsAny (Res.mk [(.one (.own 89 (.sl (len r1703) (flat eGEdge r1703))))] [])) false :: l) := fun z => ⟨(ine_t h1654), h1655, (beqb_ff h1688), (beqb_ff h1688), (beqb_ff h1688), h1688, (F69_ok K a1262 a1265 _ h1704), (leads_ok (by simp only [leadsAny, List.any_cons, List.any_nil, RV.leads, RC.leads, leadsT, hasSl_lit, Bool.or_false, flat_ns (eInt_ns _), flat_ns eBool_ns, flat_ns eStr_ns, flat_ns eGJob_ns, flat_ns eGEdge_ns, flat_ns eGAsked_ns, flat_ns eGMsg_ns, flat_ns eGrule_ns, flat_ns eGA199_ns, flat_ns eGA202_ns])), z⟩
        refine bind_some hF (fun y1714 h1713 hF => ?_)
        refine sum_some hF (fun w1715 hx hF => ?_) (fun w1717 hx hF => ?_)
        ·
          subst hx
          have hr := Option.some.inj hF
          subst hr
          have pz : HoldAll E H hn100 [.loop 0 c100_0 (F100_l0_3_S a1266 a1263.Prog a1263.Source a1263.Limit a1263.Parts r1703 [] 0) (.exit 0) (F100_l0_3_X0 a1266 a1263.Prog a1263.Source a1263.Limit a1263.Parts r1703 w1715)] := ⟨(F100_l0_3_ok K a1266 a1263.Prog a1263.Source a1263.Limit a1263.Parts r1703 K [] 0 _ h1713), trivial⟩
          exact fn_playC hn100 (f := 100) (ads := [.agg (eGGraph a1262), .agg (eGJob a1263), .one (.lit (.int .i64 a1264)), .one (.lit (.int .i64 a1265)), .one (.lit (.int .i64 a1266)), .one (.lit (.int .i64 a1267)), .one (.lit (.bool a1268))]) (r := F100_res (GTurned.mk a1266 w1715 true 0)) (pq1814 (pq1815 (pq1816 (pq1833 (pq1834 (pq1839 pz)))))) (by kernel_rfl) (by kernel_rfl)
        subst hx
        have hr := Option.some.inj hF
        subst hr
        have pz : HoldAll E H hn100 [.loop 0 c100_0 (F100_l0_3_S a1266 a1263.Prog a1263.Source a1263.Limit a1263.Parts r1703 [] 0) .ret (F100_l0_3_X1 a1266 a1263.Prog a1263.Source a1263.Limit a1263.Parts r1703 w1717)] := ⟨(F100_l0_3_ok K a1266 a1263.Prog a1263.Source a1263.Limit a1263.Parts r1703 K [] 0 _ h1713), trivial⟩
        exact fn_playC hn100 (f := 100) (ads := [.agg (eGGraph a1262), .agg (eGJob a1263), .one (.lit (.int .i64 a1264)), .one (.lit (.int .i64 a1265)), .one (.lit (.int .i64 a1266)), .one (.lit (.int .i64 a1267)), .one (.lit (.bool a1268))]) (r := F100_res (GTurned.mk 0 [] false 8)) (pq1814 (pq1815 (pq1816 (pq1833 (pq1834 (pq1839 pz)))))) (by kernel_rfl) (by kernel_rfl)
      refine cond_some hF (fun h1718 hF => ?_) (fun h1718 hF => ?_)
      ·
        refine bind_some hF (fun r1719 h1720 hF => ?_)
        refine bind_some hF (fun r1721 h1722 hF => ?_)
        have pq1840 : ∀ {l : List Cond}, HoldAll E H hn100 l → HoldAll E H hn100 (.test (ine a1265 a1263.Source) true :: .test a1268 true :: .call 98 [.one (.lit (.int .i64 a1263.Prog)), .one (.lit (.int .i64 a1266)), .one (.lit (.int .i64 a1267))] (F98_res r1719) :: .test (leadsAny (Res.mk [(.one (.im (.lit (.int .i64 r1719.1)))), (.one (.im (.lit (.int .i64 r1719.2))))] [])) false :: .test (beqb false false) true :: .test (beqb false false) true :: .test (beqb false false) true :: .test false false :: .call 69 [.agg (eGGraph a1262), .one (.lit (.int .i64 a1265))] (F69_res r1721) :: .test (leadsAny (Res.mk [(.one (.own 89 (.sl (len r1721) (flat eGEdge r1721))))] [])) false :: l) := fun z => ⟨(ine_f h1654), h1718, (F98_ok K a1263.Prog a1266 a1267 _ h1720), (leads_ok (by simp only [leadsAny, List.any_cons, List.any_nil, RV.leads, RC.leads, leadsT, hasSl_lit, Bool.or_false, flat_ns (eInt_ns _), flat_ns eBool_ns, flat_ns eStr_ns, flat_ns eGJob_ns, flat_ns eGEdge_ns, flat_ns eGAsked_ns, flat_ns eGMsg_ns, flat_ns eGrule_ns, flat_ns eGA199_ns, flat_ns eGA202_ns])), (beqb_ff rfl), (beqb_ff rfl), (beqb_ff rfl), rfl, (F69_ok K a1262 a1265 _ h1722), (leads_ok (by simp only [leadsAny, List.any_cons, List.any_nil, RV.leads, RC.leads, leadsT, hasSl_lit, Bool.or_false, flat_ns (eInt_ns _), flat_ns eBool_ns, flat_ns eStr_ns, flat_ns eGJob_ns, flat_ns eGEdge_ns, flat_ns eGAsked_ns, flat_ns eGMsg_ns, flat_ns eGrule_ns, flat_ns eGA199_ns, flat_ns eGA202_ns])), z⟩
        refine bind_some hF (fun y1732 h1731 hF => ?_)
        refine sum_some hF (fun w1733 hx hF => ?_) (fun w1734 hx hF => ?_)
        ·
          subst hx
          have hr := Option.some.inj hF
          subst hr
          have pz : HoldAll E H hn100 [.loop 0 c100_0 (F100_l0_2_S r1719.1 a1263.Prog a1263.Source a1263.Limit a1263.Parts (ine r1719.1 a1266) r1721 [] 0) .ret (F100_l0_2_X0 r1719.1 a1263.Prog a1263.Source a1263.Limit a1263.Parts (ine r1719.1 a1266) r1721 w1733)] := ⟨(F100_l0_2_ok K r1719.1 a1263.Prog a1263.Source a1263.Limit a1263.Parts (ine r1719.1 a1266) r1721 K [] 0 _ h1731), trivial⟩
          exact fn_playC hn100 (f := 100) (ads := [.agg (eGGraph a1262), .agg (eGJob a1263), .one (.lit (.int .i64 a1264)), .one (.lit (.int .i64 a1265)), .one (.lit (.int .i64 a1266)), .one (.lit (.int .i64 a1267)), .one (.lit (.bool a1268))]) (r := F100_res (GTurned.mk 0 [] false 8)) (pq1814 (pq1815 (pq1816 (pq1833 (pq1834 (pq1840 pz)))))) (by kernel_rfl) (by kernel_rfl)
        subst hx
        have hr := Option.some.inj hF
        subst hr
        have pz : HoldAll E H hn100 [.loop 0 c100_0 (F100_l0_2_S r1719.1 a1263.Prog a1263.Source a1263.Limit a1263.Parts (ine r1719.1 a1266) r1721 [] 0) (.exit 0) (F100_l0_2_X1 r1719.1 a1263.Prog a1263.Source a1263.Limit a1263.Parts (ine r1719.1 a1266) r1721 w1734)] := ⟨(F100_l0_2_ok K r1719.1 a1263.Prog a1263.Source a1263.Limit a1263.Parts (ine r1719.1 a1266) r1721 K [] 0 _ h1731), trivial⟩
        exact fn_playC hn100 (f := 100) (ads := [.agg (eGGraph a1262), .agg (eGJob a1263), .one (.lit (.int .i64 a1264)), .one (.lit (.int .i64 a1265)), .one (.lit (.int .i64 a1266)), .one (.lit (.int .i64 a1267)), .one (.lit (.bool a1268))]) (r := F100_res (GTurned.mk r1719.1 w1734 true 0)) (pq1814 (pq1815 (pq1816 (pq1833 (pq1834 (pq1840 pz)))))) (by kernel_rfl) (by kernel_rfl)
      refine bind_some hF (fun r1736 h1737 hF => ?_)
      have pq1841 : ∀ {l : List Cond}, HoldAll E H hn100 l → HoldAll E H hn100 (.test (ine a1265 a1263.Source) true :: .test a1268 false :: .test (beqb false false) true :: .test (beqb false false) true :: .test (beqb false false) true :: .test false false :: .call 69 [.agg (eGGraph a1262), .one (.lit (.int .i64 a1265))] (F69_res r1736) :: .test (leadsAny (Res.mk [(.one (.own 89 (.sl (len r1736) (flat eGEdge r1736))))] [])) false :: l) := fun z => ⟨(ine_f h1654), h1718, (beqb_ff rfl), (beqb_ff rfl), (beqb_ff rfl), rfl, (F69_ok K a1262 a1265 _ h1737), (leads_ok (by simp only [leadsAny, List.any_cons, List.any_nil, RV.leads, RC.leads, leadsT, hasSl_lit, Bool.or_false, flat_ns (eInt_ns _), flat_ns eBool_ns, flat_ns eStr_ns, flat_ns eGJob_ns, flat_ns eGEdge_ns, flat_ns eGAsked_ns, flat_ns eGMsg_ns, flat_ns eGrule_ns, flat_ns eGA199_ns, flat_ns eGA202_ns])), z⟩
      refine bind_some hF (fun y1747 h1746 hF => ?_)
      refine sum_some hF (fun w1748 hx hF => ?_) (fun w1750 hx hF => ?_)
      ·
        subst hx
        have hr := Option.some.inj hF
        subst hr
        have pz : HoldAll E H hn100 [.loop 0 c100_0 (F100_l0_3_S a1266 a1263.Prog a1263.Source a1263.Limit a1263.Parts r1736 [] 0) (.exit 0) (F100_l0_3_X0 a1266 a1263.Prog a1263.Source a1263.Limit a1263.Parts r1736 w1748)] := ⟨(F100_l0_3_ok K a1266 a1263.Prog a1263.Source a1263.Limit a1263.Parts r1736 K [] 0 _ h1746), trivial⟩
        exact fn_playC hn100 (f := 100) (ads := [.agg (eGGraph a1262), .agg (eGJob a1263), .one (.lit (.int .i64 a1264)), .one (.lit (.int .i64 a1265)), .one (.lit (.int .i64 a1266)), .one (.lit (.int .i64 a1267)), .one (.lit (.bool a1268))]) (r := F100_res (GTurned.mk a1266 w1748 true 0)) (pq1814 (pq1815 (pq1816 (pq1833 (pq1834 (pq1841 pz)))))) (by kernel_rfl) (by kernel_rfl)
      subst hx
      have hr := Option.some.inj hF
      subst hr
      have pz : HoldAll E H hn100 [.loop 0 c100_0 (F100_l0_3_S a1266 a1263.Prog a1263.Source a1263.Limit a1263.Parts r1736 [] 0) .ret (F100_l0_3_X1 a1266 a1263.Prog a1263.Source a1263.Limit a1263.Parts r1736 w1750)] := ⟨(F100_l0_3_ok K a1266 a1263.Prog a1263.Source a1263.Limit a1263.Parts r1736 K [] 0 _ h1746), trivial⟩
      exact fn_playC hn100 (f := 100) (ads := [.agg (eGGraph a1262), .agg (eGJob a1263), .one (.lit (.int .i64 a1264)), .one (.lit (.int .i64 a1265)), .one (.lit (.int .i64 a1266)), .one (.lit (.int .i64 a1267)), .one (.lit (.bool a1268))]) (r := F100_res (GTurned.mk 0 [] false 8)) (pq1814 (pq1815 (pq1816 (pq1833 (pq1834 (pq1841 pz)))))) (by kernel_rfl) (by kernel_rfl)
    have pq1842 : ∀ {l : List Cond}, HoldAll E H hn100 l → HoldAll E H hn100 (.test (beqb (ieq a1263.Prog 3) true) false :: .test (beqb (ieq a1263.Prog 3) true) false :: .test (beqb (ieq a1263.Prog 3) true) false :: .test (beqb (ieq a1263.Prog 3) true) false :: .test (ieq a1263.Prog 3) false :: .test false false :: l) := fun z => ⟨(beqb_t h1653), (beqb_t h1653), (beqb_t h1653), (beqb_t h1653), h1653, rfl, z⟩
    refine cond_some hF (fun h1751 hF => ?_) (fun h1751 hF => ?_)
    ·
      refine bind_some hF (fun r1752 h1753 hF => ?_)
      have pq1843 : ∀ {l : List Cond}, HoldAll E H hn100 l → HoldAll E H hn100 (.test a1268 true :: .call 98 [.one (.lit (.int .i64 a1263.Prog)), .one (.lit (.int .i64 a1266)), .one (.lit (.int .i64 a1267))] (F98_res r1752) :: .test (leadsAny (Res.mk [(.one (.im (.lit (.int .i64 r1752.1)))), (.one (.im (.lit (.int .i64 r1752.2))))] [])) false :: l) := fun z => ⟨h1751, (F98_ok K a1263.Prog a1266 a1267 _ h1753), (leads_ok (by simp only [leadsAny, List.any_cons, List.any_nil, RV.leads, RC.leads, leadsT, hasSl_lit, Bool.or_false, flat_ns (eInt_ns _), flat_ns eBool_ns, flat_ns eStr_ns, flat_ns eGJob_ns, flat_ns eGEdge_ns, flat_ns eGAsked_ns, flat_ns eGMsg_ns, flat_ns eGrule_ns, flat_ns eGA199_ns, flat_ns eGA202_ns])), z⟩
      refine cond_some hF (fun h1754 hF => ?_) (fun h1754 hF => ?_)
      ·
        refine bind_some hF (fun r1755 h1756 hF => ?_)
        have pq1844 : ∀ {l : List Cond}, HoldAll E H hn100 l → HoldAll E H hn100 (.test (beqb (ieq a1264 0) false) false :: .test (beqb (ieq a1264 0) false) false :: .test (beqb (ieq a1264 0) false) false :: .test (ieq a1264 0) true :: .call 69 [.agg (eGGraph a1262), .one (.lit (.int .i64 a1265))] (F69_res r1755) :: .test (leadsAny (Res.mk [(.one (.own 89 (.sl (len r1755) (flat eGEdge r1755))))] [])) false :: l) := fun z => ⟨(beqb_ft h1754), (beqb_ft h1754), (beqb_ft h1754), h1754, (F69_ok K a1262 a1265 _ h1756), (leads_ok (by simp only [leadsAny, List.any_cons, List.any_nil, RV.leads, RC.leads, leadsT, hasSl_lit, Bool.or_false, flat_ns (eInt_ns _), flat_ns eBool_ns, flat_ns eStr_ns, flat_ns eGJob_ns, flat_ns eGEdge_ns, flat_ns eGAsked_ns, flat_ns eGMsg_ns, flat_ns eGrule_ns, flat_ns eGA199_ns, flat_ns eGA202_ns])), z⟩
        refine bind_some hF (fun y1765 h1764 hF => ?_)
        refine sum_some hF (fun w1766 hx hF => ?_) (fun w1767 hx hF => ?_)
        ·
          subst hx
          have hr := Option.some.inj hF
          subst hr
          have pz : HoldAll E H hn100 [.loop 0 c100_0 (F100_l0_1_S r1752.1 a1263.Prog a1263.Source a1263.Limit a1263.Parts r1755 [] 0) .ret (F100_l0_1_X0 r1752.1 a1263.Prog a1263.Source a1263.Limit a1263.Parts r1755 w1766)] := ⟨(F100_l0_1_ok K r1752.1 a1263.Prog a1263.Source a1263.Limit a1263.Parts r1755 K [] 0 _ h1764), trivial⟩
          exact fn_playC hn100 (f := 100) (ads := [.agg (eGGraph a1262), .agg (eGJob a1263), .one (.lit (.int .i64 a1264)), .one (.lit (.int .i64 a1265)), .one (.lit (.int .i64 a1266)), .one (.lit (.int .i64 a1267)), .one (.lit (.bool a1268))]) (r := F100_res (GTurned.mk 0 [] false 8)) (pq1814 (pq1815 (pq1816 (pq1833 (pq1842 (pq1843 (pq1844 pz))))))) (by kernel_rfl) (by kernel_rfl)
        subst hx
        have hr := Option.some.inj hF
        subst hr
        have pz : HoldAll E H hn100 [.loop 0 c100_0 (F100_l0_1_S r1752.1 a1263.Prog a1263.Source a1263.Limit a1263.Parts r1755 [] 0) (.exit 0) (F100_l0_1_X1 r1752.1 a1263.Prog a1263.Source a1263.Limit a1263.Parts r1755 w1767)] := ⟨(F100_l0_1_ok K r1752.1 a1263.Prog a1263.Source a1263.Limit a1263.Parts r1755 K [] 0 _ h1764), trivial⟩
        exact fn_playC hn100 (f := 100) (ads := [.agg (eGGraph a1262), .agg (eGJob a1263), .one (.lit (.int .i64 a1264)), .one (.lit (.int .i64 a1265)), .one (.lit (.int .i64 a1266)), .one (.lit (.int .i64 a1267)), .one (.lit (.bool a1268))]) (r := F100_res (GTurned.mk r1752.1 w1767 true 0)) (pq1814 (pq1815 (pq1816 (pq1833 (pq1842 (pq1843 (pq1844 pz))))))) (by kernel_rfl) (by kernel_rfl)
      refine bind_some hF (fun r1769 h1770 hF => ?_)
      have pq1845 : ∀ {l : List Cond}, HoldAll E H hn100 l → HoldAll E H hn100 (.test (beqb (ieq a1264 0) false) true :: .test (beqb (ieq a1264 0) false) true :: .test (beqb (ieq a1264 0) false) true :: .test (ieq a1264 0) false :: .call 69 [.agg (eGGraph a1262), .one (.lit (.int .i64 a1265))] (F69_res r1769) :: .test (leadsAny (Res.mk [(.one (.own 89 (.sl (len r1769) (flat eGEdge r1769))))] [])) false :: l) := fun z => ⟨(beqb_ff h1754), (beqb_ff h1754), (beqb_ff h1754), h1754, (F69_ok K a1262 a1265 _ h1770), (leads_ok (by simp only [leadsAny, List.any_cons, List.any_nil, RV.leads, RC.leads, leadsT, hasSl_lit, Bool.or_false, flat_ns (eInt_ns _), flat_ns eBool_ns, flat_ns eStr_ns, flat_ns eGJob_ns, flat_ns eGEdge_ns, flat_ns eGAsked_ns, flat_ns eGMsg_ns, flat_ns eGrule_ns, flat_ns eGA199_ns, flat_ns eGA202_ns])), z⟩
      refine bind_some hF (fun y1780 h1779 hF => ?_)
      refine sum_some hF (fun w1781 hx hF => ?_) (fun w1782 hx hF => ?_)
      ·
        subst hx
        have hr := Option.some.inj hF
        subst hr
        have pz : HoldAll E H hn100 [.loop 0 c100_0 (F100_l0_2_S r1752.1 a1263.Prog a1263.Source a1263.Limit a1263.Parts (ine r1752.1 a1266) r1769 [] 0) .ret (F100_l0_2_X0 r1752.1 a1263.Prog a1263.Source a1263.Limit a1263.Parts (ine r1752.1 a1266) r1769 w1781)] := ⟨(F100_l0_2_ok K r1752.1 a1263.Prog a1263.Source a1263.Limit a1263.Parts (ine r1752.1 a1266) r1769 K [] 0 _ h1779), trivial⟩
        exact fn_playC hn100 (f := 100) (ads := [.agg (eGGraph a1262), .agg (eGJob a1263), .one (.lit (.int .i64 a1264)), .one (.lit (.int .i64 a1265)), .one (.lit (.int .i64 a1266)), .one (.lit (.int .i64 a1267)), .one (.lit (.bool a1268))]) (r := F100_res (GTurned.mk 0 [] false 8)) (pq1814 (pq1815 (pq1816 (pq1833 (pq1842 (pq1843 (pq1845 pz))))))) (by kernel_rfl) (by kernel_rfl)
      subst hx
      have hr := Option.some.inj hF
      subst hr
      have pz : HoldAll E H hn100 [.loop 0 c100_0 (F100_l0_2_S r1752.1 a1263.Prog a1263.Source a1263.Limit a1263.Parts (ine r1752.1 a1266) r1769 [] 0) (.exit 0) (F100_l0_2_X1 r1752.1 a1263.Prog a1263.Source a1263.Limit a1263.Parts (ine r1752.1 a1266) r1769 w1782)] := ⟨(F100_l0_2_ok K r1752.1 a1263.Prog a1263.Source a1263.Limit a1263.Parts (ine r1752.1 a1266) r1769 K [] 0 _ h1779), trivial⟩
      exact fn_playC hn100 (f := 100) (ads := [.agg (eGGraph a1262), .agg (eGJob a1263), .one (.lit (.int .i64 a1264)), .one (.lit (.int .i64 a1265)), .one (.lit (.int .i64 a1266)), .one (.lit (.int .i64 a1267)), .one (.lit (.bool a1268))]) (r := F100_res (GTurned.mk r1752.1 w1782 true 0)) (pq1814 (pq1815 (pq1816 (pq1833 (pq1842 (pq1843 (pq1845 pz))))))) (by kernel_rfl) (by kernel_rfl)
    refine cond_some hF (fun h1784 hF => ?_) (fun h1784 hF => ?_)
    ·
      refine bind_some hF (fun r1785 h1786 hF => ?_)
      have pq1846 : ∀ {l : List Cond}, HoldAll E H hn100 l → HoldAll E H hn100 (.test a1268 false :: .test (beqb (ieq a1264 0) false) false :: .test (beqb (ieq a1264 0) false) false :: .test (beqb (ieq a1264 0) false) false :: .test (ieq a1264 0) true :: .call 69 [.agg (eGGraph a1262), .one (.lit (.int .i64 a1265))] (F69_res r1785) :: .test (leadsAny (Res.mk [(.one (.own 89 (.sl (len r1785) (flat eGEdge r1785))))] [])) false :: l) := fun z => ⟨h1751, (beqb_ft h1784), (beqb_ft h1784), (beqb_ft h1784), h1784, (F69_ok K a1262 a1265 _ h1786), (leads_ok (by simp only [leadsAny, List.any_cons, List.any_nil, RV.leads, RC.leads, leadsT, hasSl_lit, Bool.or_false, flat_ns (eInt_ns _), flat_ns eBool_ns, flat_ns eStr_ns, flat_ns eGJob_ns, flat_ns eGEdge_ns, flat_ns eGAsked_ns, flat_ns eGMsg_ns, flat_ns eGrule_ns, flat_ns eGA199_ns, flat_ns eGA202_ns])), z⟩
      refine bind_some hF (fun y1795 h1794 hF => ?_)
      refine sum_some hF (fun w1796 hx hF => ?_) (fun w1797 hx hF => ?_)
      ·
        subst hx
        have hr := Option.some.inj hF
        subst hr
        have pz : HoldAll E H hn100 [.loop 0 c100_0 (F100_l0_1_S a1266 a1263.Prog a1263.Source a1263.Limit a1263.Parts r1785 [] 0) .ret (F100_l0_1_X0 a1266 a1263.Prog a1263.Source a1263.Limit a1263.Parts r1785 w1796)] := ⟨(F100_l0_1_ok K a1266 a1263.Prog a1263.Source a1263.Limit a1263.Parts r1785 K [] 0 _ h1794), trivial⟩
        exact fn_playC hn100 (f := 100) (ads := [.agg (eGGraph a1262), .agg (eGJob a1263), .one (.lit (.int .i64 a1264)), .one (.lit (.int .i64 a1265)), .one (.lit (.int .i64 a1266)), .one (.lit (.int .i64 a1267)), .one (.lit (.bool a1268))]) (r := F100_res (GTurned.mk 0 [] false 8)) (pq1814 (pq1815 (pq1816 (pq1833 (pq1842 (pq1846 pz)))))) (by kernel_rfl) (by kernel_rfl)
      subst hx
      have hr := Option.some.inj hF
      subst hr
      have pz : HoldAll E H hn100 [.loop 0 c100_0 (F100_l0_1_S a1266 a1263.Prog a1263.Source a1263.Limit a1263.Parts r1785 [] 0) (.exit 0) (F100_l0_1_X1 a1266 a1263.Prog a1263.Source a1263.Limit a1263.Parts r1785 w1797)] := ⟨(F100_l0_1_ok K a1266 a1263.Prog a1263.Source a1263.Limit a1263.Parts r1785 K [] 0 _ h1794), trivial⟩
      exact fn_playC hn100 (f := 100) (ads := [.agg (eGGraph a1262), .agg (eGJob a1263), .one (.lit (.int .i64 a1264)), .one (.lit (.int .i64 a1265)), .one (.lit (.int .i64 a1266)), .one (.lit (.int .i64 a1267)), .one (.lit (.bool a1268))]) (r := F100_res (GTurned.mk a1266 w1797 true 0)) (pq1814 (pq1815 (pq1816 (pq1833 (pq1842 (pq1846 pz)))))) (by kernel_rfl) (by kernel_rfl)
    refine bind_some hF (fun r1799 h1800 hF => ?_)
    have pq1847 : ∀ {l : List Cond}, HoldAll E H hn100 l → HoldAll E H hn100 (.test a1268 false :: .test (beqb (ieq a1264 0) false) true :: .test (beqb (ieq a1264 0) false) true :: .test (beqb (ieq a1264 0) false) true :: .test (ieq a1264 0) false :: .call 69 [.agg (eGGraph a1262), .one (.lit (.int .i64 a1265))] (F69_res r1799) :: .test (leadsAny (Res.mk [(.one (.own 89 (.sl (len r1799) (flat eGEdge r1799))))] [])) false :: l) := fun z => ⟨h1751, (beqb_ff h1784), (beqb_ff h1784), (beqb_ff h1784), h1784, (F69_ok K a1262 a1265 _ h1800), (leads_ok (by simp only [leadsAny, List.any_cons, List.any_nil, RV.leads, RC.leads, leadsT, hasSl_lit, Bool.or_false, flat_ns (eInt_ns _), flat_ns eBool_ns, flat_ns eStr_ns, flat_ns eGJob_ns, flat_ns eGEdge_ns, flat_ns eGAsked_ns, flat_ns eGMsg_ns, flat_ns eGrule_ns, flat_ns eGA199_ns, flat_ns eGA202_ns])), z⟩
    refine bind_some hF (fun y1810 h1809 hF => ?_)
    refine sum_some hF (fun w1811 hx hF => ?_) (fun w1813 hx hF => ?_)
    ·
      subst hx
      have hr := Option.some.inj hF
      subst hr
      have pz : HoldAll E H hn100 [.loop 0 c100_0 (F100_l0_3_S a1266 a1263.Prog a1263.Source a1263.Limit a1263.Parts r1799 [] 0) (.exit 0) (F100_l0_3_X0 a1266 a1263.Prog a1263.Source a1263.Limit a1263.Parts r1799 w1811)] := ⟨(F100_l0_3_ok K a1266 a1263.Prog a1263.Source a1263.Limit a1263.Parts r1799 K [] 0 _ h1809), trivial⟩
      exact fn_playC hn100 (f := 100) (ads := [.agg (eGGraph a1262), .agg (eGJob a1263), .one (.lit (.int .i64 a1264)), .one (.lit (.int .i64 a1265)), .one (.lit (.int .i64 a1266)), .one (.lit (.int .i64 a1267)), .one (.lit (.bool a1268))]) (r := F100_res (GTurned.mk a1266 w1811 true 0)) (pq1814 (pq1815 (pq1816 (pq1833 (pq1842 (pq1847 pz)))))) (by kernel_rfl) (by kernel_rfl)
    subst hx
    have hr := Option.some.inj hF
    subst hr
    have pz : HoldAll E H hn100 [.loop 0 c100_0 (F100_l0_3_S a1266 a1263.Prog a1263.Source a1263.Limit a1263.Parts r1799 [] 0) .ret (F100_l0_3_X1 a1266 a1263.Prog a1263.Source a1263.Limit a1263.Parts r1799 w1813)] := ⟨(F100_l0_3_ok K a1266 a1263.Prog a1263.Source a1263.Limit a1263.Parts r1799 K [] 0 _ h1809), trivial⟩
    exact fn_playC hn100 (f := 100) (ads := [.agg (eGGraph a1262), .agg (eGJob a1263), .one (.lit (.int .i64 a1264)), .one (.lit (.int .i64 a1265)), .one (.lit (.int .i64 a1266)), .one (.lit (.int .i64 a1267)), .one (.lit (.bool a1268))]) (r := F100_res (GTurned.mk 0 [] false 8)) (pq1814 (pq1815 (pq1816 (pq1833 (pq1842 (pq1847 pz)))))) (by kernel_rfl) (by kernel_rfl)
  have hr := Option.some.inj hF
  subst hr
  have pz : HoldAll E H hn100 [.call 59 [.agg (eGGraph a1262), .agg (eGJob a1263)] (F59_res r1269), .test (leadsAny (Res.mk [(.one (.im (.lit (.int .i64 r1269))))] [])) false, .test (ine r1269 0) true] := ⟨(F59_ok K a1262 a1263 _ h1270), (leads_ok (by simp only [leadsAny, List.any_cons, List.any_nil, RV.leads, RC.leads, leadsT, hasSl_lit, Bool.or_false, flat_ns (eInt_ns _), flat_ns eBool_ns, flat_ns eStr_ns, flat_ns eGJob_ns, flat_ns eGEdge_ns, flat_ns eGAsked_ns, flat_ns eGMsg_ns, flat_ns eGrule_ns, flat_ns eGA199_ns, flat_ns eGA202_ns])), (ine_f h1271), trivial⟩
  exact fn_playC hn100 (f := 100) (ads := [.agg (eGGraph a1262), .agg (eGJob a1263), .one (.lit (.int .i64 a1264)), .one (.lit (.int .i64 a1265)), .one (.lit (.int .i64 a1266)), .one (.lit (.int .i64 a1267)), .one (.lit (.bool a1268))]) (r := F100_res (GTurned.mk 0 [] false r1269)) pz (by kernel_rfl) (by kernel_rfl)

end Go.Proofs.Ytnjanliihnadjaa.Tm

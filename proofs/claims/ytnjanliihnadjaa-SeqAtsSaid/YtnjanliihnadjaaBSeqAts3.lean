/- What the row of SeqAts leans on: printed functions and plain laws. Conditions: none. -/
import Derived.Test.YtnjanliihnadjaaTy
import Derived.Test.YtnjanliihnadjaaTab
import Derived.Test.YtnjanliihnadjaaKn
import Derived.Test.YtnjanliihnadjaaWf
import Derived.IntWalk
import Derived.KernelRfl
import Derived.OpenShut
import Derived.Test.YtnjanliihnadjaaBSeqAts2
set_option linter.unusedVariables false
set_option linter.unusedSimpArgs false
namespace Go.Proofs.Ytnjanliihnadjaa.Tm
open Go
theorem F100_ok (K : Nat) (a1262 : GGraph) (a1263 : GJob) (a1264 : Int) (a1265 : Int) (a1266 : Int) (a1267 : Int) (a1268 : Bool) (r : GTurned) (hF : F100 K a1262 a1263 a1264 a1265 a1266 a1267 a1268 = some r) : Evt E H 100 [.agg (eGGraph a1262), .agg (eGJob a1263), .one (.lit (.int .i64 a1264)), .one (.lit (.int .i64 a1265)), .one (.lit (.int .i64 a1266)), .one (.lit (.int .i64 a1267)), .one (.lit (.bool a1268))] (F100_res r) := by
 rw [F100] at hF
 refine bind_some hF (fun r1269 h1270 hF => ?_)
 refine cond_some hF (fun h1271 hF => ?_) (fun h1271 hF => ?_)
 ·
  have pq1814 : ∀ {l : List Cond}, HoldAll E H hn100 l → HoldAll E H hn100 (.call 59 [.agg (eGGraph a1262), .agg (eGJob a1263)] (F59_res r1269) :: .test (leadsAny (Res.mk [(.one (.im (.lit (.int .i64 r1269))))] [])) false :: .test (ine r1269 0) false :: l) := fun z => ⟨(F59_ok K a1262 a1263 _ h1270), (leads_ok (by simp [leadsAny, RV.leads, RC.leads, leadsT, hasSl_lit, flat_ns eGJob_ns])), (ine_t h1271), z⟩
  refine cond_some hF (fun h1272 hF => ?_) (fun h1272 hF => ?_)
  ·
   obtain rfl := Option.some.inj hF
   have pz : HoldAll E H hn100 [.test (beqb (ilt a1265 0) false) false, .test (beqb (ilt a1265 0) false) false, .test (beqb (ilt a1265 0) false) false, .test (beqb (ilt a1265 0) false) false, .test (ilt a1265 0) true, .test true true] := ⟨(beqb_ft h1272), (beqb_ft h1272), (beqb_ft h1272), (beqb_ft h1272), h1272, rfl, trivial⟩
   exact fn_playC hn100 (r := F100_res (GTurned.mk 0 [] false 4)) (pq1814 pz) (by kernel_rfl) (by kernel_rfl)
  have pq1815 : ∀ {l : List Cond}, HoldAll E H hn100 l → HoldAll E H hn100 (.test (beqb (ilt a1265 0) false) true :: .test (beqb (ilt a1265 0) false) true :: .test (beqb (ilt a1265 0) false) true :: .test (beqb (ilt a1265 0) false) true :: .test (ilt a1265 0) false :: l) := fun z => ⟨(beqb_ff h1272), (beqb_ff h1272), (beqb_ff h1272), (beqb_ff h1272), h1272, z⟩
  refine cond_some hF (fun h1273 hF => ?_) (fun h1273 hF => ?_)
  ·
   obtain rfl := Option.some.inj hF
   have pz : HoldAll E H hn100 [.test (ige a1265 a1262.N) true] := ⟨(ige_eq h1273), trivial⟩
   exact fn_playC hn100 (r := F100_res (GTurned.mk 0 [] false 4)) (pq1814 (pq1815 pz)) (by kernel_rfl) (by kernel_rfl)
  refine cond_some hF (fun h1274 hF => ?_) (fun h1274 hF => ?_)
  ·
   obtain rfl := Option.some.inj hF
   have pz : HoldAll E H hn100 [.test (ige a1265 a1262.N) false, .test (beqb (ilt a1264 0) false) false, .test (beqb (ilt a1264 0) false) false, .test (ilt a1264 0) true, .test true true] := ⟨(ige_eq h1273), (beqb_ft h1274), (beqb_ft h1274), h1274, rfl, trivial⟩
   exact fn_playC hn100 (r := F100_res (GTurned.mk 0 [] false 1)) (pq1814 (pq1815 pz)) (by kernel_rfl) (by kernel_rfl)
  have pq1816 : ∀ {l : List Cond}, HoldAll E H hn100 l → HoldAll E H hn100 (.test (ige a1265 a1262.N) false :: .test (beqb (ilt a1264 0) false) true :: .test (beqb (ilt a1264 0) false) true :: .test (ilt a1264 0) false :: l) := fun z => ⟨(ige_eq h1273), (beqb_ff h1274), (beqb_ff h1274), h1274, z⟩
  refine cond_some hF (fun h1275 hF => ?_) (fun h1275 hF => ?_)
  ·
   obtain rfl := Option.some.inj hF
   have pz : HoldAll E H hn100 [.test (igt a1264 40) true] := ⟨(igt_eq h1275), trivial⟩
   exact fn_playC hn100 (r := F100_res (GTurned.mk 0 [] false 1)) (pq1814 (pq1815 (pq1816 pz))) (by kernel_rfl) (by kernel_rfl)
  refine cond_some hF (fun h1276 hF => ?_) (fun h1276 hF => ?_)
  ·
   refine cond_some hF (fun h1277 hF => ?_) (fun h1277 hF => ?_)
   ·
    have pq1817 : ∀ {l : List Cond}, HoldAll E H hn100 l → HoldAll E H hn100 (.test (igt a1264 40) false :: .test (ieq a1263.Prog 5) true :: .test (bnot a1268) false :: l) := fun z => ⟨(igt_eq h1275), h1276, (bnot_t h1277), z⟩
    refine cond_some hF (fun h1278 hF => ?_) (fun h1278 hF => ?_)
    ·
     refine bind_some hF (fun r1329 h1330 hF => ?_)
     have pq1818 : ∀ {l : List Cond}, HoldAll E H hn100 l → HoldAll E H hn100 (.test (igt a1264 0) true :: .call 147 [.one (.lit (.int .i64 a1267))] (F147_res r1329) :: .test (leadsAny (Res.mk [(.one (.im (.lit (.int .i64 r1329.1)))), (.one (.im (.lit (.bool r1329.2))))] [])) false :: l) := fun z => ⟨(igt_eq h1278), (F147_ok K a1267 _ h1330), (leads_ok (by simp [leadsAny, RV.leads, RC.leads, leadsT, hasSl_lit])), z⟩
     refine cond_some hF (fun h1331 hF => ?_) (fun h1331 hF => ?_)
     ·
      refine bind_some hF (fun r1359 h1360 hF => ?_)
      have pq1819 : ∀ {l : List Cond}, HoldAll E H hn100 l → HoldAll E H hn100 (.test (bnot r1329.2) false :: .call 69 [.agg (eGGraph a1262), .one (.lit (.int .i64 a1265))] (F69_res r1359) :: .test (leadsAny (Res.mk [(.one (.own 89 (.sl (len r1359) (flat eGEdge r1359))))] [])) false :: l) := fun z => ⟨(bnot_t h1331), (F69_ok K a1262 a1265 _ h1360), (leads_ok (by simp [leadsAny, RV.leads, RC.leads, leadsT, hasSl_lit, flat_ns eGEdge_ns])), z⟩
      refine bind_some hF (fun y1410 h1409 hF => ?_)
      refine sum_some hF (fun w1411 hx hF => ?_) (fun w1412 hx hF => ?_)
      ·
       subst hx
       obtain rfl := Option.some.inj hF
       have pz : HoldAll E H hn100 [.loop 0 c100_0 (F100_l0_0_S r1329.1 a1263.Prog a1263.Source a1263.Limit a1263.Parts (ilt a1264 10) r1359 [] 0) .ret (F100_l0_0_X0 r1329.1 a1263.Prog a1263.Source a1263.Limit a1263.Parts (ilt a1264 10) r1359 w1411)] := ⟨(F100_l0_0_ok K r1329.1 a1263.Prog a1263.Source a1263.Limit a1263.Parts (ilt a1264 10) r1359 K [] 0 _ h1409), trivial⟩
       exact fn_playC hn100 (r := F100_res (GTurned.mk 0 [] false 8)) (pq1814 (pq1815 (pq1816 (pq1817 (pq1818 (pq1819 pz)))))) (by kernel_rfl) (by kernel_rfl)
      subst hx
      obtain rfl := Option.some.inj hF
      have pz : HoldAll E H hn100 [.loop 0 c100_0 (F100_l0_0_S r1329.1 a1263.Prog a1263.Source a1263.Limit a1263.Parts (ilt a1264 10) r1359 [] 0) (.exit 0) (F100_l0_0_X1 r1329.1 a1263.Prog a1263.Source a1263.Limit a1263.Parts (ilt a1264 10) r1359 w1412)] := ⟨(F100_l0_0_ok K r1329.1 a1263.Prog a1263.Source a1263.Limit a1263.Parts (ilt a1264 10) r1359 K [] 0 _ h1409), trivial⟩
      exact fn_playC hn100 (r := F100_res (GTurned.mk r1329.1 w1412 (bnot (ilt a1264 10)) 0)) (pq1814 (pq1815 (pq1816 (pq1817 (pq1818 (pq1819 pz)))))) (by kernel_rfl) (by kernel_rfl)
     obtain rfl := Option.some.inj hF
     have pz : HoldAll E H hn100 [.test (bnot r1329.2) true] := ⟨(bnot_f h1331), trivial⟩
     exact fn_playC hn100 (r := F100_res (GTurned.mk 0 [] false 8)) (pq1814 (pq1815 (pq1816 (pq1817 (pq1818 pz))))) (by kernel_rfl) (by kernel_rfl)
    refine bind_some hF (fun r1414 h1415 hF => ?_)
    have pq1820 : ∀ {l : List Cond}, HoldAll E H hn100 l → HoldAll E H hn100 (.test (igt a1264 0) false :: .call 69 [.agg (eGGraph a1262), .one (.lit (.int .i64 a1265))] (F69_res r1414) :: .test (leadsAny (Res.mk [(.one (.own 89 (.sl (len r1414) (flat eGEdge r1414))))] [])) false :: l) := fun z => ⟨(igt_eq h1278), (F69_ok K a1262 a1265 _ h1415), (leads_ok (by simp [leadsAny, RV.leads, RC.leads, leadsT, hasSl_lit, flat_ns eGEdge_ns])), z⟩
    refine bind_some hF (fun y1426 h1425 hF => ?_)
    refine sum_some hF (fun w1427 hx hF => ?_) (fun w1428 hx hF => ?_)
    ·
     subst hx
     obtain rfl := Option.some.inj hF
     have pz : HoldAll E H hn100 [.loop 0 c100_0 (F100_l0_0_S a1266 a1263.Prog a1263.Source a1263.Limit a1263.Parts (ilt a1264 10) r1414 [] 0) .ret (F100_l0_0_X0 a1266 a1263.Prog a1263.Source a1263.Limit a1263.Parts (ilt a1264 10) r1414 w1427)] := ⟨(F100_l0_0_ok K a1266 a1263.Prog a1263.Source a1263.Limit a1263.Parts (ilt a1264 10) r1414 K [] 0 _ h1425), trivial⟩
     exact fn_playC hn100 (r := F100_res (GTurned.mk 0 [] false 8)) (pq1814 (pq1815 (pq1816 (pq1817 (pq1820 pz))))) (by kernel_rfl) (by kernel_rfl)
    subst hx
    obtain rfl := Option.some.inj hF
    have pz : HoldAll E H hn100 [.loop 0 c100_0 (F100_l0_0_S a1266 a1263.Prog a1263.Source a1263.Limit a1263.Parts (ilt a1264 10) r1414 [] 0) (.exit 0) (F100_l0_0_X1 a1266 a1263.Prog a1263.Source a1263.Limit a1263.Parts (ilt a1264 10) r1414 w1428)] := ⟨(F100_l0_0_ok K a1266 a1263.Prog a1263.Source a1263.Limit a1263.Parts (ilt a1264 10) r1414 K [] 0 _ h1425), trivial⟩
    exact fn_playC hn100 (r := F100_res (GTurned.mk a1266 w1428 (bnot (ilt a1264 10)) 0)) (pq1814 (pq1815 (pq1816 (pq1817 (pq1820 pz))))) (by kernel_rfl) (by kernel_rfl)
   have pq1821 : ∀ {l : List Cond}, HoldAll E H hn100 l → HoldAll E H hn100 (.test (igt a1264 40) false :: .test (ieq a1263.Prog 5) true :: .test (bnot a1268) true :: l) := fun z => ⟨(igt_eq h1275), h1276, (bnot_f h1277), z⟩
   refine cond_some hF (fun h1430 hF => ?_) (fun h1430 hF => ?_)
   ·
    refine bind_some hF (fun r1431 h1432 hF => ?_)
    have pq1822 : ∀ {l : List Cond}, HoldAll E H hn100 l → HoldAll E H hn100 (.test (igt a1264 0) true :: .call 147 [.one (.lit (.int .i64 0))] (F147_res r1431) :: .test (leadsAny (Res.mk [(.one (.im (.lit (.int .i64 r1431.1)))), (.one (.im (.lit (.bool r1431.2))))] [])) false :: l) := fun z => ⟨(igt_eq h1430), (F147_ok K 0 _ h1432), (leads_ok (by simp [leadsAny, RV.leads, RC.leads, leadsT, hasSl_lit])), z⟩
    refine cond_some hF (fun h1433 hF => ?_) (fun h1433 hF => ?_)
    ·
     refine bind_some hF (fun r1434 h1435 hF => ?_)
     have pq1823 : ∀ {l : List Cond}, HoldAll E H hn100 l → HoldAll E H hn100 (.test (bnot r1431.2) false :: .call 69 [.agg (eGGraph a1262), .one (.lit (.int .i64 a1265))] (F69_res r1434) :: .test (leadsAny (Res.mk [(.one (.own 89 (.sl (len r1434) (flat eGEdge r1434))))] [])) false :: l) := fun z => ⟨(bnot_t h1433), (F69_ok K a1262 a1265 _ h1435), (leads_ok (by simp [leadsAny, RV.leads, RC.leads, leadsT, hasSl_lit, flat_ns eGEdge_ns])), z⟩
     refine bind_some hF (fun y1446 h1445 hF => ?_)
     refine sum_some hF (fun w1447 hx hF => ?_) (fun w1448 hx hF => ?_)
     ·
      subst hx
      obtain rfl := Option.some.inj hF
      have pz : HoldAll E H hn100 [.loop 0 c100_0 (F100_l0_0_S r1431.1 a1263.Prog a1263.Source a1263.Limit a1263.Parts (ilt a1264 10) r1434 [] 0) .ret (F100_l0_0_X0 r1431.1 a1263.Prog a1263.Source a1263.Limit a1263.Parts (ilt a1264 10) r1434 w1447)] := ⟨(F100_l0_0_ok K r1431.1 a1263.Prog a1263.Source a1263.Limit a1263.Parts (ilt a1264 10) r1434 K [] 0 _ h1445), trivial⟩
      exact fn_playC hn100 (r := F100_res (GTurned.mk 0 [] false 8)) (pq1814 (pq1815 (pq1816 (pq1821 (pq1822 (pq1823 pz)))))) (by kernel_rfl) (by kernel_rfl)
     subst hx
     obtain rfl := Option.some.inj hF
     have pz : HoldAll E H hn100 [.loop 0 c100_0 (F100_l0_0_S r1431.1 a1263.Prog a1263.Source a1263.Limit a1263.Parts (ilt a1264 10) r1434 [] 0) (.exit 0) (F100_l0_0_X1 r1431.1 a1263.Prog a1263.Source a1263.Limit a1263.Parts (ilt a1264 10) r1434 w1448)] := ⟨(F100_l0_0_ok K r1431.1 a1263.Prog a1263.Source a1263.Limit a1263.Parts (ilt a1264 10) r1434 K [] 0 _ h1445), trivial⟩
     exact fn_playC hn100 (r := F100_res (GTurned.mk r1431.1 w1448 (bnot (ilt a1264 10)) 0)) (pq1814 (pq1815 (pq1816 (pq1821 (pq1822 (pq1823 pz)))))) (by kernel_rfl) (by kernel_rfl)
    obtain rfl := Option.some.inj hF
    have pz : HoldAll E H hn100 [.test (bnot r1431.2) true] := ⟨(bnot_f h1433), trivial⟩
    exact fn_playC hn100 (r := F100_res (GTurned.mk 0 [] false 8)) (pq1814 (pq1815 (pq1816 (pq1821 (pq1822 pz))))) (by kernel_rfl) (by kernel_rfl)
   refine bind_some hF (fun r1450 h1451 hF => ?_)
   have pq1824 : ∀ {l : List Cond}, HoldAll E H hn100 l → HoldAll E H hn100 (.test (igt a1264 0) false :: .call 69 [.agg (eGGraph a1262), .one (.lit (.int .i64 a1265))] (F69_res r1450) :: .test (leadsAny (Res.mk [(.one (.own 89 (.sl (len r1450) (flat eGEdge r1450))))] [])) false :: l) := fun z => ⟨(igt_eq h1430), (F69_ok K a1262 a1265 _ h1451), (leads_ok (by simp [leadsAny, RV.leads, RC.leads, leadsT, hasSl_lit, flat_ns eGEdge_ns])), z⟩
   refine bind_some hF (fun y1462 h1461 hF => ?_)
   refine sum_some hF (fun w1463 hx hF => ?_) (fun w1464 hx hF => ?_)
   ·
    subst hx
    obtain rfl := Option.some.inj hF
    have pz : HoldAll E H hn100 [.loop 0 c100_0 (F100_l0_0_S a1266 a1263.Prog a1263.Source a1263.Limit a1263.Parts (ilt a1264 10) r1450 [] 0) .ret (F100_l0_0_X0 a1266 a1263.Prog a1263.Source a1263.Limit a1263.Parts (ilt a1264 10) r1450 w1463)] := ⟨(F100_l0_0_ok K a1266 a1263.Prog a1263.Source a1263.Limit a1263.Parts (ilt a1264 10) r1450 K [] 0 _ h1461), trivial⟩
    exact fn_playC hn100 (r := F100_res (GTurned.mk 0 [] false 8)) (pq1814 (pq1815 (pq1816 (pq1821 (pq1824 pz))))) (by kernel_rfl) (by kernel_rfl)
   subst hx
   obtain rfl := Option.some.inj hF
   have pz : HoldAll E H hn100 [.loop 0 c100_0 (F100_l0_0_S a1266 a1263.Prog a1263.Source a1263.Limit a1263.Parts (ilt a1264 10) r1450 [] 0) (.exit 0) (F100_l0_0_X1 a1266 a1263.Prog a1263.Source a1263.Limit a1263.Parts (ilt a1264 10) r1450 w1464)] := ⟨(F100_l0_0_ok K a1266 a1263.Prog a1263.Source a1263.Limit a1263.Parts (ilt a1264 10) r1450 K [] 0 _ h1461), trivial⟩
   exact fn_playC hn100 (r := F100_res (GTurned.mk a1266 w1464 (bnot (ilt a1264 10)) 0)) (pq1814 (pq1815 (pq1816 (pq1821 (pq1824 pz))))) (by kernel_rfl) (by kernel_rfl)
  refine cond_some hF (fun h1466 hF => ?_) (fun h1466 hF => ?_)
  ·
   have pq1825 : ∀ {l : List Cond}, HoldAll E H hn100 l → HoldAll E H hn100 (.test (igt a1264 40) false :: .test (ieq a1263.Prog 5) false :: .test (beqb (ieq a1263.Prog 1) false) false :: .test (beqb (ieq a1263.Prog 1) false) false :: .test (beqb (ieq a1263.Prog 1) false) false :: .test (ieq a1263.Prog 1) true :: .test (beqb true true) true :: .test (beqb true true) true :: .test (beqb true true) true :: .test (beqb true true) true :: .test true true :: l) := fun z => ⟨(igt_eq h1275), h1276, (beqb_ft h1466), (beqb_ft h1466), (beqb_ft h1466), h1466, (beqb_t rfl), (beqb_t rfl), (beqb_t rfl), (beqb_t rfl), rfl, z⟩
   refine cond_some hF (fun h1467 hF => ?_) (fun h1467 hF => ?_)
   ·
    refine cond_some hF (fun h1468 hF => ?_) (fun h1468 hF => ?_)
    ·
     refine bind_some hF (fun r1486 h1487 hF => ?_)
     have pq1826 : ∀ {l : List Cond}, HoldAll E H hn100 l → HoldAll E H hn100 (.test (ine a1265 a1263.Source) false :: .test a1268 true :: .call 98 [.one (.lit (.int .i64 a1263.Prog)), .one (.lit (.int .i64 a1266)), .one (.lit (.int .i64 a1267))] (F98_res r1486) :: .test (leadsAny (Res.mk [(.one (.im (.lit (.int .i64 r1486.1)))), (.one (.im (.lit (.int .i64 r1486.2))))] [])) false :: l) := fun z => ⟨(ine_t h1467), h1468, (F98_ok K a1263.Prog a1266 a1267 _ h1487), (leads_ok (by simp [leadsAny, RV.leads, RC.leads, leadsT, hasSl_lit])), z⟩
     refine cond_some hF (fun h1488 hF => ?_) (fun h1488 hF => ?_)
     ·
      refine bind_some hF (fun r1489 h1490 hF => ?_)
      have pq1827 : ∀ {l : List Cond}, HoldAll E H hn100 l → HoldAll E H hn100 (.test (beqb (ieq a1264 0) false) false :: .test (beqb (ieq a1264 0) false) false :: .test (beqb (ieq a1264 0) false) false :: .test (ieq a1264 0) true :: .call 69 [.agg (eGGraph a1262), .one (.lit (.int .i64 a1265))] (F69_res r1489) :: .test (leadsAny (Res.mk [(.one (.own 89 (.sl (len r1489) (flat eGEdge r1489))))] [])) false :: l) := fun z => ⟨(beqb_ft h1488), (beqb_ft h1488), (beqb_ft h1488), h1488, (F69_ok K a1262 a1265 _ h1490), (leads_ok (by simp [leadsAny, RV.leads, RC.leads, leadsT, hasSl_lit, flat_ns eGEdge_ns])), z⟩
      refine bind_some hF (fun y1521 h1520 hF => ?_)
      refine sum_some hF (fun w1522 hx hF => ?_) (fun w1523 hx hF => ?_)
      ·
       subst hx
       obtain rfl := Option.some.inj hF
       have pz : HoldAll E H hn100 [.loop 0 c100_0 (F100_l0_1_S r1486.1 a1263.Prog a1263.Source a1263.Limit a1263.Parts r1489 [] 0) .ret (F100_l0_1_X0 r1486.1 a1263.Prog a1263.Source a1263.Limit a1263.Parts r1489 w1522)] := ⟨(F100_l0_1_ok K r1486.1 a1263.Prog a1263.Source a1263.Limit a1263.Parts r1489 K [] 0 _ h1520), trivial⟩
       exact fn_playC hn100 (r := F100_res (GTurned.mk 0 [] false 8)) (pq1814 (pq1815 (pq1816 (pq1825 (pq1826 (pq1827 pz)))))) (by kernel_rfl) (by kernel_rfl)
      subst hx
      obtain rfl := Option.some.inj hF
      have pz : HoldAll E H hn100 [.loop 0 c100_0 (F100_l0_1_S r1486.1 a1263.Prog a1263.Source a1263.Limit a1263.Parts r1489 [] 0) (.exit 0) (F100_l0_1_X1 r1486.1 a1263.Prog a1263.Source a1263.Limit a1263.Parts r1489 w1523)] := ⟨(F100_l0_1_ok K r1486.1 a1263.Prog a1263.Source a1263.Limit a1263.Parts r1489 K [] 0 _ h1520), trivial⟩
      exact fn_playC hn100 (r := F100_res (GTurned.mk r1486.1 w1523 true 0)) (pq1814 (pq1815 (pq1816 (pq1825 (pq1826 (pq1827 pz)))))) (by kernel_rfl) (by kernel_rfl)
     refine bind_some hF (fun r1525 h1526 hF => ?_)
     have pq1828 : ∀ {l : List Cond}, HoldAll E H hn100 l → HoldAll E H hn100 (.test (beqb (ieq a1264 0) false) true :: .test (beqb (ieq a1264 0) false) true :: .test (beqb (ieq a1264 0) false) true :: .test (ieq a1264 0) false :: .call 69 [.agg (eGGraph a1262), .one (.lit (.int .i64 a1265))] (F69_res r1525) :: .test (leadsAny (Res.mk [(.one (.own 89 (.sl (len r1525) (flat eGEdge r1525))))] [])) false :: l) := fun z => ⟨(beqb_ff h1488), (beqb_ff h1488), (beqb_ff h1488), h1488, (F69_ok K a1262 a1265 _ h1526), (leads_ok (by simp [leadsAny, RV.leads, RC.leads, leadsT, hasSl_lit, flat_ns eGEdge_ns])), z⟩
     refine bind_some hF (fun y1561 h1560 hF => ?_)
     refine sum_some hF (fun w1562 hx hF => ?_) (fun w1563 hx hF => ?_)
     ·
      subst hx
      obtain rfl := Option.some.inj hF
      have pz : HoldAll E H hn100 [.loop 0 c100_0 (F100_l0_2_S r1486.1 a1263.Prog a1263.Source a1263.Limit a1263.Parts (ine r1486.1 a1266) r1525 [] 0) .ret (F100_l0_2_X0 r1486.1 a1263.Prog a1263.Source a1263.Limit a1263.Parts (ine r1486.1 a1266) r1525 w1562)] := ⟨(F100_l0_2_ok K r1486.1 a1263.Prog a1263.Source a1263.Limit a1263.Parts (ine r1486.1 a1266) r1525 K [] 0 _ h1560), trivial⟩
      exact fn_playC hn100 (r := F100_res (GTurned.mk 0 [] false 8)) (pq1814 (pq1815 (pq1816 (pq1825 (pq1826 (pq1828 pz)))))) (by kernel_rfl) (by kernel_rfl)
     subst hx
     obtain rfl := Option.some.inj hF
     have pz : HoldAll E H hn100 [.loop 0 c100_0 (F100_l0_2_S r1486.1 a1263.Prog a1263.Source a1263.Limit a1263.Parts (ine r1486.1 a1266) r1525 [] 0) (.exit 0) (F100_l0_2_X1 r1486.1 a1263.Prog a1263.Source a1263.Limit a1263.Parts (ine r1486.1 a1266) r1525 w1563)] := ⟨(F100_l0_2_ok K r1486.1 a1263.Prog a1263.Source a1263.Limit a1263.Parts (ine r1486.1 a1266) r1525 K [] 0 _ h1560), trivial⟩
     exact fn_playC hn100 (r := F100_res (GTurned.mk r1486.1 w1563 true 0)) (pq1814 (pq1815 (pq1816 (pq1825 (pq1826 (pq1828 pz)))))) (by kernel_rfl) (by kernel_rfl)
    refine cond_some hF (fun h1565 hF => ?_) (fun h1565 hF => ?_)
    ·
     refine bind_some hF (fun r1566 h1567 hF => ?_)
     have pq1829 : ∀ {l : List Cond}, HoldAll E H hn100 l → HoldAll E H hn100 (.test (ine a1265 a1263.Source) false :: .test a1268 false :: .test (beqb (ieq a1264 0) false) false :: .test (beqb (ieq a1264 0) false) false :: .test (beqb (ieq a1264 0) false) false :: .test (ieq a1264 0) true :: .call 69 [.agg (eGGraph a1262), .one (.lit (.int .i64 a1265))] (F69_res r1566) :: .test (leadsAny (Res.mk [(.one (.own 89 (.sl (len r1566) (flat eGEdge r1566))))] [])) false :: l) := fun z => ⟨(ine_t h1467), h1468, (beqb_ft h1565), (beqb_ft h1565), (beqb_ft h1565), h1565, (F69_ok K a1262 a1265 _ h1567), (leads_ok (by simp [leadsAny, RV.leads, RC.leads, leadsT, hasSl_lit, flat_ns eGEdge_ns])), z⟩
     refine bind_some hF (fun y1576 h1575 hF => ?_)
     refine sum_some hF (fun w1577 hx hF => ?_) (fun w1578 hx hF => ?_)
     ·
      subst hx
      obtain rfl := Option.some.inj hF
      have pz : HoldAll E H hn100 [.loop 0 c100_0 (F100_l0_1_S a1266 a1263.Prog a1263.Source a1263.Limit a1263.Parts r1566 [] 0) .ret (F100_l0_1_X0 a1266 a1263.Prog a1263.Source a1263.Limit a1263.Parts r1566 w1577)] := ⟨(F100_l0_1_ok K a1266 a1263.Prog a1263.Source a1263.Limit a1263.Parts r1566 K [] 0 _ h1575), trivial⟩
      exact fn_playC hn100 (r := F100_res (GTurned.mk 0 [] false 8)) (pq1814 (pq1815 (pq1816 (pq1825 (pq1829 pz))))) (by kernel_rfl) (by kernel_rfl)
     subst hx
     obtain rfl := Option.some.inj hF
     have pz : HoldAll E H hn100 [.loop 0 c100_0 (F100_l0_1_S a1266 a1263.Prog a1263.Source a1263.Limit a1263.Parts r1566 [] 0) (.exit 0) (F100_l0_1_X1 a1266 a1263.Prog a1263.Source a1263.Limit a1263.Parts r1566 w1578)] := ⟨(F100_l0_1_ok K a1266 a1263.Prog a1263.Source a1263.Limit a1263.Parts r1566 K [] 0 _ h1575), trivial⟩
     exact fn_playC hn100 (r := F100_res (GTurned.mk a1266 w1578 true 0)) (pq1814 (pq1815 (pq1816 (pq1825 (pq1829 pz))))) (by kernel_rfl) (by kernel_rfl)
    refine bind_some hF (fun r1580 h1581 hF => ?_)
    have pq1830 : ∀ {l : List Cond}, HoldAll E H hn100 l → HoldAll E H hn100 (.test (ine a1265 a1263.Source) false :: .test a1268 false :: .test (beqb (ieq a1264 0) false) true :: .test (beqb (ieq a1264 0) false) true :: .test (beqb (ieq a1264 0) false) true :: .test (ieq a1264 0) false :: .call 69 [.agg (eGGraph a1262), .one (.lit (.int .i64 a1265))] (F69_res r1580) :: .test (leadsAny (Res.mk [(.one (.own 89 (.sl (len r1580) (flat eGEdge r1580))))] [])) false :: l) := fun z => ⟨(ine_t h1467), h1468, (beqb_ff h1565), (beqb_ff h1565), (beqb_ff h1565), h1565, (F69_ok K a1262 a1265 _ h1581), (leads_ok (by simp [leadsAny, RV.leads, RC.leads, leadsT, hasSl_lit, flat_ns eGEdge_ns])), z⟩
    refine bind_some hF (fun y1616 h1615 hF => ?_)
    refine sum_some hF (fun w1617 hx hF => ?_) (fun w1619 hx hF => ?_)
    ·
     subst hx
     obtain rfl := Option.some.inj hF
     have pz : HoldAll E H hn100 [.loop 0 c100_0 (F100_l0_3_S a1266 a1263.Prog a1263.Source a1263.Limit a1263.Parts r1580 [] 0) (.exit 0) (F100_l0_3_X0 a1266 a1263.Prog a1263.Source a1263.Limit a1263.Parts r1580 w1617)] := ⟨(F100_l0_3_ok K a1266 a1263.Prog a1263.Source a1263.Limit a1263.Parts r1580 K [] 0 _ h1615), trivial⟩
     exact fn_playC hn100 (r := F100_res (GTurned.mk a1266 w1617 true 0)) (pq1814 (pq1815 (pq1816 (pq1825 (pq1830 pz))))) (by kernel_rfl) (by kernel_rfl)
    subst hx
    obtain rfl := Option.some.inj hF
    have pz : HoldAll E H hn100 [.loop 0 c100_0 (F100_l0_3_S a1266 a1263.Prog a1263.Source a1263.Limit a1263.Parts r1580 [] 0) .ret (F100_l0_3_X1 a1266 a1263.Prog a1263.Source a1263.Limit a1263.Parts r1580 w1619)] := ⟨(F100_l0_3_ok K a1266 a1263.Prog a1263.Source a1263.Limit a1263.Parts r1580 K [] 0 _ h1615), trivial⟩
    exact fn_playC hn100 (r := F100_res (GTurned.mk 0 [] false 8)) (pq1814 (pq1815 (pq1816 (pq1825 (pq1830 pz))))) (by kernel_rfl) (by kernel_rfl)
   refine cond_some hF (fun h1620 hF => ?_) (fun h1620 hF => ?_)
   ·
    refine bind_some hF (fun r1621 h1622 hF => ?_)
    refine bind_some hF (fun r1623 h1624 hF => ?_)
    have pq1831 : ∀ {l : List Cond}, HoldAll E H hn100 l → HoldAll E H hn100 (.test (ine a1265 a1263.Source) true :: .test a1268 true :: .call 98 [.one (.lit (.int .i64 a1263.Prog)), .one (.lit (.int .i64 a1266)), .one (.lit (.int .i64 a1267))] (F98_res r1621) :: .test (leadsAny (Res.mk [(.one (.im (.lit (.int .i64 r1621.1)))), (.one (.im (.lit (.int .i64 r1621.2))))] [])) false :: .test (beqb false false) true :: .test (beqb false false) true :: .test (beqb false false) true :: .test false false :: .call 69 [.agg (eGGraph a1262), .one (.lit (.int .i64 a1265))] (F69_res r1623) :: .test (leadsAny (Res.mk [(.one (.own 89 (.sl (len r1623) (flat eGEdge r1623))))] [])) false :: l) := fun z => ⟨(ine_f h1467), h1620, (F98_ok K a1263.Prog a1266 a1267 _ h1622), (leads_ok (by simp [leadsAny, RV.leads, RC.leads, leadsT, hasSl_lit, flat_ns eGEdge_ns])), (beqb_ff rfl), (beqb_ff rfl), (beqb_ff rfl), rfl, (F69_ok K a1262 a1265 _ h1624), (leads_ok (by simp [leadsAny, RV.leads, RC.leads, leadsT, hasSl_lit, flat_ns eGEdge_ns])), z⟩
    refine bind_some hF (fun y1634 h1633 hF => ?_)
    refine sum_some hF (fun w1635 hx hF => ?_) (fun w1636 hx hF => ?_)
    ·
     subst hx
     obtain rfl := Option.some.inj hF
     have pz : HoldAll E H hn100 [.loop 0 c100_0 (F100_l0_2_S r1621.1 a1263.Prog a1263.Source a1263.Limit a1263.Parts (ine r1621.1 a1266) r1623 [] 0) .ret (F100_l0_2_X0 r1621.1 a1263.Prog a1263.Source a1263.Limit a1263.Parts (ine r1621.1 a1266) r1623 w1635)] := ⟨(F100_l0_2_ok K r1621.1 a1263.Prog a1263.Source a1263.Limit a1263.Parts (ine r1621.1 a1266) r1623 K [] 0 _ h1633), trivial⟩
     exact fn_playC hn100 (r := F100_res (GTurned.mk 0 [] false 8)) (pq1814 (pq1815 (pq1816 (pq1825 (pq1831 pz))))) (by kernel_rfl) (by kernel_rfl)
    subst hx
    obtain rfl := Option.some.inj hF
    have pz : HoldAll E H hn100 [.loop 0 c100_0 (F100_l0_2_S r1621.1 a1263.Prog a1263.Source a1263.Limit a1263.Parts (ine r1621.1 a1266) r1623 [] 0) (.exit 0) (F100_l0_2_X1 r1621.1 a1263.Prog a1263.Source a1263.Limit a1263.Parts (ine r1621.1 a1266) r1623 w1636)] := ⟨(F100_l0_2_ok K r1621.1 a1263.Prog a1263.Source a1263.Limit a1263.Parts (ine r1621.1 a1266) r1623 K [] 0 _ h1633), trivial⟩
    exact fn_playC hn100 (r := F100_res (GTurned.mk r1621.1 w1636 true 0)) (pq1814 (pq1815 (pq1816 (pq1825 (pq1831 pz))))) (by kernel_rfl) (by kernel_rfl)
   refine bind_some hF (fun r1638 h1639 hF => ?_)
   have pq1832 : ∀ {l : List Cond}, HoldAll E H hn100 l → HoldAll E H hn100 (.test (ine a1265 a1263.Source) true :: .test a1268 false :: .test (beqb false false) true :: .test (beqb false false) true :: .test (beqb false false) true :: .test false false :: .call 69 [.agg (eGGraph a1262), .one (.lit (.int .i64 a1265))] (F69_res r1638) :: .test (leadsAny (Res.mk [(.one (.own 89 (.sl (len r1638) (flat eGEdge r1638))))] [])) false :: l) := fun z => ⟨(ine_f h1467), h1620, (beqb_ff rfl), (beqb_ff rfl), (beqb_ff rfl), rfl, (F69_ok K a1262 a1265 _ h1639), (leads_ok (by simp [leadsAny, RV.leads, RC.leads, leadsT, hasSl_lit, flat_ns eGEdge_ns])), z⟩
   refine bind_some hF (fun y1649 h1648 hF => ?_)
   refine sum_some hF (fun w1650 hx hF => ?_) (fun w1652 hx hF => ?_)
   ·
    subst hx
    obtain rfl := Option.some.inj hF
    have pz : HoldAll E H hn100 [.loop 0 c100_0 (F100_l0_3_S a1266 a1263.Prog a1263.Source a1263.Limit a1263.Parts r1638 [] 0) (.exit 0) (F100_l0_3_X0 a1266 a1263.Prog a1263.Source a1263.Limit a1263.Parts r1638 w1650)] := ⟨(F100_l0_3_ok K a1266 a1263.Prog a1263.Source a1263.Limit a1263.Parts r1638 K [] 0 _ h1648), trivial⟩
    exact fn_playC hn100 (r := F100_res (GTurned.mk a1266 w1650 true 0)) (pq1814 (pq1815 (pq1816 (pq1825 (pq1832 pz))))) (by kernel_rfl) (by kernel_rfl)
   subst hx
   obtain rfl := Option.some.inj hF
   have pz : HoldAll E H hn100 [.loop 0 c100_0 (F100_l0_3_S a1266 a1263.Prog a1263.Source a1263.Limit a1263.Parts r1638 [] 0) .ret (F100_l0_3_X1 a1266 a1263.Prog a1263.Source a1263.Limit a1263.Parts r1638 w1652)] := ⟨(F100_l0_3_ok K a1266 a1263.Prog a1263.Source a1263.Limit a1263.Parts r1638 K [] 0 _ h1648), trivial⟩
   exact fn_playC hn100 (r := F100_res (GTurned.mk 0 [] false 8)) (pq1814 (pq1815 (pq1816 (pq1825 (pq1832 pz))))) (by kernel_rfl) (by kernel_rfl)
  have pq1833 : ∀ {l : List Cond}, HoldAll E H hn100 l → HoldAll E H hn100 (.test (igt a1264 40) false :: .test (ieq a1263.Prog 5) false :: .test (beqb (ieq a1263.Prog 1) false) true :: .test (beqb (ieq a1263.Prog 1) false) true :: .test (beqb (ieq a1263.Prog 1) false) true :: .test (ieq a1263.Prog 1) false :: l) := fun z => ⟨(igt_eq h1275), h1276, (beqb_ff h1466), (beqb_ff h1466), (beqb_ff h1466), h1466, z⟩
  refine cond_some hF (fun h1653 hF => ?_) (fun h1653 hF => ?_)
  ·
   have pq1834 : ∀ {l : List Cond}, HoldAll E H hn100 l → HoldAll E H hn100 (.test (beqb (ieq a1263.Prog 3) true) true :: .test (beqb (ieq a1263.Prog 3) true) true :: .test (beqb (ieq a1263.Prog 3) true) true :: .test (beqb (ieq a1263.Prog 3) true) true :: .test (ieq a1263.Prog 3) true :: l) := fun z => ⟨(beqb_t h1653), (beqb_t h1653), (beqb_t h1653), (beqb_t h1653), h1653, z⟩
   refine cond_some hF (fun h1654 hF => ?_) (fun h1654 hF => ?_)
   ·
    refine cond_some hF (fun h1655 hF => ?_) (fun h1655 hF => ?_)
    ·
     refine bind_some hF (fun r1656 h1657 hF => ?_)
     have pq1835 : ∀ {l : List Cond}, HoldAll E H hn100 l → HoldAll E H hn100 (.test (ine a1265 a1263.Source) false :: .test a1268 true :: .call 98 [.one (.lit (.int .i64 a1263.Prog)), .one (.lit (.int .i64 a1266)), .one (.lit (.int .i64 a1267))] (F98_res r1656) :: .test (leadsAny (Res.mk [(.one (.im (.lit (.int .i64 r1656.1)))), (.one (.im (.lit (.int .i64 r1656.2))))] [])) false :: l) := fun z => ⟨(ine_t h1654), h1655, (F98_ok K a1263.Prog a1266 a1267 _ h1657), (leads_ok (by simp [leadsAny, RV.leads, RC.leads, leadsT, hasSl_lit])), z⟩
     refine cond_some hF (fun h1658 hF => ?_) (fun h1658 hF => ?_)
     ·
      refine bind_some hF (fun r1659 h1660 hF => ?_)
      have pq1836 : ∀ {l : List Cond}, HoldAll E H hn100 l → HoldAll E H hn100 (.test (beqb (ieq a1264 0) false) false :: .test (beqb (ieq a1264 0) false) false :: .test (beqb (ieq a1264 0) false) false :: .test (ieq a1264 0) true :: .call 69 [.agg (eGGraph a1262), .one (.lit (.int .i64 a1265))] (F69_res r1659) :: .test (leadsAny (Res.mk [(.one (.own 89 (.sl (len r1659) (flat eGEdge r1659))))] [])) false :: l) := fun z => ⟨(beqb_ft h1658), (beqb_ft h1658), (beqb_ft h1658), h1658, (F69_ok K a1262 a1265 _ h1660), (leads_ok (by simp [leadsAny, RV.leads, RC.leads, leadsT, hasSl_lit, flat_ns eGEdge_ns])), z⟩
      refine bind_some hF (fun y1669 h1668 hF => ?_)
      refine sum_some hF (fun w1670 hx hF => ?_) (fun w1671 hx hF => ?_)
      ·
       subst hx
       obtain rfl := Option.some.inj hF
       have pz : HoldAll E H hn100 [.loop 0 c100_0 (F100_l0_1_S r1656.1 a1263.Prog a1263.Source a1263.Limit a1263.Parts r1659 [] 0) .ret (F100_l0_1_X0 r1656.1 a1263.Prog a1263.Source a1263.Limit a1263.Parts r1659 w1670)] := ⟨(F100_l0_1_ok K r1656.1 a1263.Prog a1263.Source a1263.Limit a1263.Parts r1659 K [] 0 _ h1668), trivial⟩
       exact fn_playC hn100 (r := F100_res (GTurned.mk 0 [] false 8)) (pq1814 (pq1815 (pq1816 (pq1833 (pq1834 (pq1835 (pq1836 pz))))))) (by kernel_rfl) (by kernel_rfl)
      subst hx
      obtain rfl := Option.some.inj hF
      have pz : HoldAll E H hn100 [.loop 0 c100_0 (F100_l0_1_S r1656.1 a1263.Prog a1263.Source a1263.Limit a1263.Parts r1659 [] 0) (.exit 0) (F100_l0_1_X1 r1656.1 a1263.Prog a1263.Source a1263.Limit a1263.Parts r1659 w1671)] := ⟨(F100_l0_1_ok K r1656.1 a1263.Prog a1263.Source a1263.Limit a1263.Parts r1659 K [] 0 _ h1668), trivial⟩
      exact fn_playC hn100 (r := F100_res (GTurned.mk r1656.1 w1671 true 0)) (pq1814 (pq1815 (pq1816 (pq1833 (pq1834 (pq1835 (pq1836 pz))))))) (by kernel_rfl) (by kernel_rfl)
     refine bind_some hF (fun r1673 h1674 hF => ?_)
     have pq1837 : ∀ {l : List Cond}, HoldAll E H hn100 l → HoldAll E H hn100 (.test (beqb (ieq a1264 0) false) true :: .test (beqb (ieq a1264 0) false) true :: .test (beqb (ieq a1264 0) false) true :: .test (ieq a1264 0) false :: .call 69 [.agg (eGGraph a1262), .one (.lit (.int .i64 a1265))] (F69_res r1673) :: .test (leadsAny (Res.mk [(.one (.own 89 (.sl (len r1673) (flat eGEdge r1673))))] [])) false :: l) := fun z => ⟨(beqb_ff h1658), (beqb_ff h1658), (beqb_ff h1658), h1658, (F69_ok K a1262 a1265 _ h1674), (leads_ok (by simp [leadsAny, RV.leads, RC.leads, leadsT, hasSl_lit, flat_ns eGEdge_ns])), z⟩
     refine bind_some hF (fun y1684 h1683 hF => ?_)
     refine sum_some hF (fun w1685 hx hF => ?_) (fun w1686 hx hF => ?_)
     ·
      subst hx
      obtain rfl := Option.some.inj hF
      have pz : HoldAll E H hn100 [.loop 0 c100_0 (F100_l0_2_S r1656.1 a1263.Prog a1263.Source a1263.Limit a1263.Parts (ine r1656.1 a1266) r1673 [] 0) .ret (F100_l0_2_X0 r1656.1 a1263.Prog a1263.Source a1263.Limit a1263.Parts (ine r1656.1 a1266) r1673 w1685)] := ⟨(F100_l0_2_ok K r1656.1 a1263.Prog a1263.Source a1263.Limit a1263.Parts (ine r1656.1 a1266) r1673 K [] 0 _ h1683), trivial⟩
      exact fn_playC hn100 (r := F100_res (GTurned.mk 0 [] false 8)) (pq1814 (pq1815 (pq1816 (pq1833 (pq1834 (pq1835 (pq1837 pz))))))) (by kernel_rfl) (by kernel_rfl)
     subst hx
     obtain rfl := Option.some.inj hF
     have pz : HoldAll E H hn100 [.loop 0 c100_0 (F100_l0_2_S r1656.1 a1263.Prog a1263.Source a1263.Limit a1263.Parts (ine r1656.1 a1266) r1673 [] 0) (.exit 0) (F100_l0_2_X1 r1656.1 a1263.Prog a1263.Source a1263.Limit a1263.Parts (ine r1656.1 a1266) r1673 w1686)] := ⟨(F100_l0_2_ok K r1656.1 a1263.Prog a1263.Source a1263.Limit a1263.Parts (ine r1656.1 a1266) r1673 K [] 0 _ h1683), trivial⟩
     exact fn_playC hn100 (r := F100_res (GTurned.mk r1656.1 w1686 true 0)) (pq1814 (pq1815 (pq1816 (pq1833 (pq1834 (pq1835 (pq1837 pz))))))) (by kernel_rfl) (by kernel_rfl)
    refine cond_some hF (fun h1688 hF => ?_) (fun h1688 hF => ?_)
    ·
     refine bind_some hF (fun r1689 h1690 hF => ?_)
     have pq1838 : ∀ {l : List Cond}, HoldAll E H hn100 l → HoldAll E H hn100 (.test (ine a1265 a1263.Source) false :: .test a1268 false :: .test (beqb (ieq a1264 0) false) false :: .test (beqb (ieq a1264 0) false) false :: .test (beqb (ieq a1264 0) false) false :: .test (ieq a1264 0) true :: .call 69 [.agg (eGGraph a1262), .one (.lit (.int .i64 a1265))] (F69_res r1689) :: .test (leadsAny (Res.mk [(.one (.own 89 (.sl (len r1689) (flat eGEdge r1689))))] [])) false :: l) := fun z => ⟨(ine_t h1654), h1655, (beqb_ft h1688), (beqb_ft h1688), (beqb_ft h1688), h1688, (F69_ok K a1262 a1265 _ h1690), (leads_ok (by simp [leadsAny, RV.leads, RC.leads, leadsT, hasSl_lit, flat_ns eGEdge_ns])), z⟩
     refine bind_some hF (fun y1699 h1698 hF => ?_)
     refine sum_some hF (fun w1700 hx hF => ?_) (fun w1701 hx hF => ?_)
     ·
      subst hx
      obtain rfl := Option.some.inj hF
      have pz : HoldAll E H hn100 [.loop 0 c100_0 (F100_l0_1_S a1266 a1263.Prog a1263.Source a1263.Limit a1263.Parts r1689 [] 0) .ret (F100_l0_1_X0 a1266 a1263.Prog a1263.Source a1263.Limit a1263.Parts r1689 w1700)] := ⟨(F100_l0_1_ok K a1266 a1263.Prog a1263.Source a1263.Limit a1263.Parts r1689 K [] 0 _ h1698), trivial⟩
      exact fn_playC hn100 (r := F100_res (GTurned.mk 0 [] false 8)) (pq1814 (pq1815 (pq1816 (pq1833 (pq1834 (pq1838 pz)))))) (by kernel_rfl) (by kernel_rfl)
     subst hx
     obtain rfl := Option.some.inj hF
     have pz : HoldAll E H hn100 [.loop 0 c100_0 (F100_l0_1_S a1266 a1263.Prog a1263.Source a1263.Limit a1263.Parts r1689 [] 0) (.exit 0) (F100_l0_1_X1 a1266 a1263.Prog a1263.Source a1263.Limit a1263.Parts r1689 w1701)] := ⟨(F100_l0_1_ok K a1266 a1263.Prog a1263.Source a1263.Limit a1263.Parts r1689 K [] 0 _ h1698), trivial⟩
     exact fn_playC hn100 (r := F100_res (GTurned.mk a1266 w1701 true 0)) (pq1814 (pq1815 (pq1816 (pq1833 (pq1834 (pq1838 pz)))))) (by kernel_rfl) (by kernel_rfl)
    refine bind_some hF (fun r1703 h1704 hF => ?_)
    have pq1839 : ∀ {l : List Cond}, HoldAll E H hn100 l → HoldAll E H hn100 (.test (ine a1265 a1263.Source) false :: .test a1268 false :: .test (beqb (ieq a1264 0) false) true :: .test (beqb (ieq a1264 0) false) true :: .test (beqb (ieq a1264 0) false) true :: .test (ieq a1264 0) false :: .call 69 [.agg (eGGraph a1262), .one (.lit (.int .i64 a1265))] (F69_res r1703) :: .test (leadsAny (Res.mk [(.one (.own 89 (.sl (len r1703) (flat eGEdge r1703))))] [])) false :: l) := fun z => ⟨(ine_t h1654), h1655, (beqb_ff h1688), (beqb_ff h1688), (beqb_ff h1688), h1688, (F69_ok K a1262 a1265 _ h1704), (leads_ok (by simp [leadsAny, RV.leads, RC.leads, leadsT, hasSl_lit, flat_ns eGEdge_ns])), z⟩
    refine bind_some hF (fun y1714 h1713 hF => ?_)
    refine sum_some hF (fun w1715 hx hF => ?_) (fun w1717 hx hF => ?_)
    ·
     subst hx
     obtain rfl := Option.some.inj hF
     have pz : HoldAll E H hn100 [.loop 0 c100_0 (F100_l0_3_S a1266 a1263.Prog a1263.Source a1263.Limit a1263.Parts r1703 [] 0) (.exit 0) (F100_l0_3_X0 a1266 a1263.Prog a1263.Source a1263.Limit a1263.Parts r1703 w1715)] := ⟨(F100_l0_3_ok K a1266 a1263.Prog a1263.Source a1263.Limit a1263.Parts r1703 K [] 0 _ h1713), trivial⟩
     exact fn_playC hn100 (r := F100_res (GTurned.mk a1266 w1715 true 0)) (pq1814 (pq1815 (pq1816 (pq1833 (pq1834 (pq1839 pz)))))) (by kernel_rfl) (by kernel_rfl)
    subst hx
    obtain rfl := Option.some.inj hF
    have pz : HoldAll E H hn100 [.loop 0 c100_0 (F100_l0_3_S a1266 a1263.Prog a1263.Source a1263.Limit a1263.Parts r1703 [] 0) .ret (F100_l0_3_X1 a1266 a1263.Prog a1263.Source a1263.Limit a1263.Parts r1703 w1717)] := ⟨(F100_l0_3_ok K a1266 a1263.Prog a1263.Source a1263.Limit a1263.Parts r1703 K [] 0 _ h1713), trivial⟩
    exact fn_playC hn100 (r := F100_res (GTurned.mk 0 [] false 8)) (pq1814 (pq1815 (pq1816 (pq1833 (pq1834 (pq1839 pz)))))) (by kernel_rfl) (by kernel_rfl)
   refine cond_some hF (fun h1718 hF => ?_) (fun h1718 hF => ?_)
   ·
    refine bind_some hF (fun r1719 h1720 hF => ?_)
    refine bind_some hF (fun r1721 h1722 hF => ?_)
    have pq1840 : ∀ {l : List Cond}, HoldAll E H hn100 l → HoldAll E H hn100 (.test (ine a1265 a1263.Source) true :: .test a1268 true :: .call 98 [.one (.lit (.int .i64 a1263.Prog)), .one (.lit (.int .i64 a1266)), .one (.lit (.int .i64 a1267))] (F98_res r1719) :: .test (leadsAny (Res.mk [(.one (.im (.lit (.int .i64 r1719.1)))), (.one (.im (.lit (.int .i64 r1719.2))))] [])) false :: .test (beqb false false) true :: .test (beqb false false) true :: .test (beqb false false) true :: .test false false :: .call 69 [.agg (eGGraph a1262), .one (.lit (.int .i64 a1265))] (F69_res r1721) :: .test (leadsAny (Res.mk [(.one (.own 89 (.sl (len r1721) (flat eGEdge r1721))))] [])) false :: l) := fun z => ⟨(ine_f h1654), h1718, (F98_ok K a1263.Prog a1266 a1267 _ h1720), (leads_ok (by simp [leadsAny, RV.leads, RC.leads, leadsT, hasSl_lit, flat_ns eGEdge_ns])), (beqb_ff rfl), (beqb_ff rfl), (beqb_ff rfl), rfl, (F69_ok K a1262 a1265 _ h1722), (leads_ok (by simp [leadsAny, RV.leads, RC.leads, leadsT, hasSl_lit, flat_ns eGEdge_ns])), z⟩
    refine bind_some hF (fun y1732 h1731 hF => ?_)
    refine sum_some hF (fun w1733 hx hF => ?_) (fun w1734 hx hF => ?_)
    ·
     subst hx
     obtain rfl := Option.some.inj hF
     have pz : HoldAll E H hn100 [.loop 0 c100_0 (F100_l0_2_S r1719.1 a1263.Prog a1263.Source a1263.Limit a1263.Parts (ine r1719.1 a1266) r1721 [] 0) .ret (F100_l0_2_X0 r1719.1 a1263.Prog a1263.Source a1263.Limit a1263.Parts (ine r1719.1 a1266) r1721 w1733)] := ⟨(F100_l0_2_ok K r1719.1 a1263.Prog a1263.Source a1263.Limit a1263.Parts (ine r1719.1 a1266) r1721 K [] 0 _ h1731), trivial⟩
     exact fn_playC hn100 (r := F100_res (GTurned.mk 0 [] false 8)) (pq1814 (pq1815 (pq1816 (pq1833 (pq1834 (pq1840 pz)))))) (by kernel_rfl) (by kernel_rfl)
    subst hx
    obtain rfl := Option.some.inj hF
    have pz : HoldAll E H hn100 [.loop 0 c100_0 (F100_l0_2_S r1719.1 a1263.Prog a1263.Source a1263.Limit a1263.Parts (ine r1719.1 a1266) r1721 [] 0) (.exit 0) (F100_l0_2_X1 r1719.1 a1263.Prog a1263.Source a1263.Limit a1263.Parts (ine r1719.1 a1266) r1721 w1734)] := ⟨(F100_l0_2_ok K r1719.1 a1263.Prog a1263.Source a1263.Limit a1263.Parts (ine r1719.1 a1266) r1721 K [] 0 _ h1731), trivial⟩
    exact fn_playC hn100 (r := F100_res (GTurned.mk r1719.1 w1734 true 0)) (pq1814 (pq1815 (pq1816 (pq1833 (pq1834 (pq1840 pz)))))) (by kernel_rfl) (by kernel_rfl)
   refine bind_some hF (fun r1736 h1737 hF => ?_)
   have pq1841 : ∀ {l : List Cond}, HoldAll E H hn100 l → HoldAll E H hn100 (.test (ine a1265 a1263.Source) true :: .test a1268 false :: .test (beqb false false) true :: .test (beqb false false) true :: .test (beqb false false) true :: .test false false :: .call 69 [.agg (eGGraph a1262), .one (.lit (.int .i64 a1265))] (F69_res r1736) :: .test (leadsAny (Res.mk [(.one (.own 89 (.sl (len r1736) (flat eGEdge r1736))))] [])) false :: l) := fun z => ⟨(ine_f h1654), h1718, (beqb_ff rfl), (beqb_ff rfl), (beqb_ff rfl), rfl, (F69_ok K a1262 a1265 _ h1737), (leads_ok (by simp [leadsAny, RV.leads, RC.leads, leadsT, hasSl_lit, flat_ns eGEdge_ns])), z⟩
   refine bind_some hF (fun y1747 h1746 hF => ?_)
   refine sum_some hF (fun w1748 hx hF => ?_) (fun w1750 hx hF => ?_)
   ·
    subst hx
    obtain rfl := Option.some.inj hF
    have pz : HoldAll E H hn100 [.loop 0 c100_0 (F100_l0_3_S a1266 a1263.Prog a1263.Source a1263.Limit a1263.Parts r1736 [] 0) (.exit 0) (F100_l0_3_X0 a1266 a1263.Prog a1263.Source a1263.Limit a1263.Parts r1736 w1748)] := ⟨(F100_l0_3_ok K a1266 a1263.Prog a1263.Source a1263.Limit a1263.Parts r1736 K [] 0 _ h1746), trivial⟩
    exact fn_playC hn100 (r := F100_res (GTurned.mk a1266 w1748 true 0)) (pq1814 (pq1815 (pq1816 (pq1833 (pq1834 (pq1841 pz)))))) (by kernel_rfl) (by kernel_rfl)
   subst hx
   obtain rfl := Option.some.inj hF
   have pz : HoldAll E H hn100 [.loop 0 c100_0 (F100_l0_3_S a1266 a1263.Prog a1263.Source a1263.Limit a1263.Parts r1736 [] 0) .ret (F100_l0_3_X1 a1266 a1263.Prog a1263.Source a1263.Limit a1263.Parts r1736 w1750)] := ⟨(F100_l0_3_ok K a1266 a1263.Prog a1263.Source a1263.Limit a1263.Parts r1736 K [] 0 _ h1746), trivial⟩
   exact fn_playC hn100 (r := F100_res (GTurned.mk 0 [] false 8)) (pq1814 (pq1815 (pq1816 (pq1833 (pq1834 (pq1841 pz)))))) (by kernel_rfl) (by kernel_rfl)
  have pq1842 : ∀ {l : List Cond}, HoldAll E H hn100 l → HoldAll E H hn100 (.test (beqb (ieq a1263.Prog 3) true) false :: .test (beqb (ieq a1263.Prog 3) true) false :: .test (beqb (ieq a1263.Prog 3) true) false :: .test (beqb (ieq a1263.Prog 3) true) false :: .test (ieq a1263.Prog 3) false :: .test false false :: l) := fun z => ⟨(beqb_t h1653), (beqb_t h1653), (beqb_t h1653), (beqb_t h1653), h1653, rfl, z⟩
  refine cond_some hF (fun h1751 hF => ?_) (fun h1751 hF => ?_)
  ·
   refine bind_some hF (fun r1752 h1753 hF => ?_)
   have pq1843 : ∀ {l : List Cond}, HoldAll E H hn100 l → HoldAll E H hn100 (.test a1268 true :: .call 98 [.one (.lit (.int .i64 a1263.Prog)), .one (.lit (.int .i64 a1266)), .one (.lit (.int .i64 a1267))] (F98_res r1752) :: .test (leadsAny (Res.mk [(.one (.im (.lit (.int .i64 r1752.1)))), (.one (.im (.lit (.int .i64 r1752.2))))] [])) false :: l) := fun z => ⟨h1751, (F98_ok K a1263.Prog a1266 a1267 _ h1753), (leads_ok (by simp [leadsAny, RV.leads, RC.leads, leadsT, hasSl_lit])), z⟩
   refine cond_some hF (fun h1754 hF => ?_) (fun h1754 hF => ?_)
   ·
    refine bind_some hF (fun r1755 h1756 hF => ?_)
    have pq1844 : ∀ {l : List Cond}, HoldAll E H hn100 l → HoldAll E H hn100 (.test (beqb (ieq a1264 0) false) false :: .test (beqb (ieq a1264 0) false) false :: .test (beqb (ieq a1264 0) false) false :: .test (ieq a1264 0) true :: .call 69 [.agg (eGGraph a1262), .one (.lit (.int .i64 a1265))] (F69_res r1755) :: .test (leadsAny (Res.mk [(.one (.own 89 (.sl (len r1755) (flat eGEdge r1755))))] [])) false :: l) := fun z => ⟨(beqb_ft h1754), (beqb_ft h1754), (beqb_ft h1754), h1754, (F69_ok K a1262 a1265 _ h1756), (leads_ok (by simp [leadsAny, RV.leads, RC.leads, leadsT, hasSl_lit, flat_ns eGEdge_ns])), z⟩
    refine bind_some hF (fun y1765 h1764 hF => ?_)
    refine sum_some hF (fun w1766 hx hF => ?_) (fun w1767 hx hF => ?_)
    ·
     subst hx
     obtain rfl := Option.some.inj hF
     have pz : HoldAll E H hn100 [.loop 0 c100_0 (F100_l0_1_S r1752.1 a1263.Prog a1263.Source a1263.Limit a1263.Parts r1755 [] 0) .ret (F100_l0_1_X0 r1752.1 a1263.Prog a1263.Source a1263.Limit a1263.Parts r1755 w1766)] := ⟨(F100_l0_1_ok K r1752.1 a1263.Prog a1263.Source a1263.Limit a1263.Parts r1755 K [] 0 _ h1764), trivial⟩
     exact fn_playC hn100 (r := F100_res (GTurned.mk 0 [] false 8)) (pq1814 (pq1815 (pq1816 (pq1833 (pq1842 (pq1843 (pq1844 pz))))))) (by kernel_rfl) (by kernel_rfl)
    subst hx
    obtain rfl := Option.some.inj hF
    have pz : HoldAll E H hn100 [.loop 0 c100_0 (F100_l0_1_S r1752.1 a1263.Prog a1263.Source a1263.Limit a1263.Parts r1755 [] 0) (.exit 0) (F100_l0_1_X1 r1752.1 a1263.Prog a1263.Source a1263.Limit a1263.Parts r1755 w1767)] := ⟨(F100_l0_1_ok K r1752.1 a1263.Prog a1263.Source a1263.Limit a1263.Parts r1755 K [] 0 _ h1764), trivial⟩
    exact fn_playC hn100 (r := F100_res (GTurned.mk r1752.1 w1767 true 0)) (pq1814 (pq1815 (pq1816 (pq1833 (pq1842 (pq1843 (pq1844 pz))))))) (by kernel_rfl) (by kernel_rfl)
   refine bind_some hF (fun r1769 h1770 hF => ?_)
   have pq1845 : ∀ {l : List Cond}, HoldAll E H hn100 l → HoldAll E H hn100 (.test (beqb (ieq a1264 0) false) true :: .test (beqb (ieq a1264 0) false) true :: .test (beqb (ieq a1264 0) false) true :: .test (ieq a1264 0) false :: .call 69 [.agg (eGGraph a1262), .one (.lit (.int .i64 a1265))] (F69_res r1769) :: .test (leadsAny (Res.mk [(.one (.own 89 (.sl (len r1769) (flat eGEdge r1769))))] [])) false :: l) := fun z => ⟨(beqb_ff h1754), (beqb_ff h1754), (beqb_ff h1754), h1754, (F69_ok K a1262 a1265 _ h1770), (leads_ok (by simp [leadsAny, RV.leads, RC.leads, leadsT, hasSl_lit, flat_ns eGEdge_ns])), z⟩
   refine bind_some hF (fun y1780 h1779 hF => ?_)
   refine sum_some hF (fun w1781 hx hF => ?_) (fun w1782 hx hF => ?_)
   ·
    subst hx
    obtain rfl := Option.some.inj hF
    have pz : HoldAll E H hn100 [.loop 0 c100_0 (F100_l0_2_S r1752.1 a1263.Prog a1263.Source a1263.Limit a1263.Parts (ine r1752.1 a1266) r1769 [] 0) .ret (F100_l0_2_X0 r1752.1 a1263.Prog a1263.Source a1263.Limit a1263.Parts (ine r1752.1 a1266) r1769 w1781)] := ⟨(F100_l0_2_ok K r1752.1 a1263.Prog a1263.Source a1263.Limit a1263.Parts (ine r1752.1 a1266) r1769 K [] 0 _ h1779), trivial⟩
    exact fn_playC hn100 (r := F100_res (GTurned.mk 0 [] false 8)) (pq1814 (pq1815 (pq1816 (pq1833 (pq1842 (pq1843 (pq1845 pz))))))) (by kernel_rfl) (by kernel_rfl)
   subst hx
   obtain rfl := Option.some.inj hF
   have pz : HoldAll E H hn100 [.loop 0 c100_0 (F100_l0_2_S r1752.1 a1263.Prog a1263.Source a1263.Limit a1263.Parts (ine r1752.1 a1266) r1769 [] 0) (.exit 0) (F100_l0_2_X1 r1752.1 a1263.Prog a1263.Source a1263.Limit a1263.Parts (ine r1752.1 a1266) r1769 w1782)] := ⟨(F100_l0_2_ok K r1752.1 a1263.Prog a1263.Source a1263.Limit a1263.Parts (ine r1752.1 a1266) r1769 K [] 0 _ h1779), trivial⟩
   exact fn_playC hn100 (r := F100_res (GTurned.mk r1752.1 w1782 true 0)) (pq1814 (pq1815 (pq1816 (pq1833 (pq1842 (pq1843 (pq1845 pz))))))) (by kernel_rfl) (by kernel_rfl)
  refine cond_some hF (fun h1784 hF => ?_) (fun h1784 hF => ?_)
  ·
   refine bind_some hF (fun r1785 h1786 hF => ?_)
   have pq1846 : ∀ {l : List Cond}, HoldAll E H hn100 l → HoldAll E H hn100 (.test a1268 false :: .test (beqb (ieq a1264 0) false) false :: .test (beqb (ieq a1264 0) false) false :: .test (beqb (ieq a1264 0) false) false :: .test (ieq a1264 0) true :: .call 69 [.agg (eGGraph a1262), .one (.lit (.int .i64 a1265))] (F69_res r1785) :: .test (leadsAny (Res.mk [(.one (.own 89 (.sl (len r1785) (flat eGEdge r1785))))] [])) false :: l) := fun z => ⟨h1751, (beqb_ft h1784), (beqb_ft h1784), (beqb_ft h1784), h1784, (F69_ok K a1262 a1265 _ h1786), (leads_ok (by simp [leadsAny, RV.leads, RC.leads, leadsT, hasSl_lit, flat_ns eGEdge_ns])), z⟩
   refine bind_some hF (fun y1795 h1794 hF => ?_)
   refine sum_some hF (fun w1796 hx hF => ?_) (fun w1797 hx hF => ?_)
   ·
    subst hx
    obtain rfl := Option.some.inj hF
    have pz : HoldAll E H hn100 [.loop 0 c100_0 (F100_l0_1_S a1266 a1263.Prog a1263.Source a1263.Limit a1263.Parts r1785 [] 0) .ret (F100_l0_1_X0 a1266 a1263.Prog a1263.Source a1263.Limit a1263.Parts r1785 w1796)] := ⟨(F100_l0_1_ok K a1266 a1263.Prog a1263.Source a1263.Limit a1263.Parts r1785 K [] 0 _ h1794), trivial⟩
    exact fn_playC hn100 (r := F100_res (GTurned.mk 0 [] false 8)) (pq1814 (pq1815 (pq1816 (pq1833 (pq1842 (pq1846 pz)))))) (by kernel_rfl) (by kernel_rfl)
   subst hx
   obtain rfl := Option.some.inj hF
   have pz : HoldAll E H hn100 [.loop 0 c100_0 (F100_l0_1_S a1266 a1263.Prog a1263.Source a1263.Limit a1263.Parts r1785 [] 0) (.exit 0) (F100_l0_1_X1 a1266 a1263.Prog a1263.Source a1263.Limit a1263.Parts r1785 w1797)] := ⟨(F100_l0_1_ok K a1266 a1263.Prog a1263.Source a1263.Limit a1263.Parts r1785 K [] 0 _ h1794), trivial⟩
   exact fn_playC hn100 (r := F100_res (GTurned.mk a1266 w1797 true 0)) (pq1814 (pq1815 (pq1816 (pq1833 (pq1842 (pq1846 pz)))))) (by kernel_rfl) (by kernel_rfl)
  refine bind_some hF (fun r1799 h1800 hF => ?_)
  have pq1847 : ∀ {l : List Cond}, HoldAll E H hn100 l → HoldAll E H hn100 (.test a1268 false :: .test (beqb (ieq a1264 0) false) true :: .test (beqb (ieq a1264 0) false) true :: .test (beqb (ieq a1264 0) false) true :: .test (ieq a1264 0) false :: .call 69 [.agg (eGGraph a1262), .one (.lit (.int .i64 a1265))] (F69_res r1799) :: .test (leadsAny (Res.mk [(.one (.own 89 (.sl (len r1799) (flat eGEdge r1799))))] [])) false :: l) := fun z => ⟨h1751, (beqb_ff h1784), (beqb_ff h1784), (beqb_ff h1784), h1784, (F69_ok K a1262 a1265 _ h1800), (leads_ok (by simp [leadsAny, RV.leads, RC.leads, leadsT, hasSl_lit, flat_ns eGEdge_ns])), z⟩
  refine bind_some hF (fun y1810 h1809 hF => ?_)
  refine sum_some hF (fun w1811 hx hF => ?_) (fun w1813 hx hF => ?_)
  ·
   subst hx
   obtain rfl := Option.some.inj hF
   have pz : HoldAll E H hn100 [.loop 0 c100_0 (F100_l0_3_S a1266 a1263.Prog a1263.Source a1263.Limit a1263.Parts r1799 [] 0) (.exit 0) (F100_l0_3_X0 a1266 a1263.Prog a1263.Source a1263.Limit a1263.Parts r1799 w1811)] := ⟨(F100_l0_3_ok K a1266 a1263.Prog a1263.Source a1263.Limit a1263.Parts r1799 K [] 0 _ h1809), trivial⟩
   exact fn_playC hn100 (r := F100_res (GTurned.mk a1266 w1811 true 0)) (pq1814 (pq1815 (pq1816 (pq1833 (pq1842 (pq1847 pz)))))) (by kernel_rfl) (by kernel_rfl)
  subst hx
  obtain rfl := Option.some.inj hF
  have pz : HoldAll E H hn100 [.loop 0 c100_0 (F100_l0_3_S a1266 a1263.Prog a1263.Source a1263.Limit a1263.Parts r1799 [] 0) .ret (F100_l0_3_X1 a1266 a1263.Prog a1263.Source a1263.Limit a1263.Parts r1799 w1813)] := ⟨(F100_l0_3_ok K a1266 a1263.Prog a1263.Source a1263.Limit a1263.Parts r1799 K [] 0 _ h1809), trivial⟩
  exact fn_playC hn100 (r := F100_res (GTurned.mk 0 [] false 8)) (pq1814 (pq1815 (pq1816 (pq1833 (pq1842 (pq1847 pz)))))) (by kernel_rfl) (by kernel_rfl)
 obtain rfl := Option.some.inj hF
 have pz : HoldAll E H hn100 [.call 59 [.agg (eGGraph a1262), .agg (eGJob a1263)] (F59_res r1269), .test (leadsAny (Res.mk [(.one (.im (.lit (.int .i64 r1269))))] [])) false, .test (ine r1269 0) true] := ⟨(F59_ok K a1262 a1263 _ h1270), (leads_ok (by simp [leadsAny, RV.leads, RC.leads, leadsT, hasSl_lit, flat_ns eGJob_ns])), (ine_f h1271), trivial⟩
 exact fn_playC hn100 (r := F100_res (GTurned.mk 0 [] false r1269)) pz (by kernel_rfl) (by kernel_rfl)
theorem u_add {a b : Int} (h : 0 ≤ a + b) (h2 : a + b < 18446744073709551616) : wadd .u64 a b = a + b := by
 show IntKind.u64.wrap (a + b) = _
 simp [IntKind.wrap, IntKind.signed, IntKind.bits]; omega
theorem u_mul {a b : Int} (h : 0 ≤ a * b) (h2 : a * b < 18446744073709551616) : wmul .u64 a b = a * b := by
 show IntKind.u64.wrap (a * b) = _
 simp only [IntKind.wrap, IntKind.signed, IntKind.bits, Bool.false_and]
 generalize a * b = t at *
 simp; omega
theorem u_quo {a : Int} (h : 0 ≤ a) (h2 : a < 18446744073709551616) : wquo .u64 a 4294967296 = a / 4294967296 := by
 show IntKind.u64.wrap (a.tdiv 4294967296) = _
 rw [Int.tdiv_eq_ediv_of_nonneg h]
 simp [IntKind.wrap, IntKind.signed, IntKind.bits]; omega
theorem u_rem {a : Int} (h : 0 ≤ a) : wrem a 4294967296 = a % 4294967296 := by
 show a.tmod 4294967296 = _
 exact Int.tmod_eq_emod_of_nonneg h
theorem F174_spec (K : Nat) {x b : Int} (hx : 0 ≤ x) (hx2 : x ≤ 9223372036854775808) (hb : 1 ≤ b) (hb2 : b ≤ 1000) :
   ∃ hi lo, F174 K x b = some (GA199.mk hi lo) ∧ hi * 18446744073709551616 + lo = x * b ∧ 0 ≤ lo ∧ lo < 18446744073709551616 ∧ 0 ≤ hi := by
 obtain ⟨u, hu⟩ : ∃ u, x / 4294967296 = u := ⟨_, rfl⟩
 obtain ⟨v, hv⟩ : ∃ v, x % 4294967296 = v := ⟨_, rfl⟩
 have hu0 : 0 ≤ u ∧ u ≤ 2147483648 := by omega
 have hv0 : 0 ≤ v ∧ v < 4294967296 := by omega
 have hxu : x = u * 4294967296 + v := by omega
 obtain ⟨P, hP⟩ : ∃ P, u * b = P := ⟨_, rfl⟩
 obtain ⟨Q, hQ⟩ : ∃ Q, v * b = Q := ⟨_, rfl⟩
 have hP0 : 0 ≤ P := hP ▸ Int.mul_nonneg hu0.1 (by omega)
 have hQ0 : 0 ≤ Q := hQ ▸ Int.mul_nonneg hv0.1 (by omega)
 have hP1 : P ≤ 2147483648 * 1000 := hP ▸ Int.mul_le_mul hu0.2 hb2 (by omega) (by omega)
 have hQ1 : Q ≤ 4294967296 * 1000 := hQ ▸ Int.mul_le_mul (by omega) hb2 (by omega) (by omega)
 have hxb : x * b = P * 4294967296 + Q := by rw [hxu, Int.add_mul, hQ, ← hP, Int.mul_right_comm]
 have a1 : wquo .u64 x 4294967296 = u := by rw [u_quo hx (by omega), hu]
 have a2 : wquo .u64 b 4294967296 = 0 := by rw [u_quo (by omega) (by omega)]; omega
 have a3 : wrem x 4294967296 = v := by rw [u_rem hx, hv]
 have a4 : wrem b 4294967296 = b := by rw [u_rem (by omega)]; omega
 have b1 : wmul .u64 u 0 = 0 := by rw [u_mul (by omega) (by omega)]; omega
 have b2 : wmul .u64 u b = P := by rw [u_mul (by omega) (by omega), hP]
 have b3 : wmul .u64 v 0 = 0 := by rw [u_mul (by omega) (by omega)]; omega
 have b4 : wmul .u64 v b = Q := by rw [u_mul (by omega) (by omega), hQ]
 have c1 : wquo .u64 P 4294967296 = P / 4294967296 := u_quo hP0 (by omega)
 have c2 : wquo .u64 0 4294967296 = 0 := by rw [u_quo (by omega) (by omega)]; omega
 have c3 : wquo .u64 Q 4294967296 = Q / 4294967296 := u_quo hQ0 (by omega)
 have c4 : wrem P 4294967296 = P % 4294967296 := u_rem hP0
 have c5 : wrem 0 4294967296 = 0 := by rw [u_rem (by omega)]; omega
 have c6 : wrem Q 4294967296 = Q % 4294967296 := u_rem hQ0
 have d1 : wadd .u64 (Q / 4294967296) (P % 4294967296) = Q / 4294967296 + P % 4294967296 := u_add (by omega) (by omega)
 have d2 : wadd .u64 (Q / 4294967296 + P % 4294967296) 0 = Q / 4294967296 + P % 4294967296 := by rw [u_add (by omega) (by omega)]; omega
 have d3 : wquo .u64 (Q / 4294967296 + P % 4294967296) 4294967296 = (Q / 4294967296 + P % 4294967296) / 4294967296 := u_quo (by omega) (by omega)
 have d4 : wrem (Q / 4294967296 + P % 4294967296) 4294967296 = (Q / 4294967296 + P % 4294967296) % 4294967296 := u_rem (by omega)
 have d5 : wadd .u64 0 (P / 4294967296) = P / 4294967296 := by rw [u_add (by omega) (by omega)]; omega
 have d6 : wadd .u64 (P / 4294967296) 0 = P / 4294967296 := by rw [u_add (by omega) (by omega)]; omega
 have d7 : wadd .u64 (P / 4294967296) ((Q / 4294967296 + P % 4294967296) / 4294967296) = P / 4294967296 + (Q / 4294967296 + P % 4294967296) / 4294967296 := u_add (by omega) (by omega)
 have d8 : wmul .u64 ((Q / 4294967296 + P % 4294967296) % 4294967296) 4294967296 = (Q / 4294967296 + P % 4294967296) % 4294967296 * 4294967296 := u_mul (by omega) (by omega)
 have d9 : wadd .u64 ((Q / 4294967296 + P % 4294967296) % 4294967296 * 4294967296) (Q % 4294967296) = (Q / 4294967296 + P % 4294967296) % 4294967296 * 4294967296 + Q % 4294967296 := u_add (by omega) (by omega)
 refine ⟨P / 4294967296 + (Q / 4294967296 + P % 4294967296) / 4294967296, (Q / 4294967296 + P % 4294967296) % 4294967296 * 4294967296 + Q % 4294967296, ?_, ?_, by omega, by omega, by omega⟩
 · rw [F174, a1, a2, a3, a4, b1, b2, b3, b4, c1, c2, c3, c4, c5, c6, d1, d2, d3, d4, d5, d6, d7, d8, d9]
 · rw [hxb]; omega
theorem F175_spec (K : Nat) {a : Int} (ha : i64 a) : F175 K a = some (bif ilt a 0 then -a else a) := by
 unfold i64 at ha
 rw [F175]
 cases h : ilt a 0
 · have := ilt_f.1 h
   have e : wconv .u64 a = a := by
     show IntKind.u64.wrap a = _
     simp [IntKind.wrap, IntKind.signed, IntKind.bits]; omega
   rw [e]; rfl
 · have := ilt_iff.1 h
   have e1 : wadd .i64 a 1 = a + 1 := wadd_i64 (by unfold i64; omega)
   have e2 : wneg .i64 (a + 1) = -(a + 1) := by
     show IntKind.i64.wrap (0 - (a + 1)) = _
     rw [IntKind.wrap_i64]; omega
   have e3 : wconv .u64 (-(a + 1)) = -(a + 1) := by
     show IntKind.u64.wrap _ = _
     simp [IntKind.wrap, IntKind.signed, IntKind.bits]; omega
   have e4 : wadd .u64 (-(a + 1)) 1 = -a := by rw [u_add (by omega) (by omega)]; omega
   rw [e1, e2, e3, e4]; rfl
def mulS (a b : Int) : Int × Bool := bif fitsB (a * b) then (a * b, true) else (0, false)
theorem F170_spec (K : Nat) {a b : Int} (ha : i64 a) (hb : 1 ≤ b) (hb2 : b ≤ 1000) : F170 K a b = some (mulS a b) := by
 have hb0 : ilt b 0 = false := ilt_f.2 (by omega)
 have h175 : F175 K b = some b := by rw [F175_spec K (by unfold i64; omega), hb0]; rfl
 have hconv : ∀ n : Int, 0 ≤ n → n ≤ 9223372036854775807 → wconv .i64 n = n := fun n h1 h2 => by
   show IntKind.i64.wrap n = _
   rw [IntKind.wrap_i64]; omega
 rw [F170, F175_spec K ha, h175, mulS, hb0]
 unfold i64 at ha
 cases h : ilt a 0
 · have hn := ilt_f.1 h
   obtain ⟨hi, lo, e, h1, h2, h3, h4⟩ := F174_spec K hn (by omega) hb hb2
   simp only [Option.bind_some, cond_false, e]
   cases c1 : ilt 0 hi
   · have c1' := ilt_f.1 c1
     cases c2 : ilt 9223372036854775808 lo
     · have c2' := ilt_f.1 c2
       cases c3 : ieq lo 9223372036854775808
       · have c3' := ieq_f.1 c3
         have hf : fitsB (a * b) = true := fitsB_iff.2 (by unfold i64; omega)
         have : lo = a * b := by omega
         rw [hf, hconv lo h2 (by omega), this]; rfl
       · have c3' := ieq_iff.1 c3
         have hf : fitsB (a * b) = false := fitsB_f.2 (by omega)
         rw [hf]; rfl
     · have c2' := ilt_iff.1 c2
       have hf : fitsB (a * b) = false := fitsB_f.2 (by omega)
       rw [hf]; rfl
   · have c1' := ilt_iff.1 c1
     have hf : fitsB (a * b) = false := fitsB_f.2 (by omega)
     rw [hf]; rfl
 · have hn := ilt_iff.1 h
   obtain ⟨hi, lo, e, h1, h2, h3, h4⟩ := F174_spec K (x := -a) (by omega) (by omega) hb hb2
   rw [Int.neg_mul] at h1
   simp only [Option.bind_some, cond_true, e]
   cases c1 : ilt 0 hi
   · have c1' := ilt_f.1 c1
     cases c2 : ilt 9223372036854775808 lo
     · have c2' := ilt_f.1 c2
       cases c3 : ieq lo 9223372036854775808
       · have c3' := ieq_f.1 c3
         have hf : fitsB (a * b) = true := fitsB_iff.2 (by unfold i64; omega)
         have hw : wneg .i64 lo = a * b := by
           show IntKind.i64.wrap (0 - lo) = _
           rw [IntKind.wrap_i64]; omega
         rw [hf, hconv lo h2 (by omega), hw]; rfl
       · have c3' := ieq_iff.1 c3
         have hf : fitsB (a * b) = true := fitsB_iff.2 (by unfold i64; omega)
         have : a * b = -9223372036854775808 := by omega
         rw [hf, this]; rfl
     · have c2' := ilt_iff.1 c2
       have hf : fitsB (a * b) = false := fitsB_f.2 (by omega)
       rw [hf]; rfl
   · have c1' := ilt_iff.1 c1
     have hf : fitsB (a * b) = false := fitsB_f.2 (by omega)
     rw [hf]; rfl
theorem tdiv_i64 {a d : Int} (ha : i64 a) (hd : 1 ≤ d) : wquo .i64 a d = a.tdiv d ∧ i64 (a.tdiv d) := by
 unfold i64 at ha
 have h1 : (a.tdiv d).natAbs ≤ a.natAbs := Int.natAbs_tdiv_le_natAbs a d
 have h2 : -9223372036854775808 ≤ a.tdiv d ∧ a.tdiv d ≤ 9223372036854775808 := by omega
 have h3 : 0 ≤ a → 0 ≤ a.tdiv d := fun h => Int.tdiv_nonneg h (by omega)
 have h4 : a ≤ 0 → a.tdiv d ≤ 0 := fun h => by
   have := Int.tdiv_nonneg (show 0 ≤ -a by omega) (show 0 ≤ d by omega)
   rw [Int.neg_tdiv] at this; omega
 have h5 : i64 (a.tdiv d) := by
   unfold i64
   rcases Int.le_total 0 a with h | h
   · have := h3 h; omega
   · have := h4 h; omega
 refine ⟨?_, h5⟩
 unfold i64 at h5
 show IntKind.i64.wrap (a.tdiv d) = _
 rw [IntKind.wrap_i64]; omega
theorem F171_spec (K : Nat) {a b : Int} (ha : i64 a) (hb : 1 ≤ b) (hb2 : b ≤ 1000) : F171 K a b = some (mulS a b) := by
 unfold i64 at ha
 rw [F171, mulS, ieq_f.2 (by omega : b ≠ 0), ieq_f.2 (by omega : b ≠ -1)]
 cases h0 : ieq a 0
 · have h0' := ieq_f.1 h0
   cases h1 : ieq a (-1)
   · have hz : izero b = false := decide_eq_false (by omega)
     simp only [cond_false, hz]
     obtain ⟨t, ht⟩ : ∃ t, a * b = t := ⟨_, rfl⟩
     obtain ⟨p, hp⟩ : ∃ p, wmul .i64 a b = p := ⟨_, rfl⟩
     have hp' : p = if 9223372036854775808 ≤ t % 18446744073709551616 then t % 18446744073709551616 - 18446744073709551616 else t % 18446744073709551616 := by
       rw [← hp, ← ht]
       show IntKind.i64.wrap (a * b) = _
       rw [IntKind.wrap_i64, ht]
       split <;> omega
     have hpr : -9223372036854775808 ≤ p ∧ p ≤ 9223372036854775807 := by rw [hp']; split <;> omega
     obtain ⟨q, hq⟩ : ∃ q, p.tdiv b = q := ⟨_, rfl⟩
     obtain ⟨r, hr⟩ : ∃ r, p.tmod b = r := ⟨_, rfl⟩
     have hdiv : b * q + r = p := by rw [← hq, ← hr]; exact Int.mul_tdiv_add_tmod p b
     have hrb : -1000 < r ∧ r < 1000 := by
       have h1 := Int.tmod_lt_of_pos p (show 0 < b by omega)
       have h2 := Int.lt_tmod_of_pos p (show 0 < b by omega)
       omega
     have hqr : -9223372036854775808 ≤ q ∧ q ≤ 9223372036854775807 := by
       have : i64 (p.tdiv b) := (tdiv_i64 (show i64 p from hpr) hb).2
       unfold i64 at this
       rw [hq] at this; exact this
     have hw : wquo .i64 p b = q := by rw [(tdiv_i64 (show i64 p from hpr) hb).1, hq]
     rw [hp, hw, ht]
     cases hf : fitsB t
     · have hf' := fitsB_f.1 hf
       have hne : ieq q a = false := ieq_f.2 fun hc => by
         have hba : b * q = t := by rw [hc, Int.mul_comm]; exact ht
         rw [hba] at hdiv
         have := hp'
         split at this <;> omega
       rw [hne]; rfl
     · have hf' := fitsB_iff.1 hf
       unfold i64 at hf'
       have hpt : p = t := by rw [hp']; split <;> omega
       have hqa : q = a := by
         rw [← hq, hpt, ← ht]
         exact Int.mul_tdiv_cancel a (by omega)
       rw [hqa, ieq_refl, hpt]; rfl
   · have h1' := ieq_iff.1 h1
     subst h1'
     have e1 : ieq (-1) (-9223372036854775808) = false := rfl
     have e2 : ieq b (-9223372036854775808) = false := ieq_f.2 (by omega)
     have e3 : fitsB (-1 * b) = true := fitsB_iff.2 (by unfold i64; omega)
     have e4 : wmul .i64 (-1) b = -1 * b := wmul_ok (by unfold i64; omega)
     rw [e1, e2, e3, e4]; rfl
 · have h0' := ieq_iff.1 h0
   subst h0'
   have e3 : fitsB (0 * b) = true := fitsB_iff.2 (by unfold i64; omega)
   rw [e3, Int.zero_mul]; rfl
def ratioS (v n d : Int) : Int × Bool := bif ilt d 1 then (0, false) else bif (mulS v n).2 then ((mulS v n).1.tdiv d, true) else (0, false)
theorem mulS_i64 {a b : Int} : i64 (mulS a b).1 := by
 rw [mulS]
 cases h : fitsB (a * b)
 · unfold i64; simp
 · exact fitsB_iff.1 h
theorem ratioS_i64 {v n d : Int} : i64 (ratioS v n d).1 := by
 have h0 : i64 0 := by unfold i64; omega
 rw [ratioS]
 cases hd : ilt d 1
 · cases (mulS v n).2
   · exact h0
   · exact (tdiv_i64 mulS_i64 (ilt_f.1 hd)).2
 · exact h0
theorem F167_spec (K : Nat) {v n : Int} (d : Int) (hv : i64 v) (hn : 1 ≤ n) (hn2 : n ≤ 1000) : F167 K v n d = some (ratioS v n d) := by
 rw [F167, F170_spec K hv hn hn2, Option.bind_some, ratioS]
 cases hd : ilt d 1
 · have hd' := ilt_f.1 hd
   have hz : izero d = false := decide_eq_false (by omega)
   rw [(tdiv_i64 (mulS_i64 (a := v) (b := n)) hd').1, hz]
   cases (mulS v n).2 <;> rfl
 · cases (mulS v n).2 <;> rfl
theorem F168_spec (K : Nat) {v n : Int} (d : Int) (hv : i64 v) (hn : 1 ≤ n) (hn2 : n ≤ 1000) : F168 K v n d = some (ratioS v n d) := by
 rw [F168, F171_spec K hv hn hn2, ratioS]
 cases hd : ilt d 1
 · have hd' := ilt_f.1 hd
   have hz : izero d = false := decide_eq_false (by omega)
   rw [cond_false, cond_false, Option.bind_some, (tdiv_i64 (mulS_i64 (a := v) (b := n)) hd').1, hz]
   cases (mulS v n).2 <;> rfl
 · rfl
def sumS (got : Int) : Int × Bool := bif (ratioS got 85 100).2 then addS 150000 (ratioS got 85 100).1 else (0, false)
theorem F147_spec (K : Nat) {got : Int} (hg : i64 got) : F147 K got = some (sumS got) := by
 rw [F147, F168_spec K 100 hg (by omega) (by omega), Option.bind_some, sumS]
 cases (ratioS got 85 100).2
 · rfl
 · rw [cond_true, cond_true, F145_spec K (by unfold i64; omega) ratioS_i64]; rfl
theorem addS_i64 {a b : Int} : i64 (addS a b).1 := by
 rw [addS]
 cases h : fitsB (a + b)
 · unfold i64; simp
 · exact fitsB_iff.1 h
theorem sumS_i64 {got : Int} : i64 (sumS got).1 := by
 rw [sumS]
 cases (ratioS got 85 100).2
 · unfold i64; simp
 · exact addS_i64
def outs (g : GGraph) (v : Int) : List GEdge := bif ieq (gcheck g) 0 then g.Edges.filter (fun e => ieq e.From v) else []
theorem out_go (l : List GEdge) (v : Int) : ∀ (s : List GEdge), s.length + l.length ≤ 80 →
   goL (fun x (s : List GEdge) c => bif (ieq x.From v) then (bif (apok (len s) 1 24) then c (appL s [x]) else none) else c s) (fun s => some s) l s = some (s ++ l.filter (fun e => ieq e.From v)) := by
 induction l with
 | nil => intro s _; simp [goL]
 | cons x l ih =>
   intro s hs
   simp only [List.length_cons] at hs
   rw [goL]
   cases hx : ieq x.From v
   · rw [cond_false, ih s (by omega), List.filter_cons, hx]; rfl
   · have ha : apok (len s) 1 24 = true := decide_eq_true ⟨by show s.length + 1 ≤ _; omega, by show (s.length + 1) * 24 ≤ _; omega⟩
     rw [cond_true, ha, cond_true, ih _ (by simp [appL]; omega), List.filter_cons, hx]
     simp [appL]
theorem F68_spec {K : Nat} (hK : 100 ≤ K) (g : GGraph) (v : Int) : F68 K g v = some (outs g v) := by
 rw [F68, F64_spec hK, Option.bind_some, outs]
 cases hc : ieq (gcheck g) 0
 · rfl
 · obtain ⟨h1, h2, h3, h4⟩ := gcheck_ok hc
   have e : F68_l0_0 K g v K [] 0 = _ := scanL (l := g.Edges) (L := fun k s i => F68_l0_0 K g v k s i) (fun x (s : List GEdge) c => bif (ieq x.From v) then (bif (apok (len s) 1 24) then c (appL s [x]) else none) else c s) (fun s => some s) (fun k s i _ => rfl) (by omega) (by omega) []
   rw [cond_true, cond_true, e, out_go _ _ _ (by simpa using h3)]; rfl
theorem F69_spec {K : Nat} (hK : 100 ≤ K) (g : GGraph) (v : Int) : F69 K g v = some (outs g v) := by
 rw [F69, F65_spec hK, Option.bind_some, outs]
 cases hc : ieq (gcheck g) 0
 · rfl
 · obtain ⟨h1, h2, h3, h4⟩ := gcheck_ok hc
   have e : F69_l0_0 K g v K [] 0 = _ := scanL (l := g.Edges) (L := fun k s i => F69_l0_0 K g v k s i) (fun x (s : List GEdge) c => bif (ieq x.From v) then (bif (apok (len s) 1 24) then c (appL s [x]) else none) else c s) (fun s => some s) (fun k s i _ => rfl) (by omega) (by omega) []
   rw [cond_true, cond_true, e, out_go _ _ _ (by simpa using h3)]; rfl
theorem outs_len {g : GGraph} {v : Int} : (outs g v).length ≤ 80 := by
 rw [outs]
 cases hc : ieq (gcheck g) 0
 · simp
 · obtain ⟨h1, h2, h3, h4⟩ := gcheck_ok hc
   exact Nat.le_trans (List.length_filter_le _ _) h3
def sendS (p val : Int) (e : GEdge) (many : Int) : Int × Bool := bif ieq p 1 then addS val e.W else bif ieq p 3 then addS val 1 else bif ieq p 5 then ratioS val 1 many else (val, true)
def sendA (p val many : Int) : List GEdge → List GMsg → Option (List GMsg)
 | [], s => some s
 | e :: l, s => bif (sendS p val e many).2 then sendA p val many l (s ++ [GMsg.mk e.To (sendS p val e many).1]) else none
def sumO {α : Type} : Option α → Unit ⊕ α
 | none => .inl ()
 | some s => .inr s
def sendO (rest : Bool) (val : Int) : Option (List GMsg) → Int × List GMsg × Bool × Int
 | none => (0, [], false, 8)
 | some s => (val, s, rest, 0)
theorem sum_elim (rest : Bool) (val : Int) (o : Option (List GMsg)) : (some (sumO o)).bind (fun y => Sum.elim (fun w => some ((0, ([], (false, 8))) : Int × List GMsg × Bool × Int)) (fun w => some (val, (w, (rest, 0)))) y) = some (sendO rest val o) := by
 cases o <;> rfl
theorem sum_elim' (rest : Bool) (val : Int) (o : Option (List GMsg)) : Sum.elim (fun w => some ((0, ([], (false, 8))) : Int × List GMsg × Bool × Int)) (fun w => some (val, (w, (rest, 0)))) (sumO o) = some (sendO rest val o) := by
 cases o <;> rfl
theorem send_go (p val many : Int) (f : GEdge → Option (Int × Bool)) (l : List GEdge) (hf : ∀ e ∈ l, f e = some (sendS p val e many)) : ∀ (s : List GMsg), s.length + l.length ≤ 80 →
   goL (fun e (s : List GMsg) c => (f e).bind fun r => bif r.2 then (bif (apok (len s) 1 16) then c (appL s [(GMsg.mk e.To r.1)]) else none) else some (.inl ())) (fun s => some (.inr s)) l s = some (sumO (sendA p val many l s)) := by
 induction l with
 | nil => intro s _; rfl
 | cons x l ih =>
   intro s hs
   simp only [List.length_cons] at hs
   rw [goL, hf x List.mem_cons_self, Option.bind_some, sendA]
   cases (sendS p val x many).2
   · rfl
   · have ha : apok (len s) 1 16 = true := decide_eq_true ⟨by show s.length + 1 ≤ _; omega, by show (s.length + 1) * 16 ≤ _; omega⟩
     rw [cond_true, ha, cond_true, ih (fun e he => hf e (List.mem_cons_of_mem _ he)) _ (by simp [appL]; omega), cond_true]; rfl
theorem outs_W {g : GGraph} {v : Int} {e : GEdge} (h : e ∈ outs g v) : 0 ≤ e.W ∧ e.W ≤ 4611686018427387904 := by
 rw [outs] at h
 cases hc : ieq (gcheck g) 0
 · rw [hc] at h; cases h
 · obtain ⟨h1, h2, h3, h4⟩ := gcheck_ok hc
   rw [hc] at h
   have := badE_ok (gchk_mem h4 e (List.mem_filter.1 h).1)
   omega
theorem F160_spec (K : Nat) {val : Int} {e : GEdge} (many : Int) (hv : i64 val) (he : i64 e.W) : F160 K val e = some (sendS 1 val e many) := by
 rw [F160, F144_spec K hv he]; rfl
theorem F161_spec (K : Nat) {val : Int} (e : GEdge) (many : Int) (hv : i64 val) : F161 K val e = some (sendS 3 val e many) := by
 rw [F161, F144_spec K hv (by unfold i64; omega)]; rfl
theorem F148_spec (K : Nat) (p : Int) {val many : Int} {e : GEdge} (hv : i64 val) (he : i64 e.W) : F148 K p val e many = some (sendS p val e many) := by
 rw [F148, sendS, F145_spec K hv he, F145_spec K hv (show i64 1 by unfold i64; omega), F168_spec K many hv (show (1 : Int) ≤ 1 by omega) (show (1 : Int) ≤ 1000 by omega)]
 cases ieq p 1 <;> cases ieq p 3 <;> cases ieq p 5 <;> rfl
def manyO (g : GGraph) (v : Int) : Int := nlen (len (outs g v))
section loops
variable {K : Nat} (hK : 100 ≤ K) (g : GGraph) (v : Int) {val : Int} (hv : i64 val)
include hK hv
theorem loop99_0 (b : Bool) : F99_l0_0 K val b (outs g v) K [] 0 = some (sumO (sendA 1 val (manyO g v) (outs g v) [])) := by
 have hl := outs_len (g := g) (v := v)
 have e := scanL (l := outs g v) (L := fun k s i => F99_l0_0 K val b (outs g v) k s i) (fun e (s : List GMsg) c => (F160 K val e).bind fun r => bif r.2 then (bif (apok (len s) 1 16) then c (appL s [(GMsg.mk e.To r.1)]) else none) else some (.inl ())) (fun s => some (.inr s)) (fun k s i _ => rfl) (K := K) (by omega) (by omega) []
 exact e.trans (send_go 1 val (manyO g v) (F160 K val) _ (fun e he => F160_spec K _ hv (by have := outs_W he; unfold i64; omega)) [] (by simpa using hl))
theorem loop99_1 (b : Bool) : F99_l0_1 K val b (outs g v) K [] 0 = some (sumO (sendA 3 val (manyO g v) (outs g v) [])) := by
 have hl := outs_len (g := g) (v := v)
 have e := scanL (l := outs g v) (L := fun k s i => F99_l0_1 K val b (outs g v) k s i) (fun e (s : List GMsg) c => (F161 K val e).bind fun r => bif r.2 then (bif (apok (len s) 1 16) then c (appL s [(GMsg.mk e.To r.1)]) else none) else some (.inl ())) (fun s => some (.inr s)) (fun k s i _ => rfl) (K := K) (by omega) (by omega) []
 exact e.trans (send_go 3 val (manyO g v) (F161 K val) _ (fun e he => F161_spec K e _ hv) [] (by simpa using hl))
omit hv in
theorem loop99_2 (val : Int) (b : Bool) : F99_l0_2 K val b (outs g v) K [] 0 = some (sumO (sendA 2 val (manyO g v) (outs g v) [])) := by
 have hl := outs_len (g := g) (v := v)
 have e := scanL (l := outs g v) (L := fun k s i => F99_l0_2 K val b (outs g v) k s i) (fun e (s : List GMsg) c => (F163 K val e).bind fun r => bif r.2 then (bif (apok (len s) 1 16) then c (appL s [(GMsg.mk e.To r.1)]) else none) else some (.inl ())) (fun s => some (.inr s)) (fun k s i _ => rfl) (K := K) (by omega) (by omega) []
 exact e.trans (send_go 2 val (manyO g v) (F163 K val) _ (fun e he => rfl) [] (by simpa using hl))
omit hv in
theorem loop99_3 (val : Int) (b : Bool) : F99_l0_3 K val b (outs g v) K [] 0 = some (sumO (sendA 4 val (manyO g v) (outs g v) [])) := by
 have hl := outs_len (g := g) (v := v)
 have e := scanL (l := outs g v) (L := fun k s i => F99_l0_3 K val b (outs g v) k s i) (fun e (s : List GMsg) c => (F163 K val e).bind fun r => bif r.2 then (bif (apok (len s) 1 16) then c (appL s [(GMsg.mk e.To r.1)]) else none) else some (.inl ())) (fun s => some (.inr s)) (fun k s i _ => rfl) (K := K) (by omega) (by omega) []
 exact e.trans (send_go 4 val (manyO g v) (F163 K val) _ (fun e he => rfl) [] (by simpa using hl))
theorem loop146 : F146_l0_0 K (outs g v) val K [] 0 = some (sumO (sendA 5 val (manyO g v) (outs g v) [])) := by
 have hl := outs_len (g := g) (v := v)
 have e := scanL (l := outs g v) (L := fun k s i => F146_l0_0 K (outs g v) val k s i) (fun e (s : List GMsg) c => (F167 K val 1 (nlen (len (outs g v)))).bind fun r => bif r.2 then (bif (apok (len s) 1 16) then c (appL s [(GMsg.mk e.To r.1)]) else none) else some (.inl ())) (fun s => some (.inr s)) (fun k s i _ => rfl) (K := K) (by omega) (by omega) []
 exact e.trans (send_go 5 val (manyO g v) (fun _ => F167 K val 1 (nlen (len (outs g v)))) _ (fun e he => F167_spec K _ hv (by omega) (by omega)) [] (by simpa using hl))
theorem loop100_1 (p a b c : Int) : F100_l0_1 K val p a b c (outs g v) K [] 0 = some (sumO (sendA p val (manyO g v) (outs g v) [])) := by
 have hl := outs_len (g := g) (v := v)
 have e := scanL (l := outs g v) (L := fun k s i => F100_l0_1 K val p a b c (outs g v) k s i) (fun e (s : List GMsg) c => (F148 K p val e (nlen (len (outs g v)))).bind fun r => bif r.2 then (bif (apok (len s) 1 16) then c (appL s [(GMsg.mk e.To r.1)]) else none) else some (.inl ())) (fun s => some (.inr s)) (fun k s i _ => rfl) (K := K) (by omega) (by omega) []
 exact e.trans (send_go p val (manyO g v) (fun e => F148 K p val e (nlen (len (outs g v)))) _ (fun e he => F148_spec K p hv (by have := outs_W he; unfold i64; omega)) [] (by simpa using hl))
theorem loop100_0 (p a b c : Int) (m : Bool) : F100_l0_0 K val p a b c m (outs g v) K [] 0 = some (bif m then sumO (sendA p val (manyO g v) (outs g v) []) else .inr []) := by
 have hl := outs_len (g := g) (v := v)
 cases m
 · obtain ⟨k, rfl⟩ : ∃ k, K = k + 1 := ⟨K - 1, by omega⟩
   rw [F100_l0_0]
   cases ilt 0 (nlen (len (outs g v))) <;> rfl
 · have e := scanL (l := outs g v) (L := fun k s i => F100_l0_0 K val p a b c true (outs g v) k s i) (fun e (s : List GMsg) c => (F148 K p val e (nlen (len (outs g v)))).bind fun r => bif r.2 then (bif (apok (len s) 1 16) then c (appL s [(GMsg.mk e.To r.1)]) else none) else some (.inl ())) (fun s => some (.inr s)) (fun k s i _ => rfl) (K := K) (by omega) (by omega) []
   exact e.trans (send_go p val (manyO g v) (fun e => F148 K p val e (nlen (len (outs g v)))) _ (fun e he => F148_spec K p hv (by have := outs_W he; unfold i64; omega)) [] (by simpa using hl))
theorem loop100_2 (p a b c : Int) (m : Bool) : F100_l0_2 K val p a b c m (outs g v) K [] 0 = some (bif m then sumO (sendA p val (manyO g v) (outs g v) []) else .inr []) := by
 have hl := outs_len (g := g) (v := v)
 cases m
 · obtain ⟨k, rfl⟩ : ∃ k, K = k + 1 := ⟨K - 1, by omega⟩
   rw [F100_l0_2]
   cases ilt 0 (nlen (len (outs g v))) <;> rfl
 · have e := scanL (l := outs g v) (L := fun k s i => F100_l0_2 K val p a b c true (outs g v) k s i) (fun e (s : List GMsg) c => (F148 K p val e (nlen (len (outs g v)))).bind fun r => bif r.2 then (bif (apok (len s) 1 16) then c (appL s [(GMsg.mk e.To r.1)]) else none) else some (.inl ())) (fun s => some (.inr s)) (fun k s i _ => rfl) (K := K) (by omega) (by omega) []
   exact e.trans (send_go p val (manyO g v) (fun e => F148 K p val e (nlen (len (outs g v)))) _ (fun e he => F148_spec K p hv (by have := outs_W he; unfold i64; omega)) [] (by simpa using hl))
omit hv in
theorem loop100_3 (val p a b c : Int) : F100_l0_3 K val p a b c (outs g v) K [] 0 = some (.inl []) := by
 obtain ⟨k, rfl⟩ : ∃ k, K = k + 1 := ⟨K - 1, by omega⟩
 rw [F100_l0_3, ieq_refl]
 cases ilt 0 (nlen (len (outs g v))) <;> rfl
end loops
def rankW (step val got : Int) (sm : Bool) : Int × Bool := bif ilt 0 step then sumS (bif sm then got else 0) else (val, true)
def rankS (step : Int) (w : Int × Bool) (many : Int) (l : List GEdge) : Int × List GMsg × Bool × Int :=
 bif w.2 then (bif ile 10 step then (w.1, [], true, 0) else sendO false w.1 (sendA 5 w.1 many l [])) else (0, [], false, 8)
def turnV (p val got : Int) (sm : Bool) : Int := bif sm then (foldS p val got).1 else val
def turnM (p src step v val w : Int) : Bool := bif ieq step 0 && (bif ieq p 1 || ieq p 3 then ieq v src else true) then true else ine w val
def moveS (p : Int) (m : Bool) (w many : Int) (l : List GEdge) : Int × List GMsg × Bool × Int :=
 bif m then sendO true w (sendA p w many l []) else (w, [], true, 0)
def turnS (g : GGraph) (j : GJob) (step v val got : Int) (sm : Bool) : Int × List GMsg × Bool × Int :=
 bif ieq (jcheck g j) 0 then
   (bif ilt v 0 then (0, [], false, 4) else bif ile g.N v then (0, [], false, 4)
    else bif ilt step 0 then (0, [], false, 1) else bif ilt 40 step then (0, [], false, 1)
    else bif ieq j.Prog 5 then rankS step (rankW step val got sm) (manyO g v) (outs g v)
    else moveS j.Prog (turnM j.Prog j.Source step v val (turnV j.Prog val got sm)) (turnV j.Prog val got sm) (manyO g v) (outs g v))
 else (0, [], false, jcheck g j)
theorem F146_spec {K : Nat} (hK : 100 ≤ K) (g : GGraph) (v step : Int) {val got : Int} (hv : i64 val) (hg : i64 got) : F146 K (outs g v) step val got = some (rankS step (rankW step val got true) (manyO g v) (outs g v)) := by
 rw [F146, F167_spec K 100 hg (by omega) (by omega), Option.bind_some, F144_spec K (by unfold i64; omega) ratioS_i64, rankW, rankS]
 cases hs : ilt 0 step
 · rw [loop146 hK g v hv, sum_elim]
   cases ile 10 step <;> rfl
 · rw [cond_true, cond_true, Option.bind_some, cond_true, sumS]
   cases (ratioS got 85 100).2
   · rfl
   · cases h2 : (addS 150000 (ratioS got 85 100).1).2
     · rw [cond_true, cond_true, h2]; rfl
     · rw [cond_true, cond_true, cond_true, h2, cond_true, loop146 hK g v addS_i64, sum_elim]
       cases ile 10 step <;> rfl
theorem F99_spec {K : Nat} (hK : 100 ≤ K) (g : GGraph) (j : GJob) (step v : Int) {val got : Int} (sm : Bool) (hv : i64 val) (hg : i64 got) : F99 K g j step v val got sm = some (turnS g j step v val got sm) := by
 rw [F99, F94_spec hK, Option.bind_some, turnS]
 cases hc : ieq (jcheck g j) 0
 · rfl
 · obtain ⟨hgc, p1, p2, p3, p4, p5, p6, p7, p8⟩ := jcheck_ok hc
   rw [cond_true, cond_true]
   cases h1 : ilt v 0
   · cases h2 : ile g.N v
     · cases h3 : ilt step 0
       · cases h4 : ilt 40 step
         · simp only [cond_false]
           rcases prog_cases j.Prog with q | q | q | q | q | q
           · have e5 : ieq 1 5 = false := rfl
             have e4 : ieq 1 4 = false := rfl
             have e1 : ieq 1 1 = true := rfl
             have e3 : ieq 1 3 = false := rfl
             have eb : pbad 1 = false := rfl
             rw [F68_spec hK, q, F143_1, turnM, turnV, foldS, e5, e4, e1, e3, eb, moveS]
             simp only [Option.bind_some, cond_true, cond_false, af_1_1, af_1_3, af_1_2, af_1_4, af_1_5, af_1_0, af_3_1, af_3_3, af_3_2, af_3_4, af_3_5, af_3_0, af_2_1, af_2_3, af_2_2, af_2_4, af_2_5, af_2_0, af_4_1, af_4_3, af_4_2, af_4_4, af_4_5, af_4_0, af_5_1, af_5_3, af_5_2, af_5_4, af_5_5, af_5_0, af_0_1, af_0_3, af_0_2, af_0_4, af_0_5, af_0_0, loop99_0 hK g v hv, loop99_0 hK g v hg, F159, sum_elim', Bool.or_true, Bool.true_or, Bool.or_false, Bool.and_true]
             cases sm
             · have : ine val val = false := ine_t (ieq_refl val)
               simp only [cond_false, this]
               cases ieq step 0 <;> cases ieq v j.Source <;> rfl
             · cases hb : ilt got val
               · have : ine val val = false := ine_t (ieq_refl val)
                 simp only [cond_true, cond_false, this]
                 cases ieq step 0 <;> cases ieq v j.Source <;> rfl
               · have : ine got val = true := ine_f (ieq_f.2 (by have := ilt_iff.1 hb; omega))
                 simp only [cond_true, cond_false, this]
                 cases ieq step 0 <;> cases ieq v j.Source <;> rfl
           · have e5 : ieq 2 5 = false := rfl
             have e4 : ieq 2 4 = false := rfl
             have e1 : ieq 2 1 = false := rfl
             have e3 : ieq 2 3 = false := rfl
             have eb : pbad 2 = false := rfl
             rw [F68_spec hK, q, F143_2, turnM, turnV, foldS, e5, e4, e1, e3, eb, moveS]
             simp only [Option.bind_some, cond_true, cond_false, af_1_1, af_1_3, af_1_2, af_1_4, af_1_5, af_1_0, af_3_1, af_3_3, af_3_2, af_3_4, af_3_5, af_3_0, af_2_1, af_2_3, af_2_2, af_2_4, af_2_5, af_2_0, af_4_1, af_4_3, af_4_2, af_4_4, af_4_5, af_4_0, af_5_1, af_5_3, af_5_2, af_5_4, af_5_5, af_5_0, af_0_1, af_0_3, af_0_2, af_0_4, af_0_5, af_0_0, loop99_2 hK g v val, loop99_2 hK g v got, F159, sum_elim', Bool.or_true, Bool.true_or, Bool.or_false, Bool.and_true]
             cases sm
             · have : ine val val = false := ine_t (ieq_refl val)
               simp only [cond_false, this]
               cases ieq step 0 <;> rfl
             · cases hb : ilt got val
               · have : ine val val = false := ine_t (ieq_refl val)
                 simp only [cond_true, cond_false, this]
                 cases ieq step 0 <;> rfl
               · have : ine got val = true := ine_f (ieq_f.2 (by have := ilt_iff.1 hb; omega))
                 simp only [cond_true, cond_false, this]
                 cases ieq step 0 <;> rfl
           · have e5 : ieq 3 5 = false := rfl
             have e4 : ieq 3 4 = false := rfl
             have e1 : ieq 3 1 = false := rfl
             have e3 : ieq 3 3 = true := rfl
             have eb : pbad 3 = false := rfl
             rw [F68_spec hK, q, F143_3, turnM, turnV, foldS, e5, e4, e1, e3, eb, moveS]
             simp only [Option.bind_some, cond_true, cond_false, af_1_1, af_1_3, af_1_2, af_1_4, af_1_5, af_1_0, af_3_1, af_3_3, af_3_2, af_3_4, af_3_5, af_3_0, af_2_1, af_2_3, af_2_2, af_2_4, af_2_5, af_2_0, af_4_1, af_4_3, af_4_2, af_4_4, af_4_5, af_4_0, af_5_1, af_5_3, af_5_2, af_5_4, af_5_5, af_5_0, af_0_1, af_0_3, af_0_2, af_0_4, af_0_5, af_0_0, loop99_1 hK g v hv, loop99_1 hK g v hg, F159, sum_elim', Bool.or_true, Bool.true_or, Bool.or_false, Bool.and_true]
             cases sm
             · have : ine val val = false := ine_t (ieq_refl val)
               simp only [cond_false, this]
               cases ieq step 0 <;> cases ieq v j.Source <;> rfl
             · cases hb : ilt got val
               · have : ine val val = false := ine_t (ieq_refl val)
                 simp only [cond_true, cond_false, this]
                 cases ieq step 0 <;> cases ieq v j.Source <;> rfl
               · have : ine got val = true := ine_f (ieq_f.2 (by have := ilt_iff.1 hb; omega))
                 simp only [cond_true, cond_false, this]
                 cases ieq step 0 <;> cases ieq v j.Source <;> rfl
           · have e5 : ieq 4 5 = false := rfl
             have e4 : ieq 4 4 = true := rfl
             have e1 : ieq 4 1 = false := rfl
             have e3 : ieq 4 3 = false := rfl
             have eb : pbad 4 = false := rfl
             rw [F68_spec hK, q, F143_4, turnM, turnV, foldS, e5, e4, e1, e3, eb, moveS]
             simp only [Option.bind_some, cond_true, cond_false, af_1_1, af_1_3, af_1_2, af_1_4, af_1_5, af_1_0, af_3_1, af_3_3, af_3_2, af_3_4, af_3_5, af_3_0, af_2_1, af_2_3, af_2_2, af_2_4, af_2_5, af_2_0, af_4_1, af_4_3, af_4_2, af_4_4, af_4_5, af_4_0, af_5_1, af_5_3, af_5_2, af_5_4, af_5_5, af_5_0, af_0_1, af_0_3, af_0_2, af_0_4, af_0_5, af_0_0, loop99_3 hK g v val, loop99_3 hK g v got, F165, igt, sum_elim', Bool.or_true, Bool.true_or, Bool.or_false, Bool.and_true]
             have hd : decide (got > val) = ilt val got := rfl
             rw [hd]
             cases sm
             · have : ine val val = false := ine_t (ieq_refl val)
               simp only [cond_false, this]
               cases ieq step 0 <;> rfl
             · cases hb : ilt val got
               · have : ine val val = false := ine_t (ieq_refl val)
                 simp only [cond_true, cond_false, this]
                 cases ieq step 0 <;> rfl
               · have : ine got val = true := ine_f (ieq_f.2 (by have := ilt_iff.1 hb; omega))
                 simp only [cond_true, cond_false, this]
                 cases ieq step 0 <;> rfl
           · have e5 : ieq 5 5 = true := rfl
             rw [F68_spec hK, q, F143_5, e5]
             simp only [Option.bind_some, cond_true, cond_false, af_1_1, af_1_3, af_1_2, af_1_4, af_1_5, af_1_0, af_3_1, af_3_3, af_3_2, af_3_4, af_3_5, af_3_0, af_2_1, af_2_3, af_2_2, af_2_4, af_2_5, af_2_0, af_4_1, af_4_3, af_4_2, af_4_4, af_4_5, af_4_0, af_5_1, af_5_3, af_5_2, af_5_4, af_5_5, af_5_0, af_0_1, af_0_3, af_0_2, af_0_4, af_0_5, af_0_0, F146_spec hK g v step hv hg, F146_spec hK g v step hv (show i64 0 by unfold i64; omega)]
             cases sm <;> rfl
           · omega
         · rfl
       · rfl
     · rfl
   · rfl
def turned (t : Int × List GMsg × Bool × Int) : GTurned := GTurned.mk t.1 t.2.1 t.2.2.1 t.2.2.2
theorem tsum (rest : Bool) (val : Int) (o : Option (List GMsg)) : Sum.elim (fun w => some (GTurned.mk 0 [] false 8)) (fun w => some (GTurned.mk val w rest 0)) (sumO o) = some (turned (sendO rest val o)) := by
 cases o <;> rfl
theorem tcond (rest : Bool) (val : Int) (m : Bool) (x y : Unit ⊕ List GMsg) : Sum.elim (fun w => some (GTurned.mk 0 [] false 8)) (fun w => some (GTurned.mk val w rest 0)) (bif m then x else y) = bif m then Sum.elim (fun w => some (GTurned.mk 0 [] false 8)) (fun w => some (GTurned.mk val w rest 0)) x else Sum.elim (fun w => some (GTurned.mk 0 [] false 8)) (fun w => some (GTurned.mk val w rest 0)) y := by
 cases m <;> rfl
theorem F100_spec {K : Nat} (hK : 100 ≤ K) (g : GGraph) (j : GJob) (step v : Int) {val got : Int} (sm : Bool) (hv : i64 val) (hg : i64 got) : F100 K g j step v val got sm = some (turned (turnS g j step v val got sm)) := by
 rw [F100, F59_spec hK, Option.bind_some, turnS]
 cases hc : ieq (jcheck g j) 0
 · rfl
 · obtain ⟨hgc, p1, p2, p3, p4, p5, p6, p7, p8⟩ := jcheck_ok hc
   rw [cond_true, cond_true]
   cases h1 : ilt v 0
   · cases h2 : ile g.N v
     · cases h3 : ilt step 0
       · cases h4 : ilt 40 step
         · have i0 : i64 0 := by unfold i64; omega
           have hf : i64 (foldS j.Prog val got).1 := foldS_i64 hv hg
           have fl : ine val val = false := ine_t (ieq_refl val)
           simp only [cond_false, F69_spec hK, Option.bind_some, F147_spec K hg, F147_spec K i0, F98_spec K j.Prog hv hg]
           cases q5 : ieq j.Prog 5
           · simp only [cond_false, loop100_1 hK g v hv, loop100_1 hK g v hf, loop100_2 hK g v hv, loop100_2 hK g v hf, loop100_3 hK g v, Option.bind_some, tsum, Sum.elim_inl, tcond, Sum.elim_inr, moveS, turnM, turnV]
             cases sm
             · simp only [cond_false, fl]
               cases ieq j.Prog 1 <;> cases ieq j.Prog 3 <;> cases ieq v j.Source <;> cases ieq step 0 <;> rfl
             · simp only [cond_true]
               cases ieq j.Prog 1 <;> cases ieq j.Prog 3 <;> cases ieq v j.Source <;> cases ieq step 0 <;> simp only [cond_true, cond_false, Bool.and_true, Bool.and_false, Bool.true_and, Bool.false_and, Bool.or_true, Bool.or_false] <;> first | rfl | (cases ine (foldS j.Prog val got).1 val <;> rfl)
           · have q := ieq_iff.1 q5
             rw [q]
             simp only [cond_true, loop100_0 hK g v hv, loop100_0 hK g v sumS_i64, Option.bind_some, tsum, Sum.elim_inl, tcond, Sum.elim_inr, rankS, rankW]
             have hm : ilt step 10 = !(ile 10 step) := by
               cases h : ile 10 step
               · have := ile_f.1 h; exact ilt_iff.2 (by omega)
               · have := ile_iff.1 h; exact ilt_f.2 (by omega)
             simp only [hm]
             cases sm <;> cases ilt 0 step <;> cases ile 10 step <;> simp only [cond_true, cond_false, Bool.not_true, Bool.not_false] <;> first | rfl | (cases (sumS got).2 <;> rfl) | (cases (sumS 0).2 <;> rfl)
         · rfl
       · rfl
     · rfl
   · rfl
theorem sendA_To {p val many : Int} : ∀ {l : List GEdge} {s r : List GMsg}, sendA p val many l s = some r → r.map (·.To) = s.map (·.To) ++ l.map (·.To)
 | [], s, r, h => by injection h with h; subst h; simp
 | e :: l, s, r, h => by
   rw [sendA] at h
   cases hq : (sendS p val e many).2
   · rw [hq] at h; cases h
   · rw [hq, cond_true] at h
     rw [sendA_To h]; simp
theorem turn_out {g : GGraph} {j : GJob} {step v val got : Int} {sm : Bool} (h : ieq (turnS g j step v val got sm).2.2.2 0 = true) :
   (turnS g j step v val got sm).2.1 = [] ∨ ((turnS g j step v val got sm).2.1.map (·.To) = (outs g v).map (·.To)) := by
 have hs : ∀ (b : Bool) (w : Int) (p : Int), (sendO b w (sendA p w (manyO g v) (outs g v) [])).2.1 = [] ∨ (sendO b w (sendA p w (manyO g v) (outs g v) [])).2.1.map (·.To) = (outs g v).map (·.To) := fun b w p => by
   cases hq : sendA p w (manyO g v) (outs g v) []
   · left; rfl
   · right; have := sendA_To hq; simpa [sendO] using this
 rw [turnS]
 cases ieq (jcheck g j) 0
 · left; rfl
 · cases ilt v 0
   · cases ile g.N v
     · cases ilt step 0
       · cases ilt 40 step
         · simp only [cond_true, cond_false]
           cases ieq j.Prog 5
           · rw [cond_false, moveS]
             cases turnM j.Prog j.Source step v val (turnV j.Prog val got sm)
             · left; rfl
             · exact hs _ _ _
           · rw [cond_true, rankS]
             cases (rankW step val got sm).2
             · left; rfl
             · cases ile 10 step
               · exact hs _ _ _
               · left; rfl
         · left; rfl
       · left; rfl
     · left; rfl
   · left; rfl
theorem turn_bad {g : GGraph} {j : GJob} {step v val got : Int} {sm : Bool} (h : ieq (turnS g j step v val got sm).2.2.2 0 = false) : (turnS g j step v val got sm).1 = 0 ∧ (turnS g j step v val got sm).2.1 = [] := by
 have hs : ∀ (b : Bool) (w : Int) (o : Option (List GMsg)), ieq (sendO b w o).2.2.2 0 = false → (sendO b w o).1 = 0 ∧ (sendO b w o).2.1 = [] := fun b w o => by
   cases o
   · intro _; exact ⟨rfl, rfl⟩
   · intro h; cases h
 rw [turnS] at h ⊢
 cases hc : ieq (jcheck g j) 0
 · exact ⟨rfl, rfl⟩
 · rw [hc] at h
   cases h1 : ilt v 0
   · cases h2 : ile g.N v
     · cases h3 : ilt step 0
       · cases h4 : ilt 40 step
         · rw [h1, h2, h3, h4] at h
           simp only [cond_true, cond_false] at h ⊢
           cases h5 : ieq j.Prog 5
           · rw [h5, cond_false, moveS] at h
             rw [cond_false, moveS]
             cases hm : turnM j.Prog j.Source step v val (turnV j.Prog val got sm)
             · rw [hm] at h; cases h
             · rw [hm] at h; exact hs _ _ _ h
           · rw [h5, cond_true, rankS] at h
             rw [cond_true, rankS]
             cases hw : (rankW step val got sm).2
             · exact ⟨rfl, rfl⟩
             · rw [hw] at h
               cases h10 : ile 10 step
               · rw [h10] at h; exact hs _ _ _ h
               · rw [h10] at h; cases h
         · exact ⟨rfl, rfl⟩
       · exact ⟨rfl, rfl⟩
     · exact ⟨rfl, rfl⟩
   · exact ⟨rfl, rfl⟩
theorem scanN {σ β : Type} {N : Int} {L : Nat → σ → Int → Option β} (step : Nat → σ → (σ → Option β) → Option β) (fin : σ → Option β)
   (h : ∀ k s (i : Nat), i ≤ N.toNat → L (k + 1) s i = bif ilt i N then step i s (fun s' => L k s' (wadd .i64 i 1)) else fin s) (hN : N ≤ 1000000) {K : Nat} (hK : N.toNat < K) (s : σ) :
   L K s 0 = goL step fin (List.range N.toNat) s := by
 have hw : ∀ (k : Nat) (s : σ) (i : Nat), N.toNat - i < k → i ≤ N.toNat → L k s i = goL step fin ((List.range N.toNat).drop i) s := by
   intro k
   induction k with
   | zero => intro s i h; omega
   | succ k ih =>
     intro s i hk hi
     rw [h k s i hi]
     by_cases hlt : i < N.toNat
     · have e : (List.range N.toNat).drop i = i :: (List.range N.toNat).drop (i + 1) := by
         rw [List.drop_eq_getElem_cons (by simpa using hlt)]; simp
       rw [ilt_iff.2 (by omega : (i : Int) < N), cond_true, e, goL]
       congr 1
       funext s'
       rw [wadd_nat (by omega)]
       exact ih s' (i + 1) (by omega) (by omega)
     · have e : (List.range N.toNat).drop i = [] := List.drop_eq_nil_of_le (by simp; omega)
       rw [ilt_f.2 (by omega : N ≤ (i : Int)), cond_false, e]; rfl
 have := hw K s 0 (by omega) (by omega)
 rw [List.drop_zero] at this
 exact this
noncomputable def hn88 : Hint := { H 88 with nt := 75, prot := 0 }
noncomputable def c88_0 : Code := loopOf E 88 0
def F88_res (r1227 : Bool) : Res := ⟨[(.one (.im (.lit (.bool r1227))))], []⟩
def F88_l0_0 (K : Nat) (a1185 : GGraph) (a1187 : GState) : Nat → Int → Option ((Unit) ⊕ (Unit))
 | 0, _ => none
 | k + 1, v1201 =>
  bif (ilt v1201 (nlen (len a1187.In))) then
   (bif (inr v1201 (len a1187.In)) then
   (elAt a1187.In v1201).bind fun x1204 =>
   bif (ilt x1204.To 0) then
    (some (.inl ()))
   else
   bif (ile a1185.N x1204.To) then
    (some (.inl ()))
   else
   bif (ilt 0 v1201) then
    (bif (inr (wsub .i64 v1201 1) (len a1187.In)) then
    (elAt a1187.In (wsub .i64 v1201 1)).bind fun x1210 =>
    bif (ile x1204.To x1210.To) then
     (some (.inl ()))
    else
    F88_l0_0 K a1185 a1187 k (wadd .i64 v1201 1)
    else none)
   else
   F88_l0_0 K a1185 a1187 k (wadd .i64 v1201 1)
   else none)
  else
  some (.inr ())
def F88_l0_0_S (a1185 : GGraph) (a1187 : GState) (v1201 : Int) : TS := .on [192, 193, 194, 320, 321, 322, 323, 324, 448, 449] [(192, ⟨(.box 62 2), 0, nob⟩), (193, ⟨.im, 0, (.lit (.int .i64 a1185.N))⟩), (194, ⟨.im, 0, (.sl (len a1185.Edges) (flat eGEdge a1185.Edges))⟩), (320, ⟨(.box 74 4), 0, nob⟩), (321, ⟨.im, 0, (.lit (.int .i64 a1187.Step))⟩), (322, ⟨.im, 0, (.sl (len a1187.Vals) (flat (eInt .i64) a1187.Vals))⟩), (323, ⟨.im, 0, (.sl (len a1187.Rest) (flat eBool a1187.Rest))⟩), (324, ⟨.im, 0, (.sl (len a1187.In) (flat eGMsg a1187.In))⟩), (448, ⟨.one, 0, nob⟩), (449, ⟨.im, 0, (.lit (.int .i64 v1201))⟩)]
def F88_l0_0_X0 (a1185 : GGraph) (a1187 : GState) (w1213 : Unit) : TS := .on [384, 385] [(384, ⟨.one, 0, nob⟩), (385, ⟨.im, 0, (.lit (.bool false))⟩)]
def F88_l0_0_X1 (a1185 : GGraph) (a1187 : GState) (w1214 : Unit) : TS := .on [] []
theorem F88_l0_0_ok (K : Nat) (a1185 : GGraph) (a1187 : GState) : ∀ (k : Nat) (v1201 : Int) (r : (Unit) ⊕ (Unit)), F88_l0_0 K a1185 a1187 k v1201 = some r → (Sum.elim (fun w => LoopEv E H hn88 0 c88_0 (F88_l0_0_S a1185 a1187 v1201) .ret (F88_l0_0_X0 a1185 a1187 w)) (fun w => LoopEv E H hn88 0 c88_0 (F88_l0_0_S a1185 a1187 v1201) (.exit 0) (F88_l0_0_X1 a1185 a1187 w))) r := by
 intro k
 induction k with
 | zero => intro v1201 r hF; cases hF
 | succ k ih =>
  intro v1201 r hF
  rw [F88_l0_0] at hF
  refine cond_some hF (fun h1202 hF => ?_) (fun h1202 hF => ?_)
  ·
   refine cond_some hF (fun h1203 hF => ?_) (fun _ hF => nomatch hF)
   refine bind_some hF (fun x1204 h1205 hF => ?_)
   have pq1215 : ∀ {l : List Cond}, HoldAll E H hn88 l → HoldAll E H hn88 (.int (nlen (len a1187.In)) (nlen (len a1187.In)) :: .test (ilt v1201 (nlen (len a1187.In))) true :: .test (inr v1201 (len a1187.In)) true :: .sub (flat eGMsg a1187.In) (nadd (nidx v1201 2) 0) 1 [(.lit (.int .i64 x1204.To))] :: l) := fun z => ⟨rfl, h1202, h1203, ⟨rfl, sub_flat eGMsg_len h1205 0 1 (by decide)⟩, z⟩
   refine cond_some hF (fun h1206 hF => ?_) (fun h1206 hF => ?_)
   ·
    obtain rfl := Option.some.inj hF
    have pz : HoldAll E H hn88 [.test (beqb (ilt x1204.To 0) false) false, .test (beqb (ilt x1204.To 0) false) false, .test (beqb (ilt x1204.To 0) false) false, .test (beqb (ilt x1204.To 0) false) false, .test (ilt x1204.To 0) true, .test (beqb true false) false, .test (beqb true false) false, .test (beqb true false) false, .test (beqb true false) false, .test true true, .test true true] := ⟨(beqb_ft h1206), (beqb_ft h1206), (beqb_ft h1206), (beqb_ft h1206), h1206, (beqb_ft rfl), (beqb_ft rfl), (beqb_ft rfl), (beqb_ft rfl), rfl, rfl, trivial⟩
    exact loop_endC (h := hn88) (l := 0) (c := c88_0) (ts := F88_l0_0_S a1185 a1187 v1201) (ts' := F88_l0_0_X0 a1185 a1187 ()) (ex := .ret) (pq1215 pz) (by kernel_rfl) trivial
   have pq1216 : ∀ {l : List Cond}, HoldAll E H hn88 l → HoldAll E H hn88 (.test (beqb (ilt x1204.To 0) false) true :: .test (beqb (ilt x1204.To 0) false) true :: .test (beqb (ilt x1204.To 0) false) true :: .test (beqb (ilt x1204.To 0) false) true :: .test (ilt x1204.To 0) false :: l) := fun z => ⟨(beqb_ff h1206), (beqb_ff h1206), (beqb_ff h1206), (beqb_ff h1206), h1206, z⟩
   refine cond_some hF (fun h1207 hF => ?_) (fun h1207 hF => ?_)
   ·
    obtain rfl := Option.some.inj hF
    have pz : HoldAll E H hn88 [.test (beqb (ige x1204.To a1185.N) false) false, .test (beqb (ige x1204.To a1185.N) false) false, .test (beqb (ige x1204.To a1185.N) false) false, .test (beqb (ige x1204.To a1185.N) false) false, .test (ige x1204.To a1185.N) true, .test true true] := ⟨(beqb_ft (ige_eq h1207)), (beqb_ft (ige_eq h1207)), (beqb_ft (ige_eq h1207)), (beqb_ft (ige_eq h1207)), (ige_eq h1207), rfl, trivial⟩
    exact loop_endC (h := hn88) (l := 0) (c := c88_0) (ts := F88_l0_0_S a1185 a1187 v1201) (ts' := F88_l0_0_X0 a1185 a1187 ()) (ex := .ret) (pq1215 (pq1216 pz)) (by kernel_rfl) trivial
   have pq1217 : ∀ {l : List Cond}, HoldAll E H hn88 l → HoldAll E H hn88 (.test (beqb (ige x1204.To a1185.N) false) true :: .test (beqb (ige x1204.To a1185.N) false) true :: .test (beqb (ige x1204.To a1185.N) false) true :: l) := fun z => ⟨(beqb_ff (ige_eq h1207)), (beqb_ff (ige_eq h1207)), (beqb_ff (ige_eq h1207)), z⟩
   refine cond_some hF (fun h1208 hF => ?_) (fun h1208 hF => ?_)
   ·
    refine cond_some hF (fun h1209 hF => ?_) (fun _ hF => nomatch hF)
    refine bind_some hF (fun x1210 h1211 hF => ?_)
    have pq1218 : ∀ {l : List Cond}, HoldAll E H hn88 l → HoldAll E H hn88 (.test (beqb (igt v1201 0) true) true :: .test (beqb (igt v1201 0) true) true :: .test (beqb (igt v1201 0) true) true :: .test (beqb (igt v1201 0) true) true :: .int (wsub .i64 v1201 1) (wsub .i64 v1201 1) :: .test (beqb (igt v1201 0) true) true :: .test (inr (wsub .i64 v1201 1) (len a1187.In)) true :: .test (beqb (igt v1201 0) true) true :: .test (beqb (igt v1201 0) true) true :: .sub (flat eGMsg a1187.In) (nadd (nidx (wsub .i64 v1201 1) 2) 0) 1 [(.lit (.int .i64 x1210.To))] :: .test (beqb (igt v1201 0) true) true :: .test (beqb (igt v1201 0) true) true :: .test (beqb (ige x1204.To a1185.N) false) true :: .test (igt v1201 0) true :: .test (ige x1204.To a1185.N) false :: l) := fun z => ⟨(beqb_t (igt_eq h1208)), (beqb_t (igt_eq h1208)), (beqb_t (igt_eq h1208)), (beqb_t (igt_eq h1208)), rfl, (beqb_t (igt_eq h1208)), h1209, (beqb_t (igt_eq h1208)), (beqb_t (igt_eq h1208)), ⟨rfl, sub_flat eGMsg_len h1211 0 1 (by decide)⟩, (beqb_t (igt_eq h1208)), (beqb_t (igt_eq h1208)), (beqb_ff (ige_eq h1207)), (igt_eq h1208), (ige_eq h1207), z⟩
    refine cond_some hF (fun h1212 hF => ?_) (fun h1212 hF => ?_)
    ·
     obtain rfl := Option.some.inj hF
     have pz : HoldAll E H hn88 [.test (ige x1210.To x1204.To) true] := ⟨(ige_eq h1212), trivial⟩
     exact loop_endC (h := hn88) (l := 0) (c := c88_0) (ts := F88_l0_0_S a1185 a1187 v1201) (ts' := F88_l0_0_X0 a1185 a1187 ()) (ex := .ret) (pq1215 (pq1216 (pq1217 (pq1218 pz)))) (by kernel_rfl) trivial
    have pz : HoldAll E H hn88 [.test (ige x1210.To x1204.To) false, .int (wadd .i64 v1201 1) (wadd .i64 v1201 1)] := ⟨(ige_eq h1212), rfl, trivial⟩
    have h0 := ih _ _ hF
    have hn := fun ex ts' => loop_nextC (h := hn88) (l := 0) (c := c88_0) (ts := F88_l0_0_S a1185 a1187 v1201) (ts1 := (F88_l0_0_S a1185 a1187 (wadd .i64 v1201 1))) (ex := ex) (ts' := ts') (pq1215 (pq1216 (pq1217 (pq1218 pz)))) (by kernel_rfl)
    cases r with
    | inl w => exact hn _ _ h0
    | inr w => exact hn _ _ h0
   have pz : HoldAll E H hn88 [.test (beqb (igt v1201 0) true) false, .test (beqb (igt v1201 0) true) false, .test (beqb (igt v1201 0) true) false, .test (beqb (igt v1201 0) true) false, .test (beqb (igt v1201 0) true) false, .test (beqb (igt v1201 0) true) false, .test (beqb (igt v1201 0) true) false, .test (beqb (igt v1201 0) true) false, .test (beqb (igt v1201 0) true) false, .test (beqb (ige x1204.To a1185.N) false) true, .test (igt v1201 0) false, .test (ige x1204.To a1185.N) false, .test false false, .int (wadd .i64 v1201 1) (wadd .i64 v1201 1)] := ⟨(beqb_t (igt_eq h1208)), (beqb_t (igt_eq h1208)), (beqb_t (igt_eq h1208)), (beqb_t (igt_eq h1208)), (beqb_t (igt_eq h1208)), (beqb_t (igt_eq h1208)), (beqb_t (igt_eq h1208)), (beqb_t (igt_eq h1208)), (beqb_t (igt_eq h1208)), (beqb_ff (ige_eq h1207)), (igt_eq h1208), (ige_eq h1207), rfl, rfl, trivial⟩
   have h0 := ih _ _ hF
   have hn := fun ex ts' => loop_nextC (h := hn88) (l := 0) (c := c88_0) (ts := F88_l0_0_S a1185 a1187 v1201) (ts1 := (F88_l0_0_S a1185 a1187 (wadd .i64 v1201 1))) (ex := ex) (ts' := ts') (pq1215 (pq1216 (pq1217 pz))) (by kernel_rfl)
   cases r with
   | inl w => exact hn _ _ h0
   | inr w => exact hn _ _ h0
  obtain rfl := Option.some.inj hF
  have pz : HoldAll E H hn88 [.int (nlen (len a1187.In)) (nlen (len a1187.In)), .test (ilt v1201 (nlen (len a1187.In))) false] := ⟨rfl, h1202, trivial⟩
  exact loop_endC (h := hn88) (l := 0) (c := c88_0) (ts := F88_l0_0_S a1185 a1187 v1201) (ts' := F88_l0_0_X1 a1185 a1187 ()) (ex := (.exit 0)) pz (by kernel_rfl) trivial
def F88 (K : Nat) (a1185 : GGraph) (a1186 : GJob) (a1187 : GState) : Option (Bool) :=
 (F59 K a1185 a1186).bind fun r1188 =>
 bif (ieq r1188 0) then
  (bif (ilt a1187.Step 0) then
   (some false)
  else
  bif (ilt 40 a1187.Step) then
   (some false)
  else
  bif (ieq (nlen (len a1187.Vals)) a1185.N) then
   (bif (ieq (nlen (len a1187.Rest)) a1185.N) then
    ((F88_l0_0 K a1185 a1187 K 0).bind fun y1220 =>
    Sum.elim (fun w1221 =>
     some false)
     (fun w1222 =>
     some true) y1220)
   else
   some false)
  else
  some false)
 else
 some false
theorem F88_ok (K : Nat) (a1185 : GGraph) (a1186 : GJob) (a1187 : GState) (r : Bool) (hF : F88 K a1185 a1186 a1187 = some r) : Evt E H 88 [.agg (eGGraph a1185), .agg (eGJob a1186), .agg (eGState a1187)] (F88_res r) := by
 rw [F88] at hF
 refine bind_some hF (fun r1188 h1189 hF => ?_)
 refine cond_some hF (fun h1190 hF => ?_) (fun h1190 hF => ?_)
 ·
  have pq1223 : ∀ {l : List Cond}, HoldAll E H hn88 l → HoldAll E H hn88 (.call 59 [.agg (eGGraph a1185), .agg (eGJob a1186)] (F59_res r1188) :: .test (leadsAny (Res.mk [(.one (.im (.lit (.int .i64 r1188))))] [])) false :: .test (beqb (ine r1188 0) false) true :: .test (beqb (ine r1188 0) false) true :: .test (beqb (ine r1188 0) false) true :: .test (ine r1188 0) false :: l) := fun z => ⟨(F59_ok K a1185 a1186 _ h1189), (leads_ok (by simp [leadsAny, RV.leads, RC.leads, leadsT, hasSl_lit, flat_ns eGJob_ns])), (beqb_ff (ine_t h1190)), (beqb_ff (ine_t h1190)), (beqb_ff (ine_t h1190)), (ine_t h1190), z⟩
  refine cond_some hF (fun h1191 hF => ?_) (fun h1191 hF => ?_)
  ·
   obtain rfl := Option.some.inj hF
   have pz : HoldAll E H hn88 [.test (beqb (ilt a1187.Step 0) false) false, .test (beqb (ilt a1187.Step 0) false) false, .test (beqb (ilt a1187.Step 0) false) false, .test (ilt a1187.Step 0) true, .test (beqb true false) false, .test (beqb true false) false, .test (beqb true false) false, .test (beqb true false) false, .test (beqb true false) false, .test (beqb true false) false, .test true true, .test (beqb true false) false, .test (beqb true false) false, .test (beqb true false) false, .test (beqb true false) false, .test (beqb true false) false, .test (beqb true false) false, .test true true, .test true true] := ⟨(beqb_ft h1191), (beqb_ft h1191), (beqb_ft h1191), h1191, (beqb_ft rfl), (beqb_ft rfl), (beqb_ft rfl), (beqb_ft rfl), (beqb_ft rfl), (beqb_ft rfl), rfl, (beqb_ft rfl), (beqb_ft rfl), (beqb_ft rfl), (beqb_ft rfl), (beqb_ft rfl), (beqb_ft rfl), rfl, rfl, trivial⟩
   exact fn_playC hn88 (r := F88_res false) (pq1223 pz) (by kernel_rfl) (by kernel_rfl)
  have pq1224 : ∀ {l : List Cond}, HoldAll E H hn88 l → HoldAll E H hn88 (.test (beqb (ilt a1187.Step 0) false) true :: .test (beqb (ilt a1187.Step 0) false) true :: .test (beqb (ilt a1187.Step 0) false) true :: .test (ilt a1187.Step 0) false :: l) := fun z => ⟨(beqb_ff h1191), (beqb_ff h1191), (beqb_ff h1191), h1191, z⟩
  refine cond_some hF (fun h1192 hF => ?_) (fun h1192 hF => ?_)
  ·
   obtain rfl := Option.some.inj hF
   have pz : HoldAll E H hn88 [.test (beqb (igt a1187.Step 40) false) false, .test (beqb (igt a1187.Step 40) false) false, .test (beqb (igt a1187.Step 40) false) false, .test (beqb (igt a1187.Step 40) false) false, .test (beqb (igt a1187.Step 40) false) false, .test (beqb (igt a1187.Step 40) false) false, .test (igt a1187.Step 40) true, .test (beqb true false) false, .test (beqb true false) false, .test (beqb true false) false, .test (beqb true false) false, .test (beqb true false) false, .test (beqb true false) false, .test true true, .test true true] := ⟨(beqb_ft (igt_eq h1192)), (beqb_ft (igt_eq h1192)), (beqb_ft (igt_eq h1192)), (beqb_ft (igt_eq h1192)), (beqb_ft (igt_eq h1192)), (beqb_ft (igt_eq h1192)), (igt_eq h1192), (beqb_ft rfl), (beqb_ft rfl), (beqb_ft rfl), (beqb_ft rfl), (beqb_ft rfl), (beqb_ft rfl), rfl, rfl, trivial⟩
   exact fn_playC hn88 (r := F88_res false) (pq1223 (pq1224 pz)) (by kernel_rfl) (by kernel_rfl)
  have pq1225 : ∀ {l : List Cond}, HoldAll E H hn88 l → HoldAll E H hn88 (.test (beqb (igt a1187.Step 40) false) true :: .test (beqb (igt a1187.Step 40) false) true :: .test (beqb (igt a1187.Step 40) false) true :: .int (nlen (len a1187.Vals)) (nlen (len a1187.Vals)) :: .test (beqb (igt a1187.Step 40) false) true :: .test (beqb (igt a1187.Step 40) false) true :: .test (beqb (igt a1187.Step 40) false) true :: .test (igt a1187.Step 40) false :: l) := fun z => ⟨(beqb_ff (igt_eq h1192)), (beqb_ff (igt_eq h1192)), (beqb_ff (igt_eq h1192)), rfl, (beqb_ff (igt_eq h1192)), (beqb_ff (igt_eq h1192)), (beqb_ff (igt_eq h1192)), (igt_eq h1192), z⟩
  refine cond_some hF (fun h1193 hF => ?_) (fun h1193 hF => ?_)
  ·
   have pq1226 : ∀ {l : List Cond}, HoldAll E H hn88 l → HoldAll E H hn88 (.test (beqb (ine (nlen (len a1187.Vals)) a1185.N) false) true :: .test (beqb (ine (nlen (len a1187.Vals)) a1185.N) false) true :: .test (beqb (ine (nlen (len a1187.Vals)) a1185.N) false) true :: .int (nlen (len a1187.Rest)) (nlen (len a1187.Rest)) :: .test (beqb (ine (nlen (len a1187.Vals)) a1185.N) false) true :: .test (beqb (ine (nlen (len a1187.Vals)) a1185.N) false) true :: .test (beqb (ine (nlen (len a1187.Vals)) a1185.N) false) true :: .test (ine (nlen (len a1187.Vals)) a1185.N) false :: l) := fun z => ⟨(beqb_ff (ine_t h1193)), (beqb_ff (ine_t h1193)), (beqb_ff (ine_t h1193)), rfl, (beqb_ff (ine_t h1193)), (beqb_ff (ine_t h1193)), (beqb_ff (ine_t h1193)), (ine_t h1193), z⟩
   refine cond_some hF (fun h1194 hF => ?_) (fun h1194 hF => ?_)
   ·
    refine bind_some hF (fun y1220 h1219 hF => ?_)
    refine sum_some hF (fun w1221 hx hF => ?_) (fun w1222 hx hF => ?_)
    ·
     subst hx
     obtain rfl := Option.some.inj hF
     have pz : HoldAll E H hn88 [.test (ine (nlen (len a1187.Rest)) a1185.N) false, .loop 0 c88_0 (F88_l0_0_S a1185 a1187 0) .ret (F88_l0_0_X0 a1185 a1187 w1221)] := ⟨(ine_t h1194), (F88_l0_0_ok K a1185 a1187 K 0 _ h1219), trivial⟩
     exact fn_playC hn88 (r := F88_res false) (pq1223 (pq1224 (pq1225 (pq1226 pz)))) (by kernel_rfl) (by kernel_rfl)
    subst hx
    obtain rfl := Option.some.inj hF
    have pz : HoldAll E H hn88 [.test (ine (nlen (len a1187.Rest)) a1185.N) false, .loop 0 c88_0 (F88_l0_0_S a1185 a1187 0) (.exit 0) (F88_l0_0_X1 a1185 a1187 w1222)] := ⟨(ine_t h1194), (F88_l0_0_ok K a1185 a1187 K 0 _ h1219), trivial⟩
    exact fn_playC hn88 (r := F88_res true) (pq1223 (pq1224 (pq1225 (pq1226 pz)))) (by kernel_rfl) (by kernel_rfl)
   obtain rfl := Option.some.inj hF
   have pz : HoldAll E H hn88 [.test (ine (nlen (len a1187.Rest)) a1185.N) true] := ⟨(ine_f h1194), trivial⟩
   exact fn_playC hn88 (r := F88_res false) (pq1223 (pq1224 (pq1225 (pq1226 pz)))) (by kernel_rfl) (by kernel_rfl)
  obtain rfl := Option.some.inj hF
  have pz : HoldAll E H hn88 [.test (beqb (ine (nlen (len a1187.Vals)) a1185.N) false) false, .test (beqb (ine (nlen (len a1187.Vals)) a1185.N) false) false, .test (beqb (ine (nlen (len a1187.Vals)) a1185.N) false) false, .test (beqb (ine (nlen (len a1187.Vals)) a1185.N) false) false, .test (beqb (ine (nlen (len a1187.Vals)) a1185.N) false) false, .test (beqb (ine (nlen (len a1187.Vals)) a1185.N) false) false, .test (ine (nlen (len a1187.Vals)) a1185.N) true, .test true true] := ⟨(beqb_ft (ine_f h1193)), (beqb_ft (ine_f h1193)), (beqb_ft (ine_f h1193)), (beqb_ft (ine_f h1193)), (beqb_ft (ine_f h1193)), (beqb_ft (ine_f h1193)), (ine_f h1193), rfl, trivial⟩
  exact fn_playC hn88 (r := F88_res false) (pq1223 (pq1224 (pq1225 pz))) (by kernel_rfl) (by kernel_rfl)
 obtain rfl := Option.some.inj hF
 have pz : HoldAll E H hn88 [.call 59 [.agg (eGGraph a1185), .agg (eGJob a1186)] (F59_res r1188), .test (leadsAny (Res.mk [(.one (.im (.lit (.int .i64 r1188))))] [])) false, .test (beqb (ine r1188 0) false) false, .test (beqb (ine r1188 0) false) false, .test (beqb (ine r1188 0) false) false, .test (ine r1188 0) true, .test (beqb true false) false, .test (beqb true false) false, .test (beqb true false) false, .test true true, .test (beqb true false) false, .test (beqb true false) false, .test (beqb true false) false, .test (beqb true false) false, .test (beqb true false) false, .test (beqb true false) false, .test true true, .test (beqb true false) false, .test (beqb true false) false, .test (beqb true false) false, .test (beqb true false) false, .test (beqb true false) false, .test (beqb true false) false, .test true true, .test true true] := ⟨(F59_ok K a1185 a1186 _ h1189), (leads_ok (by simp [leadsAny, RV.leads, RC.leads, leadsT, hasSl_lit, flat_ns eGJob_ns])), (beqb_ft (ine_f h1190)), (beqb_ft (ine_f h1190)), (beqb_ft (ine_f h1190)), (ine_f h1190), (beqb_ft rfl), (beqb_ft rfl), (beqb_ft rfl), rfl, (beqb_ft rfl), (beqb_ft rfl), (beqb_ft rfl), (beqb_ft rfl), (beqb_ft rfl), (beqb_ft rfl), rfl, (beqb_ft rfl), (beqb_ft rfl), (beqb_ft rfl), (beqb_ft rfl), (beqb_ft rfl), (beqb_ft rfl), rfl, rfl, trivial⟩
 exact fn_playC hn88 (r := F88_res false) pz (by kernel_rfl) (by kernel_rfl)
noncomputable def hn104 : Hint := { H 104 with nt := 61, prot := 0 }
noncomputable def c104_0 : Code := loopOf E 104 0
def F104_res (r3470 : Bool) : Res := ⟨[(.one (.im (.lit (.bool r3470))))], []⟩
def F104_l0_0 (K : Nat) (a3434 : GGraph) (a3436 : GState) : Nat → Int → Int → Option ((Unit) ⊕ (Unit))
 | 0, _, _ => none
 | k + 1, v3450, v3451 =>
  bif (ilt v3451 (nlen (len a3436.In))) then
   (bif (inr v3451 (len a3436.In)) then
   (elAt a3436.In v3451).bind fun x3454 =>
   bif (ile x3454.To v3450) then
    (some (.inl ()))
   else
   bif (ile a3434.N x3454.To) then
    (some (.inl ()))
   else
   F104_l0_0 K a3434 a3436 k x3454.To (wadd .i64 v3451 1)
   else none)
  else
  some (.inr ())
def F104_l0_0_S (a3434 : GGraph) (a3436 : GState) (v3450 : Int) (v3451 : Int) : TS := .on [192, 193, 194, 320, 321, 322, 323, 324, 448, 449, 2560, 2624, 2625, 2688, 2689, 2752, 2753] [(192, ⟨(.box 62 2), 0, nob⟩), (193, ⟨.im, 0, (.lit (.int .i64 a3434.N))⟩), (194, ⟨.im, 0, (.sl (len a3434.Edges) (flat eGEdge a3434.Edges))⟩), (320, ⟨(.box 74 4), 0, nob⟩), (321, ⟨.im, 0, (.lit (.int .i64 a3436.Step))⟩), (322, ⟨.im, 0, (.sl (len a3436.Vals) (flat (eInt .i64) a3436.Vals))⟩), (323, ⟨.im, 0, (.sl (len a3436.Rest) (flat eBool a3436.Rest))⟩), (324, ⟨.im, 0, (.sl (len a3436.In) (flat eGMsg a3436.In))⟩), (448, ⟨.one, 0, nob⟩), (449, ⟨.im, 0, (.lit (.int .i64 v3450))⟩), (2560, ⟨(.ad 5 0 3), 0, nob⟩), (2624, ⟨.one, 0, nob⟩), (2625, ⟨.im, 0, (.sl (len a3436.In) (flat eGMsg a3436.In))⟩), (2688, ⟨.one, 0, nob⟩), (2689, ⟨.im, 0, (.lit (.int .i64 (nlen (len a3436.In))))⟩), (2752, ⟨.one, 0, nob⟩), (2753, ⟨.im, 0, (.lit (.int .i64 v3451))⟩)]
def F104_l0_0_X0 (a3434 : GGraph) (a3436 : GState) (w3458 : Unit) : TS := .on [384, 385] [(384, ⟨.one, 0, nob⟩), (385, ⟨.im, 0, (.lit (.bool false))⟩)]
def F104_l0_0_X1 (a3434 : GGraph) (a3436 : GState) (w3459 : Unit) : TS := .on [] []
theorem F104_l0_0_ok (K : Nat) (a3434 : GGraph) (a3436 : GState) : ∀ (k : Nat) (v3450 : Int) (v3451 : Int) (r : (Unit) ⊕ (Unit)), F104_l0_0 K a3434 a3436 k v3450 v3451 = some r → (Sum.elim (fun w => LoopEv E H hn104 0 c104_0 (F104_l0_0_S a3434 a3436 v3450 v3451) .ret (F104_l0_0_X0 a3434 a3436 w)) (fun w => LoopEv E H hn104 0 c104_0 (F104_l0_0_S a3434 a3436 v3450 v3451) (.exit 0) (F104_l0_0_X1 a3434 a3436 w))) r := by
 intro k
 induction k with
 | zero => intro v3450 v3451 r hF; cases hF
 | succ k ih =>
  intro v3450 v3451 r hF
  rw [F104_l0_0] at hF
  refine cond_some hF (fun h3452 hF => ?_) (fun h3452 hF => ?_)
  ·
   refine cond_some hF (fun h3453 hF => ?_) (fun _ hF => nomatch hF)
   refine bind_some hF (fun x3454 h3455 hF => ?_)
   have pq3460 : ∀ {l : List Cond}, HoldAll E H hn104 l → HoldAll E H hn104 (.test (ilt v3451 (nlen (len a3436.In))) true :: .test (inr v3451 (len a3436.In)) true :: .sub (flat eGMsg a3436.In) (nidx v3451 2) 2 [(.lit (.int .i64 x3454.To)), (.lit (.int .i64 x3454.V))] :: l) := fun z => ⟨h3452, h3453, ⟨rfl, sub_flat0 eGMsg_len h3455 2 (by decide)⟩, z⟩
   refine cond_some hF (fun h3456 hF => ?_) (fun h3456 hF => ?_)
   ·
    obtain rfl := Option.some.inj hF
    have pz : HoldAll E H hn104 [.test (beqb (ile x3454.To v3450) false) false, .test (beqb (ile x3454.To v3450) false) false, .test (beqb (ile x3454.To v3450) false) false, .test (beqb (ile x3454.To v3450) false) false, .test (beqb (ile x3454.To v3450) false) false, .test (ile x3454.To v3450) true, .test true true] := ⟨(beqb_ft h3456), (beqb_ft h3456), (beqb_ft h3456), (beqb_ft h3456), (beqb_ft h3456), h3456, rfl, trivial⟩
    exact loop_endC (h := hn104) (l := 0) (c := c104_0) (ts := F104_l0_0_S a3434 a3436 v3450 v3451) (ts' := F104_l0_0_X0 a3434 a3436 ()) (ex := .ret) (pq3460 pz) (by kernel_rfl) trivial
   have pq3461 : ∀ {l : List Cond}, HoldAll E H hn104 l → HoldAll E H hn104 (.test (beqb (ile x3454.To v3450) false) true :: .test (beqb (ile x3454.To v3450) false) true :: .test (beqb (ile x3454.To v3450) false) true :: .test (beqb (ile x3454.To v3450) false) true :: .test (beqb (ile x3454.To v3450) false) true :: .test (ile x3454.To v3450) false :: l) := fun z => ⟨(beqb_ff h3456), (beqb_ff h3456), (beqb_ff h3456), (beqb_ff h3456), (beqb_ff h3456), h3456, z⟩
   refine cond_some hF (fun h3457 hF => ?_) (fun h3457 hF => ?_)
   ·
    obtain rfl := Option.some.inj hF
    have pz : HoldAll E H hn104 [.test (ige x3454.To a3434.N) true] := ⟨(ige_eq h3457), trivial⟩
    exact loop_endC (h := hn104) (l := 0) (c := c104_0) (ts := F104_l0_0_S a3434 a3436 v3450 v3451) (ts' := F104_l0_0_X0 a3434 a3436 ()) (ex := .ret) (pq3460 (pq3461 pz)) (by kernel_rfl) trivial
   have pz : HoldAll E H hn104 [.test (ige x3454.To a3434.N) false, .int (wadd .i64 v3451 1) (wadd .i64 v3451 1)] := ⟨(ige_eq h3457), rfl, trivial⟩
   have h0 := ih _ _ _ hF
   have hn := fun ex ts' => loop_nextC (h := hn104) (l := 0) (c := c104_0) (ts := F104_l0_0_S a3434 a3436 v3450 v3451) (ts1 := (F104_l0_0_S a3434 a3436 x3454.To (wadd .i64 v3451 1))) (ex := ex) (ts' := ts') (pq3460 (pq3461 pz)) (by kernel_rfl)
   cases r with
   | inl w => exact hn _ _ h0
   | inr w => exact hn _ _ h0
  obtain rfl := Option.some.inj hF
  have pz : HoldAll E H hn104 [.test (ilt v3451 (nlen (len a3436.In))) false] := ⟨h3452, trivial⟩
  exact loop_endC (h := hn104) (l := 0) (c := c104_0) (ts := F104_l0_0_S a3434 a3436 v3450 v3451) (ts' := F104_l0_0_X1 a3434 a3436 ()) (ex := (.exit 0)) pz (by kernel_rfl) trivial
def F104 (K : Nat) (a3434 : GGraph) (a3435 : GJob) (a3436 : GState) : Option (Bool) :=
 (F94 K a3434 a3435).bind fun r3437 =>
 bif (ieq r3437 0) then
  (bif (ilt a3436.Step 0) then
   (some false)
  else
  bif (ilt 40 a3436.Step) then
   (some false)
  else
  bif (ieq (nlen (len a3436.Vals)) a3434.N) then
   (bif (ieq (nlen (len a3436.Rest)) a3434.N) then
    ((F104_l0_0 K a3434 a3436 K (-1) 0).bind fun y3463 =>
    Sum.elim (fun w3464 =>
     some false)
     (fun w3465 =>
     some true) y3463)
   else
   some false)
  else
  some false)
 else
 some false
theorem F104_ok (K : Nat) (a3434 : GGraph) (a3435 : GJob) (a3436 : GState) (r : Bool) (hF : F104 K a3434 a3435 a3436 = some r) : Evt E H 104 [.agg (eGGraph a3434), .agg (eGJob a3435), .agg (eGState a3436)] (F104_res r) := by
 rw [F104] at hF
 refine bind_some hF (fun r3437 h3438 hF => ?_)
 refine cond_some hF (fun h3439 hF => ?_) (fun h3439 hF => ?_)
 ·
  have pq3466 : ∀ {l : List Cond}, HoldAll E H hn104 l → HoldAll E H hn104 (.call 94 [.agg (eGGraph a3434), .agg (eGJob a3435)] (F94_res r3437) :: .test (leadsAny (Res.mk [(.one (.im (.lit (.int .i64 r3437))))] [])) false :: .test (beqb (ine r3437 0) false) true :: .test (beqb (ine r3437 0) false) true :: .test (beqb (ine r3437 0) false) true :: .test (ine r3437 0) false :: l) := fun z => ⟨(F94_ok K a3434 a3435 _ h3438), (leads_ok (by simp [leadsAny, RV.leads, RC.leads, leadsT, hasSl_lit, flat_ns eGJob_ns])), (beqb_ff (ine_t h3439)), (beqb_ff (ine_t h3439)), (beqb_ff (ine_t h3439)), (ine_t h3439), z⟩
  refine cond_some hF (fun h3440 hF => ?_) (fun h3440 hF => ?_)
  ·
   obtain rfl := Option.some.inj hF
   have pz : HoldAll E H hn104 [.test (beqb (ilt a3436.Step 0) false) false, .test (beqb (ilt a3436.Step 0) false) false, .test (beqb (ilt a3436.Step 0) false) false, .test (ilt a3436.Step 0) true, .test (beqb true false) false, .test (beqb true false) false, .test (beqb true false) false, .test (beqb true false) false, .test (beqb true false) false, .test (beqb true false) false, .test true true, .test (beqb true false) false, .test (beqb true false) false, .test (beqb true false) false, .test (beqb true false) false, .test (beqb true false) false, .test (beqb true false) false, .test true true, .test true true] := ⟨(beqb_ft h3440), (beqb_ft h3440), (beqb_ft h3440), h3440, (beqb_ft rfl), (beqb_ft rfl), (beqb_ft rfl), (beqb_ft rfl), (beqb_ft rfl), (beqb_ft rfl), rfl, (beqb_ft rfl), (beqb_ft rfl), (beqb_ft rfl), (beqb_ft rfl), (beqb_ft rfl), (beqb_ft rfl), rfl, rfl, trivial⟩
   exact fn_playC hn104 (r := F104_res false) (pq3466 pz) (by kernel_rfl) (by kernel_rfl)
  have pq3467 : ∀ {l : List Cond}, HoldAll E H hn104 l → HoldAll E H hn104 (.test (beqb (ilt a3436.Step 0) false) true :: .test (beqb (ilt a3436.Step 0) false) true :: .test (beqb (ilt a3436.Step 0) false) true :: .test (ilt a3436.Step 0) false :: l) := fun z => ⟨(beqb_ff h3440), (beqb_ff h3440), (beqb_ff h3440), h3440, z⟩
  refine cond_some hF (fun h3441 hF => ?_) (fun h3441 hF => ?_)
  ·
   obtain rfl := Option.some.inj hF
   have pz : HoldAll E H hn104 [.test (beqb (igt a3436.Step 40) false) false, .test (beqb (igt a3436.Step 40) false) false, .test (beqb (igt a3436.Step 40) false) false, .test (beqb (igt a3436.Step 40) false) false, .test (beqb (igt a3436.Step 40) false) false, .test (beqb (igt a3436.Step 40) false) false, .test (igt a3436.Step 40) true, .test (beqb true false) false, .test (beqb true false) false, .test (beqb true false) false, .test (beqb true false) false, .test (beqb true false) false, .test (beqb true false) false, .test true true, .test true true] := ⟨(beqb_ft (igt_eq h3441)), (beqb_ft (igt_eq h3441)), (beqb_ft (igt_eq h3441)), (beqb_ft (igt_eq h3441)), (beqb_ft (igt_eq h3441)), (beqb_ft (igt_eq h3441)), (igt_eq h3441), (beqb_ft rfl), (beqb_ft rfl), (beqb_ft rfl), (beqb_ft rfl), (beqb_ft rfl), (beqb_ft rfl), rfl, rfl, trivial⟩
   exact fn_playC hn104 (r := F104_res false) (pq3466 (pq3467 pz)) (by kernel_rfl) (by kernel_rfl)
  have pq3468 : ∀ {l : List Cond}, HoldAll E H hn104 l → HoldAll E H hn104 (.test (beqb (igt a3436.Step 40) false) true :: .test (beqb (igt a3436.Step 40) false) true :: .test (beqb (igt a3436.Step 40) false) true :: .int (nlen (len a3436.Vals)) (nlen (len a3436.Vals)) :: .test (beqb (igt a3436.Step 40) false) true :: .test (beqb (igt a3436.Step 40) false) true :: .test (beqb (igt a3436.Step 40) false) true :: .test (igt a3436.Step 40) false :: l) := fun z => ⟨(beqb_ff (igt_eq h3441)), (beqb_ff (igt_eq h3441)), (beqb_ff (igt_eq h3441)), rfl, (beqb_ff (igt_eq h3441)), (beqb_ff (igt_eq h3441)), (beqb_ff (igt_eq h3441)), (igt_eq h3441), z⟩
  refine cond_some hF (fun h3442 hF => ?_) (fun h3442 hF => ?_)
  ·
   have pq3469 : ∀ {l : List Cond}, HoldAll E H hn104 l → HoldAll E H hn104 (.test (beqb (ine (nlen (len a3436.Vals)) a3434.N) false) true :: .test (beqb (ine (nlen (len a3436.Vals)) a3434.N) false) true :: .test (beqb (ine (nlen (len a3436.Vals)) a3434.N) false) true :: .int (nlen (len a3436.Rest)) (nlen (len a3436.Rest)) :: .test (beqb (ine (nlen (len a3436.Vals)) a3434.N) false) true :: .test (beqb (ine (nlen (len a3436.Vals)) a3434.N) false) true :: .test (beqb (ine (nlen (len a3436.Vals)) a3434.N) false) true :: .test (ine (nlen (len a3436.Vals)) a3434.N) false :: l) := fun z => ⟨(beqb_ff (ine_t h3442)), (beqb_ff (ine_t h3442)), (beqb_ff (ine_t h3442)), rfl, (beqb_ff (ine_t h3442)), (beqb_ff (ine_t h3442)), (beqb_ff (ine_t h3442)), (ine_t h3442), z⟩
   refine cond_some hF (fun h3443 hF => ?_) (fun h3443 hF => ?_)
   ·
    refine bind_some hF (fun y3463 h3462 hF => ?_)
    refine sum_some hF (fun w3464 hx hF => ?_) (fun w3465 hx hF => ?_)
    ·
     subst hx
     obtain rfl := Option.some.inj hF
     have pz : HoldAll E H hn104 [.test (ine (nlen (len a3436.Rest)) a3434.N) false, .int (nlen (len a3436.In)) (nlen (len a3436.In)), .loop 0 c104_0 (F104_l0_0_S a3434 a3436 (-1) 0) .ret (F104_l0_0_X0 a3434 a3436 w3464)] := ⟨(ine_t h3443), rfl, (F104_l0_0_ok K a3434 a3436 K (-1) 0 _ h3462), trivial⟩
     exact fn_playC hn104 (r := F104_res false) (pq3466 (pq3467 (pq3468 (pq3469 pz)))) (by kernel_rfl) (by kernel_rfl)
    subst hx
    obtain rfl := Option.some.inj hF
    have pz : HoldAll E H hn104 [.test (ine (nlen (len a3436.Rest)) a3434.N) false, .int (nlen (len a3436.In)) (nlen (len a3436.In)), .loop 0 c104_0 (F104_l0_0_S a3434 a3436 (-1) 0) (.exit 0) (F104_l0_0_X1 a3434 a3436 w3465)] := ⟨(ine_t h3443), rfl, (F104_l0_0_ok K a3434 a3436 K (-1) 0 _ h3462), trivial⟩
    exact fn_playC hn104 (r := F104_res true) (pq3466 (pq3467 (pq3468 (pq3469 pz)))) (by kernel_rfl) (by kernel_rfl)
   obtain rfl := Option.some.inj hF
   have pz : HoldAll E H hn104 [.test (ine (nlen (len a3436.Rest)) a3434.N) true] := ⟨(ine_f h3443), trivial⟩
   exact fn_playC hn104 (r := F104_res false) (pq3466 (pq3467 (pq3468 (pq3469 pz)))) (by kernel_rfl) (by kernel_rfl)
  obtain rfl := Option.some.inj hF
  have pz : HoldAll E H hn104 [.test (beqb (ine (nlen (len a3436.Vals)) a3434.N) false) false, .test (beqb (ine (nlen (len a3436.Vals)) a3434.N) false) false, .test (beqb (ine (nlen (len a3436.Vals)) a3434.N) false) false, .test (beqb (ine (nlen (len a3436.Vals)) a3434.N) false) false, .test (beqb (ine (nlen (len a3436.Vals)) a3434.N) false) false, .test (beqb (ine (nlen (len a3436.Vals)) a3434.N) false) false, .test (ine (nlen (len a3436.Vals)) a3434.N) true, .test true true] := ⟨(beqb_ft (ine_f h3442)), (beqb_ft (ine_f h3442)), (beqb_ft (ine_f h3442)), (beqb_ft (ine_f h3442)), (beqb_ft (ine_f h3442)), (beqb_ft (ine_f h3442)), (ine_f h3442), rfl, trivial⟩
  exact fn_playC hn104 (r := F104_res false) (pq3466 (pq3467 (pq3468 pz))) (by kernel_rfl) (by kernel_rfl)
 obtain rfl := Option.some.inj hF
 have pz : HoldAll E H hn104 [.call 94 [.agg (eGGraph a3434), .agg (eGJob a3435)] (F94_res r3437), .test (leadsAny (Res.mk [(.one (.im (.lit (.int .i64 r3437))))] [])) false, .test (beqb (ine r3437 0) false) false, .test (beqb (ine r3437 0) false) false, .test (beqb (ine r3437 0) false) false, .test (ine r3437 0) true, .test (beqb true false) false, .test (beqb true false) false, .test (beqb true false) false, .test true true, .test (beqb true false) false, .test (beqb true false) false, .test (beqb true false) false, .test (beqb true false) false, .test (beqb true false) false, .test (beqb true false) false, .test true true, .test (beqb true false) false, .test (beqb true false) false, .test (beqb true false) false, .test (beqb true false) false, .test (beqb true false) false, .test (beqb true false) false, .test true true, .test true true] := ⟨(F94_ok K a3434 a3435 _ h3438), (leads_ok (by simp [leadsAny, RV.leads, RC.leads, leadsT, hasSl_lit, flat_ns eGJob_ns])), (beqb_ft (ine_f h3439)), (beqb_ft (ine_f h3439)), (beqb_ft (ine_f h3439)), (ine_f h3439), (beqb_ft rfl), (beqb_ft rfl), (beqb_ft rfl), rfl, (beqb_ft rfl), (beqb_ft rfl), (beqb_ft rfl), (beqb_ft rfl), (beqb_ft rfl), (beqb_ft rfl), rfl, (beqb_ft rfl), (beqb_ft rfl), (beqb_ft rfl), (beqb_ft rfl), (beqb_ft rfl), (beqb_ft rfl), rfl, rfl, trivial⟩
 exact fn_playC hn104 (r := F104_res false) pz (by kernel_rfl) (by kernel_rfl)
def inSt (n : Int) : Int → List GMsg → Bool
 | _, [] => true
 | prev, m :: r => ilt prev m.To && (ilt m.To n && inSt n m.To r)
def sumU (b : Bool) : Unit ⊕ Unit := bif b then .inr () else .inl ()
theorem sumU_elim (b : Bool) : (some (sumU b)).bind (fun y => Sum.elim (fun w => some false) (fun w => some true) y) = some b := by cases b <;> rfl
theorem not_ile {a b : Int} : ile a b = !(ilt b a) := by
 unfold ile ilt; by_cases h : b < a <;> simp [h] <;> omega
def stRight (g : GGraph) (j : GJob) (s : GState) : Bool :=
 ieq (jcheck g j) 0 && (ile 0 s.Step && (ile s.Step 40 && (ieq (s.Vals.length : Int) g.N && (ieq (s.Rest.length : Int) g.N && inSt g.N (-1) s.In))))
theorem F104_loop {K : Nat} (g : GGraph) (s : GState) (hl : s.In.length < 1000000) (hK : s.In.length < K) : F104_l0_0 K g s K (-1) 0 = some (sumU (inSt g.N (-1) s.In)) := by
 let step : GMsg → Int → (Int → Option (Unit ⊕ Unit)) → Option (Unit ⊕ Unit) := fun m s c =>
   bif (ile m.To s) then (some (.inl ())) else bif (ile g.N m.To) then (some (.inl ())) else c m.To
 have h := scanL (l := s.In) (L := fun k v i => F104_l0_0 K g s k v i) step (fun _ => some (.inr ())) (fun k s i _ => rfl) (by omega) (K := K) hK (-1)
 have hw : ∀ (l : List GMsg) (v : Int), goL step (fun _ => some (.inr ())) l v = some (sumU (inSt g.N v l)) := by
   intro l
   induction l with
   | nil => intro s; rfl
   | cons m l ih =>
     intro v
     rw [goL]
     show (bif (ile m.To v) then (some (.inl ())) else bif (ile g.N m.To) then (some (.inl ())) else goL step (fun _ => some (.inr ())) l m.To) = _
     rw [inSt, not_ile, not_ile, ih]
     cases ilt v m.To <;> cases ilt m.To g.N <;> rfl
 rw [hw] at h
 exact h
theorem F104_spec {K : Nat} (hK : 1000 ≤ K) (g : GGraph) (j : GJob) (s : GState) (hl : s.In.length < 1000000) (hk : s.In.length < K) : F104 K g j s = some (stRight g j s) := by
 rw [F104, F94_spec (by omega), Option.bind_some, stRight]
 cases hc : ieq (jcheck g j) 0
 · rfl
 · rw [cond_true, F104_loop g s hl hk]
   have n1 : nlen (len s.Vals) = (s.Vals.length : Int) := rfl
   have n2 : nlen (len s.Rest) = (s.Rest.length : Int) := rfl
   rw [ilt_not' s.Step 0, ilt_not' 40 s.Step, n1, n2, sumU_elim]
   cases ile 0 s.Step <;> cases ile s.Step 40 <;> cases ieq (s.Vals.length : Int) g.N <;> cases ieq (s.Rest.length : Int) g.N <;> rfl
theorem F88_loop {K : Nat} (g : GGraph) (s : GState) (hl : s.In.length < 1000000) (hK : s.In.length < K) : F88_l0_0 K g s K 0 = some (sumU (inSt g.N (-1) s.In)) := by
 let step : Nat → GMsg → Unit → (Unit → Option (Unit ⊕ Unit)) → Option (Unit ⊕ Unit) := fun i m _ c =>
     bif (ilt m.To 0) then (some (.inl ())) else bif (ile g.N m.To) then (some (.inl ())) else
     bif (ilt 0 (i : Int)) then
       (bif (inr (wsub .i64 (i : Int) 1) (len s.In)) then
       (elAt s.In (wsub .i64 (i : Int) 1)).bind fun d => bif (ile m.To d.To) then (some (.inl ())) else c ()
       else none)
     else c ()
 have h := scanI (l := s.In) (L := fun k (_ : Unit) i => F88_l0_0 K g s k i) step (fun _ => some (.inr ())) (fun k st i hi => rfl) (by omega) K () 0 (by omega) (by omega)
 have hw : ∀ (r : List GMsg) (i : Nat), s.In.drop i = r → (∀ d, prevOf s.In i = some d → 0 ≤ d.To) → goI step (fun _ => some (.inr ())) i r () = some (sumU (inSt g.N (match prevOf s.In i with | none => -1 | some d => d.To) r)) := by
   intro r
   induction r with
   | nil => intro i _ _; rfl
   | cons m r ih =>
     intro i hr hp
     obtain ⟨n1, n2, hi⟩ := prev_next hr
     rw [goI]
     show (bif (ilt m.To 0) then (some (.inl ())) else bif (ile g.N m.To) then (some (.inl ())) else
     bif (ilt 0 (i : Int)) then
       (bif (inr (wsub .i64 (i : Int) 1) (len s.In)) then
       (elAt s.In (wsub .i64 (i : Int) 1)).bind fun d => bif (ile m.To d.To) then (some (.inl ())) else goI step (fun _ => some (.inr ())) (i + 1) r ()
       else none)
     else goI step (fun _ => some (.inr ())) (i + 1) r ()) = _
     cases h0 : ilt m.To 0
     · have hm0 := ilt_f.1 h0
       have nx := ih (i + 1) n2 (fun d hd => by rw [n1] at hd; cases hd; exact hm0)
       rw [n1] at nx
       dsimp only at nx
       rw [nx, inSt, not_ile]
       cases i with
       | zero =>
         have e1 : ilt 0 ((0 : Nat) : Int) = false := rfl
         have e2 : (match prevOf s.In 0 with | none => (-1 : Int) | some d => d.To) = -1 := rfl
         rw [e1, e2, ilt_iff.2 (by omega : (-1 : Int) < m.To)]
         cases ilt m.To g.N <;> rfl
       | succ q =>
         obtain ⟨d, p1, p2, p3, p4⟩ := prev_at (l := s.In) (i := q + 1) (by omega) hi (by omega)
         have e1 : ilt 0 ((q + 1 : Nat) : Int) = true := ilt_iff.2 (by omega)
         rw [e1, p2, p3, p4, p1]
         simp only [Option.bind_some, cond_true, cond_false, not_ile (a := m.To)]
         cases ilt d.To m.To <;> cases ilt m.To g.N <;> rfl
     · have hm0 := ilt_iff.1 h0
       have hno : ∀ a : Int, -1 ≤ a → ilt a m.To = false := fun a ha => ilt_f.2 (by omega)
       have hprev : (-1 : Int) ≤ (match prevOf s.In i with | none => -1 | some d => d.To) := by
         split
         · omega
         · rename_i d hd; have := hp d hd; omega
       rw [inSt, hno _ hprev]; rfl
 have := hw s.In 0 rfl (fun d hd => by cases hd)
 rw [List.drop_zero, this] at h
 exact h
theorem F88_spec {K : Nat} (hK : 1000 ≤ K) (g : GGraph) (j : GJob) (s : GState) (hl : s.In.length < 1000000) (hk : s.In.length < K) : F88 K g j s = some (stRight g j s) := by
 rw [F88, F59_spec (by omega), Option.bind_some, stRight]
 cases hc : ieq (jcheck g j) 0
 · rfl
 · rw [cond_true, F88_loop g s hl hk]
   have n1 : nlen (len s.Vals) = (s.Vals.length : Int) := rfl
   have n2 : nlen (len s.Rest) = (s.Rest.length : Int) := rfl
   rw [ilt_not' s.Step 0, ilt_not' 40 s.Step, n1, n2, sumU_elim]
   cases ile 0 s.Step <;> cases ile s.Step 40 <;> cases ieq (s.Vals.length : Int) g.N <;> cases ieq (s.Rest.length : Int) g.N <;> rfl
theorem stRight_ok {g : GGraph} {j : GJob} {s : GState} (h : stRight g j s = true) : ieq (jcheck g j) 0 = true ∧ 0 ≤ s.Step ∧ s.Step ≤ 40 ∧ (s.Vals.length : Int) = g.N ∧ (s.Rest.length : Int) = g.N ∧ inSt g.N (-1) s.In = true := by
 simp only [stRight, Bool.and_eq_true, ile_iff, ieq_iff] at h
 obtain ⟨h1, h2, h3, h4, h5, h6⟩ := h
 exact ⟨ieq_iff.2 h1, h2, h3, h4, h5, h6⟩
theorem inSt_len {n : Int} : ∀ {l : List GMsg} {v : Int}, inSt n v l = true → v ≤ n → (l.length : Int) ≤ n - v
 | [], v, _, hv => by simp; omega
 | m :: l, v, h, hv => by
   simp only [inSt, Bool.and_eq_true, ilt_iff] at h
   obtain ⟨h1, h2, h3⟩ := h
   have := inSt_len h3 (by omega)
   simp only [List.length_cons]; omega
noncomputable def hn112 : Hint := { H 112 with nt := 123, prot := 0 }
noncomputable def c112_0 : Code := loopOf E 112 0
def F112_res (r5421 : GState × Int) : Res := ⟨[(.agg [(.im (.lit (.int .i64 r5421.1.Step))), (.own 2 (.sl (len r5421.1.Vals) (flat (eInt .i64) r5421.1.Vals))), (.own 4 (.sl (len r5421.1.Rest) (flat eBool r5421.1.Rest))), (.own 130 (.sl (len r5421.1.In) (flat eGMsg r5421.1.In)))]), (.one (.im (.lit (.int .i64 r5421.2))))], []⟩
def F112_l0_0 (K : Nat) (a5157 : GGraph) (a5158 : GJob) (a5159 : GState) : Nat → List Int → List Bool → List GMsg → Int → Option ((Int) ⊕ (List Int × List Bool × List GMsg))
 | 0, _, _, _, _ => none
 | k + 1, v5229, v5230, v5231, v5232 =>
  bif (ilt v5232 a5157.N) then
   ((F149 K a5159.In v5232).bind fun r5234 =>
   bif (inr v5232 (len a5159.Rest)) then
   (elAt a5159.Rest v5232).bind fun x5237 =>
   bif x5237 then
    (bif r5234.2 then
     (bif (inr v5232 (len a5159.Vals)) then
     (elAt a5159.Vals v5232).bind fun x5242 =>
     (F99 K a5157 a5158 a5159.Step v5232 x5242 r5234.1 r5234.2).bind fun r5244 =>
     bif (ieq r5244.2.2.2 0) then
      (bif (inr v5232 (len v5229)) then
      (elAt v5229 v5232).bind fun x5248 =>
      bif (inr v5232 (len v5230)) then
      (elAt v5230 v5232).bind fun x5251 =>
      bif (apok (len v5231) (len r5244.2.1) 16) then
      F112_l0_0 K a5157 a5158 a5159 k (putAt v5229 v5232 r5244.1) (putAt v5230 v5232 r5244.2.2.1) (appL v5231 r5244.2.1) (wadd .i64 v5232 1)
      else none
      else none
      else none)
     else
     some (.inl r5244.2.2.2)
     else none)
    else
    bif (inr v5232 (len v5230)) then
    (elAt v5230 v5232).bind fun x5255 =>
    F112_l0_0 K a5157 a5158 a5159 k v5229 (putAt v5230 v5232 true) v5231 (wadd .i64 v5232 1)
    else none)
   else
   bif (inr v5232 (len a5159.Vals)) then
   (elAt a5159.Vals v5232).bind fun x5258 =>
   (F99 K a5157 a5158 a5159.Step v5232 x5258 r5234.1 r5234.2).bind fun r5260 =>
   bif (ieq r5260.2.2.2 0) then
    (bif (inr v5232 (len v5229)) then
    (elAt v5229 v5232).bind fun x5264 =>
    bif (inr v5232 (len v5230)) then
    (elAt v5230 v5232).bind fun x5267 =>
    bif (apok (len v5231) (len r5260.2.1) 16) then
    F112_l0_0 K a5157 a5158 a5159 k (putAt v5229 v5232 r5260.1) (putAt v5230 v5232 r5260.2.2.1) (appL v5231 r5260.2.1) (wadd .i64 v5232 1)
    else none
    else none
    else none)
   else
   some (.inl r5260.2.2.2)
   else none
   else none)
  else
  some (.inr (v5229, (v5230, v5231)))
def F112_l0_0_S (a5157 : GGraph) (a5158 : GJob) (a5159 : GState) (v5229 : List Int) (v5230 : List Bool) (v5231 : List GMsg) (v5232 : Int) : TS := .on [192, 193, 194, 256, 257, 258, 259, 260, 320, 321, 322, 323, 324, 384, 385, 386, 387, 388, 576, 577, 578, 579, 580, 640, 641, 3136, 3137, 3200, 3201] [(192, ⟨(.box 62 2), 0, nob⟩), (193, ⟨.im, 0, (.lit (.int .i64 a5157.N))⟩), (194, ⟨.im, 0, (.sl (len a5157.Edges) (flat eGEdge a5157.Edges))⟩), (256, ⟨(.box 64 4), 0, nob⟩), (257, ⟨.im, 0, (.lit (.int .i64 a5158.Prog))⟩), (258, ⟨.im, 0, (.lit (.int .i64 a5158.Source))⟩), (259, ⟨.im, 0, (.lit (.int .i64 a5158.Limit))⟩), (260, ⟨.im, 0, (.lit (.int .i64 a5158.Parts))⟩), (320, ⟨(.box 74 4), 0, nob⟩), (321, ⟨.im, 0, (.lit (.int .i64 a5159.Step))⟩), (322, ⟨.im, 0, (.sl (len a5159.Vals) (flat (eInt .i64) a5159.Vals))⟩), (323, ⟨.im, 0, (.sl (len a5159.Rest) (flat eBool a5159.Rest))⟩), (324, ⟨.im, 0, (.sl (len a5159.In) (flat eGMsg a5159.In))⟩), (384, ⟨(.box 74 4), 0, nob⟩), (385, ⟨.im, 0, (.lit (.int .i64 0))⟩), (386, ⟨(.own 2), 0, (.sl 0 [])⟩), (387, ⟨(.own 4), 0, (.sl 0 [])⟩), (388, ⟨(.own 130), 0, (.sl 0 [])⟩), (576, ⟨(.box 74 4), 0, nob⟩), (577, ⟨.im, 0, (.lit (.int .i64 (wadd .i64 a5159.Step 1)))⟩), (578, ⟨(.own 2), 0, (.sl (len v5229) (flat (eInt .i64) v5229))⟩), (579, ⟨(.own 4), 0, (.sl (len v5230) (flat eBool v5230))⟩), (580, ⟨(.own 130), 0, (.sl 0 [])⟩), (640, ⟨.one, 0, nob⟩), (641, ⟨(.own 130), 0, (.sl (len v5231) (flat eGMsg v5231))⟩), (3136, ⟨.one, 0, nob⟩), (3137, ⟨.im, 0, (.lit (.int .i64 a5157.N))⟩), (3200, ⟨.one, 0, nob⟩), (3201, ⟨.im, 0, (.lit (.int .i64 v5232))⟩)]
def F112_l0_0_X0 (a5157 : GGraph) (a5158 : GJob) (a5159 : GState) (w5270 : Int) : TS := .on [384, 385, 386, 387, 388, 448, 449] [(384, ⟨(.box 74 4), 0, nob⟩), (385, ⟨.im, 0, (.lit (.int .i64 0))⟩), (386, ⟨(.own 2), 0, (.sl 0 [])⟩), (387, ⟨(.own 4), 0, (.sl 0 [])⟩), (388, ⟨(.own 130), 0, (.sl 0 [])⟩), (448, ⟨.one, 0, nob⟩), (449, ⟨.im, 0, (.lit (.int .i64 w5270))⟩)]
def F112_l0_0_X1 (a5157 : GGraph) (a5158 : GJob) (a5159 : GState) (w5272 : List Int × List Bool × List GMsg) : TS := .on [256, 257, 258, 259, 260, 384, 385, 386, 387, 388, 576, 577, 578, 579, 580, 640, 641] [(256, ⟨(.box 64 4), 0, nob⟩), (257, ⟨.im, 0, (.lit (.int .i64 a5158.Prog))⟩), (258, ⟨.im, 0, (.lit (.int .i64 a5158.Source))⟩), (259, ⟨.im, 0, (.lit (.int .i64 a5158.Limit))⟩), (260, ⟨.im, 0, (.lit (.int .i64 a5158.Parts))⟩), (384, ⟨(.box 74 4), 0, nob⟩), (385, ⟨.im, 0, (.lit (.int .i64 0))⟩), (386, ⟨(.own 2), 0, (.sl 0 [])⟩), (387, ⟨(.own 4), 0, (.sl 0 [])⟩), (388, ⟨(.own 130), 0, (.sl 0 [])⟩), (576, ⟨(.box 74 4), 0, nob⟩), (577, ⟨.im, 0, (.lit (.int .i64 (wadd .i64 a5159.Step 1)))⟩), (578, ⟨(.own 2), 0, (.sl (len w5272.1) (flat (eInt .i64) w5272.1))⟩), (579, ⟨(.own 4), 0, (.sl (len w5272.2.1) (flat eBool w5272.2.1))⟩), (580, ⟨(.own 130), 0, (.sl 0 [])⟩), (640, ⟨.one, 0, nob⟩), (641, ⟨(.own 130), 0, (.sl (len w5272.2.2) (flat eGMsg w5272.2.2))⟩)]
theorem F112_l0_0_ok (K : Nat) (a5157 : GGraph) (a5158 : GJob) (a5159 : GState) : ∀ (k : Nat) (v5229 : List Int) (v5230 : List Bool) (v5231 : List GMsg) (v5232 : Int) (r : (Int) ⊕ (List Int × List Bool × List GMsg)), F112_l0_0 K a5157 a5158 a5159 k v5229 v5230 v5231 v5232 = some r → (Sum.elim (fun w => LoopEv E H hn112 0 c112_0 (F112_l0_0_S a5157 a5158 a5159 v5229 v5230 v5231 v5232) .ret (F112_l0_0_X0 a5157 a5158 a5159 w)) (fun w => LoopEv E H hn112 0 c112_0 (F112_l0_0_S a5157 a5158 a5159 v5229 v5230 v5231 v5232) (.exit 0) (F112_l0_0_X1 a5157 a5158 a5159 w))) r := by
 intro k
 induction k with
 | zero => intro v5229 v5230 v5231 v5232 r hF; cases hF
 | succ k ih =>
  intro v5229 v5230 v5231 v5232 r hF
  rw [F112_l0_0] at hF
  refine cond_some hF (fun h5233 hF => ?_) (fun h5233 hF => ?_)
  ·
   refine bind_some hF (fun r5234 h5235 hF => ?_)
   refine cond_some hF (fun h5236 hF => ?_) (fun _ hF => nomatch hF)
   refine bind_some hF (fun x5237 h5238 hF => ?_)
   have pq5276 : ∀ {l : List Cond}, HoldAll E H hn112 l → HoldAll E H hn112 (.test (ilt v5232 a5157.N) true :: .call 149 [.one (.sl (len a5159.In) (flat eGMsg a5159.In)), .one (.lit (.int .i64 v5232))] (F149_res r5234) :: .test (leadsAny (Res.mk [(.one (.im (.lit (.int .i64 r5234.1)))), (.one (.im (.lit (.bool r5234.2))))] [])) false :: .test (inr v5232 (len a5159.Rest)) true :: .sub (flat eBool a5159.Rest) (nidx v5232 1) 1 [(.lit (.bool x5237))] :: l) := fun z => ⟨h5233, (F149_ok K a5159.In v5232 _ h5235), (leads_ok (by simp [leadsAny, RV.leads, RC.leads, leadsT, hasSl_lit, flat_ns eBool_ns, flat_ns eGMsg_ns])), h5236, ⟨rfl, sub_flat0 eBool_len h5238 1 (by decide)⟩, z⟩
   refine cond_some hF (fun h5239 hF => ?_) (fun h5239 hF => ?_)
   ·
    have pq5277 : ∀ {l : List Cond}, HoldAll E H hn112 l → HoldAll E H hn112 (.test (beqb x5237 true) true :: .test (beqb x5237 true) true :: .test x5237 true :: l) := fun z => ⟨(beqb_t h5239), (beqb_t h5239), h5239, z⟩
    refine cond_some hF (fun h5240 hF => ?_) (fun h5240 hF => ?_)
    ·
     refine cond_some hF (fun h5241 hF => ?_) (fun _ hF => nomatch hF)
     refine bind_some hF (fun x5242 h5243 hF => ?_)
     refine bind_some hF (fun r5244 h5245 hF => ?_)
     have pq5278 : ∀ {l : List Cond}, HoldAll E H hn112 l → HoldAll E H hn112 (.test (bnot r5234.2) false :: .test (inr v5232 (len a5159.Vals)) true :: .sub (flat (eInt .i64) a5159.Vals) (nidx v5232 1) 1 [(.lit (.int .i64 x5242))] :: .call 99 [.agg (eGGraph a5157), .agg (eGJob a5158), .one (.lit (.int .i64 a5159.Step)), .one (.lit (.int .i64 v5232)), .one (.lit (.int .i64 x5242)), .one (.lit (.int .i64 r5234.1)), .one (.lit (.bool r5234.2))] (F99_res r5244) :: .test (leadsAny (Res.mk [(.one (.im (.lit (.int .i64 r5244.1)))), (.one (.own 130 (.sl (len r5244.2.1) (flat eGMsg r5244.2.1)))), (.one (.im (.lit (.bool r5244.2.2.1)))), (.one (.im (.lit (.int .i64 r5244.2.2.2))))] [])) false :: l) := fun z => ⟨(bnot_t h5240), h5241, ⟨rfl, sub_flat0 (eInt_len _) h5243 1 (by decide)⟩, (F99_ok K a5157 a5158 a5159.Step v5232 x5242 r5234.1 r5234.2 _ h5245), (leads_ok (by simp [leadsAny, RV.leads, RC.leads, leadsT, hasSl_lit, flat_ns (eInt_ns _), flat_ns eGJob_ns, flat_ns eGMsg_ns])), z⟩
     refine cond_some hF (fun h5246 hF => ?_) (fun h5246 hF => ?_)
     ·
      refine cond_some hF (fun h5247 hF => ?_) (fun _ hF => nomatch hF)
      refine bind_some hF (fun x5248 h5249 hF => ?_)
      refine cond_some hF (fun h5250 hF => ?_) (fun _ hF => nomatch hF)
      refine bind_some hF (fun x5251 h5252 hF => ?_)
      refine cond_some hF (fun h5253 hF => ?_) (fun _ hF => nomatch hF)
      have pz : HoldAll E H hn112 [.test (ine r5244.2.2.2 0) false, .test (inr v5232 (len v5229)) true, .test (lfits (nidx v5232 1) 1 (flat (eInt .i64) v5229)) true, .sl (len v5229) (lset (flat (eInt .i64) v5229) (nidx v5232 1) [(.lit (.int .i64 r5244.1))]) (len (α := Int) (putAt v5229 v5232 r5244.1)) (flat (eInt .i64) (putAt v5229 v5232 r5244.1)), .test (inr v5232 (len v5230)) true, .test (lfits (nidx v5232 1) 1 (flat eBool v5230)) true, .sl (len v5230) (lset (flat eBool v5230) (nidx v5232 1) [(.lit (.bool r5244.2.2.1))]) (len (α := Bool) (putAt v5230 v5232 r5244.2.2.1)) (flat eBool (putAt v5230 v5232 r5244.2.2.1)), .test (leqm (flat eGMsg r5244.2.1) (len r5244.2.1) 2) true, .test (apok (len v5231) (len r5244.2.1) 16) true, .sl (nadd (len v5231) (len r5244.2.1)) (lapp (flat eGMsg v5231) (flat eGMsg r5244.2.1)) (len (α := GMsg) (appL v5231 r5244.2.1)) (flat eGMsg (appL v5231 r5244.2.1)), .int (wadd .i64 v5232 1) (wadd .i64 v5232 1)] := ⟨(ine_t h5246), h5247, (lfits_flat0 (eInt_len _) h5249 _ (by decide)), (set_ok0 (eInt_len _) h5249 _ (by simp) rfl), h5250, (lfits_flat0 eBool_len h5252 _ (by decide)), (set_ok0 eBool_len h5252 _ (by simp) rfl), (leqm_flat eGMsg_len _), h5253, (app_ok (enc := eGMsg) (v5231 : List GMsg) r5244.2.1), rfl, trivial⟩
      have h0 := ih _ _ _ _ _ hF
      have hn := fun ex ts' => loop_nextC (h := hn112) (l := 0) (c := c112_0) (ts := F112_l0_0_S a5157 a5158 a5159 v5229 v5230 v5231 v5232) (ts1 := (F112_l0_0_S a5157 a5158 a5159 (putAt v5229 v5232 r5244.1) (putAt v5230 v5232 r5244.2.2.1) (appL v5231 r5244.2.1) (wadd .i64 v5232 1))) (ex := ex) (ts' := ts') (pq5276 (pq5277 (pq5278 pz))) (by kernel_rfl)
      cases r with
      | inl w => exact hn _ _ h0
      | inr w => exact hn _ _ h0
     obtain rfl := Option.some.inj hF
     have pz : HoldAll E H hn112 [.test (ine r5244.2.2.2 0) true] := ⟨(ine_f h5246), trivial⟩
     exact loop_endC (h := hn112) (l := 0) (c := c112_0) (ts := F112_l0_0_S a5157 a5158 a5159 v5229 v5230 v5231 v5232) (ts' := F112_l0_0_X0 a5157 a5158 a5159 r5244.2.2.2) (ex := .ret) (pq5276 (pq5277 (pq5278 pz))) (by kernel_rfl) trivial
    refine cond_some hF (fun h5254 hF => ?_) (fun _ hF => nomatch hF)
    refine bind_some hF (fun x5255 h5256 hF => ?_)
    have pz : HoldAll E H hn112 [.test (bnot r5234.2) true, .test (inr v5232 (len v5230)) true, .test (lfits (nidx v5232 1) 1 (flat eBool v5230)) true, .sl (len v5230) (lset (flat eBool v5230) (nidx v5232 1) [(.lit (.bool true))]) (len (α := Bool) (putAt v5230 v5232 true)) (flat eBool (putAt v5230 v5232 true)), .int (wadd .i64 v5232 1) (wadd .i64 v5232 1)] := ⟨(bnot_f h5240), h5254, (lfits_flat0 eBool_len h5256 _ (by decide)), (set_ok0 eBool_len h5256 _ (by simp) rfl), rfl, trivial⟩
    have h0 := ih _ _ _ _ _ hF
    have hn := fun ex ts' => loop_nextC (h := hn112) (l := 0) (c := c112_0) (ts := F112_l0_0_S a5157 a5158 a5159 v5229 v5230 v5231 v5232) (ts1 := (F112_l0_0_S a5157 a5158 a5159 v5229 (putAt v5230 v5232 true) v5231 (wadd .i64 v5232 1))) (ex := ex) (ts' := ts') (pq5276 (pq5277 pz)) (by kernel_rfl)
    cases r with
    | inl w => exact hn _ _ h0
    | inr w => exact hn _ _ h0
   refine cond_some hF (fun h5257 hF => ?_) (fun _ hF => nomatch hF)
   refine bind_some hF (fun x5258 h5259 hF => ?_)
   refine bind_some hF (fun r5260 h5261 hF => ?_)
   have pq5279 : ∀ {l : List Cond}, HoldAll E H hn112 l → HoldAll E H hn112 (.test (beqb x5237 true) false :: .test (beqb x5237 true) false :: .test x5237 false :: .test false false :: .test (inr v5232 (len a5159.Vals)) true :: .sub (flat (eInt .i64) a5159.Vals) (nidx v5232 1) 1 [(.lit (.int .i64 x5258))] :: .call 99 [.agg (eGGraph a5157), .agg (eGJob a5158), .one (.lit (.int .i64 a5159.Step)), .one (.lit (.int .i64 v5232)), .one (.lit (.int .i64 x5258)), .one (.lit (.int .i64 r5234.1)), .one (.lit (.bool r5234.2))] (F99_res r5260) :: .test (leadsAny (Res.mk [(.one (.im (.lit (.int .i64 r5260.1)))), (.one (.own 130 (.sl (len r5260.2.1) (flat eGMsg r5260.2.1)))), (.one (.im (.lit (.bool r5260.2.2.1)))), (.one (.im (.lit (.int .i64 r5260.2.2.2))))] [])) false :: l) := fun z => ⟨(beqb_t h5239), (beqb_t h5239), h5239, rfl, h5257, ⟨rfl, sub_flat0 (eInt_len _) h5259 1 (by decide)⟩, (F99_ok K a5157 a5158 a5159.Step v5232 x5258 r5234.1 r5234.2 _ h5261), (leads_ok (by simp [leadsAny, RV.leads, RC.leads, leadsT, hasSl_lit, flat_ns (eInt_ns _), flat_ns eGJob_ns, flat_ns eGMsg_ns])), z⟩
   refine cond_some hF (fun h5262 hF => ?_) (fun h5262 hF => ?_)
   ·
    refine cond_some hF (fun h5263 hF => ?_) (fun _ hF => nomatch hF)
    refine bind_some hF (fun x5264 h5265 hF => ?_)
    refine cond_some hF (fun h5266 hF => ?_) (fun _ hF => nomatch hF)
    refine bind_some hF (fun x5267 h5268 hF => ?_)
    refine cond_some hF (fun h5269 hF => ?_) (fun _ hF => nomatch hF)
    have pz : HoldAll E H hn112 [.test (ine r5260.2.2.2 0) false, .test (inr v5232 (len v5229)) true, .test (lfits (nidx v5232 1) 1 (flat (eInt .i64) v5229)) true, .sl (len v5229) (lset (flat (eInt .i64) v5229) (nidx v5232 1) [(.lit (.int .i64 r5260.1))]) (len (α := Int) (putAt v5229 v5232 r5260.1)) (flat (eInt .i64) (putAt v5229 v5232 r5260.1)), .test (inr v5232 (len v5230)) true, .test (lfits (nidx v5232 1) 1 (flat eBool v5230)) true, .sl (len v5230) (lset (flat eBool v5230) (nidx v5232 1) [(.lit (.bool r5260.2.2.1))]) (len (α := Bool) (putAt v5230 v5232 r5260.2.2.1)) (flat eBool (putAt v5230 v5232 r5260.2.2.1)), .test (leqm (flat eGMsg r5260.2.1) (len r5260.2.1) 2) true, .test (apok (len v5231) (len r5260.2.1) 16) true, .sl (nadd (len v5231) (len r5260.2.1)) (lapp (flat eGMsg v5231) (flat eGMsg r5260.2.1)) (len (α := GMsg) (appL v5231 r5260.2.1)) (flat eGMsg (appL v5231 r5260.2.1)), .int (wadd .i64 v5232 1) (wadd .i64 v5232 1)] := ⟨(ine_t h5262), h5263, (lfits_flat0 (eInt_len _) h5265 _ (by decide)), (set_ok0 (eInt_len _) h5265 _ (by simp) rfl), h5266, (lfits_flat0 eBool_len h5268 _ (by decide)), (set_ok0 eBool_len h5268 _ (by simp) rfl), (leqm_flat eGMsg_len _), h5269, (app_ok (enc := eGMsg) (v5231 : List GMsg) r5260.2.1), rfl, trivial⟩
    have h0 := ih _ _ _ _ _ hF
    have hn := fun ex ts' => loop_nextC (h := hn112) (l := 0) (c := c112_0) (ts := F112_l0_0_S a5157 a5158 a5159 v5229 v5230 v5231 v5232) (ts1 := (F112_l0_0_S a5157 a5158 a5159 (putAt v5229 v5232 r5260.1) (putAt v5230 v5232 r5260.2.2.1) (appL v5231 r5260.2.1) (wadd .i64 v5232 1))) (ex := ex) (ts' := ts') (pq5276 (pq5279 pz)) (by kernel_rfl)
    cases r with
    | inl w => exact hn _ _ h0
    | inr w => exact hn _ _ h0
   obtain rfl := Option.some.inj hF
   have pz : HoldAll E H hn112 [.test (ine r5260.2.2.2 0) true] := ⟨(ine_f h5262), trivial⟩
   exact loop_endC (h := hn112) (l := 0) (c := c112_0) (ts := F112_l0_0_S a5157 a5158 a5159 v5229 v5230 v5231 v5232) (ts' := F112_l0_0_X0 a5157 a5158 a5159 r5260.2.2.2) (ex := .ret) (pq5276 (pq5279 pz)) (by kernel_rfl) trivial
  obtain rfl := Option.some.inj hF
  have pz : HoldAll E H hn112 [.test (ilt v5232 a5157.N) false] := ⟨h5233, trivial⟩
  exact loop_endC (h := hn112) (l := 0) (c := c112_0) (ts := F112_l0_0_S a5157 a5158 a5159 v5229 v5230 v5231 v5232) (ts' := F112_l0_0_X1 a5157 a5158 a5159 (v5229, (v5230, v5231))) (ex := (.exit 0)) pz (by kernel_rfl) trivial
def F112 (K : Nat) (a5157 : GGraph) (a5158 : GJob) (a5159 : GState) : Option (GState × Int) :=
 (F94 K a5157 a5158).bind fun r5160 =>
 bif (ieq r5160 0) then
  ((F104 K a5157 a5158 a5159).bind fun r5163 =>
  bif r5163 then
   (bif (ieq a5159.Step 40) then
    (some ((GState.mk 0 [] [] []), 6))
   else
   bif (apok 0 (len a5159.Vals) 8) then
   bif (mkok a5157.N a5157.N 1) then
   (F112_l0_0 K a5157 a5158 a5159 K (appL [] a5159.Vals) (repL (α := Bool) a5157.N false) [] 0).bind fun y5281 =>
   Sum.elim (fun w5282 =>
    some ((GState.mk 0 [] [] []), w5282))
    (fun w5284 =>
    (F150 K a5158.Prog w5284.2.2).bind fun r5415 =>
    bif (ieq r5415.2 0) then
     (some ((GState.mk (wadd .i64 a5159.Step 1) w5284.1 w5284.2.1 r5415.1), 0))
    else
    some ((GState.mk 0 [] [] []), r5415.2)) y5281
   else none
   else none)
  else
  some ((GState.mk 0 [] [] []), 1))
 else
 some ((GState.mk 0 [] [] []), r5160)
theorem F112_ok (K : Nat) (a5157 : GGraph) (a5158 : GJob) (a5159 : GState) (r : GState × Int) (hF : F112 K a5157 a5158 a5159 = some r) : Evt E H 112 [.agg (eGGraph a5157), .agg (eGJob a5158), .agg (eGState a5159)] (F112_res r) := by
 rw [F112] at hF
 refine bind_some hF (fun r5160 h5161 hF => ?_)
 refine cond_some hF (fun h5162 hF => ?_) (fun h5162 hF => ?_)
 ·
  refine bind_some hF (fun r5163 h5164 hF => ?_)
  have pq5418 : ∀ {l : List Cond}, HoldAll E H hn112 l → HoldAll E H hn112 (.call 94 [.agg (eGGraph a5157), .agg (eGJob a5158)] (F94_res r5160) :: .test (leadsAny (Res.mk [(.one (.im (.lit (.int .i64 r5160))))] [])) false :: .test (ine r5160 0) false :: .call 104 [.agg (eGGraph a5157), .agg (eGJob a5158), .agg (eGState a5159)] (F104_res r5163) :: .test (leadsAny (Res.mk [(.one (.im (.lit (.bool r5163))))] [])) false :: l) := fun z => ⟨(F94_ok K a5157 a5158 _ h5161), (leads_ok (by simp [leadsAny, RV.leads, RC.leads, leadsT, hasSl_lit, flat_ns eGJob_ns])), (ine_t h5162), (F104_ok K a5157 a5158 a5159 _ h5164), (leads_ok (by simp [leadsAny, RV.leads, RC.leads, leadsT, hasSl_lit, flat_ns eGJob_ns])), z⟩
  refine cond_some hF (fun h5165 hF => ?_) (fun h5165 hF => ?_)
  ·
   refine cond_some hF (fun h5166 hF => ?_) (fun h5166 hF => ?_)
   ·
    obtain rfl := Option.some.inj hF
    have pz : HoldAll E H hn112 [.test (bnot r5163) false, .test (ieq a5159.Step 40) true] := ⟨(bnot_t h5165), h5166, trivial⟩
    exact fn_playC hn112 (r := F112_res ((GState.mk 0 [] [] []), 6)) (pq5418 pz) (by kernel_rfl) (by kernel_rfl)
   refine cond_some hF (fun h5167 hF => ?_) (fun _ hF => nomatch hF)
   refine cond_some hF (fun h5168 hF => ?_) (fun _ hF => nomatch hF)
   have pq5419 : ∀ {l : List Cond}, HoldAll E H hn112 l → HoldAll E H hn112 (.test (bnot r5163) false :: .test (ieq a5159.Step 40) false :: .int (wadd .i64 a5159.Step 1) (wadd .i64 a5159.Step 1) :: .test (leqm (flat (eInt .i64) a5159.Vals) (len a5159.Vals) 1) true :: .test (apok 0 (len a5159.Vals) 8) true :: .sl (nadd 0 (len a5159.Vals)) (lapp [] (flat (eInt .i64) a5159.Vals)) (len (α := Int) (appL [] a5159.Vals)) (flat (eInt .i64) (appL [] a5159.Vals)) :: .test (mkok a5157.N a5157.N 1) true :: .sl (nint a5157.N) (lrep a5157.N [(.lit (.bool false))]) (len (α := Bool) (repL (α := Bool) a5157.N false)) (flat eBool (repL (α := Bool) a5157.N false)) :: l) := fun z => ⟨(bnot_t h5165), h5166, rfl, (leqm_flat (eInt_len _) _), h5167, (app_ok (enc := (eInt .i64)) ([] : List Int) a5159.Vals), h5168, (rep_okC (enc := eBool) (n := a5157.N) (x := false) rfl), z⟩
   refine bind_some hF (fun y5281 h5280 hF => ?_)
   refine sum_some hF (fun w5282 hx hF => ?_) (fun w5284 hx hF => ?_)
   ·
    subst hx
    obtain rfl := Option.some.inj hF
    have pz : HoldAll E H hn112 [.loop 0 c112_0 (F112_l0_0_S a5157 a5158 a5159 (appL [] a5159.Vals) (repL (α := Bool) a5157.N false) [] 0) .ret (F112_l0_0_X0 a5157 a5158 a5159 w5282)] := ⟨(F112_l0_0_ok K a5157 a5158 a5159 K (appL [] a5159.Vals) (repL (α := Bool) a5157.N false) [] 0 _ h5280), trivial⟩
    exact fn_playC hn112 (r := F112_res ((GState.mk 0 [] [] []), w5282)) (pq5418 (pq5419 pz)) (by kernel_rfl) (by kernel_rfl)
   subst hx
   refine bind_some hF (fun r5415 h5416 hF => ?_)
   have pq5420 : ∀ {l : List Cond}, HoldAll E H hn112 l → HoldAll E H hn112 (.loop 0 c112_0 (F112_l0_0_S a5157 a5158 a5159 (appL [] a5159.Vals) (repL (α := Bool) a5157.N false) [] 0) (.exit 0) (F112_l0_0_X1 a5157 a5158 a5159 w5284) :: .call 150 [.one (.lit (.int .i64 a5158.Prog)), .one (.sl (len w5284.2.2) (flat eGMsg w5284.2.2))] (F150_res r5415) :: .test (leadsAny (Res.mk [(.one (.own 130 (.sl (len r5415.1) (flat eGMsg r5415.1)))), (.one (.im (.lit (.int .i64 r5415.2))))] [])) false :: l) := fun z => ⟨(F112_l0_0_ok K a5157 a5158 a5159 K (appL [] a5159.Vals) (repL (α := Bool) a5157.N false) [] 0 _ h5280), (F150_ok K a5158.Prog w5284.2.2 _ h5416), (leads_ok (by simp [leadsAny, RV.leads, RC.leads, leadsT, hasSl_lit, flat_ns eGMsg_ns])), z⟩
   refine cond_some hF (fun h5417 hF => ?_) (fun h5417 hF => ?_)
   ·
    obtain rfl := Option.some.inj hF
    have pz : HoldAll E H hn112 [.test (ine r5415.2 0) false] := ⟨(ine_t h5417), trivial⟩
    exact fn_playC hn112 (r := F112_res ((GState.mk (wadd .i64 a5159.Step 1) w5284.1 w5284.2.1 r5415.1), 0)) (pq5418 (pq5419 (pq5420 pz))) (by kernel_rfl) (by kernel_rfl)
   obtain rfl := Option.some.inj hF
   have pz : HoldAll E H hn112 [.test (ine r5415.2 0) true] := ⟨(ine_f h5417), trivial⟩
   exact fn_playC hn112 (r := F112_res ((GState.mk 0 [] [] []), r5415.2)) (pq5418 (pq5419 (pq5420 pz))) (by kernel_rfl) (by kernel_rfl)
  obtain rfl := Option.some.inj hF
  have pz : HoldAll E H hn112 [.test (bnot r5163) true] := ⟨(bnot_f h5165), trivial⟩
  exact fn_playC hn112 (r := F112_res ((GState.mk 0 [] [] []), 1)) (pq5418 pz) (by kernel_rfl) (by kernel_rfl)
 obtain rfl := Option.some.inj hF
 have pz : HoldAll E H hn112 [.call 94 [.agg (eGGraph a5157), .agg (eGJob a5158)] (F94_res r5160), .test (leadsAny (Res.mk [(.one (.im (.lit (.int .i64 r5160))))] [])) false, .test (ine r5160 0) true] := ⟨(F94_ok K a5157 a5158 _ h5161), (leads_ok (by simp [leadsAny, RV.leads, RC.leads, leadsT, hasSl_lit, flat_ns eGJob_ns])), (ine_f h5162), trivial⟩
 exact fn_playC hn112 (r := F112_res ((GState.mk 0 [] [] []), r5160)) pz (by kernel_rfl) (by kernel_rfl)
noncomputable def hn130 : Hint := { H 130 with nt := 117, prot := 0 }
noncomputable def c130_0 : Code := loopOf E 130 0
def F130_res (r2124 : GState × Int) : Res := ⟨[(.agg [(.im (.lit (.int .i64 r2124.1.Step))), (.own 2 (.sl (len r2124.1.Vals) (flat (eInt .i64) r2124.1.Vals))), (.own 4 (.sl (len r2124.1.Rest) (flat eBool r2124.1.Rest))), (.own 130 (.sl (len r2124.1.In) (flat eGMsg r2124.1.In)))]), (.one (.im (.lit (.int .i64 r2124.2))))], []⟩
def F130_l0_0 (K : Nat) (a1179 : GGraph) (a1180 : GJob) (a1181 : GState) : Nat → List Int → List Bool → List GMsg → Int → Option ((Int) ⊕ (List Int × List Bool × List GMsg))
 | 0, _, _, _, _ => none
 | k + 1, v1868, v1869, v1870, v1871 =>
  bif (ilt v1871 a1179.N) then
   ((F151 K a1181.In v1871).bind fun r1873 =>
   bif (inr v1871 (len a1181.Vals)) then
   (elAt a1181.Vals v1871).bind fun x1876 =>
   bif r1873.2 then
    ((F100 K a1179 a1180 a1181.Step v1871 x1876 r1873.1 r1873.2).bind fun r1879 =>
    bif (ieq r1879.E 0) then
     (bif (apok (len v1868) 1 8) then
     bif (apok (len v1869) 1 1) then
     bif (apok (len v1870) (len r1879.Out) 16) then
     F130_l0_0 K a1179 a1180 a1181 k (appL v1868 [r1879.Val]) (appL v1869 [r1879.Rest]) (appL v1870 r1879.Out) (wadd .i64 v1871 1)
     else none
     else none
     else none)
    else
    some (.inl r1879.E))
   else
   bif (inr v1871 (len a1181.Rest)) then
   (elAt a1181.Rest v1871).bind fun x1886 =>
   bif x1886 then
    (bif (apok (len v1868) 1 8) then
    bif (apok (len v1869) 1 1) then
    bif (apok (len v1870) 0 16) then
    F130_l0_0 K a1179 a1180 a1181 k (appL v1868 [x1876]) (appL v1869 [true]) (appL v1870 []) (wadd .i64 v1871 1)
    else none
    else none
    else none)
   else
   (F100 K a1179 a1180 a1181.Step v1871 x1876 r1873.1 r1873.2).bind fun r1892 =>
   bif (ieq r1892.E 0) then
    (bif (apok (len v1868) 1 8) then
    bif (apok (len v1869) 1 1) then
    bif (apok (len v1870) (len r1892.Out) 16) then
    F130_l0_0 K a1179 a1180 a1181 k (appL v1868 [r1892.Val]) (appL v1869 [r1892.Rest]) (appL v1870 r1892.Out) (wadd .i64 v1871 1)
    else none
    else none
    else none)
   else
   some (.inl r1892.E)
   else none
   else none)
  else
  some (.inr (v1868, (v1869, v1870)))
def F130_l0_0_S (a1179 : GGraph) (a1180 : GJob) (a1181 : GState) (v1868 : List Int) (v1869 : List Bool) (v1870 : List GMsg) (v1871 : Int) : TS := .on [192, 193, 194, 256, 257, 258, 259, 260, 320, 321, 322, 323, 324, 384, 385, 386, 387, 388, 576, 577, 578, 579, 580, 640, 641, 704, 705] [(192, ⟨(.box 62 2), 0, nob⟩), (193, ⟨.im, 0, (.lit (.int .i64 a1179.N))⟩), (194, ⟨.im, 0, (.sl (len a1179.Edges) (flat eGEdge a1179.Edges))⟩), (256, ⟨(.box 64 4), 0, nob⟩), (257, ⟨.im, 0, (.lit (.int .i64 a1180.Prog))⟩), (258, ⟨.im, 0, (.lit (.int .i64 a1180.Source))⟩), (259, ⟨.im, 0, (.lit (.int .i64 a1180.Limit))⟩), (260, ⟨.im, 0, (.lit (.int .i64 a1180.Parts))⟩), (320, ⟨(.box 74 4), 0, nob⟩), (321, ⟨.im, 0, (.lit (.int .i64 a1181.Step))⟩), (322, ⟨.im, 0, (.sl (len a1181.Vals) (flat (eInt .i64) a1181.Vals))⟩), (323, ⟨.im, 0, (.sl (len a1181.Rest) (flat eBool a1181.Rest))⟩), (324, ⟨.im, 0, (.sl (len a1181.In) (flat eGMsg a1181.In))⟩), (384, ⟨(.box 74 4), 0, nob⟩), (385, ⟨.im, 0, (.lit (.int .i64 0))⟩), (386, ⟨(.own 2), 0, (.sl 0 [])⟩), (387, ⟨(.own 4), 0, (.sl 0 [])⟩), (388, ⟨(.own 130), 0, (.sl 0 [])⟩), (576, ⟨(.box 74 4), 0, nob⟩), (577, ⟨.im, 0, (.lit (.int .i64 (wadd .i64 a1181.Step 1)))⟩), (578, ⟨(.own 2), 0, (.sl (len v1868) (flat (eInt .i64) v1868))⟩), (579, ⟨(.own 4), 0, (.sl (len v1869) (flat eBool v1869))⟩), (580, ⟨(.own 130), 0, (.sl 0 [])⟩), (640, ⟨.one, 0, nob⟩), (641, ⟨(.own 130), 0, (.sl (len v1870) (flat eGMsg v1870))⟩), (704, ⟨.one, 0, nob⟩), (705, ⟨.im, 0, (.lit (.int .i64 v1871))⟩)]
def F130_l0_0_X0 (a1179 : GGraph) (a1180 : GJob) (a1181 : GState) (w1898 : Int) : TS := .on [384, 385, 386, 387, 388, 448, 449] [(384, ⟨(.box 74 4), 0, nob⟩), (385, ⟨.im, 0, (.lit (.int .i64 0))⟩), (386, ⟨(.own 2), 0, (.sl 0 [])⟩), (387, ⟨(.own 4), 0, (.sl 0 [])⟩), (388, ⟨(.own 130), 0, (.sl 0 [])⟩), (448, ⟨.one, 0, nob⟩), (449, ⟨.im, 0, (.lit (.int .i64 w1898))⟩)]
def F130_l0_0_X1 (a1179 : GGraph) (a1180 : GJob) (a1181 : GState) (w1900 : List Int × List Bool × List GMsg) : TS := .on [256, 257, 258, 259, 260, 384, 385, 386, 387, 388, 576, 577, 578, 579, 580, 640, 641] [(256, ⟨(.box 64 4), 0, nob⟩), (257, ⟨.im, 0, (.lit (.int .i64 a1180.Prog))⟩), (258, ⟨.im, 0, (.lit (.int .i64 a1180.Source))⟩), (259, ⟨.im, 0, (.lit (.int .i64 a1180.Limit))⟩), (260, ⟨.im, 0, (.lit (.int .i64 a1180.Parts))⟩), (384, ⟨(.box 74 4), 0, nob⟩), (385, ⟨.im, 0, (.lit (.int .i64 0))⟩), (386, ⟨(.own 2), 0, (.sl 0 [])⟩), (387, ⟨(.own 4), 0, (.sl 0 [])⟩), (388, ⟨(.own 130), 0, (.sl 0 [])⟩), (576, ⟨(.box 74 4), 0, nob⟩), (577, ⟨.im, 0, (.lit (.int .i64 (wadd .i64 a1181.Step 1)))⟩), (578, ⟨(.own 2), 0, (.sl (len w1900.1) (flat (eInt .i64) w1900.1))⟩), (579, ⟨(.own 4), 0, (.sl (len w1900.2.1) (flat eBool w1900.2.1))⟩), (580, ⟨(.own 130), 0, (.sl 0 [])⟩), (640, ⟨.one, 0, nob⟩), (641, ⟨(.own 130), 0, (.sl (len w1900.2.2) (flat eGMsg w1900.2.2))⟩)]
theorem F130_l0_0_ok (K : Nat) (a1179 : GGraph) (a1180 : GJob) (a1181 : GState) : ∀ (k : Nat) (v1868 : List Int) (v1869 : List Bool) (v1870 : List GMsg) (v1871 : Int) (r : (Int) ⊕ (List Int × List Bool × List GMsg)), F130_l0_0 K a1179 a1180 a1181 k v1868 v1869 v1870 v1871 = some r → (Sum.elim (fun w => LoopEv E H hn130 0 c130_0 (F130_l0_0_S a1179 a1180 a1181 v1868 v1869 v1870 v1871) .ret (F130_l0_0_X0 a1179 a1180 a1181 w)) (fun w => LoopEv E H hn130 0 c130_0 (F130_l0_0_S a1179 a1180 a1181 v1868 v1869 v1870 v1871) (.exit 0) (F130_l0_0_X1 a1179 a1180 a1181 w))) r := by
 intro k
 induction k with
 | zero => intro v1868 v1869 v1870 v1871 r hF; cases hF
 | succ k ih =>
  intro v1868 v1869 v1870 v1871 r hF
  rw [F130_l0_0] at hF
  refine cond_some hF (fun h1872 hF => ?_) (fun h1872 hF => ?_)
  ·
   refine bind_some hF (fun r1873 h1874 hF => ?_)
   refine cond_some hF (fun h1875 hF => ?_) (fun _ hF => nomatch hF)
   refine bind_some hF (fun x1876 h1877 hF => ?_)
   have pq1904 : ∀ {l : List Cond}, HoldAll E H hn130 l → HoldAll E H hn130 (.test (ilt v1871 a1179.N) true :: .call 151 [.one (.sl (len a1181.In) (flat eGMsg a1181.In)), .one (.lit (.int .i64 v1871))] (F151_res r1873) :: .test (leadsAny (Res.mk [(.one (.im (.lit (.int .i64 r1873.1)))), (.one (.im (.lit (.bool r1873.2))))] [])) false :: .test (inr v1871 (len a1181.Vals)) true :: .sub (flat (eInt .i64) a1181.Vals) (nidx v1871 1) 1 [(.lit (.int .i64 x1876))] :: l) := fun z => ⟨h1872, (F151_ok K a1181.In v1871 _ h1874), (leads_ok (by simp [leadsAny, RV.leads, RC.leads, leadsT, hasSl_lit, flat_ns (eInt_ns _), flat_ns eGMsg_ns])), h1875, ⟨rfl, sub_flat0 (eInt_len _) h1877 1 (by decide)⟩, z⟩
   refine cond_some hF (fun h1878 hF => ?_) (fun h1878 hF => ?_)
   ·
    refine bind_some hF (fun r1879 h1880 hF => ?_)
    have pq1905 : ∀ {l : List Cond}, HoldAll E H hn130 l → HoldAll E H hn130 (.test (beqb r1873.2 false) false :: .test (beqb r1873.2 false) false :: .test (beqb r1873.2 false) false :: .test (beqb r1873.2 false) false :: .test (beqb r1873.2 false) false :: .test (beqb r1873.2 false) false :: .test r1873.2 true :: .test true true :: .test (inr v1871 (len a1181.Vals)) true :: .sub (flat (eInt .i64) a1181.Vals) (nidx v1871 1) 1 [(.lit (.int .i64 x1876))] :: .call 100 [.agg (eGGraph a1179), .agg (eGJob a1180), .one (.lit (.int .i64 a1181.Step)), .one (.lit (.int .i64 v1871)), .one (.lit (.int .i64 x1876)), .one (.lit (.int .i64 r1873.1)), .one (.lit (.bool r1873.2))] (F100_res r1879) :: .test (leadsAny (Res.mk [(.agg [(.im (.lit (.int .i64 r1879.Val))), (.own 130 (.sl (len r1879.Out) (flat eGMsg r1879.Out))), (.im (.lit (.bool r1879.Rest))), (.im (.lit (.int .i64 r1879.E)))])] [])) false :: l) := fun z => ⟨(beqb_ft h1878), (beqb_ft h1878), (beqb_ft h1878), (beqb_ft h1878), (beqb_ft h1878), (beqb_ft h1878), h1878, rfl, h1875, ⟨rfl, sub_flat0 (eInt_len _) h1877 1 (by decide)⟩, (F100_ok K a1179 a1180 a1181.Step v1871 x1876 r1873.1 r1873.2 _ h1880), (leads_ok (by simp [leadsAny, RV.leads, RC.leads, leadsT, hasSl_lit, flat_ns (eInt_ns _), flat_ns eGJob_ns, flat_ns eGMsg_ns])), z⟩
    refine cond_some hF (fun h1881 hF => ?_) (fun h1881 hF => ?_)
    ·
     refine cond_some hF (fun h1882 hF => ?_) (fun _ hF => nomatch hF)
     refine cond_some hF (fun h1883 hF => ?_) (fun _ hF => nomatch hF)
     refine cond_some hF (fun h1884 hF => ?_) (fun _ hF => nomatch hF)
     have pz : HoldAll E H hn130 [.test (ine r1879.E 0) false, .test (leqm [(.lit (.int .i64 r1879.Val))] 1 1) true, .test (apok (len v1868) 1 8) true, .sl (nadd (len v1868) 1) (lapp (flat (eInt .i64) v1868) [(.lit (.int .i64 r1879.Val))]) (len (α := Int) (appL v1868 [r1879.Val])) (flat (eInt .i64) (appL v1868 [r1879.Val])), .test (leqm [(.lit (.bool r1879.Rest))] 1 1) true, .test (apok (len v1869) 1 1) true, .sl (nadd (len v1869) 1) (lapp (flat eBool v1869) [(.lit (.bool r1879.Rest))]) (len (α := Bool) (appL v1869 [r1879.Rest])) (flat eBool (appL v1869 [r1879.Rest])), .test (leqm (flat eGMsg r1879.Out) (len r1879.Out) 2) true, .test (apok (len v1870) (len r1879.Out) 16) true, .sl (nadd (len v1870) (len r1879.Out)) (lapp (flat eGMsg v1870) (flat eGMsg r1879.Out)) (len (α := GMsg) (appL v1870 r1879.Out)) (flat eGMsg (appL v1870 r1879.Out)), .int (wadd .i64 v1871 1) (wadd .i64 v1871 1)] := ⟨(ine_t h1881), rfl, h1882, (app_ok (enc := (eInt .i64)) (v1868 : List Int) [r1879.Val]), rfl, h1883, (app_ok (enc := eBool) (v1869 : List Bool) [r1879.Rest]), (leqm_flat eGMsg_len _), h1884, (app_ok (enc := eGMsg) (v1870 : List GMsg) r1879.Out), rfl, trivial⟩
     have h0 := ih _ _ _ _ _ hF
     have hn := fun ex ts' => loop_nextC (h := hn130) (l := 0) (c := c130_0) (ts := F130_l0_0_S a1179 a1180 a1181 v1868 v1869 v1870 v1871) (ts1 := (F130_l0_0_S a1179 a1180 a1181 (appL v1868 [r1879.Val]) (appL v1869 [r1879.Rest]) (appL v1870 r1879.Out) (wadd .i64 v1871 1))) (ex := ex) (ts' := ts') (pq1904 (pq1905 pz)) (by kernel_rfl)
     cases r with
     | inl w => exact hn _ _ h0
     | inr w => exact hn _ _ h0
    obtain rfl := Option.some.inj hF
    have pz : HoldAll E H hn130 [.test (ine r1879.E 0) true] := ⟨(ine_f h1881), trivial⟩
    exact loop_endC (h := hn130) (l := 0) (c := c130_0) (ts := F130_l0_0_S a1179 a1180 a1181 v1868 v1869 v1870 v1871) (ts' := F130_l0_0_X0 a1179 a1180 a1181 r1879.E) (ex := .ret) (pq1904 (pq1905 pz)) (by kernel_rfl) trivial
   refine cond_some hF (fun h1885 hF => ?_) (fun _ hF => nomatch hF)
   refine bind_some hF (fun x1886 h1887 hF => ?_)
   have pq1906 : ∀ {l : List Cond}, HoldAll E H hn130 l → HoldAll E H hn130 (.test (beqb r1873.2 false) true :: .test (beqb r1873.2 false) true :: .test (beqb r1873.2 false) true :: .test (beqb r1873.2 false) true :: .test (inr v1871 (len a1181.Rest)) true :: .test (beqb r1873.2 false) true :: .sub (flat eBool a1181.Rest) (nidx v1871 1) 1 [(.lit (.bool x1886))] :: .test (beqb r1873.2 false) true :: .test r1873.2 false :: l) := fun z => ⟨(beqb_ff h1878), (beqb_ff h1878), (beqb_ff h1878), (beqb_ff h1878), h1885, (beqb_ff h1878), ⟨rfl, sub_flat0 eBool_len h1887 1 (by decide)⟩, (beqb_ff h1878), h1878, z⟩
   refine cond_some hF (fun h1888 hF => ?_) (fun h1888 hF => ?_)
   ·
    refine cond_some hF (fun h1889 hF => ?_) (fun _ hF => nomatch hF)
    refine cond_some hF (fun h1890 hF => ?_) (fun _ hF => nomatch hF)
    refine cond_some hF (fun h1891 hF => ?_) (fun _ hF => nomatch hF)
    have pz : HoldAll E H hn130 [.test (bnot x1886) false, .test (ine 0 0) false, .test (leqm [(.lit (.int .i64 x1876))] 1 1) true, .test (apok (len v1868) 1 8) true, .sl (nadd (len v1868) 1) (lapp (flat (eInt .i64) v1868) [(.lit (.int .i64 x1876))]) (len (α := Int) (appL v1868 [x1876])) (flat (eInt .i64) (appL v1868 [x1876])), .test (leqm [(.lit (.bool true))] 1 1) true, .test (apok (len v1869) 1 1) true, .sl (nadd (len v1869) 1) (lapp (flat eBool v1869) [(.lit (.bool true))]) (len (α := Bool) (appL v1869 [true])) (flat eBool (appL v1869 [true])), .test (leqm [] 0 2) true, .test (apok (len v1870) 0 16) true, .sl (nadd (len v1870) 0) (lapp (flat eGMsg v1870) []) (len (α := GMsg) (appL v1870 [])) (flat eGMsg (appL v1870 [])), .int (wadd .i64 v1871 1) (wadd .i64 v1871 1)] := ⟨(bnot_t h1888), (by first | exact rfl | (unfold Cond.Holds; decide)), rfl, h1889, (app_ok (enc := (eInt .i64)) (v1868 : List Int) [x1876]), rfl, h1890, (app_ok (enc := eBool) (v1869 : List Bool) [true]), rfl, h1891, (app_ok (enc := eGMsg) (v1870 : List GMsg) []), rfl, trivial⟩
    have h0 := ih _ _ _ _ _ hF
    have hn := fun ex ts' => loop_nextC (h := hn130) (l := 0) (c := c130_0) (ts := F130_l0_0_S a1179 a1180 a1181 v1868 v1869 v1870 v1871) (ts1 := (F130_l0_0_S a1179 a1180 a1181 (appL v1868 [x1876]) (appL v1869 [true]) (appL v1870 []) (wadd .i64 v1871 1))) (ex := ex) (ts' := ts') (pq1904 (pq1906 pz)) (by kernel_rfl)
    cases r with
    | inl w => exact hn _ _ h0
    | inr w => exact hn _ _ h0
   refine bind_some hF (fun r1892 h1893 hF => ?_)
   have pq1907 : ∀ {l : List Cond}, HoldAll E H hn130 l → HoldAll E H hn130 (.test (bnot x1886) true :: .test (inr v1871 (len a1181.Vals)) true :: .sub (flat (eInt .i64) a1181.Vals) (nidx v1871 1) 1 [(.lit (.int .i64 x1876))] :: .call 100 [.agg (eGGraph a1179), .agg (eGJob a1180), .one (.lit (.int .i64 a1181.Step)), .one (.lit (.int .i64 v1871)), .one (.lit (.int .i64 x1876)), .one (.lit (.int .i64 r1873.1)), .one (.lit (.bool r1873.2))] (F100_res r1892) :: .test (leadsAny (Res.mk [(.agg [(.im (.lit (.int .i64 r1892.Val))), (.own 130 (.sl (len r1892.Out) (flat eGMsg r1892.Out))), (.im (.lit (.bool r1892.Rest))), (.im (.lit (.int .i64 r1892.E)))])] [])) false :: l) := fun z => ⟨(bnot_f h1888), h1875, ⟨rfl, sub_flat0 (eInt_len _) h1877 1 (by decide)⟩, (F100_ok K a1179 a1180 a1181.Step v1871 x1876 r1873.1 r1873.2 _ h1893), (leads_ok (by simp [leadsAny, RV.leads, RC.leads, leadsT, hasSl_lit, flat_ns (eInt_ns _), flat_ns eGJob_ns, flat_ns eGMsg_ns])), z⟩
   refine cond_some hF (fun h1894 hF => ?_) (fun h1894 hF => ?_)
   ·
    refine cond_some hF (fun h1895 hF => ?_) (fun _ hF => nomatch hF)
    refine cond_some hF (fun h1896 hF => ?_) (fun _ hF => nomatch hF)
    refine cond_some hF (fun h1897 hF => ?_) (fun _ hF => nomatch hF)
    have pz : HoldAll E H hn130 [.test (ine r1892.E 0) false, .test (leqm [(.lit (.int .i64 r1892.Val))] 1 1) true, .test (apok (len v1868) 1 8) true, .sl (nadd (len v1868) 1) (lapp (flat (eInt .i64) v1868) [(.lit (.int .i64 r1892.Val))]) (len (α := Int) (appL v1868 [r1892.Val])) (flat (eInt .i64) (appL v1868 [r1892.Val])), .test (leqm [(.lit (.bool r1892.Rest))] 1 1) true, .test (apok (len v1869) 1 1) true, .sl (nadd (len v1869) 1) (lapp (flat eBool v1869) [(.lit (.bool r1892.Rest))]) (len (α := Bool) (appL v1869 [r1892.Rest])) (flat eBool (appL v1869 [r1892.Rest])), .test (leqm (flat eGMsg r1892.Out) (len r1892.Out) 2) true, .test (apok (len v1870) (len r1892.Out) 16) true, .sl (nadd (len v1870) (len r1892.Out)) (lapp (flat eGMsg v1870) (flat eGMsg r1892.Out)) (len (α := GMsg) (appL v1870 r1892.Out)) (flat eGMsg (appL v1870 r1892.Out)), .int (wadd .i64 v1871 1) (wadd .i64 v1871 1)] := ⟨(ine_t h1894), rfl, h1895, (app_ok (enc := (eInt .i64)) (v1868 : List Int) [r1892.Val]), rfl, h1896, (app_ok (enc := eBool) (v1869 : List Bool) [r1892.Rest]), (leqm_flat eGMsg_len _), h1897, (app_ok (enc := eGMsg) (v1870 : List GMsg) r1892.Out), rfl, trivial⟩
    have h0 := ih _ _ _ _ _ hF
    have hn := fun ex ts' => loop_nextC (h := hn130) (l := 0) (c := c130_0) (ts := F130_l0_0_S a1179 a1180 a1181 v1868 v1869 v1870 v1871) (ts1 := (F130_l0_0_S a1179 a1180 a1181 (appL v1868 [r1892.Val]) (appL v1869 [r1892.Rest]) (appL v1870 r1892.Out) (wadd .i64 v1871 1))) (ex := ex) (ts' := ts') (pq1904 (pq1906 (pq1907 pz))) (by kernel_rfl)
    cases r with
    | inl w => exact hn _ _ h0
    | inr w => exact hn _ _ h0
   obtain rfl := Option.some.inj hF
   have pz : HoldAll E H hn130 [.test (ine r1892.E 0) true] := ⟨(ine_f h1894), trivial⟩
   exact loop_endC (h := hn130) (l := 0) (c := c130_0) (ts := F130_l0_0_S a1179 a1180 a1181 v1868 v1869 v1870 v1871) (ts' := F130_l0_0_X0 a1179 a1180 a1181 r1892.E) (ex := .ret) (pq1904 (pq1906 (pq1907 pz))) (by kernel_rfl) trivial
  obtain rfl := Option.some.inj hF
  have pz : HoldAll E H hn130 [.test (ilt v1871 a1179.N) false] := ⟨h1872, trivial⟩
  exact loop_endC (h := hn130) (l := 0) (c := c130_0) (ts := F130_l0_0_S a1179 a1180 a1181 v1868 v1869 v1870 v1871) (ts' := F130_l0_0_X1 a1179 a1180 a1181 (v1868, (v1869, v1870))) (ex := (.exit 0)) pz (by kernel_rfl) trivial
def F130 (K : Nat) (a1179 : GGraph) (a1180 : GJob) (a1181 : GState) : Option (GState × Int) :=
 (F59 K a1179 a1180).bind fun r1182 =>
 bif (ieq r1182 0) then
  ((F88 K a1179 a1180 a1181).bind fun r1228 =>
  bif r1228 then
   (bif (ieq a1181.Step 40) then
    (some ((GState.mk 0 [] [] []), 6))
   else
   (F130_l0_0 K a1179 a1180 a1181 K [] [] [] 0).bind fun y1909 =>
   Sum.elim (fun w1910 =>
    some ((GState.mk 0 [] [] []), w1910))
    (fun w1912 =>
    (F152 K a1180.Prog w1912.2.2).bind fun r2118 =>
    bif (ieq r2118.2 0) then
     (some ((GState.mk (wadd .i64 a1181.Step 1) w1912.1 w1912.2.1 r2118.1), 0))
    else
    some ((GState.mk 0 [] [] []), r2118.2)) y1909)
  else
  some ((GState.mk 0 [] [] []), 1))
 else
 some ((GState.mk 0 [] [] []), r1182)
theorem F130_ok (K : Nat) (a1179 : GGraph) (a1180 : GJob) (a1181 : GState) (r : GState × Int) (hF : F130 K a1179 a1180 a1181 = some r) : Evt E H 130 [.agg (eGGraph a1179), .agg (eGJob a1180), .agg (eGState a1181)] (F130_res r) := by
 rw [F130] at hF
 refine bind_some hF (fun r1182 h1183 hF => ?_)
 refine cond_some hF (fun h1184 hF => ?_) (fun h1184 hF => ?_)
 ·
  refine bind_some hF (fun r1228 h1229 hF => ?_)
  have pq2121 : ∀ {l : List Cond}, HoldAll E H hn130 l → HoldAll E H hn130 (.call 59 [.agg (eGGraph a1179), .agg (eGJob a1180)] (F59_res r1182) :: .test (leadsAny (Res.mk [(.one (.im (.lit (.int .i64 r1182))))] [])) false :: .test (ine r1182 0) false :: .call 88 [.agg (eGGraph a1179), .agg (eGJob a1180), .agg (eGState a1181)] (F88_res r1228) :: .test (leadsAny (Res.mk [(.one (.im (.lit (.bool r1228))))] [])) false :: l) := fun z => ⟨(F59_ok K a1179 a1180 _ h1183), (leads_ok (by simp [leadsAny, RV.leads, RC.leads, leadsT, hasSl_lit, flat_ns eGJob_ns])), (ine_t h1184), (F88_ok K a1179 a1180 a1181 _ h1229), (leads_ok (by simp [leadsAny, RV.leads, RC.leads, leadsT, hasSl_lit, flat_ns eGJob_ns])), z⟩
  refine cond_some hF (fun h1230 hF => ?_) (fun h1230 hF => ?_)
  ·
   refine cond_some hF (fun h1231 hF => ?_) (fun h1231 hF => ?_)
   ·
    obtain rfl := Option.some.inj hF
    have pz : HoldAll E H hn130 [.test (bnot r1228) false, .test (ieq a1181.Step 40) true] := ⟨(bnot_t h1230), h1231, trivial⟩
    exact fn_playC hn130 (r := F130_res ((GState.mk 0 [] [] []), 6)) (pq2121 pz) (by kernel_rfl) (by kernel_rfl)
   have pq2122 : ∀ {l : List Cond}, HoldAll E H hn130 l → HoldAll E H hn130 (.test (bnot r1228) false :: .test (ieq a1181.Step 40) false :: .int (wadd .i64 a1181.Step 1) (wadd .i64 a1181.Step 1) :: l) := fun z => ⟨(bnot_t h1230), h1231, rfl, z⟩
   refine bind_some hF (fun y1909 h1908 hF => ?_)
   refine sum_some hF (fun w1910 hx hF => ?_) (fun w1912 hx hF => ?_)
   ·
    subst hx
    obtain rfl := Option.some.inj hF
    have pz : HoldAll E H hn130 [.loop 0 c130_0 (F130_l0_0_S a1179 a1180 a1181 [] [] [] 0) .ret (F130_l0_0_X0 a1179 a1180 a1181 w1910)] := ⟨(F130_l0_0_ok K a1179 a1180 a1181 K [] [] [] 0 _ h1908), trivial⟩
    exact fn_playC hn130 (r := F130_res ((GState.mk 0 [] [] []), w1910)) (pq2121 (pq2122 pz)) (by kernel_rfl) (by kernel_rfl)
   subst hx
   refine bind_some hF (fun r2118 h2119 hF => ?_)
   have pq2123 : ∀ {l : List Cond}, HoldAll E H hn130 l → HoldAll E H hn130 (.loop 0 c130_0 (F130_l0_0_S a1179 a1180 a1181 [] [] [] 0) (.exit 0) (F130_l0_0_X1 a1179 a1180 a1181 w1912) :: .call 152 [.one (.lit (.int .i64 a1180.Prog)), .one (.sl (len w1912.2.2) (flat eGMsg w1912.2.2))] (F152_res r2118) :: .test (leadsAny (Res.mk [(.one (.own 130 (.sl (len r2118.1) (flat eGMsg r2118.1)))), (.one (.im (.lit (.int .i64 r2118.2))))] [])) false :: l) := fun z => ⟨(F130_l0_0_ok K a1179 a1180 a1181 K [] [] [] 0 _ h1908), (F152_ok K a1180.Prog w1912.2.2 _ h2119), (leads_ok (by simp [leadsAny, RV.leads, RC.leads, leadsT, hasSl_lit, flat_ns eGMsg_ns])), z⟩
   refine cond_some hF (fun h2120 hF => ?_) (fun h2120 hF => ?_)
   ·
    obtain rfl := Option.some.inj hF
    have pz : HoldAll E H hn130 [.test (ine r2118.2 0) false] := ⟨(ine_t h2120), trivial⟩
    exact fn_playC hn130 (r := F130_res ((GState.mk (wadd .i64 a1181.Step 1) w1912.1 w1912.2.1 r2118.1), 0)) (pq2121 (pq2122 (pq2123 pz))) (by kernel_rfl) (by kernel_rfl)
   obtain rfl := Option.some.inj hF
   have pz : HoldAll E H hn130 [.test (ine r2118.2 0) true] := ⟨(ine_f h2120), trivial⟩
   exact fn_playC hn130 (r := F130_res ((GState.mk 0 [] [] []), r2118.2)) (pq2121 (pq2122 (pq2123 pz))) (by kernel_rfl) (by kernel_rfl)
  obtain rfl := Option.some.inj hF
  have pz : HoldAll E H hn130 [.test (bnot r1228) true] := ⟨(bnot_f h1230), trivial⟩
  exact fn_playC hn130 (r := F130_res ((GState.mk 0 [] [] []), 1)) (pq2121 pz) (by kernel_rfl) (by kernel_rfl)
 obtain rfl := Option.some.inj hF
 have pz : HoldAll E H hn130 [.call 59 [.agg (eGGraph a1179), .agg (eGJob a1180)] (F59_res r1182), .test (leadsAny (Res.mk [(.one (.im (.lit (.int .i64 r1182))))] [])) false, .test (ine r1182 0) true] := ⟨(F59_ok K a1179 a1180 _ h1183), (leads_ok (by simp [leadsAny, RV.leads, RC.leads, leadsT, hasSl_lit, flat_ns eGJob_ns])), (ine_f h1184), trivial⟩
 exact fn_playC hn130 (r := F130_res ((GState.mk 0 [] [] []), r1182)) pz (by kernel_rfl) (by kernel_rfl)
abbrev Tri := List Int × List Bool × List GMsg
def oneS (g : GGraph) (j : GJob) (s : GState) (v : Nat) : Int × List GMsg × Bool × Int :=
 bif s.Rest.getD v false && !(atS s.In (v : Int)).2 then (s.Vals.getD v 0, [], true, 0)
 else turnS g j s.Step (v : Int) (s.Vals.getD v 0) (atS s.In (v : Int)).1 (atS s.In (v : Int)).2
def stepA (g : GGraph) (j : GJob) (s : GState) : List Nat → List Int → List Bool → List GMsg → Int ⊕ Tri
 | [], a, b, c => .inr (a, b, c)
 | v :: l, a, b, c => bif ieq (oneS g j s v).2.2.2 0 then stepA g j s l (a ++ [(oneS g j s v).1]) (b ++ [(oneS g j s v).2.2.1]) (c ++ (oneS g j s v).2.1) else .inl (oneS g j s v).2.2.2
def zeroS : GState := GState.mk 0 [] [] []
def stepB (g : GGraph) (j : GJob) (s : GState) : Int ⊕ Tri → GState × Int
 | .inl e => (zeroS, e)
 | .inr w => bif ieq (boxS j.Prog w.2.2).2 0 then (GState.mk (s.Step + 1) w.1 w.2.1 (boxS j.Prog w.2.2).1, 0) else (zeroS, (boxS j.Prog w.2.2).2)
def stepS (g : GGraph) (j : GJob) (s : GState) : GState × Int :=
 bif ieq (jcheck g j) 0 then (bif stRight g j s then (bif ieq s.Step 40 then (zeroS, 6) else stepB g j s (stepA g j s (List.range g.N.toNat) [] [] [])) else (zeroS, 1)) else (zeroS, jcheck g j)
def niceS (s : GState) : Prop := (∀ v ∈ s.Vals, i64 v) ∧ (∀ m ∈ s.In, i64 m.V)
theorem sendS_i64 {p val many : Int} {e : GEdge} (hv : i64 val) : i64 (sendS p val e many).1 := by
 rw [sendS]
 cases ieq p 1
 · cases ieq p 3
   · cases ieq p 5
     · exact hv
     · exact ratioS_i64
   · exact addS_i64
 · exact addS_i64
theorem sendA_i64 {p val many : Int} (hv : i64 val) : ∀ {l : List GEdge} {s r : List GMsg}, (∀ m ∈ s, i64 m.V) → sendA p val many l s = some r → ∀ m ∈ r, i64 m.V
 | [], s, r, hs, h => by injection h with h; subst h; exact hs
 | e :: l, s, r, hs, h => by
   rw [sendA] at h
   cases hq : (sendS p val e many).2
   · rw [hq] at h; cases h
   · rw [hq, cond_true] at h
     refine sendA_i64 hv (fun m hm => ?_) h
     rcases List.mem_append.1 hm with hm | hm
     · exact hs m hm
     · rw [List.mem_singleton.1 hm]; exact sendS_i64 hv
theorem sendO_i64 {p w many : Int} {b : Bool} {l : List GEdge} (hw : i64 w) : i64 (sendO b w (sendA p w many l [])).1 ∧ ∀ m ∈ (sendO b w (sendA p w many l [])).2.1, i64 m.V := by
 have h0 : i64 0 := by unfold i64; omega
 cases hq : sendA p w many l []
 · exact ⟨h0, fun m hm => absurd hm (List.not_mem_nil)⟩
 · exact ⟨hw, sendA_i64 hw (fun m hm => absurd hm (List.not_mem_nil)) hq⟩
theorem turn_i64 {g : GGraph} {j : GJob} {step v val got : Int} {sm : Bool} (hv : i64 val) (hg : i64 got) : i64 (turnS g j step v val got sm).1 ∧ ∀ m ∈ (turnS g j step v val got sm).2.1, i64 m.V := by
 have h0 : i64 0 := by unfold i64; omega
 have hn : ∀ m ∈ ([] : List GMsg), i64 m.V := fun m hm => absurd hm (List.not_mem_nil)
 rw [turnS]
 cases ieq (jcheck g j) 0
 · exact ⟨h0, hn⟩
 · cases ilt v 0
   · cases ile g.N v
     · cases ilt step 0
       · cases ilt 40 step
         · simp only [cond_true, cond_false]
           cases ieq j.Prog 5
           · have hw : i64 (turnV j.Prog val got sm) := by
               rw [turnV]
               cases sm
               · exact hv
               · exact foldS_i64 hv hg
             rw [cond_false, moveS]
             cases turnM j.Prog j.Source step v val (turnV j.Prog val got sm)
             · exact ⟨hw, hn⟩
             · exact sendO_i64 hw
           · have hw : i64 (rankW step val got sm).1 := by
               rw [rankW]
               cases ilt 0 step
               · exact hv
               · exact sumS_i64
             rw [cond_true, rankS]
             cases (rankW step val got sm).2
             · exact ⟨h0, hn⟩
             · cases ile 10 step
               · exact sendO_i64 hw
               · exact ⟨hw, hn⟩
         · exact ⟨h0, hn⟩
       · exact ⟨h0, hn⟩
     · exact ⟨h0, hn⟩
   · exact ⟨h0, hn⟩
theorem turn_outs {g : GGraph} {j : GJob} {step v val got : Int} {sm : Bool} : (turnS g j step v val got sm).2.1.length ≤ (g.Edges.filter fun e => ieq e.From v).length := by
 have ho : (outs g v).length ≤ (g.Edges.filter fun e => ieq e.From v).length := by
   rw [outs]
   cases ieq (gcheck g) 0
   · exact Nat.zero_le _
   · exact Nat.le_refl _
 cases h : ieq (turnS g j step v val got sm).2.2.2 0
 · rw [(turn_bad h).2]; exact Nat.zero_le _
 · rcases turn_out h with hz | hz
   · rw [hz]; exact Nat.zero_le _
   · have := congrArg List.length hz
     simp only [List.length_map] at this
     omega
theorem from_add (E : List GEdge) (v : Int) : (E.filter fun e => ilt e.From v).length + (E.filter fun e => ieq e.From v).length = (E.filter fun e => ilt e.From (v + 1)).length := by
 induction E with
 | nil => rfl
 | cons e E ih =>
   simp only [List.filter_cons]
   cases h1 : ilt e.From v
   · have h1' := ilt_f.1 h1
     cases h2 : ieq e.From v
     · have h2' := ieq_f.1 h2
       rw [ilt_f.2 (by omega : v + 1 ≤ e.From)]
       simpa using ih
     · have h2' := ieq_iff.1 h2
       rw [ilt_iff.2 (by omega : e.From < v + 1)]
       simp; omega
   · have h1' := ilt_iff.1 h1
     rw [ieq_f.2 (by omega : e.From ≠ v), ilt_iff.2 (by omega : e.From < v + 1)]
     simp; omega
theorem one_i64 {g : GGraph} {j : GJob} {s : GState} (hn : niceS s) {v : Nat} : i64 (oneS g j s v).1 ∧ ∀ m ∈ (oneS g j s v).2.1, i64 m.V := by
 have h0 : i64 0 := by unfold i64; omega
 have hx : i64 (s.Vals.getD v 0) := by
   rw [List.getD_eq_getElem?_getD]
   cases hq : s.Vals[v]? with
   | none => exact h0
   | some x => exact hn.1 x (List.mem_of_getElem? hq)
 rw [oneS]
 cases s.Rest.getD v false && !(atS s.In (v : Int)).2
 · exact turn_i64 hx (atS_i64 hn.2)
 · exact ⟨hx, fun m hm => absurd hm (List.not_mem_nil)⟩
theorem one_outs {g : GGraph} {j : GJob} {s : GState} {v : Nat} : (oneS g j s v).2.1.length ≤ (g.Edges.filter fun e => ieq e.From (v : Int)).length := by
 rw [oneS]
 cases s.Rest.getD v false && !(atS s.In (v : Int)).2
 · exact turn_outs
 · exact Nat.zero_le _
structure keepS (g : GGraph) (i : Nat) (a : List Int) (b : List Bool) (c : List GMsg) : Prop where
 la : a.length = i
 lb : b.length = i
 lc : c.length ≤ (g.Edges.filter fun e => ilt e.From (i : Int)).length
 va : ∀ v ∈ a, i64 v
 vc : ∀ m ∈ c, i64 m.V
theorem keep_next {g : GGraph} {j : GJob} {s : GState} (hn : niceS s) {i : Nat} {a : List Int} {b : List Bool} {c : List GMsg} (h : keepS g i a b c) :
   keepS g (i + 1) (a ++ [(oneS g j s i).1]) (b ++ [(oneS g j s i).2.2.1]) (c ++ (oneS g j s i).2.1) := by
 obtain ⟨o1, o2⟩ := one_i64 (g := g) (j := j) hn (v := i)
 refine ⟨by simp [h.la], by simp [h.lb], ?_, fun v hv => ?_, fun m hm => ?_⟩
 · have h1 := one_outs (g := g) (j := j) (s := s) (v := i)
   have h2 := from_add g.Edges (i : Int)
   have h3 := h.lc
   rw [List.length_append]
   show _ ≤ (g.Edges.filter fun e => ilt e.From ((i + 1 : Nat) : Int)).length
   have : ((i + 1 : Nat) : Int) = (i : Int) + 1 := by omega
   rw [this]; omega
 · rcases List.mem_append.1 hv with hv | hv
   · exact h.va v hv
   · rw [List.mem_singleton.1 hv]; exact o1
 · rcases List.mem_append.1 hm with hm | hm
   · exact h.vc m hm
   · exact o2 m hm
theorem keep_len {g : GGraph} {i : Nat} {a : List Int} {b : List Bool} {c : List GMsg} (h : keepS g i a b c) (he : g.Edges.length ≤ 80) : c.length ≤ 80 :=
 Nat.le_trans h.lc (Nat.le_trans (List.length_filter_le _ _) he)
theorem stepA_keep {g : GGraph} {j : GJob} {s : GState} (hn : niceS s) : ∀ (n i : Nat) (a : List Int) (b : List Bool) (c : List GMsg), keepS g i a b c → ∀ w, stepA g j s (List.range' i n) a b c = .inr w → keepS g (i + n) w.1 w.2.1 w.2.2 := by
 intro n
 induction n with
 | zero => intro i a b c h w hw; injection hw with hw; subst hw; exact h
 | succ n ih =>
   intro i a b c h w hw
   rw [List.range'_succ, stepA] at hw
   cases hq : ieq (oneS g j s i).2.2.2 0
   · rw [hq] at hw; cases hw
   · rw [hq] at hw
     have := ih (i + 1) _ _ _ (keep_next hn h) w hw
     rwa [show i + 1 + n = i + (n + 1) by omega] at this
def st130 (K : Nat) (g : GGraph) (j : GJob) (s : GState) (i : Nat) (w : Tri) (c : Tri → Option (Int ⊕ Tri)) : Option (Int ⊕ Tri) :=
 (F151 K s.In (i : Int)).bind fun r1873 =>
 bif (inr (i : Int) (len s.Vals)) then
 (elAt s.Vals (i : Int)).bind fun x1876 =>
 bif r1873.2 then
   ((F100 K g j s.Step (i : Int) x1876 r1873.1 r1873.2).bind fun r1879 =>
   bif (ieq r1879.E 0) then
     (bif (apok (len w.1) 1 8) then
     bif (apok (len w.2.1) 1 1) then
     bif (apok (len w.2.2) (len r1879.Out) 16) then
     c (appL w.1 [r1879.Val], appL w.2.1 [r1879.Rest], appL w.2.2 r1879.Out)
     else none
     else none
     else none)
   else
   some (.inl r1879.E))
 else
 bif (inr (i : Int) (len s.Rest)) then
 (elAt s.Rest (i : Int)).bind fun x1886 =>
 bif x1886 then
   (bif (apok (len w.1) 1 8) then
   bif (apok (len w.2.1) 1 1) then
   bif (apok (len w.2.2) 0 16) then
   c (appL w.1 [x1876], appL w.2.1 [true], appL w.2.2 [])
   else none
   else none
   else none)
 else
 (F100 K g j s.Step (i : Int) x1876 r1873.1 r1873.2).bind fun r1892 =>
 bif (ieq r1892.E 0) then
   (bif (apok (len w.1) 1 8) then
   bif (apok (len w.2.1) 1 1) then
   bif (apok (len w.2.2) (len r1892.Out) 16) then
   c (appL w.1 [r1892.Val], appL w.2.1 [r1892.Rest], appL w.2.2 r1892.Out)
   else none
   else none
   else none)
 else
 some (.inl r1892.E)
 else none
 else none
theorem elAt_get {α : Type} {l : List α} {i : Nat} (h : i < l.length) (d : α) : inr (i : Int) (len l) = true ∧ elAt l (i : Int) = some (l.getD i d) := by
 refine ⟨decide_eq_true ⟨by omega, by show (i : Int) < (l.length : Int); omega⟩, ?_⟩
 rw [elAt_nat, List.getElem?_eq_getElem h, List.getD_eq_getElem?_getD, List.getElem?_eq_getElem h]; rfl
theorem go130 {K : Nat} (hK : 1000 ≤ K) (g : GGraph) (j : GJob) (s : GState) (hr : stRight g j s = true) (hn : niceS s) : ∀ (n i : Nat) (a : List Int) (b : List Bool) (c : List GMsg), i + n = g.N.toNat → keepS g i a b c →
   goL (st130 K g j s) (fun w => some (.inr w)) (List.range' i n) (a, b, c) = some (stepA g j s (List.range' i n) a b c) := by
 obtain ⟨hc, s1, s2, s3, s4, s5⟩ := stRight_ok hr
 obtain ⟨hg, _⟩ := jcheck_ok hc
 obtain ⟨g1, g2, g3, _⟩ := gcheck_ok hg
 have hil := inSt_len s5 (by omega)
 intro n
 induction n with
 | zero => intro i a b c _ _; rfl
 | succ n ih =>
   intro i a b c hin h
   have hlc := keep_len h g3
   have hnx := keep_next (j := j) hn h
   have hlc2 := keep_len hnx g3
   rw [List.length_append] at hlc2
   obtain ⟨la, lb, _, _, _⟩ := h
   obtain ⟨v1, v2⟩ := elAt_get (l := s.Vals) (i := i) (by omega) 0
   obtain ⟨r1, r2⟩ := elAt_get (l := s.Rest) (i := i) (by omega) false
   have a1 : apok (len a) 1 8 = true := decide_eq_true ⟨by show a.length + 1 ≤ _; omega, by show (a.length + 1) * 8 ≤ _; omega⟩
   have a2 : apok (len b) 1 1 = true := decide_eq_true ⟨by show b.length + 1 ≤ _; omega, by show (b.length + 1) * 1 ≤ _; omega⟩
   have a3 : apok (len c) 0 16 = true := decide_eq_true ⟨by show c.length + 0 ≤ _; omega, by show (c.length + 0) * 16 ≤ _; omega⟩
   have a4 : apok (len c) (len (oneS g j s i).2.1) 16 = true := decide_eq_true ⟨by show c.length + (oneS g j s i).2.1.length ≤ _; omega, by show (c.length + (oneS g j s i).2.1.length) * 16 ≤ _; omega⟩
   have hx : i64 (s.Vals.getD i 0) := by
     rw [List.getD_eq_getElem?_getD]
     cases hq : s.Vals[i]? with
     | none => show i64 0; unfold i64; omega
     | some x => exact hn.1 x (List.mem_of_getElem? hq)
   have hat := atS_i64 (l := s.In) (v := (i : Int)) hn.2
   have nx := ih (i + 1) _ _ _ (by omega) hnx
   rw [List.range'_succ, goL, st130, stepA, F151_spec s.In (i : Int) (by omega) (by omega), v1, v2, r1, r2]
   have f100 := F100_spec (K := K) (by omega) g j s.Step (i : Int) (atS s.In (i : Int)).2 hx hat
   simp only [cond_true, Option.bind_some, f100, turned, a1, a2, a3]
   cases hs : (atS s.In (i : Int)).2
   · cases hy : s.Rest.getD i false
     · have hT : oneS g j s i = turnS g j s.Step (i : Int) (s.Vals.getD i 0) (atS s.In (i : Int)).1 false := by rw [oneS, hy, hs]; rfl
       rw [hT] at a4 nx ⊢
       simp only [cond_false, a4, cond_true]
       cases ieq (turnS g j s.Step (i : Int) (s.Vals.getD i 0) (atS s.In (i : Int)).1 false).2.2.2 0
       · rfl
       · exact nx
     · have hT : oneS g j s i = (s.Vals.getD i 0, [], true, 0) := by rw [oneS, hy, hs]; rfl
       rw [hT] at nx ⊢
       exact nx
   · have hT : oneS g j s i = turnS g j s.Step (i : Int) (s.Vals.getD i 0) (atS s.In (i : Int)).1 true := by rw [oneS, hs, Bool.not_true, Bool.and_false]; rfl
     rw [hT] at a4 nx ⊢
     simp only [cond_false, a4, cond_true]
     cases ieq (turnS g j s.Step (i : Int) (s.Vals.getD i 0) (atS s.In (i : Int)).1 true).2.2.2 0
     · rfl
     · exact nx
theorem keep0 (g : GGraph) : keepS g 0 [] [] [] := ⟨rfl, rfl, Nat.zero_le _, fun v hv => absurd hv (List.not_mem_nil), fun m hm => absurd hm (List.not_mem_nil)⟩
theorem F130_spec {K : Nat} (hK : 1000 ≤ K) (g : GGraph) (j : GJob) (s : GState) (hn : niceS s) (hl : s.In.length < 1000000) (hk : s.In.length < K) : F130 K g j s = some (stepS g j s) := by
 rw [F130, F59_spec (by omega), F88_spec hK g j s hl hk, Option.bind_some, Option.bind_some, stepS]
 cases hc : ieq (jcheck g j) 0
 · rfl
 · cases hr : stRight g j s
   · rfl
   · cases h40 : ieq s.Step 40
     · obtain ⟨_, s1, s2, s3, s4, s5⟩ := stRight_ok hr
       obtain ⟨hg, _⟩ := jcheck_ok hc
       obtain ⟨g1, g2, g3, _⟩ := gcheck_ok hg
       have h := scanN (N := g.N) (L := fun k (w : Tri) i => F130_l0_0 K g j s k w.1 w.2.1 w.2.2 i) (st130 K g j s) (fun w => some (.inr w)) (fun k w i _ => rfl) (by omega) (K := K) (by omega) ([], [], [])
       have h' : F130_l0_0 K g j s K [] [] [] 0 = some (stepA g j s (List.range g.N.toNat) [] [] []) := by
         rw [show F130_l0_0 K g j s K [] [] [] 0 = _ from h, List.range_eq_range']
         exact go130 hK g j s hr hn g.N.toNat 0 [] [] [] (by omega) (keep0 g)
       simp only [cond_true, cond_false, h', Option.bind_some]
       cases hA : stepA g j s (List.range g.N.toNat) [] [] [] with
       | inl e => rfl
       | inr w =>
         rw [List.range_eq_range'] at hA
         have kw := stepA_keep hn g.N.toNat 0 [] [] [] (keep0 g) w hA
         have hwl := keep_len kw g3
         have hw : wadd .i64 s.Step 1 = s.Step + 1 := wadd_i64 (by unfold i64; omega)
         simp only [Sum.elim_inr, F152_spec j.Prog w.2.2 kw.vc (show w.2.2.length < K by omega) (by omega), Option.bind_some, stepB, hw]
         cases ieq (boxS j.Prog w.2.2).2 0 <;> rfl
     · rfl
def st112 (K : Nat) (g : GGraph) (j : GJob) (s : GState) (i : Nat) (w : Tri) (c : Tri → Option (Int ⊕ Tri)) : Option (Int ⊕ Tri) :=
 (F149 K s.In (i : Int)).bind fun r5234 =>
 bif (inr (i : Int) (len s.Rest)) then
 (elAt s.Rest (i : Int)).bind fun x5237 =>
 bif x5237 then
   (bif r5234.2 then
     (bif (inr (i : Int) (len s.Vals)) then
     (elAt s.Vals (i : Int)).bind fun x5242 =>
     (F99 K g j s.Step (i : Int) x5242 r5234.1 r5234.2).bind fun r5244 =>
     bif (ieq r5244.2.2.2 0) then
       (bif (inr (i : Int) (len w.1)) then
       (elAt w.1 (i : Int)).bind fun x5248 =>
       bif (inr (i : Int) (len w.2.1)) then
       (elAt w.2.1 (i : Int)).bind fun x5251 =>
       bif (apok (len w.2.2) (len r5244.2.1) 16) then
       c (putAt w.1 (i : Int) r5244.1, putAt w.2.1 (i : Int) r5244.2.2.1, appL w.2.2 r5244.2.1)
       else none
       else none
       else none)
     else
     some (.inl r5244.2.2.2)
     else none)
   else
   bif (inr (i : Int) (len w.2.1)) then
   (elAt w.2.1 (i : Int)).bind fun x5255 =>
   c (w.1, putAt w.2.1 (i : Int) true, w.2.2)
   else none)
 else
 bif (inr (i : Int) (len s.Vals)) then
 (elAt s.Vals (i : Int)).bind fun x5258 =>
 (F99 K g j s.Step (i : Int) x5258 r5234.1 r5234.2).bind fun r5260 =>
 bif (ieq r5260.2.2.2 0) then
   (bif (inr (i : Int) (len w.1)) then
   (elAt w.1 (i : Int)).bind fun x5264 =>
   bif (inr (i : Int) (len w.2.1)) then
   (elAt w.2.1 (i : Int)).bind fun x5267 =>
   bif (apok (len w.2.2) (len r5260.2.1) 16) then
   c (putAt w.1 (i : Int) r5260.1, putAt w.2.1 (i : Int) r5260.2.2.1, appL w.2.2 r5260.2.1)
   else none
   else none
   else none)
 else
 some (.inl r5260.2.2.2)
 else none
 else none
theorem put_mid {α : Type} (a : List α) (x y : α) (r : List α) (i : Nat) (h : a.length = i) : inr (i : Int) (len (a ++ x :: r)) = true ∧ elAt (a ++ x :: r) (i : Int) = some x ∧ putAt (a ++ x :: r) (i : Int) y = (a ++ [y]) ++ r := by
 subst h
 refine ⟨decide_eq_true ⟨by omega, by show (a.length : Int) < ((a ++ x :: r).length : Int); rw [List.length_append, List.length_cons]; omega⟩, ?_, ?_⟩
 · rw [elAt_nat]; simp
 · unfold putAt
   rw [Int.toNat_natCast, List.set_append_right (h := by omega)]; simp
theorem go112 {K : Nat} (hK : 1000 ≤ K) (g : GGraph) (j : GJob) (s : GState) (hr : stRight g j s = true) (hn : niceS s) : ∀ (n i : Nat) (a : List Int) (b : List Bool) (c : List GMsg), i + n = g.N.toNat → keepS g i a b c →
   goL (st112 K g j s) (fun w => some (.inr w)) (List.range' i n) (a ++ s.Vals.drop i, b ++ List.replicate n false, c) = some (stepA g j s (List.range' i n) a b c) := by
 obtain ⟨hc, s1, s2, s3, s4, s5⟩ := stRight_ok hr
 obtain ⟨hg, _⟩ := jcheck_ok hc
 obtain ⟨g1, g2, g3, _⟩ := gcheck_ok hg
 have hil := inSt_len s5 (by omega)
 intro n
 induction n with
 | zero =>
   intro i a b c hin _
   have : s.Vals.drop i = [] := List.drop_eq_nil_of_le (by omega)
   rw [this, List.append_nil]
   show goL (st112 K g j s) (fun w => some (.inr w)) [] (a, b ++ [], c) = _
   rw [List.append_nil]; rfl
 | succ n ih =>
   intro i a b c hin h
   have hlc := keep_len h g3
   have hnx := keep_next (j := j) hn h
   have hlc2 := keep_len hnx g3
   rw [List.length_append] at hlc2
   obtain ⟨la, lb, _, _, _⟩ := h
   obtain ⟨v1, v2⟩ := elAt_get (l := s.Vals) (i := i) (by omega) 0
   obtain ⟨r1, r2⟩ := elAt_get (l := s.Rest) (i := i) (by omega) false
   have hdr : s.Vals.drop i = s.Vals.getD i 0 :: s.Vals.drop (i + 1) := by
     rw [List.drop_eq_getElem_cons (by omega : i < s.Vals.length), List.getD_eq_getElem?_getD, List.getElem?_eq_getElem (by omega : i < s.Vals.length)]; rfl
   have a4 : apok (len c) (len (oneS g j s i).2.1) 16 = true := decide_eq_true ⟨by show c.length + (oneS g j s i).2.1.length ≤ _; omega, by show (c.length + (oneS g j s i).2.1.length) * 16 ≤ _; omega⟩
   obtain ⟨m1, m2, m3⟩ := put_mid a (s.Vals.getD i 0) (oneS g j s i).1 (s.Vals.drop (i + 1)) i la
   obtain ⟨n1, n2, n3⟩ := put_mid b false (oneS g j s i).2.2.1 (List.replicate n false) i lb
   have hx : i64 (s.Vals.getD i 0) := by
     rw [List.getD_eq_getElem?_getD]
     cases hq : s.Vals[i]? with
     | none => show i64 0; unfold i64; omega
     | some x => exact hn.1 x (List.mem_of_getElem? hq)
   have hat := atS_i64 (l := s.In) (v := (i : Int)) hn.2
   have nx := ih (i + 1) _ _ _ (by omega) hnx
   have f99 := F99_spec (K := K) (by omega) g j s.Step (i : Int) (atS s.In (i : Int)).2 hx hat
   rw [List.range'_succ, hdr, List.replicate_succ, goL, st112, stepA, F149_spec s.In (i : Int) (by omega) (by omega), v1, v2, r1, r2]
   simp only [cond_true, Option.bind_some, f99, m1, m2, n1, n2]
   cases hs : (atS s.In (i : Int)).2
   · cases hy : s.Rest.getD i false
     · have hT : oneS g j s i = turnS g j s.Step (i : Int) (s.Vals.getD i 0) (atS s.In (i : Int)).1 false := by rw [oneS, hy, hs]; rfl
       rw [hT] at a4 nx m3 n3 ⊢
       simp only [cond_false, a4, cond_true, m3, n3]
       cases ieq (turnS g j s.Step (i : Int) (s.Vals.getD i 0) (atS s.In (i : Int)).1 false).2.2.2 0
       · rfl
       · exact nx
     · have hT : oneS g j s i = (s.Vals.getD i 0, [], true, 0) := by rw [oneS, hy, hs]; rfl
       rw [hT] at nx n3 ⊢
       simp only [cond_false, cond_true, n3, ieq_refl]
       have e1 : a ++ s.Vals.getD i 0 :: s.Vals.drop (i + 1) = a ++ [s.Vals.getD i 0] ++ s.Vals.drop (i + 1) := by simp
       rw [e1]
       simp only [List.append_nil] at nx ⊢
       exact nx
   · have hT : oneS g j s i = turnS g j s.Step (i : Int) (s.Vals.getD i 0) (atS s.In (i : Int)).1 true := by rw [oneS, hs, Bool.not_true, Bool.and_false]; rfl
     rw [hT] at a4 nx m3 n3 ⊢
     simp only [cond_false, a4, cond_true, m3, n3]
     cases s.Rest.getD i false <;> cases ieq (turnS g j s.Step (i : Int) (s.Vals.getD i 0) (atS s.In (i : Int)).1 true).2.2.2 0 <;> first | rfl | exact nx
theorem F112_spec {K : Nat} (hK : 1000 ≤ K) (g : GGraph) (j : GJob) (s : GState) (hn : niceS s) (hl : s.In.length < 1000000) (hk : s.In.length < K) : F112 K g j s = some (stepS g j s) := by
 rw [F112, F94_spec (by omega), F104_spec hK g j s hl hk, Option.bind_some, Option.bind_some, stepS]
 cases hc : ieq (jcheck g j) 0
 · rfl
 · cases hr : stRight g j s
   · rfl
   · cases h40 : ieq s.Step 40
     · obtain ⟨_, s1, s2, s3, s4, s5⟩ := stRight_ok hr
       obtain ⟨hg, _⟩ := jcheck_ok hc
       obtain ⟨g1, g2, g3, _⟩ := gcheck_ok hg
       have h := scanN (N := g.N) (L := fun k (w : Tri) i => F112_l0_0 K g j s k w.1 w.2.1 w.2.2 i) (st112 K g j s) (fun w => some (.inr w)) (fun k w i _ => rfl) (by omega) (K := K) (by omega) (s.Vals, List.replicate g.N.toNat false, [])
       have h' : F112_l0_0 K g j s K (appL [] s.Vals) (repL (α := Bool) g.N false) [] 0 = some (stepA g j s (List.range g.N.toNat) [] [] []) := by
         rw [show F112_l0_0 K g j s K (appL [] s.Vals) (repL (α := Bool) g.N false) [] 0 = _ from h, List.range_eq_range']
         exact go112 hK g j s hr hn g.N.toNat 0 [] [] [] (by omega) (keep0 g)
       have a1 : apok 0 (len s.Vals) 8 = true := decide_eq_true ⟨by show 0 + s.Vals.length ≤ _; omega, by show (0 + s.Vals.length) * 8 ≤ _; omega⟩
       have hmk : mkok g.N g.N 1 = true := by simp [mkok]; omega
       simp only [cond_true, cond_false, h', Option.bind_some, a1, hmk]
       cases hA : stepA g j s (List.range g.N.toNat) [] [] [] with
       | inl e => rfl
       | inr w =>
         rw [List.range_eq_range'] at hA
         have kw := stepA_keep hn g.N.toNat 0 [] [] [] (keep0 g) w hA
         have hwl := keep_len kw g3
         have hw : wadd .i64 s.Step 1 = s.Step + 1 := wadd_i64 (by unfold i64; omega)
         simp only [Sum.elim_inr, F150_spec j.Prog w.2.2 kw.vc (show w.2.2.length < K by omega) (by omega), Option.bind_some, stepB, hw]
         cases ieq (boxS j.Prog w.2.2).2 0 <;> rfl
     · rfl
noncomputable def hn106 : Hint := { H 106 with nt := 21, prot := 0 }
noncomputable def c106_0 : Code := loopOf E 106 0
def F106_res (r713 : Bool) : Res := ⟨[(.one (.im (.lit (.bool r713))))], []⟩
def F106_l0_0 (K : Nat) (a694 : GState) : Nat → Int → Option ((Unit) ⊕ (Unit))
 | 0, _ => none
 | k + 1, v700 =>
  bif (ilt v700 (nlen (len a694.Rest))) then
   (bif (inr v700 (len a694.Rest)) then
   (elAt a694.Rest v700).bind fun x703 =>
   bif x703 then
    (F106_l0_0 K a694 k (wadd .i64 v700 1))
   else
   some (.inl ())
   else none)
  else
  some (.inr ())
def F106_l0_0_S (a694 : GState) (v700 : Int) : TS := .on [64, 65, 66, 67, 68, 192, 193] [(64, ⟨(.box 74 4), 0, nob⟩), (65, ⟨.im, 0, (.lit (.int .i64 a694.Step))⟩), (66, ⟨.im, 0, (.sl (len a694.Vals) (flat (eInt .i64) a694.Vals))⟩), (67, ⟨.im, 0, (.sl (len a694.Rest) (flat eBool a694.Rest))⟩), (68, ⟨.im, 0, (.sl (len a694.In) (flat eGMsg a694.In))⟩), (192, ⟨.one, 0, nob⟩), (193, ⟨.im, 0, (.lit (.int .i64 v700))⟩)]
def F106_l0_0_X0 (a694 : GState) (w706 : Unit) : TS := .on [128, 129] [(128, ⟨.one, 0, nob⟩), (129, ⟨.im, 0, (.lit (.bool false))⟩)]
def F106_l0_0_X1 (a694 : GState) (w707 : Unit) : TS := .on [64, 65, 66, 67, 68] [(64, ⟨(.box 74 4), 0, nob⟩), (65, ⟨.im, 0, (.lit (.int .i64 a694.Step))⟩), (66, ⟨.im, 0, (.sl (len a694.Vals) (flat (eInt .i64) a694.Vals))⟩), (67, ⟨.im, 0, (.sl (len a694.Rest) (flat eBool a694.Rest))⟩), (68, ⟨.im, 0, (.sl (len a694.In) (flat eGMsg a694.In))⟩)]
theorem F106_l0_0_ok (K : Nat) (a694 : GState) : ∀ (k : Nat) (v700 : Int) (r : (Unit) ⊕ (Unit)), F106_l0_0 K a694 k v700 = some r → (Sum.elim (fun w => LoopEv E H hn106 0 c106_0 (F106_l0_0_S a694 v700) .ret (F106_l0_0_X0 a694 w)) (fun w => LoopEv E H hn106 0 c106_0 (F106_l0_0_S a694 v700) (.exit 0) (F106_l0_0_X1 a694 w))) r := by
 intro k
 induction k with
 | zero => intro v700 r hF; cases hF
 | succ k ih =>
  intro v700 r hF
  rw [F106_l0_0] at hF
  refine cond_some hF (fun h701 hF => ?_) (fun h701 hF => ?_)
  ·
   refine cond_some hF (fun h702 hF => ?_) (fun _ hF => nomatch hF)
   refine bind_some hF (fun x703 h704 hF => ?_)
   have pq708 : ∀ {l : List Cond}, HoldAll E H hn106 l → HoldAll E H hn106 (.int (nlen (len a694.Rest)) (nlen (len a694.Rest)) :: .test (ilt v700 (nlen (len a694.Rest))) true :: .test (inr v700 (len a694.Rest)) true :: .sub (flat eBool a694.Rest) (nidx v700 1) 1 [(.lit (.bool x703))] :: l) := fun z => ⟨rfl, h701, h702, ⟨rfl, sub_flat0 eBool_len h704 1 (by decide)⟩, z⟩
   refine cond_some hF (fun h705 hF => ?_) (fun h705 hF => ?_)
   ·
    have pz : HoldAll E H hn106 [.test (bnot x703) false, .int (wadd .i64 v700 1) (wadd .i64 v700 1)] := ⟨(bnot_t h705), rfl, trivial⟩
    have h0 := ih _ _ hF
    have hn := fun ex ts' => loop_nextC (h := hn106) (l := 0) (c := c106_0) (ts := F106_l0_0_S a694 v700) (ts1 := (F106_l0_0_S a694 (wadd .i64 v700 1))) (ex := ex) (ts' := ts') (pq708 pz) (by kernel_rfl)
    cases r with
    | inl w => exact hn _ _ h0
    | inr w => exact hn _ _ h0
   obtain rfl := Option.some.inj hF
   have pz : HoldAll E H hn106 [.test (bnot x703) true] := ⟨(bnot_f h705), trivial⟩
   exact loop_endC (h := hn106) (l := 0) (c := c106_0) (ts := F106_l0_0_S a694 v700) (ts' := F106_l0_0_X0 a694 ()) (ex := .ret) (pq708 pz) (by kernel_rfl) trivial
  obtain rfl := Option.some.inj hF
  have pz : HoldAll E H hn106 [.int (nlen (len a694.Rest)) (nlen (len a694.Rest)), .test (ilt v700 (nlen (len a694.Rest))) false] := ⟨rfl, h701, trivial⟩
  exact loop_endC (h := hn106) (l := 0) (c := c106_0) (ts := F106_l0_0_S a694 v700) (ts' := F106_l0_0_X1 a694 ()) (ex := (.exit 0)) pz (by kernel_rfl) trivial
def F106 (K : Nat) (a694 : GState) : Option (Bool) :=
 (F106_l0_0 K a694 K 0).bind fun y710 =>
 Sum.elim (fun w711 =>
  some false)
  (fun w712 =>
  some (ieq (nlen (len a694.In)) 0)) y710
theorem F106_ok (K : Nat) (a694 : GState) (r : Bool) (hF : F106 K a694 = some r) : Evt E H 106 [.agg (eGState a694)] (F106_res r) := by
 rw [F106] at hF
 refine bind_some hF (fun y710 h709 hF => ?_)
 refine sum_some hF (fun w711 hx hF => ?_) (fun w712 hx hF => ?_)
 ·
  subst hx
  obtain rfl := Option.some.inj hF
  have pz : HoldAll E H hn106 [.loop 0 c106_0 (F106_l0_0_S a694 0) .ret (F106_l0_0_X0 a694 w711)] := ⟨(F106_l0_0_ok K a694 K 0 _ h709), trivial⟩
  exact fn_playC hn106 (r := F106_res false) pz (by kernel_rfl) (by kernel_rfl)
 subst hx
 obtain rfl := Option.some.inj hF
 have pz : HoldAll E H hn106 [.loop 0 c106_0 (F106_l0_0_S a694 0) (.exit 0) (F106_l0_0_X1 a694 w712), .int (nlen (len a694.In)) (nlen (len a694.In))] := ⟨(F106_l0_0_ok K a694 K 0 _ h709), rfl, trivial⟩
 exact fn_playC hn106 (r := F106_res (ieq (nlen (len a694.In)) 0)) pz (by kernel_rfl) (by kernel_rfl)
noncomputable def hn101 : Hint := { H 101 with nt := 7, prot := 0 }
def F101_res (r5048 : Bool) : Res := ⟨[(.one (.im (.lit (.bool r5048))))], []⟩
def F101 (K : Nat) (a5047 : GGraph) : Option (Bool) :=
 some (igt (nlen (len a5047.Edges)) 200)
theorem F101_ok (K : Nat) (a5047 : GGraph) (r : Bool) (hF : F101 K a5047 = some r) : Evt E H 101 [.agg (eGGraph a5047)] (F101_res r) := by
 rw [F101] at hF
 obtain rfl := Option.some.inj hF
 have pz : HoldAll E H hn101 [.int (nlen (len a5047.Edges)) (nlen (len a5047.Edges))] := ⟨rfl, trivial⟩
 exact fn_playC hn101 (r := F101_res (igt (nlen (len a5047.Edges)) 200)) pz (by kernel_rfl) (by kernel_rfl)
noncomputable def hn105 : Hint := { H 105 with nt := 19, prot := 0 }
noncomputable def c105_0 : Code := loopOf E 105 0
def F105_res (r5084 : Bool) : Res := ⟨[(.one (.im (.lit (.bool r5084))))], []⟩
def F105_l0_0 (K : Nat) (a5065 : GState) : Nat → Int → Option ((Unit) ⊕ (Unit))
 | 0, _ => none
 | k + 1, v5071 =>
  bif (ilt v5071 (nlen (len a5065.Rest))) then
   (bif (inr v5071 (len a5065.Rest)) then
   (elAt a5065.Rest v5071).bind fun x5074 =>
   bif x5074 then
    (F105_l0_0 K a5065 k (wadd .i64 v5071 1))
   else
   some (.inl ())
   else none)
  else
  some (.inr ())
def F105_l0_0_S (a5065 : GState) (v5071 : Int) : TS := .on [64, 65, 66, 67, 68, 320, 384, 385, 448, 449, 512, 513] [(64, ⟨(.box 74 4), 0, nob⟩), (65, ⟨.im, 0, (.lit (.int .i64 a5065.Step))⟩), (66, ⟨.im, 0, (.sl (len a5065.Vals) (flat (eInt .i64) a5065.Vals))⟩), (67, ⟨.im, 0, (.sl (len a5065.Rest) (flat eBool a5065.Rest))⟩), (68, ⟨.im, 0, (.sl (len a5065.In) (flat eGMsg a5065.In))⟩), (320, ⟨(.ad 1 0 2), 0, nob⟩), (384, ⟨.one, 0, nob⟩), (385, ⟨.im, 0, (.sl (len a5065.Rest) (flat eBool a5065.Rest))⟩), (448, ⟨.one, 0, nob⟩), (449, ⟨.im, 0, (.lit (.int .i64 (nlen (len a5065.Rest))))⟩), (512, ⟨.one, 0, nob⟩), (513, ⟨.im, 0, (.lit (.int .i64 v5071))⟩)]
def F105_l0_0_X0 (a5065 : GState) (w5077 : Unit) : TS := .on [128, 129] [(128, ⟨.one, 0, nob⟩), (129, ⟨.im, 0, (.lit (.bool false))⟩)]
def F105_l0_0_X1 (a5065 : GState) (w5078 : Unit) : TS := .on [64, 65, 66, 67, 68] [(64, ⟨(.box 74 4), 0, nob⟩), (65, ⟨.im, 0, (.lit (.int .i64 a5065.Step))⟩), (66, ⟨.im, 0, (.sl (len a5065.Vals) (flat (eInt .i64) a5065.Vals))⟩), (67, ⟨.im, 0, (.sl (len a5065.Rest) (flat eBool a5065.Rest))⟩), (68, ⟨.im, 0, (.sl (len a5065.In) (flat eGMsg a5065.In))⟩)]
theorem F105_l0_0_ok (K : Nat) (a5065 : GState) : ∀ (k : Nat) (v5071 : Int) (r : (Unit) ⊕ (Unit)), F105_l0_0 K a5065 k v5071 = some r → (Sum.elim (fun w => LoopEv E H hn105 0 c105_0 (F105_l0_0_S a5065 v5071) .ret (F105_l0_0_X0 a5065 w)) (fun w => LoopEv E H hn105 0 c105_0 (F105_l0_0_S a5065 v5071) (.exit 0) (F105_l0_0_X1 a5065 w))) r := by
 intro k
 induction k with
 | zero => intro v5071 r hF; cases hF
 | succ k ih =>
  intro v5071 r hF
  rw [F105_l0_0] at hF
  refine cond_some hF (fun h5072 hF => ?_) (fun h5072 hF => ?_)
  ·
   refine cond_some hF (fun h5073 hF => ?_) (fun _ hF => nomatch hF)
   refine bind_some hF (fun x5074 h5075 hF => ?_)
   have pq5079 : ∀ {l : List Cond}, HoldAll E H hn105 l → HoldAll E H hn105 (.test (ilt v5071 (nlen (len a5065.Rest))) true :: .test (inr v5071 (len a5065.Rest)) true :: .sub (flat eBool a5065.Rest) (nidx v5071 1) 1 [(.lit (.bool x5074))] :: l) := fun z => ⟨h5072, h5073, ⟨rfl, sub_flat0 eBool_len h5075 1 (by decide)⟩, z⟩
   refine cond_some hF (fun h5076 hF => ?_) (fun h5076 hF => ?_)
   ·
    have pz : HoldAll E H hn105 [.test (bnot x5074) false, .int (wadd .i64 v5071 1) (wadd .i64 v5071 1)] := ⟨(bnot_t h5076), rfl, trivial⟩
    have h0 := ih _ _ hF
    have hn := fun ex ts' => loop_nextC (h := hn105) (l := 0) (c := c105_0) (ts := F105_l0_0_S a5065 v5071) (ts1 := (F105_l0_0_S a5065 (wadd .i64 v5071 1))) (ex := ex) (ts' := ts') (pq5079 pz) (by kernel_rfl)
    cases r with
    | inl w => exact hn _ _ h0
    | inr w => exact hn _ _ h0
   obtain rfl := Option.some.inj hF
   have pz : HoldAll E H hn105 [.test (bnot x5074) true] := ⟨(bnot_f h5076), trivial⟩
   exact loop_endC (h := hn105) (l := 0) (c := c105_0) (ts := F105_l0_0_S a5065 v5071) (ts' := F105_l0_0_X0 a5065 ()) (ex := .ret) (pq5079 pz) (by kernel_rfl) trivial
  obtain rfl := Option.some.inj hF
  have pz : HoldAll E H hn105 [.test (ilt v5071 (nlen (len a5065.Rest))) false] := ⟨h5072, trivial⟩
  exact loop_endC (h := hn105) (l := 0) (c := c105_0) (ts := F105_l0_0_S a5065 v5071) (ts' := F105_l0_0_X1 a5065 ()) (ex := (.exit 0)) pz (by kernel_rfl) trivial
def F105 (K : Nat) (a5065 : GState) : Option (Bool) :=
 (F105_l0_0 K a5065 K 0).bind fun y5081 =>
 Sum.elim (fun w5082 =>
  some false)
  (fun w5083 =>
  some (ieq (nlen (len a5065.In)) 0)) y5081
theorem F105_ok (K : Nat) (a5065 : GState) (r : Bool) (hF : F105 K a5065 = some r) : Evt E H 105 [.agg (eGState a5065)] (F105_res r) := by
 rw [F105] at hF
 refine bind_some hF (fun y5081 h5080 hF => ?_)
 refine sum_some hF (fun w5082 hx hF => ?_) (fun w5083 hx hF => ?_)
 ·
  subst hx
  obtain rfl := Option.some.inj hF
  have pz : HoldAll E H hn105 [.int (nlen (len a5065.Rest)) (nlen (len a5065.Rest)), .loop 0 c105_0 (F105_l0_0_S a5065 0) .ret (F105_l0_0_X0 a5065 w5082)] := ⟨rfl, (F105_l0_0_ok K a5065 K 0 _ h5080), trivial⟩
  exact fn_playC hn105 (r := F105_res false) pz (by kernel_rfl) (by kernel_rfl)
 subst hx
 obtain rfl := Option.some.inj hF
 have pz : HoldAll E H hn105 [.int (nlen (len a5065.Rest)) (nlen (len a5065.Rest)), .loop 0 c105_0 (F105_l0_0_S a5065 0) (.exit 0) (F105_l0_0_X1 a5065 w5083), .int (nlen (len a5065.In)) (nlen (len a5065.In))] := ⟨rfl, (F105_l0_0_ok K a5065 K 0 _ h5080), rfl, trivial⟩
 exact fn_playC hn105 (r := F105_res (ieq (nlen (len a5065.In)) 0)) pz (by kernel_rfl) (by kernel_rfl)
def restsS (s : GState) : Bool := s.Rest.all id && ieq (nlen (len s.In)) 0
theorem rest_go (l : List Bool) : goL (fun r (_ : Unit) c => bif r then c () else some (.inl ())) (fun _ => some (.inr ())) l () = (some (sumU (l.all id)) : Option (Unit ⊕ Unit)) := by
 induction l with
 | nil => rfl
 | cons r l ih => cases r <;> simp [goL, ih, sumU]
theorem F105_spec (K : Nat) (x : GState) (h : x.Rest.length < 4611686018427387904) (hK : x.Rest.length < K) : F105 K x = some (restsS x) := by
 have e : F105_l0_0 K x K 0 = _ := scanL (L := fun k (_ : Unit) i => F105_l0_0 K x k i) (fun r _ c => bif r then c () else some (.inl ())) (fun _ => some (.inr ())) (fun k s i _ => rfl) h hK ()
 rw [F105, e, rest_go, restsS]
 cases x.Rest.all id <;> rfl
theorem F106_specS (K : Nat) (x : GState) (h : x.Rest.length < 4611686018427387904) (hK : x.Rest.length < K) : F106 K x = some (restsS x) := by
 have e : F106_l0_0 K x K 0 = _ := scanL (L := fun k (_ : Unit) i => F106_l0_0 K x k i) (fun r _ c => bif r then c () else some (.inl ())) (fun _ => some (.inr ())) (fun k s i _ => rfl) h hK ()
 rw [F106, e, rest_go, restsS]
 cases x.Rest.all id <;> rfl
def fitS (K : Nat) (s : GState) : Prop := (s.Vals.length < 1000000 ∧ s.Vals.length < K) ∧ (s.Rest.length < 1000000 ∧ s.Rest.length < K) ∧ s.In.length < 1000000 ∧ s.In.length < K
theorem same87 {K : Nat} (s : GState) (h : fitS K s) : F87 K s s = some true := by
 rw [F87, ieq_refl, same140 s.Vals h.1.1 h.1.2, same141 s.Rest h.2.1.1 h.2.1.2, same89 s.In h.2.2.1 h.2.2.2]; rfl
noncomputable def hn107 : Hint := { H 107 with nt := 42, prot := 0 }
noncomputable def c107_0 : Code := loopOf E 107 0
def F107_res (r5121 : GState × Int) : Res := ⟨[(.agg [(.im (.lit (.int .i64 r5121.1.Step))), (.own 2 (.sl (len r5121.1.Vals) (flat (eInt .i64) r5121.1.Vals))), (.own 4 (.sl (len r5121.1.Rest) (flat eBool r5121.1.Rest))), (.own 130 (.sl (len r5121.1.In) (flat eGMsg r5121.1.In)))]), (.one (.im (.lit (.int .i64 r5121.2))))], []⟩
def F107_l0_0 (K : Nat) (a5099 : GGraph) (a5100 : GJob) : Nat → List Int → Int → Option (List Int)
 | 0, _, _ => none
 | k + 1, v5109, v5110 =>
  bif (ilt v5110 a5099.N) then
   ((F95 K a5099 a5100 v5110).bind fun r5112 =>
   bif (apok (len v5109) 1 8) then
   F107_l0_0 K a5099 a5100 k (appL v5109 [r5112.1]) (wadd .i64 v5110 1)
   else none)
  else
  some v5109
def F107_l0_0_S (a5099 : GGraph) (a5100 : GJob) (v5109 : List Int) (v5110 : Int) : TS := .on [128, 129, 130, 192, 193, 194, 195, 196, 256, 257, 258, 259, 260, 448, 449, 450, 451, 452, 1472, 1473, 1536, 1537] [(128, ⟨(.box 62 2), 0, nob⟩), (129, ⟨.im, 0, (.lit (.int .i64 a5099.N))⟩), (130, ⟨.im, 0, (.sl (len a5099.Edges) (flat eGEdge a5099.Edges))⟩), (192, ⟨(.box 64 4), 0, nob⟩), (193, ⟨.im, 0, (.lit (.int .i64 a5100.Prog))⟩), (194, ⟨.im, 0, (.lit (.int .i64 a5100.Source))⟩), (195, ⟨.im, 0, (.lit (.int .i64 a5100.Limit))⟩), (196, ⟨.im, 0, (.lit (.int .i64 a5100.Parts))⟩), (256, ⟨(.box 74 4), 0, nob⟩), (257, ⟨.im, 0, (.lit (.int .i64 0))⟩), (258, ⟨(.own 2), 0, (.sl 0 [])⟩), (259, ⟨(.own 4), 0, (.sl 0 [])⟩), (260, ⟨(.own 130), 0, (.sl 0 [])⟩), (448, ⟨(.box 74 4), 0, nob⟩), (449, ⟨.im, 0, (.lit (.int .i64 0))⟩), (450, ⟨(.own 2), 0, (.sl (len v5109) (flat (eInt .i64) v5109))⟩), (451, ⟨(.own 4), 0, (.sl (len (α := Bool) (repL (α := Bool) a5099.N false)) (flat eBool (repL (α := Bool) a5099.N false)))⟩), (452, ⟨(.own 130), 0, (.sl 0 [])⟩), (1472, ⟨.one, 0, nob⟩), (1473, ⟨.im, 0, (.lit (.int .i64 a5099.N))⟩), (1536, ⟨.one, 0, nob⟩), (1537, ⟨.im, 0, (.lit (.int .i64 v5110))⟩)]
def F107_l0_0_X0 (a5099 : GGraph) (a5100 : GJob) (w5115 : List Int) : TS := .on [256, 257, 258, 259, 260, 448, 449, 450, 451, 452] [(256, ⟨(.box 74 4), 0, nob⟩), (257, ⟨.im, 0, (.lit (.int .i64 0))⟩), (258, ⟨(.own 2), 0, (.sl 0 [])⟩), (259, ⟨(.own 4), 0, (.sl 0 [])⟩), (260, ⟨(.own 130), 0, (.sl 0 [])⟩), (448, ⟨(.box 74 4), 0, nob⟩), (449, ⟨.im, 0, (.lit (.int .i64 0))⟩), (450, ⟨(.own 2), 0, (.sl (len w5115) (flat (eInt .i64) w5115))⟩), (451, ⟨(.own 4), 0, (.sl (len (α := Bool) (repL (α := Bool) a5099.N false)) (flat eBool (repL (α := Bool) a5099.N false)))⟩), (452, ⟨(.own 130), 0, (.sl 0 [])⟩)]
theorem F107_l0_0_ok (K : Nat) (a5099 : GGraph) (a5100 : GJob) : ∀ (k : Nat) (v5109 : List Int) (v5110 : Int) (r : List Int), F107_l0_0 K a5099 a5100 k v5109 v5110 = some r → LoopEv E H hn107 0 c107_0 (F107_l0_0_S a5099 a5100 v5109 v5110) (.exit 0) (F107_l0_0_X0 a5099 a5100 r) := by
 intro k
 induction k with
 | zero => intro v5109 v5110 r hF; cases hF
 | succ k ih =>
  intro v5109 v5110 r hF
  rw [F107_l0_0] at hF
  refine cond_some hF (fun h5111 hF => ?_) (fun h5111 hF => ?_)
  ·
   refine bind_some hF (fun r5112 h5113 hF => ?_)
   refine cond_some hF (fun h5114 hF => ?_) (fun _ hF => nomatch hF)
   have pz : HoldAll E H hn107 [.test (ilt v5110 a5099.N) true, .call 95 [.agg (eGGraph a5099), .agg (eGJob a5100), .one (.lit (.int .i64 v5110))] (F95_res r5112), .test (leadsAny (Res.mk [(.one (.im (.lit (.int .i64 r5112.1)))), (.one (.im (.lit (.int .i64 r5112.2))))] [])) false, .test (leqm [(.lit (.int .i64 r5112.1))] 1 1) true, .test (apok (len v5109) 1 8) true, .sl (nadd (len v5109) 1) (lapp (flat (eInt .i64) v5109) [(.lit (.int .i64 r5112.1))]) (len (α := Int) (appL v5109 [r5112.1])) (flat (eInt .i64) (appL v5109 [r5112.1])), .int (wadd .i64 v5110 1) (wadd .i64 v5110 1)] := ⟨h5111, (F95_ok K a5099 a5100 v5110 _ h5113), (leads_ok (by simp [leadsAny, RV.leads, RC.leads, leadsT, hasSl_lit, flat_ns (eInt_ns _), flat_ns eGJob_ns])), rfl, h5114, (app_ok (enc := (eInt .i64)) (v5109 : List Int) [r5112.1]), rfl, trivial⟩
   have h0 := ih _ _ _ hF
   have hn := fun ex ts' => loop_nextC (h := hn107) (l := 0) (c := c107_0) (ts := F107_l0_0_S a5099 a5100 v5109 v5110) (ts1 := (F107_l0_0_S a5099 a5100 (appL v5109 [r5112.1]) (wadd .i64 v5110 1))) (ex := ex) (ts' := ts') pz (by kernel_rfl)
   exact hn _ _ h0
  obtain rfl := Option.some.inj hF
  have pz : HoldAll E H hn107 [.test (ilt v5110 a5099.N) false] := ⟨h5111, trivial⟩
  exact loop_endC (h := hn107) (l := 0) (c := c107_0) (ts := F107_l0_0_S a5099 a5100 v5109 v5110) (ts' := F107_l0_0_X0 a5099 a5100 v5109) (ex := (.exit 0)) pz (by kernel_rfl) trivial
def F107 (K : Nat) (a5099 : GGraph) (a5100 : GJob) : Option (GState × Int) :=
 (F94 K a5099 a5100).bind fun r5101 =>
 bif (ieq r5101 0) then
  (bif (mkok a5099.N a5099.N 1) then
  (F107_l0_0 K a5099 a5100 K [] 0).bind fun w5119 =>
  some ((GState.mk 0 w5119 (repL (α := Bool) a5099.N false) []), 0)
  else none)
 else
 some ((GState.mk 0 [] [] []), r5101)
theorem F107_ok (K : Nat) (a5099 : GGraph) (a5100 : GJob) (r : GState × Int) (hF : F107 K a5099 a5100 = some r) : Evt E H 107 [.agg (eGGraph a5099), .agg (eGJob a5100)] (F107_res r) := by
 rw [F107] at hF
 refine bind_some hF (fun r5101 h5102 hF => ?_)
 refine cond_some hF (fun h5103 hF => ?_) (fun h5103 hF => ?_)
 ·
  refine cond_some hF (fun h5104 hF => ?_) (fun _ hF => nomatch hF)
  refine bind_some hF (fun w5119 h5117 hF => ?_)
  obtain rfl := Option.some.inj hF
  have pz : HoldAll E H hn107 [.call 94 [.agg (eGGraph a5099), .agg (eGJob a5100)] (F94_res r5101), .test (leadsAny (Res.mk [(.one (.im (.lit (.int .i64 r5101))))] [])) false, .test (ine r5101 0) false, .test (mkok a5099.N a5099.N 1) true, .sl (nint a5099.N) (lrep a5099.N [(.lit (.bool false))]) (len (α := Bool) (repL (α := Bool) a5099.N false)) (flat eBool (repL (α := Bool) a5099.N false)), .loop 0 c107_0 (F107_l0_0_S a5099 a5100 [] 0) (.exit 0) (F107_l0_0_X0 a5099 a5100 w5119)] := ⟨(F94_ok K a5099 a5100 _ h5102), (leads_ok (by simp [leadsAny, RV.leads, RC.leads, leadsT, hasSl_lit, flat_ns eBool_ns, flat_ns eGJob_ns])), (ine_t h5103), h5104, (rep_okC (enc := eBool) (n := a5099.N) (x := false) rfl), (F107_l0_0_ok K a5099 a5100 K [] 0 _ h5117), trivial⟩
  exact fn_playC hn107 (r := F107_res ((GState.mk 0 w5119 (repL (α := Bool) a5099.N false) []), 0)) pz (by kernel_rfl) (by kernel_rfl)
 obtain rfl := Option.some.inj hF
 have pz : HoldAll E H hn107 [.call 94 [.agg (eGGraph a5099), .agg (eGJob a5100)] (F94_res r5101), .test (leadsAny (Res.mk [(.one (.im (.lit (.int .i64 r5101))))] [])) false, .test (ine r5101 0) true] := ⟨(F94_ok K a5099 a5100 _ h5102), (leads_ok (by simp [leadsAny, RV.leads, RC.leads, leadsT, hasSl_lit, flat_ns eGJob_ns])), (ine_f h5103), trivial⟩
 exact fn_playC hn107 (r := F107_res ((GState.mk 0 [] [] []), r5101)) pz (by kernel_rfl) (by kernel_rfl)
noncomputable def hn108 : Hint := { H 108 with nt := 27, prot := 0 }
noncomputable def c108_0 : Code := loopOf E 108 0
def F108_res (r1166 : GState) : Res := ⟨[(.agg [(.im (.lit (.int .i64 r1166.Step))), (.own 2 (.sl (len r1166.Vals) (flat (eInt .i64) r1166.Vals))), (.own 4 (.sl (len r1166.Rest) (flat eBool r1166.Rest))), (.own 130 (.sl (len r1166.In) (flat eGMsg r1166.In)))])], []⟩
def F108_l0_0 (K : Nat) (a1135 : GGraph) (a1136 : GJob) : Nat → List Int → List Bool → Int → Option (List Int × List Bool)
 | 0, _, _, _ => none
 | k + 1, v1150, v1151, v1152 =>
  bif (ilt v1152 a1135.N) then
   ((F96 K a1136 v1152).bind fun r1154 =>
   bif (apok (len v1150) 1 8) then
   bif (apok (len v1151) 1 1) then
   F108_l0_0 K a1135 a1136 k (appL v1150 [r1154]) (appL v1151 [false]) (wadd .i64 v1152 1)
   else none
   else none)
  else
  some (v1150, v1151)
def F108_l0_0_S (a1135 : GGraph) (a1136 : GJob) (v1150 : List Int) (v1151 : List Bool) (v1152 : Int) : TS := .on [128, 129, 130, 192, 193, 194, 195, 196, 256, 257, 258, 259, 260, 320, 321, 322, 323, 324, 384, 385] [(128, ⟨(.box 62 2), 0, nob⟩), (129, ⟨.im, 0, (.lit (.int .i64 a1135.N))⟩), (130, ⟨.im, 0, (.sl (len a1135.Edges) (flat eGEdge a1135.Edges))⟩), (192, ⟨(.box 64 4), 0, nob⟩), (193, ⟨.im, 0, (.lit (.int .i64 a1136.Prog))⟩), (194, ⟨.im, 0, (.lit (.int .i64 a1136.Source))⟩), (195, ⟨.im, 0, (.lit (.int .i64 a1136.Limit))⟩), (196, ⟨.im, 0, (.lit (.int .i64 a1136.Parts))⟩), (256, ⟨(.box 74 4), 0, nob⟩), (257, ⟨.im, 0, (.lit (.int .i64 0))⟩), (258, ⟨(.own 2), 0, (.sl 0 [])⟩), (259, ⟨(.own 4), 0, (.sl 0 [])⟩), (260, ⟨(.own 130), 0, (.sl 0 [])⟩), (320, ⟨(.box 74 4), 0, nob⟩), (321, ⟨.im, 0, (.lit (.int .i64 0))⟩), (322, ⟨(.own 2), 0, (.sl (len v1150) (flat (eInt .i64) v1150))⟩), (323, ⟨(.own 4), 0, (.sl (len v1151) (flat eBool v1151))⟩), (324, ⟨(.own 130), 0, (.sl 0 [])⟩), (384, ⟨.one, 0, nob⟩), (385, ⟨.im, 0, (.lit (.int .i64 v1152))⟩)]
def F108_l0_0_X0 (a1135 : GGraph) (a1136 : GJob) (w1158 : List Int × List Bool) : TS := .on [256, 257, 258, 259, 260, 320, 321, 322, 323, 324] [(256, ⟨(.box 74 4), 0, nob⟩), (257, ⟨.im, 0, (.lit (.int .i64 0))⟩), (258, ⟨(.own 2), 0, (.sl 0 [])⟩), (259, ⟨(.own 4), 0, (.sl 0 [])⟩), (260, ⟨(.own 130), 0, (.sl 0 [])⟩), (320, ⟨(.box 74 4), 0, nob⟩), (321, ⟨.im, 0, (.lit (.int .i64 0))⟩), (322, ⟨(.own 2), 0, (.sl (len w1158.1) (flat (eInt .i64) w1158.1))⟩), (323, ⟨(.own 4), 0, (.sl (len w1158.2) (flat eBool w1158.2))⟩), (324, ⟨(.own 130), 0, (.sl 0 [])⟩)]
theorem F108_l0_0_ok (K : Nat) (a1135 : GGraph) (a1136 : GJob) : ∀ (k : Nat) (v1150 : List Int) (v1151 : List Bool) (v1152 : Int) (r : List Int × List Bool), F108_l0_0 K a1135 a1136 k v1150 v1151 v1152 = some r → LoopEv E H hn108 0 c108_0 (F108_l0_0_S a1135 a1136 v1150 v1151 v1152) (.exit 0) (F108_l0_0_X0 a1135 a1136 r) := by
 intro k
 induction k with
 | zero => intro v1150 v1151 v1152 r hF; cases hF
 | succ k ih =>
  intro v1150 v1151 v1152 r hF
  rw [F108_l0_0] at hF
  refine cond_some hF (fun h1153 hF => ?_) (fun h1153 hF => ?_)
  ·
   refine bind_some hF (fun r1154 h1155 hF => ?_)
   refine cond_some hF (fun h1156 hF => ?_) (fun _ hF => nomatch hF)
   refine cond_some hF (fun h1157 hF => ?_) (fun _ hF => nomatch hF)
   have pz : HoldAll E H hn108 [.test (ilt v1152 a1135.N) true, .call 96 [.agg (eGJob a1136), .one (.lit (.int .i64 v1152))] (F96_res r1154), .test (leadsAny (Res.mk [(.one (.im (.lit (.int .i64 r1154))))] [])) false, .test (leqm [(.lit (.int .i64 r1154))] 1 1) true, .test (apok (len v1150) 1 8) true, .sl (nadd (len v1150) 1) (lapp (flat (eInt .i64) v1150) [(.lit (.int .i64 r1154))]) (len (α := Int) (appL v1150 [r1154])) (flat (eInt .i64) (appL v1150 [r1154])), .test (leqm [(.lit (.bool false))] 1 1) true, .test (apok (len v1151) 1 1) true, .sl (nadd (len v1151) 1) (lapp (flat eBool v1151) [(.lit (.bool false))]) (len (α := Bool) (appL v1151 [false])) (flat eBool (appL v1151 [false])), .int (wadd .i64 v1152 1) (wadd .i64 v1152 1)] := ⟨h1153, (F96_ok K a1136 v1152 _ h1155), (leads_ok (by simp [leadsAny, RV.leads, RC.leads, leadsT, hasSl_lit, flat_ns (eInt_ns _), flat_ns eBool_ns, flat_ns eGJob_ns])), rfl, h1156, (app_ok (enc := (eInt .i64)) (v1150 : List Int) [r1154]), rfl, h1157, (app_ok (enc := eBool) (v1151 : List Bool) [false]), rfl, trivial⟩
   have h0 := ih _ _ _ _ hF
   have hn := fun ex ts' => loop_nextC (h := hn108) (l := 0) (c := c108_0) (ts := F108_l0_0_S a1135 a1136 v1150 v1151 v1152) (ts1 := (F108_l0_0_S a1135 a1136 (appL v1150 [r1154]) (appL v1151 [false]) (wadd .i64 v1152 1))) (ex := ex) (ts' := ts') pz (by kernel_rfl)
   exact hn _ _ h0
  obtain rfl := Option.some.inj hF
  have pz : HoldAll E H hn108 [.test (ilt v1152 a1135.N) false] := ⟨h1153, trivial⟩
  exact loop_endC (h := hn108) (l := 0) (c := c108_0) (ts := F108_l0_0_S a1135 a1136 v1150 v1151 v1152) (ts' := F108_l0_0_X0 a1135 a1136 (v1150, v1151)) (ex := (.exit 0)) pz (by kernel_rfl) trivial
def F108 (K : Nat) (a1135 : GGraph) (a1136 : GJob) : Option (GState) :=
 (F108_l0_0 K a1135 a1136 K [] [] 0).bind fun w1163 =>
 some (GState.mk 0 w1163.1 w1163.2 [])
theorem F108_ok (K : Nat) (a1135 : GGraph) (a1136 : GJob) (r : GState) (hF : F108 K a1135 a1136 = some r) : Evt E H 108 [.agg (eGGraph a1135), .agg (eGJob a1136)] (F108_res r) := by
 rw [F108] at hF
 refine bind_some hF (fun w1163 h1161 hF => ?_)
 obtain rfl := Option.some.inj hF
 have pz : HoldAll E H hn108 [.loop 0 c108_0 (F108_l0_0_S a1135 a1136 [] [] 0) (.exit 0) (F108_l0_0_X0 a1135 a1136 w1163)] := ⟨(F108_l0_0_ok K a1135 a1136 K [] [] 0 _ h1161), trivial⟩
 exact fn_playC hn108 (r := F108_res (GState.mk 0 w1163.1 w1163.2 [])) pz (by kernel_rfl) (by kernel_rfl)
def beginS (g : GGraph) (j : GJob) : GState := GState.mk 0 ((List.range g.N.toNat).map fun (v : Nat) => startS j (v : Int)) (List.replicate g.N.toNat false) []
theorem F107_spec {K : Nat} (hK : 1000 ≤ K) (g : GGraph) (j : GJob) : F107 K g j = some (bif ieq (jcheck g j) 0 then (beginS g j, 0) else (GState.mk 0 [] [] [], jcheck g j)) := by
 rw [F107, F94_spec (by omega), Option.bind_some]
 cases hc : ieq (jcheck g j) 0
 · rfl
 · obtain ⟨hg, p1, p2, p3, p4, p5, p6, p7, p8⟩ := jcheck_ok hc
   obtain ⟨g1, g2, _, _⟩ := gcheck_ok hg
   have hmk : mkok g.N g.N 1 = true := by simp [mkok]; omega
   let step : Nat → List Int → (List Int → Option (List Int)) → Option (List Int) := fun i s c => (F95 K g j (i : Int)).bind fun r => bif (apok (len s) 1 8) then c (appL s [r.1]) else none
   have h := scanN (N := g.N) (L := fun k s i => F107_l0_0 K g j k s i) step (fun s => some s) (fun k s i _ => rfl) (by omega) (K := K) (by omega) []
   have hw : ∀ (l : List Nat) (s : List Int), s.length + l.length ≤ 1000 → (∀ v ∈ l, (v : Int) < g.N) → goL step (fun s => some s) l s = some (s ++ l.map fun (v : Nat) => startS j (v : Int)) := by
     intro l
     induction l with
     | nil => intro s _ _; simp [goL]
     | cons v l ih =>
       intro s hs hm
       simp only [List.length_cons] at hs
       have hv := hm v List.mem_cons_self
       rw [goL]
       show ((F95 K g j (v : Int)).bind fun r => bif (apok (len s) 1 8) then goL step (fun s => some s) l (appL s [r.1]) else none) = _
       have ha : apok (len s) 1 8 = true := decide_eq_true ⟨by show s.length + 1 ≤ _; omega, by show (s.length + 1) * 8 ≤ _; omega⟩
       rw [F95_spec (by omega), hc, ilt_f.2 (by omega : (0 : Int) ≤ (v : Int)), ile_f.2 (by omega : (v : Int) < g.N), Option.bind_some, ha]
       simp only [cond_true, cond_false, Bool.or_false]
       rw [ih _ (by simp [appL]; omega) (fun w hw => hm w (List.mem_cons_of_mem _ hw))]
       simp [appL]
   have h' : F107_l0_0 K g j K [] 0 = some ((List.range g.N.toNat).map fun (v : Nat) => startS j (v : Int)) := by
     rw [show F107_l0_0 K g j K [] 0 = _ from h, hw _ [] (by simp; omega) (fun v hv => by have := List.mem_range.1 hv; omega)]; simp
   rw [cond_true, hmk, cond_true, h', Option.bind_some]; rfl
theorem F108_spec {K : Nat} (hK : 1000 ≤ K) (g : GGraph) (j : GJob) (hn : 0 ≤ g.N) (hn2 : g.N ≤ 24) : F108 K g j = some (beginS g j) := by
 rw [F108]
 let step : Nat → (List Int × List Bool) → ((List Int × List Bool) → Option (List Int × List Bool)) → Option (List Int × List Bool) := fun i s c => (F96 K j (i : Int)).bind fun r => bif (apok (len s.1) 1 8) then bif (apok (len s.2) 1 1) then c (appL s.1 [r], appL s.2 [false]) else none else none
 have h := scanN (N := g.N) (L := fun k (s : List Int × List Bool) i => F108_l0_0 K g j k s.1 s.2 i) step (fun s => some s) (fun k s i _ => rfl) (by omega) (K := K) (by omega) ([], [])
 have hw : ∀ (l : List Nat) (s : List Int × List Bool), s.1.length + l.length ≤ 1000 → s.2.length + l.length ≤ 1000 → (∀ v ∈ l, (v : Int) < g.N) → goL step (fun s => some s) l s = some (s.1 ++ (l.map fun (v : Nat) => startS j (v : Int)), s.2 ++ List.replicate l.length false) := by
   intro l
   induction l with
   | nil => intro s _ _ _; simp [goL]
   | cons v l ih =>
     intro s hs hs2 hm
     simp only [List.length_cons] at hs hs2
     have hv := hm v List.mem_cons_self
     rw [goL]
     show ((F96 K j (v : Int)).bind fun r => bif (apok (len s.1) 1 8) then bif (apok (len s.2) 1 1) then goL step (fun s => some s) l (appL s.1 [r], appL s.2 [false]) else none else none) = _
     have ha : apok (len s.1) 1 8 = true := decide_eq_true ⟨by show s.1.length + 1 ≤ _; omega, by show (s.1.length + 1) * 8 ≤ _; omega⟩
     have hb : apok (len s.2) 1 1 = true := decide_eq_true ⟨by show s.2.length + 1 ≤ _; omega, by show (s.2.length + 1) * 1 ≤ _; omega⟩
     rw [F96_spec K j (by omega) (by omega), Option.bind_some, ha, hb, cond_true, cond_true, ih _ (by simp [appL]; omega) (by simp [appL]; omega) (fun w hw => hm w (List.mem_cons_of_mem _ hw))]
     simp [appL, List.replicate_succ]
 have h' : F108_l0_0 K g j K [] [] 0 = some ((List.range g.N.toNat).map (fun (v : Nat) => startS j (v : Int)), List.replicate g.N.toNat false) := by
   rw [show F108_l0_0 K g j K [] [] 0 = _ from h, hw _ ([], []) (by simp; omega) (by simp; omega) (fun v hv => by have := List.mem_range.1 hv; omega)]; simp
 rw [h', Option.bind_some]; rfl
noncomputable def hn111 : Hint := { H 111 with nt := 48, prot := 0 }
noncomputable def c111_0 : Code := loopOf E 111 0
def F111_res (r5514 : GState × Int) : Res := ⟨[(.agg [(.im (.lit (.int .i64 r5514.1.Step))), (.own 2 (.sl (len r5514.1.Vals) (flat (eInt .i64) r5514.1.Vals))), (.own 4 (.sl (len r5514.1.Rest) (flat eBool r5514.1.Rest))), (.own 130 (.sl (len r5514.1.In) (flat eGMsg r5514.1.In)))]), (.one (.im (.lit (.int .i64 r5514.2))))], []⟩
def F111_l0_0 (K : Nat) (a5470 : GGraph) (a5471 : GJob) (a5472 : Int) : Nat → Int → List Int → List Bool → List GMsg → Option (((Int × List Int × List Bool × List GMsg)) ⊕ (Unit))
 | 0, _, _, _, _ => none
 | k + 1, v5484, v5485, v5486, v5487 =>
  bif (ieq v5484 a5472) then
   (some (.inl (v5484, (v5485, (v5486, v5487)))))
  else
  (F105 K (GState.mk v5484 v5485 v5486 v5487)).bind fun r5489 =>
  bif r5489 then
   (some (.inr ()))
  else
  bif (ile a5471.Limit v5484) then
   (some (.inr ()))
  else
  (F112 K a5470 a5471 (GState.mk v5484 v5485 v5486 v5487)).bind fun r5493 =>
  bif (ieq r5493.2 0) then
   (F111_l0_0 K a5470 a5471 a5472 k r5493.1.Step r5493.1.Vals r5493.1.Rest r5493.1.In)
  else
  some (.inr ())
def F111_l0_0_S (a5470 : GGraph) (a5471 : GJob) (a5472 : Int) (v5484 : Int) (v5485 : List Int) (v5486 : List Bool) (v5487 : List GMsg) : TS := .on [128, 129, 192, 193, 194, 256, 257, 258, 259, 260, 384, 385, 386, 387, 388, 512, 513, 514, 515, 516] [(128, ⟨.one, 0, nob⟩), (129, ⟨.im, 0, (.lit (.int .i64 a5472))⟩), (192, ⟨(.box 62 2), 0, nob⟩), (193, ⟨.im, 0, (.lit (.int .i64 a5470.N))⟩), (194, ⟨.im, 0, (.sl (len a5470.Edges) (flat eGEdge a5470.Edges))⟩), (256, ⟨(.box 64 4), 0, nob⟩), (257, ⟨.im, 0, (.lit (.int .i64 a5471.Prog))⟩), (258, ⟨.im, 0, (.lit (.int .i64 a5471.Source))⟩), (259, ⟨.im, 0, (.lit (.int .i64 a5471.Limit))⟩), (260, ⟨.im, 0, (.lit (.int .i64 a5471.Parts))⟩), (384, ⟨(.box 74 4), 0, nob⟩), (385, ⟨.im, 0, (.lit (.int .i64 0))⟩), (386, ⟨(.own 2), 0, (.sl 0 [])⟩), (387, ⟨(.own 4), 0, (.sl 0 [])⟩), (388, ⟨(.own 130), 0, (.sl 0 [])⟩), (512, ⟨(.box 74 4), 0, nob⟩), (513, ⟨.im, 0, (.lit (.int .i64 v5484))⟩), (514, ⟨(.own 2), 0, (.sl (len v5485) (flat (eInt .i64) v5485))⟩), (515, ⟨(.own 4), 0, (.sl (len v5486) (flat eBool v5486))⟩), (516, ⟨(.own 130), 0, (.sl (len v5487) (flat eGMsg v5487))⟩)]
def F111_l0_0_X0 (a5470 : GGraph) (a5471 : GJob) (a5472 : Int) (w5496 : Int × List Int × List Bool × List GMsg) : TS := .on [384, 385, 386, 387, 388, 512, 513, 514, 515, 516] [(384, ⟨(.box 74 4), 0, nob⟩), (385, ⟨.im, 0, (.lit (.int .i64 0))⟩), (386, ⟨(.own 2), 0, (.sl 0 [])⟩), (387, ⟨(.own 4), 0, (.sl 0 [])⟩), (388, ⟨(.own 130), 0, (.sl 0 [])⟩), (512, ⟨(.box 74 4), 0, nob⟩), (513, ⟨.im, 0, (.lit (.int .i64 w5496.1))⟩), (514, ⟨(.own 2), 0, (.sl (len w5496.2.1) (flat (eInt .i64) w5496.2.1))⟩), (515, ⟨(.own 4), 0, (.sl (len w5496.2.2.1) (flat eBool w5496.2.2.1))⟩), (516, ⟨(.own 130), 0, (.sl (len w5496.2.2.2) (flat eGMsg w5496.2.2.2))⟩)]
def F111_l0_0_X1 (a5470 : GGraph) (a5471 : GJob) (a5472 : Int) (w5501 : Unit) : TS := .on [384, 385, 386, 387, 388, 448, 449] [(384, ⟨(.box 74 4), 0, nob⟩), (385, ⟨.im, 0, (.lit (.int .i64 0))⟩), (386, ⟨(.own 2), 0, (.sl 0 [])⟩), (387, ⟨(.own 4), 0, (.sl 0 [])⟩), (388, ⟨(.own 130), 0, (.sl 0 [])⟩), (448, ⟨.one, 0, nob⟩), (449, ⟨.im, 0, (.lit (.int .i64 4))⟩)]
theorem F111_l0_0_ok (K : Nat) (a5470 : GGraph) (a5471 : GJob) (a5472 : Int) : ∀ (k : Nat) (v5484 : Int) (v5485 : List Int) (v5486 : List Bool) (v5487 : List GMsg) (r : ((Int × List Int × List Bool × List GMsg)) ⊕ (Unit)), F111_l0_0 K a5470 a5471 a5472 k v5484 v5485 v5486 v5487 = some r → (Sum.elim (fun w => LoopEv E H hn111 0 c111_0 (F111_l0_0_S a5470 a5471 a5472 v5484 v5485 v5486 v5487) (.exit 0) (F111_l0_0_X0 a5470 a5471 a5472 w)) (fun w => LoopEv E H hn111 0 c111_0 (F111_l0_0_S a5470 a5471 a5472 v5484 v5485 v5486 v5487) .ret (F111_l0_0_X1 a5470 a5471 a5472 w))) r := by
 intro k
 induction k with
 | zero => intro v5484 v5485 v5486 v5487 r hF; cases hF
 | succ k ih =>
  intro v5484 v5485 v5486 v5487 r hF
  rw [F111_l0_0] at hF
  refine cond_some hF (fun h5488 hF => ?_) (fun h5488 hF => ?_)
  ·
   obtain rfl := Option.some.inj hF
   have pz : HoldAll E H hn111 [.test (ine v5484 a5472) false] := ⟨(ine_t h5488), trivial⟩
   exact loop_endC (h := hn111) (l := 0) (c := c111_0) (ts := F111_l0_0_S a5470 a5471 a5472 v5484 v5485 v5486 v5487) (ts' := F111_l0_0_X0 a5470 a5471 a5472 (v5484, (v5485, (v5486, v5487)))) (ex := (.exit 0)) pz (by kernel_rfl) trivial
  refine bind_some hF (fun r5489 h5490 hF => ?_)
  have pq5502 : ∀ {l : List Cond}, HoldAll E H hn111 l → HoldAll E H hn111 (.test (ine v5484 a5472) true :: .call 105 [.agg (eGState (GState.mk v5484 v5485 v5486 v5487))] (F105_res r5489) :: .test (leadsAny (Res.mk [(.one (.im (.lit (.bool r5489))))] [])) false :: l) := fun z => ⟨(ine_f h5488), (F105_ok K (GState.mk v5484 v5485 v5486 v5487) _ h5490), (leads_ok (by simp [leadsAny, RV.leads, RC.leads, leadsT, hasSl_lit])), z⟩
  refine cond_some hF (fun h5491 hF => ?_) (fun h5491 hF => ?_)
  ·
   obtain rfl := Option.some.inj hF
   have pz : HoldAll E H hn111 [.test (beqb r5489 false) false, .test (beqb r5489 false) false, .test (beqb r5489 false) false, .test (beqb r5489 false) false, .test (beqb r5489 false) false, .test r5489 true, .test true true] := ⟨(beqb_ft h5491), (beqb_ft h5491), (beqb_ft h5491), (beqb_ft h5491), (beqb_ft h5491), h5491, rfl, trivial⟩
   exact loop_endC (h := hn111) (l := 0) (c := c111_0) (ts := F111_l0_0_S a5470 a5471 a5472 v5484 v5485 v5486 v5487) (ts' := F111_l0_0_X1 a5470 a5471 a5472 ()) (ex := .ret) (pq5502 pz) (by kernel_rfl) trivial
  have pq5503 : ∀ {l : List Cond}, HoldAll E H hn111 l → HoldAll E H hn111 (.test (beqb r5489 false) true :: .test (beqb r5489 false) true :: .test (beqb r5489 false) true :: .test (beqb r5489 false) true :: .test (beqb r5489 false) true :: .test r5489 false :: l) := fun z => ⟨(beqb_ff h5491), (beqb_ff h5491), (beqb_ff h5491), (beqb_ff h5491), (beqb_ff h5491), h5491, z⟩
  refine cond_some hF (fun h5492 hF => ?_) (fun h5492 hF => ?_)
  ·
   obtain rfl := Option.some.inj hF
   have pz : HoldAll E H hn111 [.test (ige v5484 a5471.Limit) true] := ⟨(ige_eq h5492), trivial⟩
   exact loop_endC (h := hn111) (l := 0) (c := c111_0) (ts := F111_l0_0_S a5470 a5471 a5472 v5484 v5485 v5486 v5487) (ts' := F111_l0_0_X1 a5470 a5471 a5472 ()) (ex := .ret) (pq5502 (pq5503 pz)) (by kernel_rfl) trivial
  refine bind_some hF (fun r5493 h5494 hF => ?_)
  have pq5504 : ∀ {l : List Cond}, HoldAll E H hn111 l → HoldAll E H hn111 (.test (ige v5484 a5471.Limit) false :: .call 112 [.agg (eGGraph a5470), .agg (eGJob a5471), .agg (eGState (GState.mk v5484 v5485 v5486 v5487))] (F112_res r5493) :: .test (leadsAny (Res.mk [(.agg [(.im (.lit (.int .i64 r5493.1.Step))), (.own 2 (.sl (len r5493.1.Vals) (flat (eInt .i64) r5493.1.Vals))), (.own 4 (.sl (len r5493.1.Rest) (flat eBool r5493.1.Rest))), (.own 130 (.sl (len r5493.1.In) (flat eGMsg r5493.1.In)))]), (.one (.im (.lit (.int .i64 r5493.2))))] [])) false :: l) := fun z => ⟨(ige_eq h5492), (F112_ok K a5470 a5471 (GState.mk v5484 v5485 v5486 v5487) _ h5494), (leads_ok (by simp [leadsAny, RV.leads, RC.leads, leadsT, hasSl_lit, flat_ns (eInt_ns _), flat_ns eBool_ns, flat_ns eGJob_ns, flat_ns eGMsg_ns])), z⟩
  refine cond_some hF (fun h5495 hF => ?_) (fun h5495 hF => ?_)
  ·
   have pz : HoldAll E H hn111 [.test (ine r5493.2 0) false] := ⟨(ine_t h5495), trivial⟩
   have h0 := ih _ _ _ _ _ hF
   have hn := fun ex ts' => loop_nextC (h := hn111) (l := 0) (c := c111_0) (ts := F111_l0_0_S a5470 a5471 a5472 v5484 v5485 v5486 v5487) (ts1 := (F111_l0_0_S a5470 a5471 a5472 r5493.1.Step r5493.1.Vals r5493.1.Rest r5493.1.In)) (ex := ex) (ts' := ts') (pq5502 (pq5503 (pq5504 pz))) (by kernel_rfl)
   cases r with
   | inl w => exact hn _ _ h0
   | inr w => exact hn _ _ h0
  obtain rfl := Option.some.inj hF
  have pz : HoldAll E H hn111 [.test (ine r5493.2 0) true] := ⟨(ine_f h5495), trivial⟩
  exact loop_endC (h := hn111) (l := 0) (c := c111_0) (ts := F111_l0_0_S a5470 a5471 a5472 v5484 v5485 v5486 v5487) (ts' := F111_l0_0_X1 a5470 a5471 a5472 ()) (ex := .ret) (pq5502 (pq5503 (pq5504 pz))) (by kernel_rfl) trivial
def F111 (K : Nat) (a5470 : GGraph) (a5471 : GJob) (a5472 : Int) : Option (GState × Int) :=
 (F107 K a5470 a5471).bind fun r5473 =>
 bif (ieq r5473.2 0) then
  ((F111_l0_0 K a5470 a5471 a5472 K r5473.1.Step r5473.1.Vals r5473.1.Rest r5473.1.In).bind fun y5506 =>
  Sum.elim (fun w5507 =>
   some ((GState.mk w5507.1 w5507.2.1 w5507.2.2.1 w5507.2.2.2), 0))
   (fun w5512 =>
   some ((GState.mk 0 [] [] []), 4)) y5506)
 else
 some ((GState.mk 0 [] [] []), r5473.2)
theorem F111_ok (K : Nat) (a5470 : GGraph) (a5471 : GJob) (a5472 : Int) (r : GState × Int) (hF : F111 K a5470 a5471 a5472 = some r) : Evt E H 111 [.agg (eGGraph a5470), .agg (eGJob a5471), .one (.lit (.int .i64 a5472))] (F111_res r) := by
 rw [F111] at hF
 refine bind_some hF (fun r5473 h5474 hF => ?_)
 refine cond_some hF (fun h5475 hF => ?_) (fun h5475 hF => ?_)
 ·
  have pq5513 : ∀ {l : List Cond}, HoldAll E H hn111 l → HoldAll E H hn111 (.call 107 [.agg (eGGraph a5470), .agg (eGJob a5471)] (F107_res r5473) :: .test (leadsAny (Res.mk [(.agg [(.im (.lit (.int .i64 r5473.1.Step))), (.own 2 (.sl (len r5473.1.Vals) (flat (eInt .i64) r5473.1.Vals))), (.own 4 (.sl (len r5473.1.Rest) (flat eBool r5473.1.Rest))), (.own 130 (.sl (len r5473.1.In) (flat eGMsg r5473.1.In)))]), (.one (.im (.lit (.int .i64 r5473.2))))] [])) false :: .test (ine r5473.2 0) false :: l) := fun z => ⟨(F107_ok K a5470 a5471 _ h5474), (leads_ok (by simp [leadsAny, RV.leads, RC.leads, leadsT, hasSl_lit, flat_ns (eInt_ns _), flat_ns eBool_ns, flat_ns eGJob_ns, flat_ns eGMsg_ns])), (ine_t h5475), z⟩
  refine bind_some hF (fun y5506 h5505 hF => ?_)
  refine sum_some hF (fun w5507 hx hF => ?_) (fun w5512 hx hF => ?_)
  ·
   subst hx
   obtain rfl := Option.some.inj hF
   have pz : HoldAll E H hn111 [.loop 0 c111_0 (F111_l0_0_S a5470 a5471 a5472 r5473.1.Step r5473.1.Vals r5473.1.Rest r5473.1.In) (.exit 0) (F111_l0_0_X0 a5470 a5471 a5472 w5507)] := ⟨(F111_l0_0_ok K a5470 a5471 a5472 K r5473.1.Step r5473.1.Vals r5473.1.Rest r5473.1.In _ h5505), trivial⟩
   exact fn_playC hn111 (r := F111_res ((GState.mk w5507.1 w5507.2.1 w5507.2.2.1 w5507.2.2.2), 0)) (pq5513 pz) (by kernel_rfl) (by kernel_rfl)
  subst hx
  obtain rfl := Option.some.inj hF
  have pz : HoldAll E H hn111 [.loop 0 c111_0 (F111_l0_0_S a5470 a5471 a5472 r5473.1.Step r5473.1.Vals r5473.1.Rest r5473.1.In) .ret (F111_l0_0_X1 a5470 a5471 a5472 w5512)] := ⟨(F111_l0_0_ok K a5470 a5471 a5472 K r5473.1.Step r5473.1.Vals r5473.1.Rest r5473.1.In _ h5505), trivial⟩
  exact fn_playC hn111 (r := F111_res ((GState.mk 0 [] [] []), 4)) (pq5513 pz) (by kernel_rfl) (by kernel_rfl)
 obtain rfl := Option.some.inj hF
 have pz : HoldAll E H hn111 [.call 107 [.agg (eGGraph a5470), .agg (eGJob a5471)] (F107_res r5473), .test (leadsAny (Res.mk [(.agg [(.im (.lit (.int .i64 r5473.1.Step))), (.own 2 (.sl (len r5473.1.Vals) (flat (eInt .i64) r5473.1.Vals))), (.own 4 (.sl (len r5473.1.Rest) (flat eBool r5473.1.Rest))), (.own 130 (.sl (len r5473.1.In) (flat eGMsg r5473.1.In)))]), (.one (.im (.lit (.int .i64 r5473.2))))] [])) false, .test (ine r5473.2 0) true] := ⟨(F107_ok K a5470 a5471 _ h5474), (leads_ok (by simp [leadsAny, RV.leads, RC.leads, leadsT, hasSl_lit, flat_ns (eInt_ns _), flat_ns eBool_ns, flat_ns eGJob_ns, flat_ns eGMsg_ns])), (ine_f h5475), trivial⟩
 exact fn_playC hn111 (r := F111_res ((GState.mk 0 [] [] []), r5473.2)) pz (by kernel_rfl) (by kernel_rfl)
noncomputable def hn60 : Hint := { H 60 with nt := 61, prot := 0 }
noncomputable def c60_0 : Code := loopOf E 60 0
def F60_res (r2150 : List GState × GAnswer) : Res := ⟨[(.one (.own 74 (.sl (len r2150.1) (flat eGState r2150.1)))), (.agg [(.im (.lit (.int .i64 r2150.2.Kind))), (.im (.lit (.int .i64 r2150.2.Step))), (.im (.sl (len r2150.2.Vals) (flat (eInt .i64) r2150.2.Vals)))])], []⟩
def F60_l0_0 (K : Nat) (a1130 : GGraph) (a1131 : GJob) : Nat → List Int → List GState → Option (((List GState × Int × Int × List Int)) ⊕ (List GState × Int))
 | 0, _, _ => none
 | k + 1, v1170, v1171 =>
  bif (inr (wsub .i64 (nlen (len v1171)) 1) (len v1171)) then
  (elAt v1171 (wsub .i64 (nlen (len v1171)) 1)).bind fun x1173 =>
  (F106 K x1173).bind fun r1175 =>
  bif r1175 then
   (some (.inl (v1171, (1, (x1173.Step, x1173.Vals)))))
  else
  bif (ieq x1173.Step a1131.Limit) then
   (some (.inl (v1171, (3, (x1173.Step, x1173.Vals)))))
  else
  (F130 K a1130 a1131 x1173).bind fun r2125 =>
  bif (ieq r2125.2 0) then
   (bif (apok (len v1171) 1 80) then
   F60_l0_0 K a1130 a1131 k v1170 (appL v1171 [r2125.1])
   else none)
  else
  some (.inr (v1171, x1173.Step))
  else none
def F60_l0_0_S (a1130 : GGraph) (a1131 : GJob) (v1170 : List Int) (v1171 : List GState) : TS := .on [128, 129, 130, 192, 193, 194, 195, 196, 320, 321, 322, 323, 384, 385] [(128, ⟨(.box 62 2), 0, nob⟩), (129, ⟨.im, 0, (.lit (.int .i64 a1130.N))⟩), (130, ⟨.im, 0, (.sl (len a1130.Edges) (flat eGEdge a1130.Edges))⟩), (192, ⟨(.box 64 4), 0, nob⟩), (193, ⟨.im, 0, (.lit (.int .i64 a1131.Prog))⟩), (194, ⟨.im, 0, (.lit (.int .i64 a1131.Source))⟩), (195, ⟨.im, 0, (.lit (.int .i64 a1131.Limit))⟩), (196, ⟨.im, 0, (.lit (.int .i64 a1131.Parts))⟩), (320, ⟨(.box 68 3), 0, nob⟩), (321, ⟨.im, 0, (.lit (.int .i64 0))⟩), (322, ⟨.im, 0, (.lit (.int .i64 0))⟩), (323, ⟨(.own 2), 0, (.sl (len v1170) (flat (eInt .i64) v1170))⟩), (384, ⟨.one, 0, nob⟩), (385, ⟨(.own 74), 0, (.sl (len v1171) (flat eGState v1171))⟩)]
def F60_l0_0_X0 (a1130 : GGraph) (a1131 : GJob) (w2129 : List GState × Int × Int × List Int) : TS := .on [256, 257, 320, 321, 322, 323] [(256, ⟨.one, 0, nob⟩), (257, ⟨(.own 74), 0, (.sl (len w2129.1) (flat eGState w2129.1))⟩), (320, ⟨(.box 68 3), 0, nob⟩), (321, ⟨.im, 0, (.lit (.int .i64 w2129.2.1))⟩), (322, ⟨.im, 0, (.lit (.int .i64 w2129.2.2.1))⟩), (323, ⟨.im, 0, (.sl (len w2129.2.2.2) (flat (eInt .i64) w2129.2.2.2))⟩)]
def F60_l0_0_X1 (a1130 : GGraph) (a1131 : GJob) (w2134 : List GState × Int) : TS := .on [256, 257, 320, 321, 322, 323] [(256, ⟨.one, 0, nob⟩), (257, ⟨(.own 74), 0, (.sl (len w2134.1) (flat eGState w2134.1))⟩), (320, ⟨(.box 68 3), 0, nob⟩), (321, ⟨.im, 0, (.lit (.int .i64 2))⟩), (322, ⟨.im, 0, (.lit (.int .i64 w2134.2))⟩), (323, ⟨(.own 2), 0, (.sl 0 [])⟩)]
theorem F60_l0_0_ok (K : Nat) (a1130 : GGraph) (a1131 : GJob) : ∀ (k : Nat) (v1170 : List Int) (v1171 : List GState) (r : ((List GState × Int × Int × List Int)) ⊕ (List GState × Int)), F60_l0_0 K a1130 a1131 k v1170 v1171 = some r → (Sum.elim (fun w => LoopEv E H hn60 0 c60_0 (F60_l0_0_S a1130 a1131 v1170 v1171) .ret (F60_l0_0_X0 a1130 a1131 w)) (fun w => LoopEv E H hn60 0 c60_0 (F60_l0_0_S a1130 a1131 v1170 v1171) .ret (F60_l0_0_X1 a1130 a1131 w))) r := by
 intro k
 induction k with
 | zero => intro v1170 v1171 r hF; cases hF
 | succ k ih =>
  intro v1170 v1171 r hF
  rw [F60_l0_0] at hF
  refine cond_some hF (fun h1172 hF => ?_) (fun _ hF => nomatch hF)
  refine bind_some hF (fun x1173 h1174 hF => ?_)
  refine bind_some hF (fun r1175 h1176 hF => ?_)
  have pq2137 : ∀ {l : List Cond}, HoldAll E H hn60 l → HoldAll E H hn60 (.int (nlen (len v1171)) (nlen (len v1171)) :: .int (wsub .i64 (nlen (len v1171)) 1) (wsub .i64 (nlen (len v1171)) 1) :: .test (inr (wsub .i64 (nlen (len v1171)) 1) (len v1171)) true :: .sub (flat eGState v1171) (nidx (wsub .i64 (nlen (len v1171)) 1) 4) 4 [(.lit (.int .i64 x1173.Step)), (.sl (len x1173.Vals) (flat (eInt .i64) x1173.Vals)), (.sl (len x1173.Rest) (flat eBool x1173.Rest)), (.sl (len x1173.In) (flat eGMsg x1173.In))] :: .call 106 [.agg (eGState x1173)] (F106_res r1175) :: .test (leadsAny (Res.mk [(.one (.im (.lit (.bool r1175))))] [])) false :: l) := fun z => ⟨rfl, rfl, h1172, ⟨rfl, sub_flat0 eGState_len h1174 4 (by decide)⟩, (F106_ok K x1173 _ h1176), (leads_ok (by simp [leadsAny, RV.leads, RC.leads, leadsT, hasSl_lit, flat_ns (eInt_ns _), flat_ns eBool_ns, flat_ns eGMsg_ns])), z⟩
  refine cond_some hF (fun h1177 hF => ?_) (fun h1177 hF => ?_)
  ·
   obtain rfl := Option.some.inj hF
   have pz : HoldAll E H hn60 [.test r1175 true] := ⟨h1177, trivial⟩
   exact loop_endC (h := hn60) (l := 0) (c := c60_0) (ts := F60_l0_0_S a1130 a1131 v1170 v1171) (ts' := F60_l0_0_X0 a1130 a1131 (v1171, (1, (x1173.Step, x1173.Vals)))) (ex := .ret) (pq2137 pz) (by kernel_rfl) trivial
  refine cond_some hF (fun h1178 hF => ?_) (fun h1178 hF => ?_)
  ·
   obtain rfl := Option.some.inj hF
   have pz : HoldAll E H hn60 [.test r1175 false, .test (ieq x1173.Step a1131.Limit) true] := ⟨h1177, h1178, trivial⟩
   exact loop_endC (h := hn60) (l := 0) (c := c60_0) (ts := F60_l0_0_S a1130 a1131 v1170 v1171) (ts' := F60_l0_0_X0 a1130 a1131 (v1171, (3, (x1173.Step, x1173.Vals)))) (ex := .ret) (pq2137 pz) (by kernel_rfl) trivial
  refine bind_some hF (fun r2125 h2126 hF => ?_)
  have pq2138 : ∀ {l : List Cond}, HoldAll E H hn60 l → HoldAll E H hn60 (.test r1175 false :: .test (ieq x1173.Step a1131.Limit) false :: .call 130 [.agg (eGGraph a1130), .agg (eGJob a1131), .agg (eGState x1173)] (F130_res r2125) :: .test (leadsAny (Res.mk [(.agg [(.im (.lit (.int .i64 r2125.1.Step))), (.own 2 (.sl (len r2125.1.Vals) (flat (eInt .i64) r2125.1.Vals))), (.own 4 (.sl (len r2125.1.Rest) (flat eBool r2125.1.Rest))), (.own 130 (.sl (len r2125.1.In) (flat eGMsg r2125.1.In)))]), (.one (.im (.lit (.int .i64 r2125.2))))] [])) false :: l) := fun z => ⟨h1177, h1178, (F130_ok K a1130 a1131 x1173 _ h2126), (leads_ok (by simp [leadsAny, RV.leads, RC.leads, leadsT, hasSl_lit, flat_ns (eInt_ns _), flat_ns eBool_ns, flat_ns eGJob_ns, flat_ns eGMsg_ns])), z⟩
  refine cond_some hF (fun h2127 hF => ?_) (fun h2127 hF => ?_)
  ·
   refine cond_some hF (fun h2128 hF => ?_) (fun _ hF => nomatch hF)
   have pz : HoldAll E H hn60 [.test (ine r2125.2 0) false, .test (leqm [(.lit (.int .i64 r2125.1.Step)), (.sl (len r2125.1.Vals) (flat (eInt .i64) r2125.1.Vals)), (.sl (len r2125.1.Rest) (flat eBool r2125.1.Rest)), (.sl (len r2125.1.In) (flat eGMsg r2125.1.In))] 1 4) true, .test (apok (len v1171) 1 80) true, .sl (nadd (len v1171) 1) (lapp (flat eGState v1171) [(.lit (.int .i64 r2125.1.Step)), (.sl (len r2125.1.Vals) (flat (eInt .i64) r2125.1.Vals)), (.sl (len r2125.1.Rest) (flat eBool r2125.1.Rest)), (.sl (len r2125.1.In) (flat eGMsg r2125.1.In))]) (len (α := GState) (appL v1171 [r2125.1])) (flat eGState (appL v1171 [r2125.1]))] := ⟨(ine_t h2127), rfl, h2128, (app_ok (enc := eGState) (v1171 : List GState) [r2125.1]), trivial⟩
   have h0 := ih _ _ _ hF
   have hn := fun ex ts' => loop_nextC (h := hn60) (l := 0) (c := c60_0) (ts := F60_l0_0_S a1130 a1131 v1170 v1171) (ts1 := (F60_l0_0_S a1130 a1131 v1170 (appL v1171 [r2125.1]))) (ex := ex) (ts' := ts') (pq2137 (pq2138 pz)) (by kernel_rfl)
   cases r with
   | inl w => exact hn _ _ h0
   | inr w => exact hn _ _ h0
  obtain rfl := Option.some.inj hF
  have pz : HoldAll E H hn60 [.test (ine r2125.2 0) true] := ⟨(ine_f h2127), trivial⟩
  exact loop_endC (h := hn60) (l := 0) (c := c60_0) (ts := F60_l0_0_S a1130 a1131 v1170 v1171) (ts' := F60_l0_0_X1 a1130 a1131 (v1171, x1173.Step)) (ex := .ret) (pq2137 (pq2138 pz)) (by kernel_rfl) trivial
def F60 (K : Nat) (a1130 : GGraph) (a1131 : GJob) : Option (List GState × GAnswer) :=
 (F59 K a1130 a1131).bind fun r1132 =>
 bif (ieq r1132 0) then
  ((F108 K a1130 a1131).bind fun r1167 =>
  (F60_l0_0 K a1130 a1131 K [] [r1167]).bind fun y2140 =>
  Sum.elim (fun w2141 =>
   some (w2141.1, (GAnswer.mk w2141.2.1 w2141.2.2.1 w2141.2.2.2)))
   (fun w2146 =>
   some (w2146.1, (GAnswer.mk 2 w2146.2 []))) y2140)
 else
 some ([], (GAnswer.mk 4 0 []))
theorem F60_ok (K : Nat) (a1130 : GGraph) (a1131 : GJob) (r : List GState × GAnswer) (hF : F60 K a1130 a1131 = some r) : Evt E H 60 [.agg (eGGraph a1130), .agg (eGJob a1131)] (F60_res r) := by
 rw [F60] at hF
 refine bind_some hF (fun r1132 h1133 hF => ?_)
 refine cond_some hF (fun h1134 hF => ?_) (fun h1134 hF => ?_)
 ·
  refine bind_some hF (fun r1167 h1168 hF => ?_)
  have pq2149 : ∀ {l : List Cond}, HoldAll E H hn60 l → HoldAll E H hn60 (.call 59 [.agg (eGGraph a1130), .agg (eGJob a1131)] (F59_res r1132) :: .test (leadsAny (Res.mk [(.one (.im (.lit (.int .i64 r1132))))] [])) false :: .test (ine r1132 0) false :: .call 108 [.agg (eGGraph a1130), .agg (eGJob a1131)] (F108_res r1167) :: .test (leadsAny (Res.mk [(.agg [(.im (.lit (.int .i64 r1167.Step))), (.own 2 (.sl (len r1167.Vals) (flat (eInt .i64) r1167.Vals))), (.own 4 (.sl (len r1167.Rest) (flat eBool r1167.Rest))), (.own 130 (.sl (len r1167.In) (flat eGMsg r1167.In)))])] [])) false :: l) := fun z => ⟨(F59_ok K a1130 a1131 _ h1133), (leads_ok (by simp [leadsAny, RV.leads, RC.leads, leadsT, hasSl_lit, flat_ns (eInt_ns _), flat_ns eBool_ns, flat_ns eGJob_ns, flat_ns eGMsg_ns])), (ine_t h1134), (F108_ok K a1130 a1131 _ h1168), (leads_ok (by simp [leadsAny, RV.leads, RC.leads, leadsT, hasSl_lit, flat_ns (eInt_ns _), flat_ns eBool_ns, flat_ns eGJob_ns, flat_ns eGMsg_ns])), z⟩
  refine bind_some hF (fun y2140 h2139 hF => ?_)
  refine sum_some hF (fun w2141 hx hF => ?_) (fun w2146 hx hF => ?_)
  ·
   subst hx
   obtain rfl := Option.some.inj hF
   have pz : HoldAll E H hn60 [.loop 0 c60_0 (F60_l0_0_S a1130 a1131 [] [r1167]) .ret (F60_l0_0_X0 a1130 a1131 w2141)] := ⟨(F60_l0_0_ok K a1130 a1131 K [] [r1167] _ h2139), trivial⟩
   exact fn_playC hn60 (r := F60_res (w2141.1, (GAnswer.mk w2141.2.1 w2141.2.2.1 w2141.2.2.2))) (pq2149 pz) (by kernel_rfl) (by kernel_rfl)
  subst hx
  obtain rfl := Option.some.inj hF
  have pz : HoldAll E H hn60 [.loop 0 c60_0 (F60_l0_0_S a1130 a1131 [] [r1167]) .ret (F60_l0_0_X1 a1130 a1131 w2146)] := ⟨(F60_l0_0_ok K a1130 a1131 K [] [r1167] _ h2139), trivial⟩
  exact fn_playC hn60 (r := F60_res (w2146.1, (GAnswer.mk 2 w2146.2 []))) (pq2149 pz) (by kernel_rfl) (by kernel_rfl)
 obtain rfl := Option.some.inj hF
 have pz : HoldAll E H hn60 [.call 59 [.agg (eGGraph a1130), .agg (eGJob a1131)] (F59_res r1132), .test (leadsAny (Res.mk [(.one (.im (.lit (.int .i64 r1132))))] [])) false, .test (ine r1132 0) true] := ⟨(F59_ok K a1130 a1131 _ h1133), (leads_ok (by simp [leadsAny, RV.leads, RC.leads, leadsT, hasSl_lit, flat_ns eGJob_ns])), (ine_f h1134), trivial⟩
 exact fn_playC hn60 (r := F60_res ([], (GAnswer.mk 4 0 []))) pz (by kernel_rfl) (by kernel_rfl)
structure goodS (s : GState) : Prop where
 nice : niceS s
 lin : s.In.length ≤ 80
 lre : s.Rest.length ≤ 24
 lva : s.Vals.length ≤ 24
theorem foldC_ok (p : Int) : ∀ (r : List GMsg) (c : GMsg) (d w : List GMsg), foldC p r c d = .inr w → i64 c.V → (∀ x ∈ r, i64 x.V) → (∀ x ∈ d, i64 x.V) → w.length ≤ d.length + r.length + 1 ∧ ∀ x ∈ w, i64 x.V
 | [], c, d, w, h, hc, _, hd => by
   injection h with h
   subst h
   refine ⟨by simp, fun x hx => ?_⟩
   rcases List.mem_append.1 hx with hx | hx
   · exact hd x hx
   · rw [List.mem_singleton.1 hx]; exact hc
 | x :: r, c, d, w, h, hc, hr, hd => by
   rw [foldC] at h
   have hx := hr x List.mem_cons_self
   have hr' := fun y hy => hr y (List.mem_cons_of_mem _ hy)
   cases h1 : ieq c.To x.To
   · rw [h1, cond_false] at h
     have := foldC_ok p r x (d ++ [c]) w h hx hr' (fun y hy => by
       rcases List.mem_append.1 hy with hy | hy
       · exact hd y hy
       · rw [List.mem_singleton.1 hy]; exact hc)
     rw [List.length_append] at this
     simp only [List.length_singleton] at this
     exact ⟨by simp only [List.length_cons]; omega, this.2⟩
   · rw [h1, cond_true] at h
     cases h2 : ieq (foldS p c.V x.V).2 0
     · rw [h2] at h; cases h
     · rw [h2, cond_true] at h
       have := foldC_ok p r _ d w h (foldS_i64 hc hx) hr' hd
       exact ⟨by simp only [List.length_cons]; omega, this.2⟩
theorem boxS_ok {p : Int} {l : List GMsg} (hl : ∀ x ∈ l, i64 x.V) : (boxS p l).1.length ≤ l.length ∧ ∀ x ∈ (boxS p l).1, i64 x.V := by
 have hn : ∀ x ∈ ([] : List GMsg), i64 x.V := fun x hx => absurd hx List.not_mem_nil
 have hs : ∀ x ∈ sortM l, i64 x.V := fun x hx => hl x ((sortM_perm l).mem_iff.1 hx)
 have hsl := sortM_len l
 rw [boxS]
 cases pbad p
 · rw [cond_false]
   generalize sortM l = m at *
   cases m with
   | nil => exact ⟨Nat.zero_le _, hn⟩
   | cons x r =>
     rw [foldO]
     cases hq : foldC p r x [] with
     | inl e => exact ⟨Nat.zero_le _, hn⟩
     | inr w =>
       have := foldC_ok p r x [] w hq (hs x List.mem_cons_self) (fun y hy => hs y (List.mem_cons_of_mem _ hy)) hn
       simp only [List.length_cons, List.length_nil] at hsl this
       exact ⟨by show w.length ≤ _; omega, this.2⟩
 · exact ⟨Nat.zero_le _, hn⟩
theorem step_ok {g : GGraph} {j : GJob} {s : GState} (h : ieq (stepS g j s).2 0 = true) : ieq (jcheck g j) 0 = true ∧ stRight g j s = true ∧ ieq s.Step 40 = false ∧
   ∃ w, stepA g j s (List.range g.N.toNat) [] [] [] = .inr w ∧ ieq (boxS j.Prog w.2.2).2 0 = true ∧ (stepS g j s).1 = GState.mk (s.Step + 1) w.1 w.2.1 (boxS j.Prog w.2.2).1 := by
 rw [stepS] at h ⊢
 cases hc : ieq (jcheck g j) 0
 · rw [hc, cond_false] at h
   have h' : ieq (jcheck g j) 0 = true := h
   rw [hc] at h'; cases h'
 · rw [hc] at h
   cases hr : stRight g j s
   · rw [hr] at h; cases h
   · rw [hr] at h
     cases h40 : ieq s.Step 40
     · rw [h40] at h
       simp only [cond_true, cond_false] at h ⊢
       cases hA : stepA g j s (List.range g.N.toNat) [] [] [] with
       | inl e =>
         rw [hA] at h
         have he : ieq e 0 = true := h
         exfalso
         have hno : ∀ (l : List Nat) a b c e, stepA g j s l a b c = .inl e → ieq e 0 = false := by
           intro l
           induction l with
           | nil => intro a b c e h; cases h
           | cons v l ih =>
             intro a b c e h
             rw [stepA] at h
             cases hq : ieq (oneS g j s v).2.2.2 0
             · rw [hq] at h
               injection h with h
               rw [← h]; exact hq
             · rw [hq] at h; exact ih _ _ _ _ h
         rw [hno _ _ _ _ _ hA] at he; cases he
       | inr w =>
         rw [hA, stepB] at h
         rw [stepB]
         cases hb : ieq (boxS j.Prog w.2.2).2 0
         · rw [hb, cond_false] at h
           have h' : ieq (boxS j.Prog w.2.2).2 0 = true := h
           rw [hb] at h'; cases h'
         · exact ⟨trivial, trivial, trivial, w, rfl, hb, rfl⟩
     · rw [h40] at h; cases h
theorem step_good {g : GGraph} {j : GJob} {s : GState} (hg : goodS s) (h : ieq (stepS g j s).2 0 = true) : goodS (stepS g j s).1 ∧ (stepS g j s).1.Step = s.Step + 1 := by
 obtain ⟨hc, hr, h40, w, hA, hb, he⟩ := step_ok h
 obtain ⟨hgc, _⟩ := jcheck_ok hc
 obtain ⟨g1, g2, g3, _⟩ := gcheck_ok hgc
 rw [List.range_eq_range'] at hA
 have kw := stepA_keep hg.nice g.N.toNat 0 [] [] [] (keep0 g) w hA
 have hwl := keep_len kw g3
 obtain ⟨b1, b2⟩ := boxS_ok (p := j.Prog) kw.vc
 rw [he]
 refine ⟨⟨⟨kw.va, b2⟩, ?_, ?_, ?_⟩, rfl⟩
 · show (boxS j.Prog w.2.2).1.length ≤ 80; omega
 · show w.2.1.length ≤ 24; rw [kw.lb]; omega
 · show w.1.length ≤ 24; rw [kw.la]; omega
theorem startS_i64 {j : GJob} {v : Int} (h0 : 0 ≤ v) (h : v ≤ 1000) : i64 (startS j v) := by
 rw [startS]
 unfold i64
 cases ieq j.Prog 2
 · cases ieq j.Prog 4
   · cases ieq j.Prog 5
     · cases ieq v j.Source <;> simp
     · simp
   · simp only [cond_true, cond_false]; omega
 · simp only [cond_true]; omega
theorem begin_good {g : GGraph} {j : GJob} (hg : ieq (gcheck g) 0 = true) : goodS (beginS g j) ∧ (beginS g j).Step = 0 := by
 obtain ⟨g1, g2, g3, _⟩ := gcheck_ok hg
 refine ⟨⟨⟨fun v hv => ?_, fun m hm => absurd hm List.not_mem_nil⟩, Nat.zero_le _, by simp [beginS]; omega, by simp [beginS]; omega⟩, rfl⟩
 obtain ⟨n, hn, rfl⟩ := List.mem_map.1 (show v ∈ (List.range g.N.toNat).map fun (v : Nat) => startS j (v : Int) from hv)
 have := List.mem_range.1 hn
 exact startS_i64 (by omega) (by omega)
def runL (g : GGraph) (j : GJob) : Nat → GState → List GState × GAnswer
 | 0, s => ([s], GAnswer.mk 0 s.Step [])
 | f + 1, s => bif restsS s then ([s], GAnswer.mk 1 s.Step s.Vals) else bif ile j.Limit s.Step then ([s], GAnswer.mk 3 s.Step s.Vals)
   else bif ieq (stepS g j s).2 0 then (s :: (runL g j f (stepS g j s).1).1, (runL g j f (stepS g j s).1).2) else ([s], GAnswer.mk 2 s.Step [])
def runS (g : GGraph) (j : GJob) : List GState × GAnswer := bif ieq (jcheck g j) 0 then runL g j 50 (beginS g j) else ([], GAnswer.mk 4 0 [])
theorem F60_loop {K : Nat} (hK : 1000 ≤ K) (g : GGraph) (j : GJob) : ∀ (f k : Nat) (s : GState) (acc : List GState) (x : List Int), goodS s → s.Step ≤ j.Limit → j.Limit ≤ 40 → j.Limit - s.Step < f → f ≤ k → acc.length + (j.Limit - s.Step) ≤ 41 →
   (F60_l0_0 K g j k x (acc ++ [s])).bind (fun y => Sum.elim (fun (w : List GState × Int × Int × List Int) => some (w.1, GAnswer.mk w.2.1 w.2.2.1 w.2.2.2)) (fun (w : List GState × Int) => some (w.1, GAnswer.mk 2 w.2 [])) y) = some (acc ++ (runL g j f s).1, (runL g j f s).2) := by
 intro f
 induction f with
 | zero => intro k s acc x hs h0 h40 hf hk ha; omega
 | succ f ih =>
   intro k s acc x hs h0 h40 hf hk ha
   obtain ⟨k, rfl⟩ : ∃ q, k = q + 1 := ⟨k - 1, by omega⟩
   have l1 := hs.lin
   have l2 := hs.lre
   rcases put_last acc s s with ⟨q1, q2⟩ | q
   · obtain ⟨q2, _⟩ := q2 (by omega)
     have ap : apok (len (acc ++ [s])) 1 80 = true := decide_eq_true ⟨by show (acc ++ [s]).length + 1 ≤ _; rw [List.length_append]; simp only [List.length_singleton]; omega, by show ((acc ++ [s]).length + 1) * 80 ≤ _; rw [List.length_append]; simp only [List.length_singleton]; omega⟩
     rw [F60_l0_0, q1, q2, ap]
     simp only [cond_true, Option.bind_some, F106_specS K s (show s.Rest.length < 4611686018427387904 by omega) (show s.Rest.length < K by omega), F130_spec hK g j s hs.nice (show s.In.length < 1000000 by omega) (show s.In.length < K by omega), runL]
     cases h1 : restsS s
     · cases h2 : ile j.Limit s.Step
       · have h2' := ile_f.1 h2
         rw [ieq_f.2 (by omega : s.Step ≠ j.Limit)]
         cases h3 : ieq (stepS g j s).2 0
         · rfl
         · obtain ⟨g1, g2⟩ := step_good hs h3
           have := ih k (stepS g j s).1 (acc ++ [s]) x g1 (by omega) h40 (by omega) (by omega) (by rw [List.length_append]; simp only [List.length_singleton]; omega)
           simp only [cond_false, cond_true]
           rw [show appL (acc ++ [s]) [(stepS g j s).1] = acc ++ [s] ++ [(stepS g j s).1] from rfl, this, List.append_assoc]; rfl
       · have h2' := ile_iff.1 h2
         rw [ieq_iff.2 (by omega : s.Step = j.Limit)]; rfl
     · rfl
   · omega
theorem F60_spec {K : Nat} (hK : 1000 ≤ K) (g : GGraph) (j : GJob) : F60 K g j = some (runS g j) := by
 rw [F60, F59_spec (by omega), Option.bind_some, runS]
 cases hc : ieq (jcheck g j) 0
 · rfl
 · obtain ⟨hg, _, _, _, _, p5, p6, _⟩ := jcheck_ok hc
   obtain ⟨g1, g2, _⟩ := gcheck_ok hg
   obtain ⟨b1, b2⟩ := begin_good (j := j) hg
   rw [cond_true, cond_true, F108_spec hK g j (by omega) g2, Option.bind_some]
   have := F60_loop hK g j 50 K (beginS g j) [] [] b1 (by omega) p6 (by omega) (by omega) (by simp only [List.length_nil]; omega)
   exact this
noncomputable def hn31 : Hint := { H 31 with nt := 75, prot := 0 }
def F31_res (r5550 : Bool) : Res := ⟨[(.one (.im (.lit (.bool r5550))))], []⟩
def F31 (K : Nat) (a5464 : GGraph) (a5465 : GJob) (a5466 : Int) : Option (Bool) :=
 (F101 K a5464).bind fun r5467 =>
 bif r5467 then
  (some true)
 else
 (F111 K a5464 a5465 a5466).bind fun r5515 =>
 (F59 K a5464 a5465).bind fun r5517 =>
 bif (ieq r5517 0) then
  ((F60 K a5464 a5465).bind fun r5520 =>
  bif (ilt a5466 0) then
   (bif (ieq r5515.2 4) then
    ((F87 K r5515.1 (GState.mk 0 [] [] [])).bind fun r5524 =>
    bif r5524 then
     (some true)
    else
    some false)
   else
   some false)
  else
  bif (ile (nlen (len r5520.1)) a5466) then
   (bif (ieq r5515.2 4) then
    ((F87 K r5515.1 (GState.mk 0 [] [] [])).bind fun r5529 =>
    bif r5529 then
     (some true)
    else
    some false)
   else
   some false)
  else
  bif (ieq r5515.2 0) then
   (bif (inr a5466 (len r5520.1)) then
   (elAt r5520.1 a5466).bind fun x5534 =>
   (F87 K r5515.1 x5534).bind fun r5536 =>
   bif r5536 then
    (some true)
   else
   some false
   else none)
  else
  some false)
 else
 bif (ieq r5515.2 r5517) then
  ((F87 K r5515.1 (GState.mk 0 [] [] [])).bind fun r5540 =>
  bif r5540 then
   (some true)
  else
  some false)
 else
 some false
theorem F31_ok (K : Nat) (a5464 : GGraph) (a5465 : GJob) (a5466 : Int) (r : Bool) (hF : F31 K a5464 a5465 a5466 = some r) : Evt E H 31 [.agg (eGGraph a5464), .agg (eGJob a5465), .one (.lit (.int .i64 a5466))] (F31_res r) := by
 rw [F31] at hF
 refine bind_some hF (fun r5467 h5468 hF => ?_)
 refine cond_some hF (fun h5469 hF => ?_) (fun h5469 hF => ?_)
 ·
  obtain rfl := Option.some.inj hF
  have pz : HoldAll E H hn31 [.call 101 [.agg (eGGraph a5464)] (F101_res r5467), .test (leadsAny (Res.mk [(.one (.im (.lit (.bool r5467))))] [])) false, .test r5467 true, .call 103 [] (Res.mk [(.one (.im (.lit (.bool true))))] []), .test (leadsAny (Res.mk [(.one (.im (.lit (.bool true))))] [])) false] := ⟨(F101_ok K a5464 _ h5468), (leads_ok (by simp [leadsAny, RV.leads, RC.leads, leadsT, hasSl_lit])), h5469, knows103, (leads_ok (by simp [leadsAny, RV.leads, RC.leads, leadsT, hasSl_lit])), trivial⟩
  exact fn_playC hn31 (r := F31_res true) pz (by kernel_rfl) (by kernel_rfl)
 refine bind_some hF (fun r5515 h5516 hF => ?_)
 refine bind_some hF (fun r5517 h5518 hF => ?_)
 have pq5543 : ∀ {l : List Cond}, HoldAll E H hn31 l → HoldAll E H hn31 (.call 101 [.agg (eGGraph a5464)] (F101_res r5467) :: .test (leadsAny (Res.mk [(.one (.im (.lit (.bool r5467))))] [])) false :: .test r5467 false :: .call 111 [.agg (eGGraph a5464), .agg (eGJob a5465), .one (.lit (.int .i64 a5466))] (F111_res r5515) :: .test (leadsAny (Res.mk [(.agg [(.im (.lit (.int .i64 r5515.1.Step))), (.own 2 (.sl (len r5515.1.Vals) (flat (eInt .i64) r5515.1.Vals))), (.own 4 (.sl (len r5515.1.Rest) (flat eBool r5515.1.Rest))), (.own 130 (.sl (len r5515.1.In) (flat eGMsg r5515.1.In)))]), (.one (.im (.lit (.int .i64 r5515.2))))] [])) false :: .call 59 [.agg (eGGraph a5464), .agg (eGJob a5465)] (F59_res r5517) :: .test (leadsAny (Res.mk [(.one (.im (.lit (.int .i64 r5517))))] [])) false :: l) := fun z => ⟨(F101_ok K a5464 _ h5468), (leads_ok (by simp [leadsAny, RV.leads, RC.leads, leadsT, hasSl_lit, flat_ns (eInt_ns _), flat_ns eBool_ns, flat_ns eGJob_ns, flat_ns eGMsg_ns])), h5469, (F111_ok K a5464 a5465 a5466 _ h5516), (leads_ok (by simp [leadsAny, RV.leads, RC.leads, leadsT, hasSl_lit, flat_ns (eInt_ns _), flat_ns eBool_ns, flat_ns eGJob_ns, flat_ns eGMsg_ns])), (F59_ok K a5464 a5465 _ h5518), (leads_ok (by simp [leadsAny, RV.leads, RC.leads, leadsT, hasSl_lit, flat_ns (eInt_ns _), flat_ns eBool_ns, flat_ns eGJob_ns, flat_ns eGMsg_ns])), z⟩
 refine cond_some hF (fun h5519 hF => ?_) (fun h5519 hF => ?_)
 ·
  refine bind_some hF (fun r5520 h5521 hF => ?_)
  refine cond_some hF (fun h5522 hF => ?_) (fun h5522 hF => ?_)
  ·
   have pq5544 : ∀ {l : List Cond}, HoldAll E H hn31 l → HoldAll E H hn31 (.test (ine r5517 0) false :: .call 60 [.agg (eGGraph a5464), .agg (eGJob a5465)] (F60_res r5520) :: .test (beqb (ilt a5466 0) false) false :: .test (beqb (ilt a5466 0) false) false :: .test (beqb (ilt a5466 0) false) false :: .test (beqb (ilt a5466 0) false) false :: .test (ilt a5466 0) true :: .test true true :: l) := fun z => ⟨(ine_t h5519), (F60_ok K a5464 a5465 _ h5521), (beqb_ft h5522), (beqb_ft h5522), (beqb_ft h5522), (beqb_ft h5522), h5522, rfl, z⟩
   refine cond_some hF (fun h5523 hF => ?_) (fun h5523 hF => ?_)
   ·
    refine bind_some hF (fun r5524 h5525 hF => ?_)
    have pq5545 : ∀ {l : List Cond}, HoldAll E H hn31 l → HoldAll E H hn31 (.test (beqb (ieq r5515.2 4) true) true :: .test (beqb (ieq r5515.2 4) true) true :: .test (beqb (ieq r5515.2 4) true) true :: .call 87 [.agg (eGState r5515.1), .agg (eGState (GState.mk 0 [] [] []))] (F87_res r5524) :: .test (leadsAny (Res.mk [(.one (.im (.lit (.bool r5524))))] [])) false :: .test (ieq r5515.2 4) true :: l) := fun z => ⟨(beqb_t h5523), (beqb_t h5523), (beqb_t h5523), (F87_ok K r5515.1 (GState.mk 0 [] [] []) _ h5525), (leads_ok (by simp [leadsAny, RV.leads, RC.leads, leadsT, hasSl_lit])), h5523, z⟩
    refine cond_some hF (fun h5526 hF => ?_) (fun h5526 hF => ?_)
    ·
     obtain rfl := Option.some.inj hF
     have pz : HoldAll E H hn31 [.test (beqb r5524 true) true, .call 103 [] (Res.mk [(.one (.im (.lit (.bool true))))] []), .test (leadsAny (Res.mk [(.one (.im (.lit (.bool true))))] [])) false, .test r5524 true] := ⟨(beqb_t h5526), knows103, (leads_ok (by simp [leadsAny, RV.leads, RC.leads, leadsT, hasSl_lit])), h5526, trivial⟩
     exact fn_playC hn31 (r := F31_res true) (pq5543 (pq5544 (pq5545 pz))) (by kernel_rfl) (by kernel_rfl)
    obtain rfl := Option.some.inj hF
    have pz : HoldAll E H hn31 [.test (beqb r5524 true) false, .test r5524 false] := ⟨(beqb_t h5526), h5526, trivial⟩
    exact fn_playC hn31 (r := F31_res false) (pq5543 (pq5544 (pq5545 pz))) (by kernel_rfl) (by kernel_rfl)
   obtain rfl := Option.some.inj hF
   have pz : HoldAll E H hn31 [.test (beqb (ieq r5515.2 4) true) false, .test (beqb (ieq r5515.2 4) true) false, .test (beqb (ieq r5515.2 4) true) false, .test (ieq r5515.2 4) false, .test (beqb false true) false, .test false false] := ⟨(beqb_t h5523), (beqb_t h5523), (beqb_t h5523), h5523, (beqb_t rfl), rfl, trivial⟩
   exact fn_playC hn31 (r := F31_res false) (pq5543 (pq5544 pz)) (by kernel_rfl) (by kernel_rfl)
  have pq5546 : ∀ {l : List Cond}, HoldAll E H hn31 l → HoldAll E H hn31 (.test (ine r5517 0) false :: .call 60 [.agg (eGGraph a5464), .agg (eGJob a5465)] (F60_res r5520) :: .test (beqb (ilt a5466 0) false) true :: .test (beqb (ilt a5466 0) false) true :: .test (beqb (ilt a5466 0) false) true :: .int (nlen (len r5520.1)) (nlen (len r5520.1)) :: .test (beqb (ilt a5466 0) false) true :: .test (ilt a5466 0) false :: l) := fun z => ⟨(ine_t h5519), (F60_ok K a5464 a5465 _ h5521), (beqb_ff h5522), (beqb_ff h5522), (beqb_ff h5522), rfl, (beqb_ff h5522), h5522, z⟩
  refine cond_some hF (fun h5527 hF => ?_) (fun h5527 hF => ?_)
  ·
   refine cond_some hF (fun h5528 hF => ?_) (fun h5528 hF => ?_)
   ·
    refine bind_some hF (fun r5529 h5530 hF => ?_)
    have pq5547 : ∀ {l : List Cond}, HoldAll E H hn31 l → HoldAll E H hn31 (.test (ige a5466 (nlen (len r5520.1))) true :: .test (beqb (ieq r5515.2 4) true) true :: .test (beqb (ieq r5515.2 4) true) true :: .test (beqb (ieq r5515.2 4) true) true :: .call 87 [.agg (eGState r5515.1), .agg (eGState (GState.mk 0 [] [] []))] (F87_res r5529) :: .test (leadsAny (Res.mk [(.one (.im (.lit (.bool r5529))))] [])) false :: .test (ieq r5515.2 4) true :: l) := fun z => ⟨(ige_eq h5527), (beqb_t h5528), (beqb_t h5528), (beqb_t h5528), (F87_ok K r5515.1 (GState.mk 0 [] [] []) _ h5530), (leads_ok (by simp [leadsAny, RV.leads, RC.leads, leadsT, hasSl_lit])), h5528, z⟩
    refine cond_some hF (fun h5531 hF => ?_) (fun h5531 hF => ?_)
    ·
     obtain rfl := Option.some.inj hF
     have pz : HoldAll E H hn31 [.test (beqb r5529 true) true, .call 103 [] (Res.mk [(.one (.im (.lit (.bool true))))] []), .test (leadsAny (Res.mk [(.one (.im (.lit (.bool true))))] [])) false, .test r5529 true] := ⟨(beqb_t h5531), knows103, (leads_ok (by simp [leadsAny, RV.leads, RC.leads, leadsT, hasSl_lit])), h5531, trivial⟩
     exact fn_playC hn31 (r := F31_res true) (pq5543 (pq5546 (pq5547 pz))) (by kernel_rfl) (by kernel_rfl)
    obtain rfl := Option.some.inj hF
    have pz : HoldAll E H hn31 [.test (beqb r5529 true) false, .test r5529 false] := ⟨(beqb_t h5531), h5531, trivial⟩
    exact fn_playC hn31 (r := F31_res false) (pq5543 (pq5546 (pq5547 pz))) (by kernel_rfl) (by kernel_rfl)
   obtain rfl := Option.some.inj hF
   have pz : HoldAll E H hn31 [.test (ige a5466 (nlen (len r5520.1))) true, .test (beqb (ieq r5515.2 4) true) false, .test (beqb (ieq r5515.2 4) true) false, .test (beqb (ieq r5515.2 4) true) false, .test (ieq r5515.2 4) false, .test (beqb false true) false, .test false false] := ⟨(ige_eq h5527), (beqb_t h5528), (beqb_t h5528), (beqb_t h5528), h5528, (beqb_t rfl), rfl, trivial⟩
   exact fn_playC hn31 (r := F31_res false) (pq5543 (pq5546 pz)) (by kernel_rfl) (by kernel_rfl)
  refine cond_some hF (fun h5532 hF => ?_) (fun h5532 hF => ?_)
  ·
   refine cond_some hF (fun h5533 hF => ?_) (fun _ hF => nomatch hF)
   refine bind_some hF (fun x5534 h5535 hF => ?_)
   refine bind_some hF (fun r5536 h5537 hF => ?_)
   have pq5548 : ∀ {l : List Cond}, HoldAll E H hn31 l → HoldAll E H hn31 (.test (ige a5466 (nlen (len r5520.1))) false :: .test (beqb (ieq r5515.2 0) true) true :: .test (beqb (ieq r5515.2 0) true) true :: .test (beqb (ieq r5515.2 0) true) true :: .test (beqb (ieq r5515.2 0) true) true :: .test (inr a5466 (len r5520.1)) true :: .test (beqb (ieq r5515.2 0) true) true :: .sub (flat eGState r5520.1) (nidx a5466 4) 4 [(.lit (.int .i64 x5534.Step)), (.sl (len x5534.Vals) (flat (eInt .i64) x5534.Vals)), (.sl (len x5534.Rest) (flat eBool x5534.Rest)), (.sl (len x5534.In) (flat eGMsg x5534.In))] :: .test (beqb (ieq r5515.2 0) true) true :: .call 87 [.agg (eGState r5515.1), .agg (eGState x5534)] (F87_res r5536) :: .test (leadsAny (Res.mk [(.one (.im (.lit (.bool r5536))))] [])) false :: .test (ieq r5515.2 0) true :: l) := fun z => ⟨(ige_eq h5527), (beqb_t h5532), (beqb_t h5532), (beqb_t h5532), (beqb_t h5532), h5533, (beqb_t h5532), ⟨rfl, sub_flat0 eGState_len h5535 4 (by decide)⟩, (beqb_t h5532), (F87_ok K r5515.1 x5534 _ h5537), (leads_ok (by simp [leadsAny, RV.leads, RC.leads, leadsT, hasSl_lit, flat_ns (eInt_ns _), flat_ns eBool_ns, flat_ns eGMsg_ns])), h5532, z⟩
   refine cond_some hF (fun h5538 hF => ?_) (fun h5538 hF => ?_)
   ·
    obtain rfl := Option.some.inj hF
    have pz : HoldAll E H hn31 [.test (beqb r5536 true) true, .call 103 [] (Res.mk [(.one (.im (.lit (.bool true))))] []), .test (leadsAny (Res.mk [(.one (.im (.lit (.bool true))))] [])) false, .test r5536 true] := ⟨(beqb_t h5538), knows103, (leads_ok (by simp [leadsAny, RV.leads, RC.leads, leadsT, hasSl_lit])), h5538, trivial⟩
    exact fn_playC hn31 (r := F31_res true) (pq5543 (pq5546 (pq5548 pz))) (by kernel_rfl) (by kernel_rfl)
   obtain rfl := Option.some.inj hF
   have pz : HoldAll E H hn31 [.test (beqb r5536 true) false, .test r5536 false] := ⟨(beqb_t h5538), h5538, trivial⟩
   exact fn_playC hn31 (r := F31_res false) (pq5543 (pq5546 (pq5548 pz))) (by kernel_rfl) (by kernel_rfl)
  obtain rfl := Option.some.inj hF
  have pz : HoldAll E H hn31 [.test (ige a5466 (nlen (len r5520.1))) false, .test (beqb (ieq r5515.2 0) true) false, .test (beqb (ieq r5515.2 0) true) false, .test (beqb (ieq r5515.2 0) true) false, .test (beqb (ieq r5515.2 0) true) false, .test (beqb (ieq r5515.2 0) true) false, .test (beqb (ieq r5515.2 0) true) false, .test (ieq r5515.2 0) false, .test (beqb false true) false, .test false false] := ⟨(ige_eq h5527), (beqb_t h5532), (beqb_t h5532), (beqb_t h5532), (beqb_t h5532), (beqb_t h5532), (beqb_t h5532), h5532, (beqb_t rfl), rfl, trivial⟩
  exact fn_playC hn31 (r := F31_res false) (pq5543 (pq5546 pz)) (by kernel_rfl) (by kernel_rfl)
 refine cond_some hF (fun h5539 hF => ?_) (fun h5539 hF => ?_)
 ·
  refine bind_some hF (fun r5540 h5541 hF => ?_)
  have pq5549 : ∀ {l : List Cond}, HoldAll E H hn31 l → HoldAll E H hn31 (.test (ine r5517 0) true :: .test (beqb (ieq r5515.2 r5517) true) true :: .test (beqb (ieq r5515.2 r5517) true) true :: .test (beqb (ieq r5515.2 r5517) true) true :: .call 87 [.agg (eGState r5515.1), .agg (eGState (GState.mk 0 [] [] []))] (F87_res r5540) :: .test (leadsAny (Res.mk [(.one (.im (.lit (.bool r5540))))] [])) false :: .test (ieq r5515.2 r5517) true :: l) := fun z => ⟨(ine_f h5519), (beqb_t h5539), (beqb_t h5539), (beqb_t h5539), (F87_ok K r5515.1 (GState.mk 0 [] [] []) _ h5541), (leads_ok (by simp [leadsAny, RV.leads, RC.leads, leadsT, hasSl_lit])), h5539, z⟩
  refine cond_some hF (fun h5542 hF => ?_) (fun h5542 hF => ?_)
  ·
   obtain rfl := Option.some.inj hF
   have pz : HoldAll E H hn31 [.test (beqb r5540 true) true, .call 103 [] (Res.mk [(.one (.im (.lit (.bool true))))] []), .test (leadsAny (Res.mk [(.one (.im (.lit (.bool true))))] [])) false, .test r5540 true] := ⟨(beqb_t h5542), knows103, (leads_ok (by simp [leadsAny, RV.leads, RC.leads, leadsT, hasSl_lit])), h5542, trivial⟩
   exact fn_playC hn31 (r := F31_res true) (pq5543 (pq5549 pz)) (by kernel_rfl) (by kernel_rfl)
  obtain rfl := Option.some.inj hF
  have pz : HoldAll E H hn31 [.test (beqb r5540 true) false, .test r5540 false] := ⟨(beqb_t h5542), h5542, trivial⟩
  exact fn_playC hn31 (r := F31_res false) (pq5543 (pq5549 pz)) (by kernel_rfl) (by kernel_rfl)
 obtain rfl := Option.some.inj hF
 have pz : HoldAll E H hn31 [.test (ine r5517 0) true, .test (beqb (ieq r5515.2 r5517) true) false, .test (beqb (ieq r5515.2 r5517) true) false, .test (beqb (ieq r5515.2 r5517) true) false, .test (ieq r5515.2 r5517) false, .test (beqb false true) false, .test false false] := ⟨(ine_f h5519), (beqb_t h5539), (beqb_t h5539), (beqb_t h5539), h5539, (beqb_t rfl), rfl, trivial⟩
 exact fn_playC hn31 (r := F31_res false) (pq5543 pz) (by kernel_rfl) (by kernel_rfl)
def lookR (g : GGraph) (j : GJob) (f : Nat) (s : GState) (n : Int) : Option GState := bif ilt n s.Step then none else (runL g j f s).1[(n - s.Step).toNat]?
def sumT : Option GState → (Int × List Int × List Bool × List GMsg) ⊕ Unit
 | some t => .inl (t.Step, (t.Vals, (t.Rest, t.In)))
 | none => .inr ()
theorem one_at {s : GState} {n : Int} (h : ieq s.Step n = false) (h0 : ilt n s.Step = false) : ([s] : List GState)[(n - s.Step).toNat]? = none := by
 have h1 := ieq_f.1 h
 have h2 := ilt_f.1 h0
 exact List.getElem?_eq_none (by simp only [List.length_singleton]; omega)
theorem F111_loop {K : Nat} (hK : 1000 ≤ K) (g : GGraph) (j : GJob) (n : Int) : ∀ (f k : Nat) (s : GState), goodS s → s.Step ≤ j.Limit → j.Limit - s.Step < f → f ≤ k →
   F111_l0_0 K g j n k s.Step s.Vals s.Rest s.In = some (sumT (lookR g j f s n)) := by
 intro f
 induction f with
 | zero => intro k s hs h0 hf hk; omega
 | succ f ih =>
   intro k s hs h0 hf hk
   obtain ⟨k, rfl⟩ : ∃ q, k = q + 1 := ⟨k - 1, by omega⟩
   have e : GState.mk s.Step s.Vals s.Rest s.In = s := rfl
   have l1 := hs.lin
   have l2 := hs.lre
   rw [F111_l0_0, e, F105_spec K s (by omega) (by omega), F112_spec hK g j s hs.nice (by omega) (by omega), Option.bind_some, Option.bind_some, lookR, runL]
   cases hq : ieq s.Step n
   · cases h0n : ilt n s.Step
     · cases h1 : restsS s
       · cases h2 : ile j.Limit s.Step
         · cases h3 : ieq (stepS g j s).2 0
           · simp only [cond_false, one_at hq h0n]; rfl
           · obtain ⟨g1, g2⟩ := step_good hs h3
             have := ile_f.1 h2
             have hq' := ieq_f.1 hq
             have hn' := ilt_f.1 h0n
             have hi := ih k (stepS g j s).1 g1 (by omega) (by omega) (by omega)
             simp only [cond_false, cond_true]
             rw [hi, lookR, g2, ilt_f.2 (by omega : s.Step + 1 ≤ n), cond_false]
             have : (n - s.Step).toNat = (n - (s.Step + 1)).toNat + 1 := by omega
             rw [this, List.getElem?_cons_succ]
         · simp only [cond_false, cond_true, one_at hq h0n]; rfl
       · simp only [cond_false, cond_true, one_at hq h0n]; rfl
     · have hn' := ilt_iff.1 h0n
       cases h1 : restsS s
       · cases h2 : ile j.Limit s.Step
         · cases h3 : ieq (stepS g j s).2 0
           · rfl
           · obtain ⟨g1, g2⟩ := step_good hs h3
             have := ile_f.1 h2
             have hi := ih k (stepS g j s).1 g1 (by omega) (by omega) (by omega)
             simp only [cond_false, cond_true]
             rw [hi, lookR, g2, ilt_iff.2 (by omega : n < s.Step + 1)]; rfl
         · rfl
       · rfl
   · have hq' := ieq_iff.1 hq
     have hz : (n - s.Step).toNat = 0 := by omega
     rw [ilt_f.2 (by omega : s.Step ≤ n), hz]
     cases restsS s
     · cases ile j.Limit s.Step
       · cases ieq (stepS g j s).2 0 <;> rfl
       · rfl
     · rfl
def atR (g : GGraph) (j : GJob) (n : Int) : GState × Int := bif ieq (jcheck g j) 0 then (bif ilt n 0 then (zeroS, 4) else match (runS g j).1[n.toNat]? with | some t => (t, 0) | none => (zeroS, 4)) else (zeroS, jcheck g j)
theorem F111_spec {K : Nat} (hK : 1000 ≤ K) (g : GGraph) (j : GJob) (n : Int) : F111 K g j n = some (atR g j n) := by
 rw [F111, F107_spec hK, Option.bind_some, atR, runS]
 cases hc : ieq (jcheck g j) 0
 · simp only [cond_false, hc]; rfl
 · obtain ⟨hg, _, _, _, _, p5, p6, _⟩ := jcheck_ok hc
   obtain ⟨b1, b2⟩ := begin_good (j := j) hg
   have z : ieq 0 0 = true := rfl
   simp only [cond_true, z]
   rw [F111_loop hK g j n 50 K (beginS g j) b1 (by omega) (by omega) (by omega), lookR, b2, Int.sub_zero, Option.bind_some]
   cases ilt n 0
   · rw [cond_false, cond_false]
     cases (runL g j 50 (beginS g j)).1[n.toNat]? <;> rfl
   · rfl
theorem run_good (g : GGraph) (j : GJob) : ∀ (f : Nat) (s : GState), goodS s → ∀ t ∈ (runL g j f s).1, goodS t := by
 intro f
 induction f with
 | zero => intro s hs t ht; rw [List.mem_singleton.1 ht]; exact hs
 | succ f ih =>
   intro s hs t ht
   rw [runL] at ht
   cases h1 : restsS s
   · rw [h1] at ht
     cases h2 : ile j.Limit s.Step
     · rw [h2] at ht
       cases h3 : ieq (stepS g j s).2 0
       · rw [h3] at ht
         rw [List.mem_singleton.1 ht]; exact hs
       · rw [h3] at ht
         rcases List.mem_cons.1 ht with rfl | ht
         · exact hs
         · exact ih _ (step_good hs h3).1 t ht
     · rw [h2] at ht
       rw [List.mem_singleton.1 ht]; exact hs
   · rw [h1] at ht
     rw [List.mem_singleton.1 ht]; exact hs
end Go.Proofs.Ytnjanliihnadjaa.Tm

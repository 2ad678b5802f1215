/- Printed by program: what each function computes, and that the machine answers so. Conditions: none. -/
import Derived.Test.YtnjanliihnadjaaTy
import Derived.Test.YtnjanliihnadjaaTab
import Derived.Test.YtnjanliihnadjaaKn
import Derived.KernelRfl
set_option linter.unusedVariables false
set_option linter.unusedSimpArgs false
namespace Go.Proofs.Ytnjanliihnadjaa.Tm
open Go
/-! ### haywain/haywainref01.Add -/
noncomputable def hn145 : Hint := { H 145 with nt := 27, prot := 0 }
def F145_res (r1325 : Int × Bool) : Res := ⟨[(.one (.im (.lit (.int .i64 r1325.1)))), (.one (.im (.lit (.bool r1325.2))))], []⟩
def F145 (K : Nat) (a1312 : Int) (a1313 : Int) : Option (Int × Bool) :=
  bif (ilt 0 a1313) then
    (bif (ilt (wsub .i64 9223372036854775807 a1313) a1312) then
      (some (0, false))
    else
    bif (ilt a1313 0) then
      (bif (ilt a1312 (wsub .i64 (-9223372036854775808) a1313)) then
        (some (0, false))
      else
      some ((wadd .i64 a1312 a1313), true))
    else
    some ((wadd .i64 a1312 a1313), true))
  else
  bif (ilt a1313 0) then
    (bif (ilt a1312 (wsub .i64 (-9223372036854775808) a1313)) then
      (some (0, false))
    else
    some ((wadd .i64 a1312 a1313), true))
  else
  some ((wadd .i64 a1312 a1313), true)
theorem F145_ok (K : Nat) (a1312 : Int) (a1313 : Int) (r : Int × Bool) (hF : F145 K a1312 a1313 = some r) : Evt E H 145 [.one (.lit (.int .i64 a1312)), .one (.lit (.int .i64 a1313))] (F145_res r) := by
  rw [F145] at hF
  refine cond_some hF (fun h1314 hF => ?_) (fun h1314 hF => ?_)
  ·
    have pq1320 : ∀ {l : List Cond}, HoldAll E H hn145 l → HoldAll E H hn145 (.test (beqb (igt a1313 0) true) true :: .test (beqb (igt a1313 0) true) true :: .test (beqb (igt a1313 0) true) true :: .int (wsub .i64 9223372036854775807 a1313) (wsub .i64 9223372036854775807 a1313) :: .test (beqb (igt a1313 0) true) true :: .test (igt a1313 0) true :: l) := fun z => ⟨(beqb_t (igt_eq h1314)), (beqb_t (igt_eq h1314)), (beqb_t (igt_eq h1314)), rfl, (beqb_t (igt_eq h1314)), (igt_eq h1314), z⟩
    refine cond_some hF (fun h1315 hF => ?_) (fun h1315 hF => ?_)
    ·
      have hr := Option.some.inj hF
      subst hr
      have pz : HoldAll E H hn145 [.test (beqb (igt a1312 (wsub .i64 9223372036854775807 a1313)) false) false, .test (beqb (igt a1312 (wsub .i64 9223372036854775807 a1313)) false) false, .test (beqb (igt a1312 (wsub .i64 9223372036854775807 a1313)) false) false, .test (beqb (igt a1312 (wsub .i64 9223372036854775807 a1313)) false) false, .test (igt a1312 (wsub .i64 9223372036854775807 a1313)) true, .test true true] := ⟨(beqb_ft (igt_eq h1315)), (beqb_ft (igt_eq h1315)), (beqb_ft (igt_eq h1315)), (beqb_ft (igt_eq h1315)), (igt_eq h1315), rfl, trivial⟩
      exact fn_playC hn145 (f := 145) (ads := [.one (.lit (.int .i64 a1312)), .one (.lit (.int .i64 a1313))]) (r := F145_res (0, false)) (pq1320 pz) (by kernel_rfl) (by kernel_rfl)
    have pq1321 : ∀ {l : List Cond}, HoldAll E H hn145 l → HoldAll E H hn145 (.test (beqb (igt a1312 (wsub .i64 9223372036854775807 a1313)) false) true :: .test (beqb (igt a1312 (wsub .i64 9223372036854775807 a1313)) false) true :: .test (beqb (igt a1312 (wsub .i64 9223372036854775807 a1313)) false) true :: l) := fun z => ⟨(beqb_ff (igt_eq h1315)), (beqb_ff (igt_eq h1315)), (beqb_ff (igt_eq h1315)), z⟩
    refine cond_some hF (fun h1316 hF => ?_) (fun h1316 hF => ?_)
    ·
      have pq1322 : ∀ {l : List Cond}, HoldAll E H hn145 l → HoldAll E H hn145 (.test (beqb (ilt a1313 0) true) true :: .test (beqb (ilt a1313 0) true) true :: .test (beqb (ilt a1313 0) true) true :: .int (wsub .i64 (-9223372036854775808) a1313) (wsub .i64 (-9223372036854775808) a1313) :: .test (beqb (ilt a1313 0) true) true :: .test (beqb (igt a1312 (wsub .i64 9223372036854775807 a1313)) false) true :: .test (ilt a1313 0) true :: .test (igt a1312 (wsub .i64 9223372036854775807 a1313)) false :: l) := fun z => ⟨(beqb_t h1316), (beqb_t h1316), (beqb_t h1316), rfl, (beqb_t h1316), (beqb_ff (igt_eq h1315)), h1316, (igt_eq h1315), z⟩
      refine cond_some hF (fun h1317 hF => ?_) (fun h1317 hF => ?_)
      ·
        have hr := Option.some.inj hF
        subst hr
        have pz : HoldAll E H hn145 [.test (ilt a1312 (wsub .i64 (-9223372036854775808) a1313)) true] := ⟨h1317, trivial⟩
        exact fn_playC hn145 (f := 145) (ads := [.one (.lit (.int .i64 a1312)), .one (.lit (.int .i64 a1313))]) (r := F145_res (0, false)) (pq1320 (pq1321 (pq1322 pz))) (by kernel_rfl) (by kernel_rfl)
      have hr := Option.some.inj hF
      subst hr
      have pz : HoldAll E H hn145 [.test (ilt a1312 (wsub .i64 (-9223372036854775808) a1313)) false, .int (wadd .i64 a1312 a1313) (wadd .i64 a1312 a1313)] := ⟨h1317, rfl, trivial⟩
      exact fn_playC hn145 (f := 145) (ads := [.one (.lit (.int .i64 a1312)), .one (.lit (.int .i64 a1313))]) (r := F145_res ((wadd .i64 a1312 a1313), true)) (pq1320 (pq1321 (pq1322 pz))) (by kernel_rfl) (by kernel_rfl)
    have hr := Option.some.inj hF
    subst hr
    have pz : HoldAll E H hn145 [.test (beqb (ilt a1313 0) true) false, .test (beqb (ilt a1313 0) true) false, .test (beqb (ilt a1313 0) true) false, .test (beqb (ilt a1313 0) true) false, .test (beqb (igt a1312 (wsub .i64 9223372036854775807 a1313)) false) true, .test (ilt a1313 0) false, .test (igt a1312 (wsub .i64 9223372036854775807 a1313)) false, .test false false, .int (wadd .i64 a1312 a1313) (wadd .i64 a1312 a1313)] := ⟨(beqb_t h1316), (beqb_t h1316), (beqb_t h1316), (beqb_t h1316), (beqb_ff (igt_eq h1315)), h1316, (igt_eq h1315), rfl, rfl, trivial⟩
    exact fn_playC hn145 (f := 145) (ads := [.one (.lit (.int .i64 a1312)), .one (.lit (.int .i64 a1313))]) (r := F145_res ((wadd .i64 a1312 a1313), true)) (pq1320 (pq1321 pz)) (by kernel_rfl) (by kernel_rfl)
  have pq1323 : ∀ {l : List Cond}, HoldAll E H hn145 l → HoldAll E H hn145 (.test (beqb (igt a1313 0) true) false :: .test (beqb (igt a1313 0) true) false :: .test (beqb (igt a1313 0) true) false :: .test (beqb (igt a1313 0) true) false :: .test (igt a1313 0) false :: .test (beqb false false) true :: .test (beqb false false) true :: .test (beqb false false) true :: l) := fun z => ⟨(beqb_t (igt_eq h1314)), (beqb_t (igt_eq h1314)), (beqb_t (igt_eq h1314)), (beqb_t (igt_eq h1314)), (igt_eq h1314), (beqb_ff rfl), (beqb_ff rfl), (beqb_ff rfl), z⟩
  refine cond_some hF (fun h1318 hF => ?_) (fun h1318 hF => ?_)
  ·
    have pq1324 : ∀ {l : List Cond}, HoldAll E H hn145 l → HoldAll E H hn145 (.test (beqb (ilt a1313 0) true) true :: .test (beqb (ilt a1313 0) true) true :: .test (beqb (ilt a1313 0) true) true :: .int (wsub .i64 (-9223372036854775808) a1313) (wsub .i64 (-9223372036854775808) a1313) :: .test (beqb (ilt a1313 0) true) true :: .test (beqb false false) true :: .test (ilt a1313 0) true :: .test false false :: l) := fun z => ⟨(beqb_t h1318), (beqb_t h1318), (beqb_t h1318), rfl, (beqb_t h1318), (beqb_ff rfl), h1318, rfl, z⟩
    refine cond_some hF (fun h1319 hF => ?_) (fun h1319 hF => ?_)
    ·
      have hr := Option.some.inj hF
      subst hr
      have pz : HoldAll E H hn145 [.test (ilt a1312 (wsub .i64 (-9223372036854775808) a1313)) true] := ⟨h1319, trivial⟩
      exact fn_playC hn145 (f := 145) (ads := [.one (.lit (.int .i64 a1312)), .one (.lit (.int .i64 a1313))]) (r := F145_res (0, false)) (pq1323 (pq1324 pz)) (by kernel_rfl) (by kernel_rfl)
    have hr := Option.some.inj hF
    subst hr
    have pz : HoldAll E H hn145 [.test (ilt a1312 (wsub .i64 (-9223372036854775808) a1313)) false, .int (wadd .i64 a1312 a1313) (wadd .i64 a1312 a1313)] := ⟨h1319, rfl, trivial⟩
    exact fn_playC hn145 (f := 145) (ads := [.one (.lit (.int .i64 a1312)), .one (.lit (.int .i64 a1313))]) (r := F145_res ((wadd .i64 a1312 a1313), true)) (pq1323 (pq1324 pz)) (by kernel_rfl) (by kernel_rfl)
  have hr := Option.some.inj hF
  subst hr
  have pz : HoldAll E H hn145 [.test (beqb (ilt a1313 0) true) false, .test (beqb (ilt a1313 0) true) false, .test (beqb (ilt a1313 0) true) false, .test (beqb (ilt a1313 0) true) false, .test (beqb false false) true, .test (ilt a1313 0) false, .test false false, .test false false, .int (wadd .i64 a1312 a1313) (wadd .i64 a1312 a1313)] := ⟨(beqb_t h1318), (beqb_t h1318), (beqb_t h1318), (beqb_t h1318), (beqb_ff rfl), h1318, rfl, rfl, rfl, trivial⟩
  exact fn_playC hn145 (f := 145) (ads := [.one (.lit (.int .i64 a1312)), .one (.lit (.int .i64 a1313))]) (r := F145_res ((wadd .i64 a1312 a1313), true)) (pq1323 pz) (by kernel_rfl) (by kernel_rfl)

/-! ### haywain/haywainref04.Fold -/
noncomputable def hn98 : Hint := { H 98 with nt := 39, prot := 0 }
def F98_res (r1485 : Int × Int) : Res := ⟨[(.one (.im (.lit (.int .i64 r1485.1)))), (.one (.im (.lit (.int .i64 r1485.2))))], []⟩
def F98 (K : Nat) (a1469 : Int) (a1470 : Int) (a1471 : Int) : Option (Int × Int) :=
  bif (ilt a1469 1) then
    (some (0, 1))
  else
  bif (ilt 5 a1469) then
    (some (0, 1))
  else
  bif (ieq a1469 5) then
    ((F145 K a1470 a1471).bind fun r1475 =>
    bif r1475.2 then
      (some (r1475.1, 0))
    else
    some (0, 8))
  else
  bif (ieq a1469 4) then
    (bif (ilt a1471 a1470) then
      (some (a1470, 0))
    else
    some (a1471, 0))
  else
  bif (ilt a1470 a1471) then
    (some (a1470, 0))
  else
  some (a1471, 0)
theorem F98_ok (K : Nat) (a1469 : Int) (a1470 : Int) (a1471 : Int) (r : Int × Int) (hF : F98 K a1469 a1470 a1471 = some r) : Evt E H 98 [.one (.lit (.int .i64 a1469)), .one (.lit (.int .i64 a1470)), .one (.lit (.int .i64 a1471))] (F98_res r) := by
  rw [F98] at hF
  refine cond_some hF (fun h1472 hF => ?_) (fun h1472 hF => ?_)
  ·
    have hr := Option.some.inj hF
    subst hr
    have pz : HoldAll E H hn98 [.test (beqb (ilt a1469 1) false) false, .test (beqb (ilt a1469 1) false) false, .test (ilt a1469 1) true, .test true true] := ⟨(beqb_ft h1472), (beqb_ft h1472), h1472, rfl, trivial⟩
    exact fn_playC hn98 (f := 98) (ads := [.one (.lit (.int .i64 a1469)), .one (.lit (.int .i64 a1470)), .one (.lit (.int .i64 a1471))]) (r := F98_res (0, 1)) pz (by kernel_rfl) (by kernel_rfl)
  have pq1481 : ∀ {l : List Cond}, HoldAll E H hn98 l → HoldAll E H hn98 (.test (beqb (ilt a1469 1) false) true :: .test (beqb (ilt a1469 1) false) true :: .test (ilt a1469 1) false :: l) := fun z => ⟨(beqb_ff h1472), (beqb_ff h1472), h1472, z⟩
  refine cond_some hF (fun h1473 hF => ?_) (fun h1473 hF => ?_)
  ·
    have hr := Option.some.inj hF
    subst hr
    have pz : HoldAll E H hn98 [.test (igt a1469 5) true] := ⟨(igt_eq h1473), trivial⟩
    exact fn_playC hn98 (f := 98) (ads := [.one (.lit (.int .i64 a1469)), .one (.lit (.int .i64 a1470)), .one (.lit (.int .i64 a1471))]) (r := F98_res (0, 1)) (pq1481 pz) (by kernel_rfl) (by kernel_rfl)
  refine cond_some hF (fun h1474 hF => ?_) (fun h1474 hF => ?_)
  ·
    refine bind_some hF (fun r1475 h1476 hF => ?_)
    have pq1482 : ∀ {l : List Cond}, HoldAll E H hn98 l → HoldAll E H hn98 (.test (igt a1469 5) false :: .test (ieq a1469 5) true :: .call 145 [.one (.lit (.int .i64 a1470)), .one (.lit (.int .i64 a1471))] (F145_res r1475) :: .test (leadsAny (Res.mk [(.one (.im (.lit (.int .i64 r1475.1)))), (.one (.im (.lit (.bool r1475.2))))] [])) false :: l) := fun z => ⟨(igt_eq h1473), h1474, (F145_ok K a1470 a1471 _ h1476), (leads_ok (by simp only [leadsAny, List.any_cons, List.any_nil, RV.leads, RC.leads, leadsT, hasSl_lit, Bool.or_false, flat_ns (eInt_ns _), flat_ns eBool_ns, flat_ns eStr_ns, flat_ns eGJob_ns, flat_ns eGEdge_ns, flat_ns eGAsked_ns, flat_ns eGMsg_ns, flat_ns eGrule_ns, flat_ns eGA199_ns, flat_ns eGA202_ns])), z⟩
    refine cond_some hF (fun h1477 hF => ?_) (fun h1477 hF => ?_)
    ·
      have hr := Option.some.inj hF
      subst hr
      have pz : HoldAll E H hn98 [.test (bnot r1475.2) false] := ⟨(bnot_t h1477), trivial⟩
      exact fn_playC hn98 (f := 98) (ads := [.one (.lit (.int .i64 a1469)), .one (.lit (.int .i64 a1470)), .one (.lit (.int .i64 a1471))]) (r := F98_res (r1475.1, 0)) (pq1481 (pq1482 pz)) (by kernel_rfl) (by kernel_rfl)
    have hr := Option.some.inj hF
    subst hr
    have pz : HoldAll E H hn98 [.test (bnot r1475.2) true] := ⟨(bnot_f h1477), trivial⟩
    exact fn_playC hn98 (f := 98) (ads := [.one (.lit (.int .i64 a1469)), .one (.lit (.int .i64 a1470)), .one (.lit (.int .i64 a1471))]) (r := F98_res (0, 8)) (pq1481 (pq1482 pz)) (by kernel_rfl) (by kernel_rfl)
  refine cond_some hF (fun h1478 hF => ?_) (fun h1478 hF => ?_)
  ·
    have pq1483 : ∀ {l : List Cond}, HoldAll E H hn98 l → HoldAll E H hn98 (.test (igt a1469 5) false :: .test (ieq a1469 5) false :: .test (ieq a1469 4) true :: l) := fun z => ⟨(igt_eq h1473), h1474, h1478, z⟩
    refine cond_some hF (fun h1479 hF => ?_) (fun h1479 hF => ?_)
    ·
      have hr := Option.some.inj hF
      subst hr
      have pz : HoldAll E H hn98 [.test (igt a1470 a1471) true] := ⟨(igt_eq h1479), trivial⟩
      exact fn_playC hn98 (f := 98) (ads := [.one (.lit (.int .i64 a1469)), .one (.lit (.int .i64 a1470)), .one (.lit (.int .i64 a1471))]) (r := F98_res (a1470, 0)) (pq1481 (pq1483 pz)) (by kernel_rfl) (by kernel_rfl)
    have hr := Option.some.inj hF
    subst hr
    have pz : HoldAll E H hn98 [.test (igt a1470 a1471) false] := ⟨(igt_eq h1479), trivial⟩
    exact fn_playC hn98 (f := 98) (ads := [.one (.lit (.int .i64 a1469)), .one (.lit (.int .i64 a1470)), .one (.lit (.int .i64 a1471))]) (r := F98_res (a1471, 0)) (pq1481 (pq1483 pz)) (by kernel_rfl) (by kernel_rfl)
  have pq1484 : ∀ {l : List Cond}, HoldAll E H hn98 l → HoldAll E H hn98 (.test (igt a1469 5) false :: .test (ieq a1469 5) false :: .test (ieq a1469 4) false :: l) := fun z => ⟨(igt_eq h1473), h1474, h1478, z⟩
  refine cond_some hF (fun h1480 hF => ?_) (fun h1480 hF => ?_)
  ·
    have hr := Option.some.inj hF
    subst hr
    have pz : HoldAll E H hn98 [.test (ilt a1470 a1471) true] := ⟨h1480, trivial⟩
    exact fn_playC hn98 (f := 98) (ads := [.one (.lit (.int .i64 a1469)), .one (.lit (.int .i64 a1470)), .one (.lit (.int .i64 a1471))]) (r := F98_res (a1470, 0)) (pq1481 (pq1484 pz)) (by kernel_rfl) (by kernel_rfl)
  have hr := Option.some.inj hF
  subst hr
  have pz : HoldAll E H hn98 [.test (ilt a1470 a1471) false] := ⟨h1480, trivial⟩
  exact fn_playC hn98 (f := 98) (ads := [.one (.lit (.int .i64 a1469)), .one (.lit (.int .i64 a1470)), .one (.lit (.int .i64 a1471))]) (r := F98_res (a1471, 0)) (pq1481 (pq1484 pz)) (by kernel_rfl) (by kernel_rfl)

end Go.Proofs.Ytnjanliihnadjaa.Tm

/- Printed by program: what each function computes, and that the machine answers so. Conditions: none. -/
import Derived.Test.YtnjanliihnadjaaTy
import Derived.Test.YtnjanliihnadjaaTab
import Derived.Test.YtnjanliihnadjaaKn
import Derived.Test.YtnjanliihnadjaaFG
import Derived.KernelRfl
set_option linter.unusedVariables false
set_option linter.unusedSimpArgs false
namespace Go.Proofs.Ytnjanliihnadjaa.Tm
open Go
/-! ### haywain/haywainref03.Out -/
noncomputable def hn69 : Hint := { H 69 with nt := 35, prot := 0 }
noncomputable def c69_0 : Code := loopOf E 69 0
def F69_res (r1358 : List GEdge) : Res := ⟨[(.one (.own 89 (.sl (len r1358) (flat eGEdge r1358))))], []⟩
def F69_l0_0 (K : Nat) (a1332 : GGraph) (a1333 : Int) : Nat → List GEdge → Int → Option (List GEdge)
  | 0, _, _ => none
  | k + 1, v1343, v1344 =>
    bif (ilt v1344 (nlen (len a1332.Edges))) then
      (bif (inr v1344 (len a1332.Edges)) then
      (elAt a1332.Edges v1344).bind fun x1347 =>
      bif (ieq x1347.From a1333) then
        (bif (apok (len v1343) 1 24) then
        F69_l0_0 K a1332 a1333 k (appL v1343 [x1347]) (wadd .i64 v1344 1)
        else none)
      else
      F69_l0_0 K a1332 a1333 k v1343 (wadd .i64 v1344 1)
      else none)
    else
    some v1343
def F69_l0_0_S (a1332 : GGraph) (a1333 : Int) (v1343 : List GEdge) (v1344 : Int) : TS := .on [64, 65, 128, 129, 130, 320, 321, 384, 385] [(64, ⟨.one, 0, nob⟩), (65, ⟨.im, 0, (.lit (.int .i64 a1333))⟩), (128, ⟨(.box 62 2), 0, nob⟩), (129, ⟨.im, 0, (.lit (.int .i64 a1332.N))⟩), (130, ⟨.im, 0, (.sl (len a1332.Edges) (flat eGEdge a1332.Edges))⟩), (320, ⟨.one, 0, nob⟩), (321, ⟨(.own 89), 0, (.sl (len v1343) (flat eGEdge v1343))⟩), (384, ⟨.one, 0, nob⟩), (385, ⟨.im, 0, (.lit (.int .i64 v1344))⟩)]
def F69_l0_0_X0 (a1332 : GGraph) (a1333 : Int) (w1351 : List GEdge) : TS := .on [320, 321] [(320, ⟨.one, 0, nob⟩), (321, ⟨(.own 89), 0, (.sl (len w1351) (flat eGEdge w1351))⟩)]
theorem F69_l0_0_ok (K : Nat) (a1332 : GGraph) (a1333 : Int) : ∀ (k : Nat) (v1343 : List GEdge) (v1344 : Int) (r : List GEdge), F69_l0_0 K a1332 a1333 k v1343 v1344 = some r → LoopEv E H hn69 0 c69_0 (F69_l0_0_S a1332 a1333 v1343 v1344) (.exit 0) (F69_l0_0_X0 a1332 a1333 r) := by
  intro k
  induction k with
  | zero => intro v1343 v1344 r hF; cases hF
  | succ k ih =>
    intro v1343 v1344 r hF
    rw [F69_l0_0] at hF
    refine cond_some hF (fun h1345 hF => ?_) (fun h1345 hF => ?_)
    ·
      refine cond_some hF (fun h1346 hF => ?_) (fun _ hF => nomatch hF)
      refine bind_some hF (fun x1347 h1348 hF => ?_)
      have pq1353 : ∀ {l : List Cond}, HoldAll E H hn69 l → HoldAll E H hn69 (.int (nlen (len a1332.Edges)) (nlen (len a1332.Edges)) :: .test (ilt v1344 (nlen (len a1332.Edges))) true :: .test (inr v1344 (len a1332.Edges)) true :: .sub (flat eGEdge a1332.Edges) (nadd (nidx v1344 3) 0) 1 [(.lit (.int .i64 x1347.From))] :: l) := fun z => ⟨rfl, h1345, h1346, ⟨rfl, sub_flat eGEdge_len h1348 0 1 (by decide)⟩, z⟩
      refine cond_some hF (fun h1349 hF => ?_) (fun h1349 hF => ?_)
      ·
        refine cond_some hF (fun h1350 hF => ?_) (fun _ hF => nomatch hF)
        have pz : HoldAll E H hn69 [.test (ieq x1347.From a1333) true, .test (inr v1344 (len a1332.Edges)) true, .sub (flat eGEdge a1332.Edges) (nidx v1344 3) 3 [(.lit (.int .i64 x1347.From)), (.lit (.int .i64 x1347.To)), (.lit (.int .i64 x1347.W))], .test (leqm [(.lit (.int .i64 x1347.From)), (.lit (.int .i64 x1347.To)), (.lit (.int .i64 x1347.W))] 1 3) true, .test (apok (len v1343) 1 24) true, .sl (nadd (len v1343) 1) (lapp (flat eGEdge v1343) [(.lit (.int .i64 x1347.From)), (.lit (.int .i64 x1347.To)), (.lit (.int .i64 x1347.W))]) (len (α := GEdge) (appL v1343 [x1347])) (flat eGEdge (appL v1343 [x1347])), .int (wadd .i64 v1344 1) (wadd .i64 v1344 1)] := ⟨h1349, h1346, ⟨rfl, sub_flat0 eGEdge_len h1348 3 (by decide)⟩, rfl, h1350, (app_ok (enc := eGEdge) (v1343 : List GEdge) [x1347]), rfl, trivial⟩
        have h0 := ih _ _ _ hF
        have hn := fun ex ts' => loop_nextC (h := hn69) (l := 0) (c := c69_0) (ts := F69_l0_0_S a1332 a1333 v1343 v1344) (ts1 := (F69_l0_0_S a1332 a1333 (appL v1343 [x1347]) (wadd .i64 v1344 1))) (ex := ex) (ts' := ts') (pq1353 pz) (by kernel_rfl)
        exact hn _ _ h0
      have pz : HoldAll E H hn69 [.test (ieq x1347.From a1333) false, .int (wadd .i64 v1344 1) (wadd .i64 v1344 1)] := ⟨h1349, rfl, trivial⟩
      have h0 := ih _ _ _ hF
      have hn := fun ex ts' => loop_nextC (h := hn69) (l := 0) (c := c69_0) (ts := F69_l0_0_S a1332 a1333 v1343 v1344) (ts1 := (F69_l0_0_S a1332 a1333 v1343 (wadd .i64 v1344 1))) (ex := ex) (ts' := ts') (pq1353 pz) (by kernel_rfl)
      exact hn _ _ h0
    have hr := Option.some.inj hF
    subst hr
    have pz : HoldAll E H hn69 [.int (nlen (len a1332.Edges)) (nlen (len a1332.Edges)), .test (ilt v1344 (nlen (len a1332.Edges))) false] := ⟨rfl, h1345, trivial⟩
    exact loop_endC (h := hn69) (l := 0) (c := c69_0) (ts := F69_l0_0_S a1332 a1333 v1343 v1344) (ts' := F69_l0_0_X0 a1332 a1333 v1343) (ex := (.exit 0)) pz (by kernel_rfl) trivial

def F69 (K : Nat) (a1332 : GGraph) (a1333 : Int) : Option (List GEdge) :=
  (F65 K a1332).bind fun r1334 =>
  bif (ieq r1334 0) then
    ((F69_l0_0 K a1332 a1333 K [] 0).bind fun w1356 =>
    some w1356)
  else
  some []
theorem F69_ok (K : Nat) (a1332 : GGraph) (a1333 : Int) (r : List GEdge) (hF : F69 K a1332 a1333 = some r) : Evt E H 69 [.agg (eGGraph a1332), .one (.lit (.int .i64 a1333))] (F69_res r) := by
  rw [F69] at hF
  refine bind_some hF (fun r1334 h1335 hF => ?_)
  refine cond_some hF (fun h1336 hF => ?_) (fun h1336 hF => ?_)
  ·
    refine bind_some hF (fun w1356 h1354 hF => ?_)
    have hr := Option.some.inj hF
    subst hr
    have pz : HoldAll E H hn69 [.call 65 [.agg (eGGraph a1332)] (F65_res r1334), .test (leadsAny (Res.mk [(.one (.im (.lit (.int .i64 r1334))))] [])) false, .test (ine r1334 0) false, .loop 0 c69_0 (F69_l0_0_S a1332 a1333 [] 0) (.exit 0) (F69_l0_0_X0 a1332 a1333 w1356)] := ⟨(F65_ok K a1332 _ h1335), (leads_ok (by simp only [leadsAny, List.any_cons, List.any_nil, RV.leads, RC.leads, leadsT, hasSl_lit, Bool.or_false, flat_ns (eInt_ns _), flat_ns eBool_ns, flat_ns eStr_ns, flat_ns eGJob_ns, flat_ns eGEdge_ns, flat_ns eGAsked_ns, flat_ns eGMsg_ns, flat_ns eGrule_ns, flat_ns eGA199_ns, flat_ns eGA202_ns])), (ine_t h1336), (F69_l0_0_ok K a1332 a1333 K [] 0 _ h1354), trivial⟩
    exact fn_playC hn69 (f := 69) (ads := [.agg (eGGraph a1332), .one (.lit (.int .i64 a1333))]) (r := F69_res w1356) pz (by kernel_rfl) (by kernel_rfl)
  have hr := Option.some.inj hF
  subst hr
  have pz : HoldAll E H hn69 [.call 65 [.agg (eGGraph a1332)] (F65_res r1334), .test (leadsAny (Res.mk [(.one (.im (.lit (.int .i64 r1334))))] [])) false, .test (ine r1334 0) true] := ⟨(F65_ok K a1332 _ h1335), (leads_ok (by simp only [leadsAny, List.any_cons, List.any_nil, RV.leads, RC.leads, leadsT, hasSl_lit, Bool.or_false, flat_ns (eInt_ns _), flat_ns eBool_ns, flat_ns eStr_ns, flat_ns eGJob_ns, flat_ns eGEdge_ns, flat_ns eGAsked_ns, flat_ns eGMsg_ns, flat_ns eGrule_ns, flat_ns eGA199_ns, flat_ns eGA202_ns])), (ine_f h1336), trivial⟩
  exact fn_playC hn69 (f := 69) (ads := [.agg (eGGraph a1332), .one (.lit (.int .i64 a1333))]) (r := F69_res []) pz (by kernel_rfl) (by kernel_rfl)

/-! ### haywain/haywainlaw03.great -/
noncomputable def hn62 : Hint := { H 62 with nt := 7, prot := 0 }
def F62_res (r2380 : Bool) : Res := ⟨[(.one (.im (.lit (.bool r2380))))], []⟩
def F62 (K : Nat) (a2379 : GGraph) : Option (Bool) :=
  some (igt (nlen (len a2379.Edges)) 200)
theorem F62_ok (K : Nat) (a2379 : GGraph) (r : Bool) (hF : F62 K a2379 = some r) : Evt E H 62 [.agg (eGGraph a2379)] (F62_res r) := by
  rw [F62] at hF
  have hr := Option.some.inj hF
  subst hr
  have pz : HoldAll E H hn62 [.int (nlen (len a2379.Edges)) (nlen (len a2379.Edges))] := ⟨rfl, trivial⟩
  exact fn_playC hn62 (f := 62) (ads := [.agg (eGGraph a2379)]) (r := F62_res (igt (nlen (len a2379.Edges)) 200)) pz (by kernel_rfl) (by kernel_rfl)

/-! ### haywain/graph.Out -/
noncomputable def hn68 : Hint := { H 68 with nt := 28, prot := 0 }
noncomputable def c68_0 : Code := loopOf E 68 0
def F68_res (r2619 : List GEdge) : Res := ⟨[(.one (.own 89 (.sl (len r2619) (flat eGEdge r2619))))], []⟩
def F68_l0_0 (K : Nat) (a2593 : GGraph) (a2594 : Int) : Nat → List GEdge → Int → Option (List GEdge)
  | 0, _, _ => none
  | k + 1, v2604, v2605 =>
    bif (ilt v2605 (nlen (len a2593.Edges))) then
      (bif (inr v2605 (len a2593.Edges)) then
      (elAt a2593.Edges v2605).bind fun x2608 =>
      bif (ieq x2608.From a2594) then
        (bif (apok (len v2604) 1 24) then
        F68_l0_0 K a2593 a2594 k (appL v2604 [x2608]) (wadd .i64 v2605 1)
        else none)
      else
      F68_l0_0 K a2593 a2594 k v2604 (wadd .i64 v2605 1)
      else none)
    else
    some v2604
def F68_l0_0_S (a2593 : GGraph) (a2594 : Int) (v2604 : List GEdge) (v2605 : Int) : TS := .on [64, 65, 128, 129, 130, 320, 321, 704, 768, 769, 832, 833, 896, 897] [(64, ⟨.one, 0, nob⟩), (65, ⟨.im, 0, (.lit (.int .i64 a2594))⟩), (128, ⟨(.box 62 2), 0, nob⟩), (129, ⟨.im, 0, (.lit (.int .i64 a2593.N))⟩), (130, ⟨.im, 0, (.sl (len a2593.Edges) (flat eGEdge a2593.Edges))⟩), (320, ⟨.one, 0, nob⟩), (321, ⟨(.own 89), 0, (.sl (len v2604) (flat eGEdge v2604))⟩), (704, ⟨(.ad 2 0 1), 0, nob⟩), (768, ⟨.one, 0, nob⟩), (769, ⟨.im, 0, (.sl (len a2593.Edges) (flat eGEdge a2593.Edges))⟩), (832, ⟨.one, 0, nob⟩), (833, ⟨.im, 0, (.lit (.int .i64 (nlen (len a2593.Edges))))⟩), (896, ⟨.one, 0, nob⟩), (897, ⟨.im, 0, (.lit (.int .i64 v2605))⟩)]
def F68_l0_0_X0 (a2593 : GGraph) (a2594 : Int) (w2612 : List GEdge) : TS := .on [320, 321] [(320, ⟨.one, 0, nob⟩), (321, ⟨(.own 89), 0, (.sl (len w2612) (flat eGEdge w2612))⟩)]
theorem F68_l0_0_ok (K : Nat) (a2593 : GGraph) (a2594 : Int) : ∀ (k : Nat) (v2604 : List GEdge) (v2605 : Int) (r : List GEdge), F68_l0_0 K a2593 a2594 k v2604 v2605 = some r → LoopEv E H hn68 0 c68_0 (F68_l0_0_S a2593 a2594 v2604 v2605) (.exit 0) (F68_l0_0_X0 a2593 a2594 r) := by
  intro k
  induction k with
  | zero => intro v2604 v2605 r hF; cases hF
  | succ k ih =>
    intro v2604 v2605 r hF
    rw [F68_l0_0] at hF
    refine cond_some hF (fun h2606 hF => ?_) (fun h2606 hF => ?_)
    ·
      refine cond_some hF (fun h2607 hF => ?_) (fun _ hF => nomatch hF)
      refine bind_some hF (fun x2608 h2609 hF => ?_)
      have pq2614 : ∀ {l : List Cond}, HoldAll E H hn68 l → HoldAll E H hn68 (.test (ilt v2605 (nlen (len a2593.Edges))) true :: .test (inr v2605 (len a2593.Edges)) true :: .sub (flat eGEdge a2593.Edges) (nidx v2605 3) 3 [(.lit (.int .i64 x2608.From)), (.lit (.int .i64 x2608.To)), (.lit (.int .i64 x2608.W))] :: l) := fun z => ⟨h2606, h2607, ⟨rfl, sub_flat0 eGEdge_len h2609 3 (by decide)⟩, z⟩
      refine cond_some hF (fun h2610 hF => ?_) (fun h2610 hF => ?_)
      ·
        refine cond_some hF (fun h2611 hF => ?_) (fun _ hF => nomatch hF)
        have pz : HoldAll E H hn68 [.test (ieq x2608.From a2594) true, .test (leqm [(.lit (.int .i64 x2608.From)), (.lit (.int .i64 x2608.To)), (.lit (.int .i64 x2608.W))] 1 3) true, .test (apok (len v2604) 1 24) true, .sl (nadd (len v2604) 1) (lapp (flat eGEdge v2604) [(.lit (.int .i64 x2608.From)), (.lit (.int .i64 x2608.To)), (.lit (.int .i64 x2608.W))]) (len (α := GEdge) (appL v2604 [x2608])) (flat eGEdge (appL v2604 [x2608])), .int (wadd .i64 v2605 1) (wadd .i64 v2605 1)] := ⟨h2610, rfl, h2611, (app_ok (enc := eGEdge) (v2604 : List GEdge) [x2608]), rfl, trivial⟩
        have h0 := ih _ _ _ hF
        have hn := fun ex ts' => loop_nextC (h := hn68) (l := 0) (c := c68_0) (ts := F68_l0_0_S a2593 a2594 v2604 v2605) (ts1 := (F68_l0_0_S a2593 a2594 (appL v2604 [x2608]) (wadd .i64 v2605 1))) (ex := ex) (ts' := ts') (pq2614 pz) (by kernel_rfl)
        exact hn _ _ h0
      have pz : HoldAll E H hn68 [.test (ieq x2608.From a2594) false, .int (wadd .i64 v2605 1) (wadd .i64 v2605 1)] := ⟨h2610, rfl, trivial⟩
      have h0 := ih _ _ _ hF
      have hn := fun ex ts' => loop_nextC (h := hn68) (l := 0) (c := c68_0) (ts := F68_l0_0_S a2593 a2594 v2604 v2605) (ts1 := (F68_l0_0_S a2593 a2594 v2604 (wadd .i64 v2605 1))) (ex := ex) (ts' := ts') (pq2614 pz) (by kernel_rfl)
      exact hn _ _ h0
    have hr := Option.some.inj hF
    subst hr
    have pz : HoldAll E H hn68 [.test (ilt v2605 (nlen (len a2593.Edges))) false] := ⟨h2606, trivial⟩
    exact loop_endC (h := hn68) (l := 0) (c := c68_0) (ts := F68_l0_0_S a2593 a2594 v2604 v2605) (ts' := F68_l0_0_X0 a2593 a2594 v2604) (ex := (.exit 0)) pz (by kernel_rfl) trivial

def F68 (K : Nat) (a2593 : GGraph) (a2594 : Int) : Option (List GEdge) :=
  (F64 K a2593).bind fun r2595 =>
  bif (ieq r2595 0) then
    ((F68_l0_0 K a2593 a2594 K [] 0).bind fun w2617 =>
    some w2617)
  else
  some []
theorem F68_ok (K : Nat) (a2593 : GGraph) (a2594 : Int) (r : List GEdge) (hF : F68 K a2593 a2594 = some r) : Evt E H 68 [.agg (eGGraph a2593), .one (.lit (.int .i64 a2594))] (F68_res r) := by
  rw [F68] at hF
  refine bind_some hF (fun r2595 h2596 hF => ?_)
  refine cond_some hF (fun h2597 hF => ?_) (fun h2597 hF => ?_)
  ·
    refine bind_some hF (fun w2617 h2615 hF => ?_)
    have hr := Option.some.inj hF
    subst hr
    have pz : HoldAll E H hn68 [.call 64 [.agg (eGGraph a2593)] (F64_res r2595), .test (leadsAny (Res.mk [(.one (.im (.lit (.int .i64 r2595))))] [])) false, .test (ine r2595 0) false, .int (nlen (len a2593.Edges)) (nlen (len a2593.Edges)), .loop 0 c68_0 (F68_l0_0_S a2593 a2594 [] 0) (.exit 0) (F68_l0_0_X0 a2593 a2594 w2617)] := ⟨(F64_ok K a2593 _ h2596), (leads_ok (by simp only [leadsAny, List.any_cons, List.any_nil, RV.leads, RC.leads, leadsT, hasSl_lit, Bool.or_false, flat_ns (eInt_ns _), flat_ns eBool_ns, flat_ns eStr_ns, flat_ns eGJob_ns, flat_ns eGEdge_ns, flat_ns eGAsked_ns, flat_ns eGMsg_ns, flat_ns eGrule_ns, flat_ns eGA199_ns, flat_ns eGA202_ns])), (ine_t h2597), rfl, (F68_l0_0_ok K a2593 a2594 K [] 0 _ h2615), trivial⟩
    exact fn_playC hn68 (f := 68) (ads := [.agg (eGGraph a2593), .one (.lit (.int .i64 a2594))]) (r := F68_res w2617) pz (by kernel_rfl) (by kernel_rfl)
  have hr := Option.some.inj hF
  subst hr
  have pz : HoldAll E H hn68 [.call 64 [.agg (eGGraph a2593)] (F64_res r2595), .test (leadsAny (Res.mk [(.one (.im (.lit (.int .i64 r2595))))] [])) false, .test (ine r2595 0) true] := ⟨(F64_ok K a2593 _ h2596), (leads_ok (by simp only [leadsAny, List.any_cons, List.any_nil, RV.leads, RC.leads, leadsT, hasSl_lit, Bool.or_false, flat_ns (eInt_ns _), flat_ns eBool_ns, flat_ns eStr_ns, flat_ns eGJob_ns, flat_ns eGEdge_ns, flat_ns eGAsked_ns, flat_ns eGMsg_ns, flat_ns eGrule_ns, flat_ns eGA199_ns, flat_ns eGA202_ns])), (ine_f h2597), trivial⟩
  exact fn_playC hn68 (f := 68) (ads := [.agg (eGGraph a2593), .one (.lit (.int .i64 a2594))]) (r := F68_res []) pz (by kernel_rfl) (by kernel_rfl)

/-! ### haywain/haywainref03.Same -/
noncomputable def hn70 : Hint := { H 70 with nt := 38, prot := 0 }
noncomputable def c70_0 : Code := loopOf E 70 0
def F70_res (r2657 : Bool) : Res := ⟨[(.one (.im (.lit (.bool r2657))))], []⟩
def F70_l0_0 (K : Nat) (a2624 : GGraph) (a2625 : GGraph) : Nat → Int → Option ((Unit) ⊕ (Unit))
  | 0, _ => none
  | k + 1, v2638 =>
    bif (ilt v2638 (nlen (len a2624.Edges))) then
      (bif (inr v2638 (len a2624.Edges)) then
      (elAt a2624.Edges v2638).bind fun x2641 =>
      bif (inr v2638 (len a2625.Edges)) then
      (elAt a2625.Edges v2638).bind fun x2644 =>
      bif (ieq x2641.From x2644.From) then
        (bif (ieq x2641.To x2644.To) then
          (bif (ieq x2641.W x2644.W) then
            (F70_l0_0 K a2624 a2625 k (wadd .i64 v2638 1))
          else
          some (.inl ()))
        else
        some (.inl ()))
      else
      some (.inl ())
      else none
      else none)
    else
    some (.inr ())
def F70_l0_0_S (a2624 : GGraph) (a2625 : GGraph) (v2638 : Int) : TS := .on [128, 129, 130, 192, 193, 194, 320, 321] [(128, ⟨(.box 62 2), 0, nob⟩), (129, ⟨.im, 0, (.lit (.int .i64 a2624.N))⟩), (130, ⟨.im, 0, (.sl (len a2624.Edges) (flat eGEdge a2624.Edges))⟩), (192, ⟨(.box 62 2), 0, nob⟩), (193, ⟨.im, 0, (.lit (.int .i64 a2625.N))⟩), (194, ⟨.im, 0, (.sl (len a2625.Edges) (flat eGEdge a2625.Edges))⟩), (320, ⟨.one, 0, nob⟩), (321, ⟨.im, 0, (.lit (.int .i64 v2638))⟩)]
def F70_l0_0_X0 (a2624 : GGraph) (a2625 : GGraph) (w2649 : Unit) : TS := .on [256, 257] [(256, ⟨.one, 0, nob⟩), (257, ⟨.im, 0, (.lit (.bool false))⟩)]
def F70_l0_0_X1 (a2624 : GGraph) (a2625 : GGraph) (w2650 : Unit) : TS := .on [] []
theorem F70_l0_0_ok (K : Nat) (a2624 : GGraph) (a2625 : GGraph) : ∀ (k : Nat) (v2638 : Int) (r : (Unit) ⊕ (Unit)), F70_l0_0 K a2624 a2625 k v2638 = some r → (Sum.elim (fun w => LoopEv E H hn70 0 c70_0 (F70_l0_0_S a2624 a2625 v2638) .ret (F70_l0_0_X0 a2624 a2625 w)) (fun w => LoopEv E H hn70 0 c70_0 (F70_l0_0_S a2624 a2625 v2638) (.exit 0) (F70_l0_0_X1 a2624 a2625 w))) r := by
  intro k
  induction k with
  | zero => intro v2638 r hF; cases hF
  | succ k ih =>
    intro v2638 r hF
    rw [F70_l0_0] at hF
    refine cond_some hF (fun h2639 hF => ?_) (fun h2639 hF => ?_)
    ·
      refine cond_some hF (fun h2640 hF => ?_) (fun _ hF => nomatch hF)
      refine bind_some hF (fun x2641 h2642 hF => ?_)
      refine cond_some hF (fun h2643 hF => ?_) (fun _ hF => nomatch hF)
      refine bind_some hF (fun x2644 h2645 hF => ?_)
      have pq2651 : ∀ {l : List Cond}, HoldAll E H hn70 l → HoldAll E H hn70 (.int (nlen (len a2624.Edges)) (nlen (len a2624.Edges)) :: .test (ilt v2638 (nlen (len a2624.Edges))) true :: .test (inr v2638 (len a2624.Edges)) true :: .sub (flat eGEdge a2624.Edges) (nidx v2638 3) 3 [(.lit (.int .i64 x2641.From)), (.lit (.int .i64 x2641.To)), (.lit (.int .i64 x2641.W))] :: .test (inr v2638 (len a2625.Edges)) true :: .sub (flat eGEdge a2625.Edges) (nidx v2638 3) 3 [(.lit (.int .i64 x2644.From)), (.lit (.int .i64 x2644.To)), (.lit (.int .i64 x2644.W))] :: l) := fun z => ⟨rfl, h2639, h2640, ⟨rfl, sub_flat0 eGEdge_len h2642 3 (by decide)⟩, h2643, ⟨rfl, sub_flat0 eGEdge_len h2645 3 (by decide)⟩, z⟩
      refine cond_some hF (fun h2646 hF => ?_) (fun h2646 hF => ?_)
      ·
        refine cond_some hF (fun h2647 hF => ?_) (fun h2647 hF => ?_)
        ·
          refine cond_some hF (fun h2648 hF => ?_) (fun h2648 hF => ?_)
          ·
            have pz : HoldAll E H hn70 [.test (bnot (band (ieq x2641.From x2644.From) (band (ieq x2641.To x2644.To) (band (ieq x2641.W x2644.W) true)))) false, .int (wadd .i64 v2638 1) (wadd .i64 v2638 1)] := ⟨(bnot_t (band_tt h2646 (band_tt h2647 (band_tt h2648 rfl)))), rfl, trivial⟩
            have h0 := ih _ _ hF
            have hn := fun ex ts' => loop_nextC (h := hn70) (l := 0) (c := c70_0) (ts := F70_l0_0_S a2624 a2625 v2638) (ts1 := (F70_l0_0_S a2624 a2625 (wadd .i64 v2638 1))) (ex := ex) (ts' := ts') (pq2651 pz) (by kernel_rfl)
            cases r with
            | inl w => exact hn _ _ h0
            | inr w => exact hn _ _ h0
          have hr := Option.some.inj hF
          subst hr
          have pz : HoldAll E H hn70 [.test (bnot (band (ieq x2641.From x2644.From) (band (ieq x2641.To x2644.To) (band (ieq x2641.W x2644.W) true)))) true] := ⟨(bnot_f (band_f2 h2646 (band_f2 h2647 (band_f1 h2648)))), trivial⟩
          exact loop_endC (h := hn70) (l := 0) (c := c70_0) (ts := F70_l0_0_S a2624 a2625 v2638) (ts' := F70_l0_0_X0 a2624 a2625 ()) (ex := .ret) (pq2651 pz) (by kernel_rfl) trivial
        have hr := Option.some.inj hF
        subst hr
        have pz : HoldAll E H hn70 [.test (bnot (band (ieq x2641.From x2644.From) (band (ieq x2641.To x2644.To) (band (ieq x2641.W x2644.W) true)))) true] := ⟨(bnot_f (band_f2 h2646 (band_f1 h2647))), trivial⟩
        exact loop_endC (h := hn70) (l := 0) (c := c70_0) (ts := F70_l0_0_S a2624 a2625 v2638) (ts' := F70_l0_0_X0 a2624 a2625 ()) (ex := .ret) (pq2651 pz) (by kernel_rfl) trivial
      have hr := Option.some.inj hF
      subst hr
      have pz : HoldAll E H hn70 [.test (bnot (band (ieq x2641.From x2644.From) (band (ieq x2641.To x2644.To) (band (ieq x2641.W x2644.W) true)))) true] := ⟨(bnot_f (band_f1 h2646)), trivial⟩
      exact loop_endC (h := hn70) (l := 0) (c := c70_0) (ts := F70_l0_0_S a2624 a2625 v2638) (ts' := F70_l0_0_X0 a2624 a2625 ()) (ex := .ret) (pq2651 pz) (by kernel_rfl) trivial
    have hr := Option.some.inj hF
    subst hr
    have pz : HoldAll E H hn70 [.int (nlen (len a2624.Edges)) (nlen (len a2624.Edges)), .test (ilt v2638 (nlen (len a2624.Edges))) false] := ⟨rfl, h2639, trivial⟩
    exact loop_endC (h := hn70) (l := 0) (c := c70_0) (ts := F70_l0_0_S a2624 a2625 v2638) (ts' := F70_l0_0_X1 a2624 a2625 ()) (ex := (.exit 0)) pz (by kernel_rfl) trivial

def F70 (K : Nat) (a2624 : GGraph) (a2625 : GGraph) : Option (Bool) :=
  bif (ieq a2624.N a2625.N) then
    (bif (ieq (nlen (len a2624.Edges)) (nlen (len a2625.Edges))) then
      ((F70_l0_0 K a2624 a2625 K 0).bind fun y2653 =>
      Sum.elim (fun w2654 =>
        some false)
        (fun w2655 =>
        some true) y2653)
    else
    some false)
  else
  some false
theorem F70_ok (K : Nat) (a2624 : GGraph) (a2625 : GGraph) (r : Bool) (hF : F70 K a2624 a2625 = some r) : Evt E H 70 [.agg (eGGraph a2624), .agg (eGGraph a2625)] (F70_res r) := by
  rw [F70] at hF
  refine cond_some hF (fun h2626 hF => ?_) (fun h2626 hF => ?_)
  ·
    have pq2656 : ∀ {l : List Cond}, HoldAll E H hn70 l → HoldAll E H hn70 (.test (beqb (ine a2624.N a2625.N) false) true :: .test (beqb (ine a2624.N a2625.N) false) true :: .test (beqb (ine a2624.N a2625.N) false) true :: .int (nlen (len a2624.Edges)) (nlen (len a2624.Edges)) :: .test (beqb (ine a2624.N a2625.N) false) true :: .test (beqb (ine a2624.N a2625.N) false) true :: .test (beqb (ine a2624.N a2625.N) false) true :: .int (nlen (len a2625.Edges)) (nlen (len a2625.Edges)) :: .test (beqb (ine a2624.N a2625.N) false) true :: .test (ine a2624.N a2625.N) false :: l) := fun z => ⟨(beqb_ff (ine_t h2626)), (beqb_ff (ine_t h2626)), (beqb_ff (ine_t h2626)), rfl, (beqb_ff (ine_t h2626)), (beqb_ff (ine_t h2626)), (beqb_ff (ine_t h2626)), rfl, (beqb_ff (ine_t h2626)), (ine_t h2626), z⟩
    refine cond_some hF (fun h2627 hF => ?_) (fun h2627 hF => ?_)
    ·
      refine bind_some hF (fun y2653 h2652 hF => ?_)
      refine sum_some hF (fun w2654 hx hF => ?_) (fun w2655 hx hF => ?_)
      ·
        subst hx
        have hr := Option.some.inj hF
        subst hr
        have pz : HoldAll E H hn70 [.test (ine (nlen (len a2624.Edges)) (nlen (len a2625.Edges))) false, .loop 0 c70_0 (F70_l0_0_S a2624 a2625 0) .ret (F70_l0_0_X0 a2624 a2625 w2654)] := ⟨(ine_t h2627), (F70_l0_0_ok K a2624 a2625 K 0 _ h2652), trivial⟩
        exact fn_playC hn70 (f := 70) (ads := [.agg (eGGraph a2624), .agg (eGGraph a2625)]) (r := F70_res false) (pq2656 pz) (by kernel_rfl) (by kernel_rfl)
      subst hx
      have hr := Option.some.inj hF
      subst hr
      have pz : HoldAll E H hn70 [.test (ine (nlen (len a2624.Edges)) (nlen (len a2625.Edges))) false, .loop 0 c70_0 (F70_l0_0_S a2624 a2625 0) (.exit 0) (F70_l0_0_X1 a2624 a2625 w2655)] := ⟨(ine_t h2627), (F70_l0_0_ok K a2624 a2625 K 0 _ h2652), trivial⟩
      exact fn_playC hn70 (f := 70) (ads := [.agg (eGGraph a2624), .agg (eGGraph a2625)]) (r := F70_res true) (pq2656 pz) (by kernel_rfl) (by kernel_rfl)
    have hr := Option.some.inj hF
    subst hr
    have pz : HoldAll E H hn70 [.test (ine (nlen (len a2624.Edges)) (nlen (len a2625.Edges))) true] := ⟨(ine_f h2627), trivial⟩
    exact fn_playC hn70 (f := 70) (ads := [.agg (eGGraph a2624), .agg (eGGraph a2625)]) (r := F70_res false) (pq2656 pz) (by kernel_rfl) (by kernel_rfl)
  have hr := Option.some.inj hF
  subst hr
  have pz : HoldAll E H hn70 [.test (beqb (ine a2624.N a2625.N) false) false, .test (beqb (ine a2624.N a2625.N) false) false, .test (beqb (ine a2624.N a2625.N) false) false, .test (beqb (ine a2624.N a2625.N) false) false, .test (beqb (ine a2624.N a2625.N) false) false, .test (beqb (ine a2624.N a2625.N) false) false, .test (beqb (ine a2624.N a2625.N) false) false, .test (ine a2624.N a2625.N) true, .test true true] := ⟨(beqb_ft (ine_f h2626)), (beqb_ft (ine_f h2626)), (beqb_ft (ine_f h2626)), (beqb_ft (ine_f h2626)), (beqb_ft (ine_f h2626)), (beqb_ft (ine_f h2626)), (beqb_ft (ine_f h2626)), (ine_f h2626), rfl, trivial⟩
  exact fn_playC hn70 (f := 70) (ads := [.agg (eGGraph a2624), .agg (eGGraph a2625)]) (r := F70_res false) pz (by kernel_rfl) (by kernel_rfl)

end Go.Proofs.Ytnjanliihnadjaa.Tm

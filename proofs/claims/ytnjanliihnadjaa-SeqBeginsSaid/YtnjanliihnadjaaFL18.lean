/- Printed by program: what each function computes, and that the machine answers so. Conditions: none. -/
import Derived.Test.YtnjanliihnadjaaTy
import Derived.Test.YtnjanliihnadjaaTab
import Derived.Test.YtnjanliihnadjaaKn
import Derived.Test.YtnjanliihnadjaaFE
import Derived.Test.YtnjanliihnadjaaFQ
import Derived.Test.YtnjanliihnadjaaFQj
import Derived.Test.YtnjanliihnadjaaFQr
import Derived.KernelRfl
set_option linter.unusedVariables false
set_option linter.unusedSimpArgs false
namespace Go.Proofs.Ytnjanliihnadjaa.Tm
open Go
/-! ### haywain/haywainlaw07.PartJoins -/
noncomputable def hn18 : Hint := { H 18 with nt := 57, prot := 0 }
noncomputable def c18_0 : Code := loopOf E 18 0
def F18_res (r3888 : Bool) : Res := ⟨[(.one (.im (.lit (.bool r3888))))], []⟩
def F18_l0_0 (K : Nat) (a3604 : GGraph) (a3605 : GJob) (a3606 : List GPart) : Nat → Int → Option ((Unit) ⊕ (Unit))
  | 0, _ => none
  | k + 1, v3618 =>
    bif (ilt v3618 (nlen (len a3606))) then
      (bif (inr v3618 (len a3606)) then
      (elAt a3606 v3618).bind fun x3621 =>
      (F79 K x3621).bind fun r3623 =>
      bif r3623 then
        (some (.inl ()))
      else
      F18_l0_0 K a3604 a3605 a3606 k (wadd .i64 v3618 1)
      else none)
    else
    some (.inr ())
def F18_l0_0_S (a3604 : GGraph) (a3605 : GJob) (a3606 : List GPart) (v3618 : Int) : TS := .on [128, 129, 192, 193, 194, 256, 257, 258, 259, 260, 448, 449] [(128, ⟨.one, 0, nob⟩), (129, ⟨.im, 0, (.sl (len a3606) (flat eGPart a3606))⟩), (192, ⟨(.box 62 2), 0, nob⟩), (193, ⟨.im, 0, (.lit (.int .i64 a3604.N))⟩), (194, ⟨.im, 0, (.sl (len a3604.Edges) (flat eGEdge a3604.Edges))⟩), (256, ⟨(.box 64 4), 0, nob⟩), (257, ⟨.im, 0, (.lit (.int .i64 a3605.Prog))⟩), (258, ⟨.im, 0, (.lit (.int .i64 a3605.Source))⟩), (259, ⟨.im, 0, (.lit (.int .i64 a3605.Limit))⟩), (260, ⟨.im, 0, (.lit (.int .i64 a3605.Parts))⟩), (448, ⟨.one, 0, nob⟩), (449, ⟨.im, 0, (.lit (.int .i64 v3618))⟩)]
def F18_l0_0_X0 (a3604 : GGraph) (a3605 : GJob) (a3606 : List GPart) (w3626 : Unit) : TS := .on [384, 385] [(384, ⟨.one, 0, nob⟩), (385, ⟨.im, 0, (.lit (.bool true))⟩)]
def F18_l0_0_X1 (a3604 : GGraph) (a3605 : GJob) (a3606 : List GPart) (w3627 : Unit) : TS := .on [128, 129, 192, 193, 194, 256, 257, 258, 259, 260] [(128, ⟨.one, 0, nob⟩), (129, ⟨.im, 0, (.sl (len a3606) (flat eGPart a3606))⟩), (192, ⟨(.box 62 2), 0, nob⟩), (193, ⟨.im, 0, (.lit (.int .i64 a3604.N))⟩), (194, ⟨.im, 0, (.sl (len a3604.Edges) (flat eGEdge a3604.Edges))⟩), (256, ⟨(.box 64 4), 0, nob⟩), (257, ⟨.im, 0, (.lit (.int .i64 a3605.Prog))⟩), (258, ⟨.im, 0, (.lit (.int .i64 a3605.Source))⟩), (259, ⟨.im, 0, (.lit (.int .i64 a3605.Limit))⟩), (260, ⟨.im, 0, (.lit (.int .i64 a3605.Parts))⟩)]
theorem F18_l0_0_ok (K : Nat) (a3604 : GGraph) (a3605 : GJob) (a3606 : List GPart) : ∀ (k : Nat) (v3618 : Int) (r : (Unit) ⊕ (Unit)), F18_l0_0 K a3604 a3605 a3606 k v3618 = some r → (Sum.elim (fun w => LoopEv E H hn18 0 c18_0 (F18_l0_0_S a3604 a3605 a3606 v3618) .ret (F18_l0_0_X0 a3604 a3605 a3606 w)) (fun w => LoopEv E H hn18 0 c18_0 (F18_l0_0_S a3604 a3605 a3606 v3618) (.exit 0) (F18_l0_0_X1 a3604 a3605 a3606 w))) r := by
  intro k
  induction k with
  | zero => intro v3618 r hF; cases hF
  | succ k ih =>
    intro v3618 r hF
    rw [F18_l0_0] at hF
    refine cond_some hF (fun h3619 hF => ?_) (fun h3619 hF => ?_)
    ·
      refine cond_some hF (fun h3620 hF => ?_) (fun _ hF => nomatch hF)
      refine bind_some hF (fun x3621 h3622 hF => ?_)
      refine bind_some hF (fun r3623 h3624 hF => ?_)
      have pq3628 : ∀ {l : List Cond}, HoldAll E H hn18 l → HoldAll E H hn18 (.int (nlen (len a3606)) (nlen (len a3606)) :: .test (ilt v3618 (nlen (len a3606))) true :: .test (inr v3618 (len a3606)) true :: .sub (flat eGPart a3606) (nidx v3618 5) 5 [(.lit (.int .i64 x3621.P)), (.lit (.int .i64 x3621.Step)), (.sl (len x3621.Vals) (flat (eInt .i64) x3621.Vals)), (.sl (len x3621.Rest) (flat eBool x3621.Rest)), (.sl (len x3621.In) (flat eGMsg x3621.In))] :: .call 79 [.agg (eGPart x3621)] (F79_res r3623) :: .test (leadsAny (Res.mk [(.one (.im (.lit (.bool r3623))))] [])) false :: l) := fun z => ⟨rfl, h3619, h3620, ⟨rfl, sub_flat0 eGPart_len h3622 5 (by decide)⟩, (F79_ok K x3621 _ h3624), (leads_ok (by simp only [leadsAny, List.any_cons, List.any_nil, RV.leads, RC.leads, leadsT, hasSl_lit, Bool.or_false, flat_ns (eInt_ns _), flat_ns eBool_ns, flat_ns eStr_ns, flat_ns eGJob_ns, flat_ns eGEdge_ns, flat_ns eGAsked_ns, flat_ns eGMsg_ns, flat_ns eGrule_ns, flat_ns eGA199_ns, flat_ns eGA202_ns])), z⟩
      refine cond_some hF (fun h3625 hF => ?_) (fun h3625 hF => ?_)
      ·
        have hr := Option.some.inj hF
        subst hr
        have pz : HoldAll E H hn18 [.test r3623 true, .call 74 [] (Res.mk [(.one (.im (.lit (.bool true))))] []), .test (leadsAny (Res.mk [(.one (.im (.lit (.bool true))))] [])) false] := ⟨h3625, knows74, (leads_ok (by simp only [leadsAny, List.any_cons, List.any_nil, RV.leads, RC.leads, leadsT, hasSl_lit, Bool.or_false, flat_ns (eInt_ns _), flat_ns eBool_ns, flat_ns eStr_ns, flat_ns eGJob_ns, flat_ns eGEdge_ns, flat_ns eGAsked_ns, flat_ns eGMsg_ns, flat_ns eGrule_ns, flat_ns eGA199_ns, flat_ns eGA202_ns])), trivial⟩
        exact loop_endC (h := hn18) (l := 0) (c := c18_0) (ts := F18_l0_0_S a3604 a3605 a3606 v3618) (ts' := F18_l0_0_X0 a3604 a3605 a3606 ()) (ex := .ret) (pq3628 pz) (by kernel_rfl) trivial
      have pz : HoldAll E H hn18 [.test r3623 false, .int (wadd .i64 v3618 1) (wadd .i64 v3618 1)] := ⟨h3625, rfl, trivial⟩
      have h0 := ih _ _ hF
      have hn := fun ex ts' => loop_nextC (h := hn18) (l := 0) (c := c18_0) (ts := F18_l0_0_S a3604 a3605 a3606 v3618) (ts1 := (F18_l0_0_S a3604 a3605 a3606 (wadd .i64 v3618 1))) (ex := ex) (ts' := ts') (pq3628 pz) (by kernel_rfl)
      cases r with
      | inl w => exact hn _ _ h0
      | inr w => exact hn _ _ h0
    have hr := Option.some.inj hF
    subst hr
    have pz : HoldAll E H hn18 [.int (nlen (len a3606)) (nlen (len a3606)), .test (ilt v3618 (nlen (len a3606))) false] := ⟨rfl, h3619, trivial⟩
    exact loop_endC (h := hn18) (l := 0) (c := c18_0) (ts := F18_l0_0_S a3604 a3605 a3606 v3618) (ts' := F18_l0_0_X1 a3604 a3605 a3606 ()) (ex := (.exit 0)) pz (by kernel_rfl) trivial

def F18 (K : Nat) (a3604 : GGraph) (a3605 : GJob) (a3606 : List GPart) : Option (Bool) :=
  (F73 K a3604).bind fun r3607 =>
  bif r3607 then
    (some true)
  else
  bif (ilt 20 (nlen (len a3606))) then
    (some true)
  else
  (F18_l0_0 K a3604 a3605 a3606 K 0).bind fun y3630 =>
  Sum.elim (fun w3631 =>
    some true)
    (fun w3632 =>
    (F85 K a3604 a3605 a3606).bind fun r3738 =>
    (F86 K a3604 a3605 a3606).bind fun r3865 =>
    (F87 K r3738.1 r3865.1).bind fun r3881 =>
    bif r3881 then
      (bif (ieq r3738.2 r3865.2) then
        (some true)
      else
      some false)
    else
    some false) y3630
theorem F18_ok (K : Nat) (a3604 : GGraph) (a3605 : GJob) (a3606 : List GPart) (r : Bool) (hF : F18 K a3604 a3605 a3606 = some r) : Evt E H 18 [.agg (eGGraph a3604), .agg (eGJob a3605), .one (.sl (len a3606) (flat eGPart a3606))] (F18_res r) := by
  rw [F18] at hF
  refine bind_some hF (fun r3607 h3608 hF => ?_)
  refine cond_some hF (fun h3609 hF => ?_) (fun h3609 hF => ?_)
  ·
    have hr := Option.some.inj hF
    subst hr
    have pz : HoldAll E H hn18 [.call 73 [.agg (eGGraph a3604)] (F73_res r3607), .test (leadsAny (Res.mk [(.one (.im (.lit (.bool r3607))))] [])) false, .test (beqb r3607 false) false, .test (beqb r3607 false) false, .test (beqb r3607 false) false, .test r3607 true, .test true true, .call 74 [] (Res.mk [(.one (.im (.lit (.bool true))))] []), .test (leadsAny (Res.mk [(.one (.im (.lit (.bool true))))] [])) false] := ⟨(F73_ok K a3604 _ h3608), (leads_ok (by simp only [leadsAny, List.any_cons, List.any_nil, RV.leads, RC.leads, leadsT, hasSl_lit, Bool.or_false, flat_ns (eInt_ns _), flat_ns eBool_ns, flat_ns eStr_ns, flat_ns eGJob_ns, flat_ns eGEdge_ns, flat_ns eGAsked_ns, flat_ns eGMsg_ns, flat_ns eGrule_ns, flat_ns eGA199_ns, flat_ns eGA202_ns])), (beqb_ft h3609), (beqb_ft h3609), (beqb_ft h3609), h3609, rfl, knows74, (leads_ok (by simp only [leadsAny, List.any_cons, List.any_nil, RV.leads, RC.leads, leadsT, hasSl_lit, Bool.or_false, flat_ns (eInt_ns _), flat_ns eBool_ns, flat_ns eStr_ns, flat_ns eGJob_ns, flat_ns eGEdge_ns, flat_ns eGAsked_ns, flat_ns eGMsg_ns, flat_ns eGrule_ns, flat_ns eGA199_ns, flat_ns eGA202_ns])), trivial⟩
    exact fn_playC hn18 (f := 18) (ads := [.agg (eGGraph a3604), .agg (eGJob a3605), .one (.sl (len a3606) (flat eGPart a3606))]) (r := F18_res true) pz (by kernel_rfl) (by kernel_rfl)
  have pq3885 : ∀ {l : List Cond}, HoldAll E H hn18 l → HoldAll E H hn18 (.call 73 [.agg (eGGraph a3604)] (F73_res r3607) :: .test (leadsAny (Res.mk [(.one (.im (.lit (.bool r3607))))] [])) false :: .test (beqb r3607 false) true :: .test (beqb r3607 false) true :: .int (nlen (len a3606)) (nlen (len a3606)) :: .test (beqb r3607 false) true :: .test r3607 false :: l) := fun z => ⟨(F73_ok K a3604 _ h3608), (leads_ok (by simp only [leadsAny, List.any_cons, List.any_nil, RV.leads, RC.leads, leadsT, hasSl_lit, Bool.or_false, flat_ns (eInt_ns _), flat_ns eBool_ns, flat_ns eStr_ns, flat_ns eGJob_ns, flat_ns eGEdge_ns, flat_ns eGAsked_ns, flat_ns eGMsg_ns, flat_ns eGrule_ns, flat_ns eGA199_ns, flat_ns eGA202_ns])), (beqb_ff h3609), (beqb_ff h3609), rfl, (beqb_ff h3609), h3609, z⟩
  refine cond_some hF (fun h3610 hF => ?_) (fun h3610 hF => ?_)
  ·
    have hr := Option.some.inj hF
    subst hr
    have pz : HoldAll E H hn18 [.test (igt (nlen (len a3606)) 20) true, .call 74 [] (Res.mk [(.one (.im (.lit (.bool true))))] []), .test (leadsAny (Res.mk [(.one (.im (.lit (.bool true))))] [])) false] := ⟨(igt_eq h3610), knows74, (leads_ok (by simp only [leadsAny, List.any_cons, List.any_nil, RV.leads, RC.leads, leadsT, hasSl_lit, Bool.or_false, flat_ns (eInt_ns _), flat_ns eBool_ns, flat_ns eStr_ns, flat_ns eGJob_ns, flat_ns eGEdge_ns, flat_ns eGAsked_ns, flat_ns eGMsg_ns, flat_ns eGrule_ns, flat_ns eGA199_ns, flat_ns eGA202_ns])), trivial⟩
    exact fn_playC hn18 (f := 18) (ads := [.agg (eGGraph a3604), .agg (eGJob a3605), .one (.sl (len a3606) (flat eGPart a3606))]) (r := F18_res true) (pq3885 pz) (by kernel_rfl) (by kernel_rfl)
  refine bind_some hF (fun y3630 h3629 hF => ?_)
  refine sum_some hF (fun w3631 hx hF => ?_) (fun w3632 hx hF => ?_)
  ·
    subst hx
    have hr := Option.some.inj hF
    subst hr
    have pz : HoldAll E H hn18 [.test (igt (nlen (len a3606)) 20) false, .loop 0 c18_0 (F18_l0_0_S a3604 a3605 a3606 0) .ret (F18_l0_0_X0 a3604 a3605 a3606 w3631)] := ⟨(igt_eq h3610), (F18_l0_0_ok K a3604 a3605 a3606 K 0 _ h3629), trivial⟩
    exact fn_playC hn18 (f := 18) (ads := [.agg (eGGraph a3604), .agg (eGJob a3605), .one (.sl (len a3606) (flat eGPart a3606))]) (r := F18_res true) (pq3885 pz) (by kernel_rfl) (by kernel_rfl)
  subst hx
  refine bind_some hF (fun r3738 h3739 hF => ?_)
  refine bind_some hF (fun r3865 h3866 hF => ?_)
  refine bind_some hF (fun r3881 h3882 hF => ?_)
  have pq3886 : ∀ {l : List Cond}, HoldAll E H hn18 l → HoldAll E H hn18 (.test (igt (nlen (len a3606)) 20) false :: .loop 0 c18_0 (F18_l0_0_S a3604 a3605 a3606 0) (.exit 0) (F18_l0_0_X1 a3604 a3605 a3606 w3632) :: .call 85 [.agg (eGGraph a3604), .agg (eGJob a3605), .one (.sl (len a3606) (flat eGPart a3606))] (F85_res r3738) :: .test (leadsAny (Res.mk [(.agg [(.im (.lit (.int .i64 r3738.1.Step))), (.own 2 (.sl (len r3738.1.Vals) (flat (eInt .i64) r3738.1.Vals))), (.own 4 (.sl (len r3738.1.Rest) (flat eBool r3738.1.Rest))), (.own 130 (.sl (len r3738.1.In) (flat eGMsg r3738.1.In)))]), (.one (.im (.lit (.int .i64 r3738.2))))] [])) false :: .call 86 [.agg (eGGraph a3604), .agg (eGJob a3605), .one (.sl (len a3606) (flat eGPart a3606))] (F86_res r3865) :: .test (leadsAny (Res.mk [(.agg [(.im (.lit (.int .i64 r3865.1.Step))), (.own 2 (.sl (len r3865.1.Vals) (flat (eInt .i64) r3865.1.Vals))), (.own 4 (.sl (len r3865.1.Rest) (flat eBool r3865.1.Rest))), (.own 130 (.sl (len r3865.1.In) (flat eGMsg r3865.1.In)))]), (.one (.im (.lit (.int .i64 r3865.2))))] [])) false :: .call 87 [.agg (eGState r3738.1), .agg (eGState r3865.1)] (F87_res r3881) :: .test (leadsAny (Res.mk [(.one (.im (.lit (.bool r3881))))] [])) false :: l) := fun z => ⟨(igt_eq h3610), (F18_l0_0_ok K a3604 a3605 a3606 K 0 _ h3629), (F85_ok K a3604 a3605 a3606 _ h3739), (leads_ok (by simp only [leadsAny, List.any_cons, List.any_nil, RV.leads, RC.leads, leadsT, hasSl_lit, Bool.or_false, flat_ns (eInt_ns _), flat_ns eBool_ns, flat_ns eStr_ns, flat_ns eGJob_ns, flat_ns eGEdge_ns, flat_ns eGAsked_ns, flat_ns eGMsg_ns, flat_ns eGrule_ns, flat_ns eGA199_ns, flat_ns eGA202_ns])), (F86_ok K a3604 a3605 a3606 _ h3866), (leads_ok (by simp only [leadsAny, List.any_cons, List.any_nil, RV.leads, RC.leads, leadsT, hasSl_lit, Bool.or_false, flat_ns (eInt_ns _), flat_ns eBool_ns, flat_ns eStr_ns, flat_ns eGJob_ns, flat_ns eGEdge_ns, flat_ns eGAsked_ns, flat_ns eGMsg_ns, flat_ns eGrule_ns, flat_ns eGA199_ns, flat_ns eGA202_ns])), (F87_ok K r3738.1 r3865.1 _ h3882), (leads_ok (by simp only [leadsAny, List.any_cons, List.any_nil, RV.leads, RC.leads, leadsT, hasSl_lit, Bool.or_false, flat_ns (eInt_ns _), flat_ns eBool_ns, flat_ns eStr_ns, flat_ns eGJob_ns, flat_ns eGEdge_ns, flat_ns eGAsked_ns, flat_ns eGMsg_ns, flat_ns eGrule_ns, flat_ns eGA199_ns, flat_ns eGA202_ns])), z⟩
  refine cond_some hF (fun h3883 hF => ?_) (fun h3883 hF => ?_)
  ·
    have pq3887 : ∀ {l : List Cond}, HoldAll E H hn18 l → HoldAll E H hn18 (.test (beqb r3881 true) true :: .test (beqb r3881 true) true :: .test (beqb r3881 true) true :: .test r3881 true :: l) := fun z => ⟨(beqb_t h3883), (beqb_t h3883), (beqb_t h3883), h3883, z⟩
    refine cond_some hF (fun h3884 hF => ?_) (fun h3884 hF => ?_)
    ·
      have hr := Option.some.inj hF
      subst hr
      have pz : HoldAll E H hn18 [.test (beqb (ieq r3738.2 r3865.2) true) true, .call 74 [] (Res.mk [(.one (.im (.lit (.bool true))))] []), .test (leadsAny (Res.mk [(.one (.im (.lit (.bool true))))] [])) false, .test (ieq r3738.2 r3865.2) true] := ⟨(beqb_t h3884), knows74, (leads_ok (by simp only [leadsAny, List.any_cons, List.any_nil, RV.leads, RC.leads, leadsT, hasSl_lit, Bool.or_false, flat_ns (eInt_ns _), flat_ns eBool_ns, flat_ns eStr_ns, flat_ns eGJob_ns, flat_ns eGEdge_ns, flat_ns eGAsked_ns, flat_ns eGMsg_ns, flat_ns eGrule_ns, flat_ns eGA199_ns, flat_ns eGA202_ns])), h3884, trivial⟩
      exact fn_playC hn18 (f := 18) (ads := [.agg (eGGraph a3604), .agg (eGJob a3605), .one (.sl (len a3606) (flat eGPart a3606))]) (r := F18_res true) (pq3885 (pq3886 (pq3887 pz))) (by kernel_rfl) (by kernel_rfl)
    have hr := Option.some.inj hF
    subst hr
    have pz : HoldAll E H hn18 [.test (beqb (ieq r3738.2 r3865.2) true) false, .test (ieq r3738.2 r3865.2) false] := ⟨(beqb_t h3884), h3884, trivial⟩
    exact fn_playC hn18 (f := 18) (ads := [.agg (eGGraph a3604), .agg (eGJob a3605), .one (.sl (len a3606) (flat eGPart a3606))]) (r := F18_res false) (pq3885 (pq3886 (pq3887 pz))) (by kernel_rfl) (by kernel_rfl)
  have hr := Option.some.inj hF
  subst hr
  have pz : HoldAll E H hn18 [.test (beqb r3881 true) false, .test (beqb r3881 true) false, .test (beqb r3881 true) false, .test r3881 false, .test (beqb false true) false, .test false false] := ⟨(beqb_t h3883), (beqb_t h3883), (beqb_t h3883), h3883, (beqb_t rfl), rfl, trivial⟩
  exact fn_playC hn18 (f := 18) (ads := [.agg (eGGraph a3604), .agg (eGJob a3605), .one (.sl (len a3606) (flat eGPart a3606))]) (r := F18_res false) (pq3885 (pq3886 pz)) (by kernel_rfl) (by kernel_rfl)

end Go.Proofs.Ytnjanliihnadjaa.Tm

/- Printed by program: what each function computes, and that the machine answers so. Conditions: none. -/
import Derived.Test.YtnjanliihnadjaaTy
import Derived.Test.YtnjanliihnadjaaTab
import Derived.Test.YtnjanliihnadjaaKn
import Derived.Test.YtnjanliihnadjaaFO
import Derived.Test.YtnjanliihnadjaaFSa
import Derived.Test.YtnjanliihnadjaaFSt
import Derived.KernelRfl
set_option linter.unusedVariables false
set_option linter.unusedSimpArgs false
namespace Go.Proofs.Ytnjanliihnadjaa.Tm
open Go
/-! ### haywain/haywainlaw04.ProgRises -/
noncomputable def hn26 : Hint := { H 26 with nt := 98, prot := 0 }
noncomputable def c26_0 : Code := loopOf E 26 0
def F26_res (r5007 : Bool) : Res := ⟨[(.one (.im (.lit (.bool r5007))))], []⟩
def F26_l0_0 (K : Nat) (v4903 : List GMsg) (v4904 : List GEdge) : Nat → Int → Option ((Unit) ⊕ (Unit))
  | 0, _ => none
  | k + 1, v4913 =>
    bif (ilt v4913 (nlen (len v4903))) then
      (bif (inr v4913 (len v4903)) then
      (elAt v4903 v4913).bind fun x4916 =>
      bif (inr v4913 (len v4904)) then
      (elAt v4904 v4913).bind fun x4919 =>
      bif (ieq x4916.To x4919.To) then
        (F26_l0_0 K v4903 v4904 k (wadd .i64 v4913 1))
      else
      some (.inl ())
      else none
      else none)
    else
    some (.inr ())
def F26_l0_0_S (v4903 : List GMsg) (v4904 : List GEdge) (v4913 : Int) : TS := .on [512, 513, 704, 705, 768, 769] [(512, ⟨.one, 0, nob⟩), (513, ⟨(.own 130), 0, (.sl (len v4903) (flat eGMsg v4903))⟩), (704, ⟨.one, 0, nob⟩), (705, ⟨(.own 89), 0, (.sl (len v4904) (flat eGEdge v4904))⟩), (768, ⟨.one, 0, nob⟩), (769, ⟨.im, 0, (.lit (.int .i64 v4913))⟩)]
def F26_l0_0_X0 (v4903 : List GMsg) (v4904 : List GEdge) (w4922 : Unit) : TS := .on [384, 385] [(384, ⟨.one, 0, nob⟩), (385, ⟨.im, 0, (.lit (.bool false))⟩)]
def F26_l0_0_X1 (v4903 : List GMsg) (v4904 : List GEdge) (w4923 : Unit) : TS := .on [] []
theorem F26_l0_0_ok (K : Nat) (v4903 : List GMsg) (v4904 : List GEdge) : ∀ (k : Nat) (v4913 : Int) (r : (Unit) ⊕ (Unit)), F26_l0_0 K v4903 v4904 k v4913 = some r → (Sum.elim (fun w => LoopEv E H hn26 0 c26_0 (F26_l0_0_S v4903 v4904 v4913) .ret (F26_l0_0_X0 v4903 v4904 w)) (fun w => LoopEv E H hn26 0 c26_0 (F26_l0_0_S v4903 v4904 v4913) (.exit 0) (F26_l0_0_X1 v4903 v4904 w))) r := by
  intro k
  induction k with
  | zero => intro v4913 r hF; cases hF
  | succ k ih =>
    intro v4913 r hF
    rw [F26_l0_0] at hF
    refine cond_some hF (fun h4914 hF => ?_) (fun h4914 hF => ?_)
    ·
      refine cond_some hF (fun h4915 hF => ?_) (fun _ hF => nomatch hF)
      refine bind_some hF (fun x4916 h4917 hF => ?_)
      refine cond_some hF (fun h4918 hF => ?_) (fun _ hF => nomatch hF)
      refine bind_some hF (fun x4919 h4920 hF => ?_)
      have pq4924 : ∀ {l : List Cond}, HoldAll E H hn26 l → HoldAll E H hn26 (.int (nlen (len v4903)) (nlen (len v4903)) :: .test (ilt v4913 (nlen (len v4903))) true :: .test (inr v4913 (len v4903)) true :: .sub (flat eGMsg v4903) (nadd (nidx v4913 2) 0) 1 [(.lit (.int .i64 x4916.To))] :: .test (inr v4913 (len v4904)) true :: .sub (flat eGEdge v4904) (nadd (nidx v4913 3) 1) 1 [(.lit (.int .i64 x4919.To))] :: l) := fun z => ⟨rfl, h4914, h4915, ⟨rfl, sub_flat eGMsg_len h4917 0 1 (by decide)⟩, h4918, ⟨rfl, sub_flat eGEdge_len h4920 1 1 (by decide)⟩, z⟩
      refine cond_some hF (fun h4921 hF => ?_) (fun h4921 hF => ?_)
      ·
        have pz : HoldAll E H hn26 [.test (ine x4916.To x4919.To) false, .int (wadd .i64 v4913 1) (wadd .i64 v4913 1)] := ⟨(ine_t h4921), rfl, trivial⟩
        have h0 := ih _ _ hF
        have hn := fun ex ts' => loop_nextC (h := hn26) (l := 0) (c := c26_0) (ts := F26_l0_0_S v4903 v4904 v4913) (ts1 := (F26_l0_0_S v4903 v4904 (wadd .i64 v4913 1))) (ex := ex) (ts' := ts') (pq4924 pz) (by kernel_rfl)
        cases r with
        | inl w => exact hn _ _ h0
        | inr w => exact hn _ _ h0
      have hr := Option.some.inj hF
      subst hr
      have pz : HoldAll E H hn26 [.test (ine x4916.To x4919.To) true] := ⟨(ine_f h4921), trivial⟩
      exact loop_endC (h := hn26) (l := 0) (c := c26_0) (ts := F26_l0_0_S v4903 v4904 v4913) (ts' := F26_l0_0_X0 v4903 v4904 ()) (ex := .ret) (pq4924 pz) (by kernel_rfl) trivial
    have hr := Option.some.inj hF
    subst hr
    have pz : HoldAll E H hn26 [.int (nlen (len v4903)) (nlen (len v4903)), .test (ilt v4913 (nlen (len v4903))) false] := ⟨rfl, h4914, trivial⟩
    exact loop_endC (h := hn26) (l := 0) (c := c26_0) (ts := F26_l0_0_S v4903 v4904 v4913) (ts' := F26_l0_0_X1 v4903 v4904 ()) (ex := (.exit 0)) pz (by kernel_rfl) trivial

def F26 (K : Nat) (a4887 : GGraph) (a4888 : GJob) (a4889 : GAsked) : Option (Bool) :=
  (F92 K a4887).bind fun r4890 =>
  bif r4890 then
    (some true)
  else
  (F99 K a4887 a4888 a4889.Step a4889.V a4889.Val a4889.Got a4889.Some).bind fun r4893 =>
  bif (ieq r4893.2.2.2 0) then
    (bif (ieq a4888.Prog 4) then
      (bif (ilt r4893.1 a4889.Val) then
        (some false)
      else
      bif (ilt a4888.Prog 4) then
        (bif (ilt a4889.Val r4893.1) then
          (some false)
        else
        (F69 K a4887 a4889.V).bind fun r4900 =>
        bif (ieq (nlen (len r4893.2.1)) 0) then
          ((F26_l0_0 K r4893.2.1 r4900 K 0).bind fun y4926 =>
          Sum.elim (fun w4927 =>
            some false)
            (fun w4928 =>
            some true) y4926)
        else
        bif (ieq (nlen (len r4893.2.1)) (nlen (len r4900))) then
          ((F26_l0_0 K r4893.2.1 r4900 K 0).bind fun y4933 =>
          Sum.elim (fun w4934 =>
            some false)
            (fun w4935 =>
            some true) y4933)
        else
        some false)
      else
      (F69 K a4887 a4889.V).bind fun r4936 =>
      bif (ieq (nlen (len r4893.2.1)) 0) then
        ((F26_l0_0 K r4893.2.1 r4936 K 0).bind fun y4942 =>
        Sum.elim (fun w4943 =>
          some false)
          (fun w4944 =>
          some true) y4942)
      else
      bif (ieq (nlen (len r4893.2.1)) (nlen (len r4936))) then
        ((F26_l0_0 K r4893.2.1 r4936 K 0).bind fun y4949 =>
        Sum.elim (fun w4950 =>
          some false)
          (fun w4951 =>
          some true) y4949)
      else
      some false)
    else
    bif (ilt a4888.Prog 4) then
      (bif (ilt a4889.Val r4893.1) then
        (some false)
      else
      (F69 K a4887 a4889.V).bind fun r4954 =>
      bif (ieq (nlen (len r4893.2.1)) 0) then
        ((F26_l0_0 K r4893.2.1 r4954 K 0).bind fun y4960 =>
        Sum.elim (fun w4961 =>
          some false)
          (fun w4962 =>
          some true) y4960)
      else
      bif (ieq (nlen (len r4893.2.1)) (nlen (len r4954))) then
        ((F26_l0_0 K r4893.2.1 r4954 K 0).bind fun y4967 =>
        Sum.elim (fun w4968 =>
          some false)
          (fun w4969 =>
          some true) y4967)
      else
      some false)
    else
    (F69 K a4887 a4889.V).bind fun r4970 =>
    bif (ieq (nlen (len r4893.2.1)) 0) then
      ((F26_l0_0 K r4893.2.1 r4970 K 0).bind fun y4976 =>
      Sum.elim (fun w4977 =>
        some false)
        (fun w4978 =>
        some true) y4976)
    else
    bif (ieq (nlen (len r4893.2.1)) (nlen (len r4970))) then
      ((F26_l0_0 K r4893.2.1 r4970 K 0).bind fun y4983 =>
      Sum.elim (fun w4984 =>
        some false)
        (fun w4985 =>
        some true) y4983)
    else
    some false)
  else
  bif (ieq r4893.1 0) then
    (bif (ieq (nlen (len r4893.2.1)) 0) then
      (some true)
    else
    some false)
  else
  some false
theorem F26_ok (K : Nat) (a4887 : GGraph) (a4888 : GJob) (a4889 : GAsked) (r : Bool) (hF : F26 K a4887 a4888 a4889 = some r) : Evt E H 26 [.agg (eGGraph a4887), .agg (eGJob a4888), .agg (eGAsked a4889)] (F26_res r) := by
  rw [F26] at hF
  refine bind_some hF (fun r4890 h4891 hF => ?_)
  refine cond_some hF (fun h4892 hF => ?_) (fun h4892 hF => ?_)
  ·
    have hr := Option.some.inj hF
    subst hr
    have pz : HoldAll E H hn26 [.call 92 [.agg (eGGraph a4887)] (F92_res r4890), .test (leadsAny (Res.mk [(.one (.im (.lit (.bool r4890))))] [])) false, .test r4890 true, .call 93 [] (Res.mk [(.one (.im (.lit (.bool true))))] []), .test (leadsAny (Res.mk [(.one (.im (.lit (.bool true))))] [])) false] := ⟨(F92_ok K a4887 _ h4891), (leads_ok (by simp only [leadsAny, List.any_cons, List.any_nil, RV.leads, RC.leads, leadsT, hasSl_lit, Bool.or_false, flat_ns (eInt_ns _), flat_ns eBool_ns, flat_ns eStr_ns, flat_ns eGJob_ns, flat_ns eGEdge_ns, flat_ns eGAsked_ns, flat_ns eGMsg_ns, flat_ns eGrule_ns, flat_ns eGA199_ns, flat_ns eGA202_ns])), h4892, knows93, (leads_ok (by simp only [leadsAny, List.any_cons, List.any_nil, RV.leads, RC.leads, leadsT, hasSl_lit, Bool.or_false, flat_ns (eInt_ns _), flat_ns eBool_ns, flat_ns eStr_ns, flat_ns eGJob_ns, flat_ns eGEdge_ns, flat_ns eGAsked_ns, flat_ns eGMsg_ns, flat_ns eGrule_ns, flat_ns eGA199_ns, flat_ns eGA202_ns])), trivial⟩
    exact fn_playC hn26 (f := 26) (ads := [.agg (eGGraph a4887), .agg (eGJob a4888), .agg (eGAsked a4889)]) (r := F26_res true) pz (by kernel_rfl) (by kernel_rfl)
  refine bind_some hF (fun r4893 h4894 hF => ?_)
  have pq4988 : ∀ {l : List Cond}, HoldAll E H hn26 l → HoldAll E H hn26 (.call 92 [.agg (eGGraph a4887)] (F92_res r4890) :: .test (leadsAny (Res.mk [(.one (.im (.lit (.bool r4890))))] [])) false :: .test r4890 false :: .call 99 [.agg (eGGraph a4887), .agg (eGJob a4888), .one (.lit (.int .i64 a4889.Step)), .one (.lit (.int .i64 a4889.V)), .one (.lit (.int .i64 a4889.Val)), .one (.lit (.int .i64 a4889.Got)), .one (.lit (.bool a4889.Some))] (F99_res r4893) :: .test (leadsAny (Res.mk [(.one (.im (.lit (.int .i64 r4893.1)))), (.one (.own 130 (.sl (len r4893.2.1) (flat eGMsg r4893.2.1)))), (.one (.im (.lit (.bool r4893.2.2.1)))), (.one (.im (.lit (.int .i64 r4893.2.2.2))))] [])) false :: l) := fun z => ⟨(F92_ok K a4887 _ h4891), (leads_ok (by simp only [leadsAny, List.any_cons, List.any_nil, RV.leads, RC.leads, leadsT, hasSl_lit, Bool.or_false, flat_ns (eInt_ns _), flat_ns eBool_ns, flat_ns eStr_ns, flat_ns eGJob_ns, flat_ns eGEdge_ns, flat_ns eGAsked_ns, flat_ns eGMsg_ns, flat_ns eGrule_ns, flat_ns eGA199_ns, flat_ns eGA202_ns])), h4892, (F99_ok K a4887 a4888 a4889.Step a4889.V a4889.Val a4889.Got a4889.Some _ h4894), (leads_ok (by simp only [leadsAny, List.any_cons, List.any_nil, RV.leads, RC.leads, leadsT, hasSl_lit, Bool.or_false, flat_ns (eInt_ns _), flat_ns eBool_ns, flat_ns eStr_ns, flat_ns eGJob_ns, flat_ns eGEdge_ns, flat_ns eGAsked_ns, flat_ns eGMsg_ns, flat_ns eGrule_ns, flat_ns eGA199_ns, flat_ns eGA202_ns])), z⟩
  refine cond_some hF (fun h4895 hF => ?_) (fun h4895 hF => ?_)
  ·
    refine cond_some hF (fun h4896 hF => ?_) (fun h4896 hF => ?_)
    ·
      have pq4989 : ∀ {l : List Cond}, HoldAll E H hn26 l → HoldAll E H hn26 (.test (ine r4893.2.2.2 0) false :: .test (beqb (ieq a4888.Prog 4) true) true :: .test (beqb (ieq a4888.Prog 4) true) true :: .test (beqb (ieq a4888.Prog 4) true) true :: .test (beqb (ieq a4888.Prog 4) true) true :: .test (ieq a4888.Prog 4) true :: l) := fun z => ⟨(ine_t h4895), (beqb_t h4896), (beqb_t h4896), (beqb_t h4896), (beqb_t h4896), h4896, z⟩
      refine cond_some hF (fun h4897 hF => ?_) (fun h4897 hF => ?_)
      ·
        have hr := Option.some.inj hF
        subst hr
        have pz : HoldAll E H hn26 [.test (beqb (ilt r4893.1 a4889.Val) false) false, .test (beqb (ilt r4893.1 a4889.Val) false) false, .test (beqb (ilt r4893.1 a4889.Val) false) false, .test (beqb (ilt r4893.1 a4889.Val) false) false, .test (beqb (ilt r4893.1 a4889.Val) false) false, .test (ilt r4893.1 a4889.Val) true, .test true true] := ⟨(beqb_ft h4897), (beqb_ft h4897), (beqb_ft h4897), (beqb_ft h4897), (beqb_ft h4897), h4897, rfl, trivial⟩
        exact fn_playC hn26 (f := 26) (ads := [.agg (eGGraph a4887), .agg (eGJob a4888), .agg (eGAsked a4889)]) (r := F26_res false) (pq4988 (pq4989 pz)) (by kernel_rfl) (by kernel_rfl)
      have pq4990 : ∀ {l : List Cond}, HoldAll E H hn26 l → HoldAll E H hn26 (.test (beqb (ilt r4893.1 a4889.Val) false) true :: .test (beqb (ilt r4893.1 a4889.Val) false) true :: .test (beqb (ilt r4893.1 a4889.Val) false) true :: .test (beqb (ilt r4893.1 a4889.Val) false) true :: l) := fun z => ⟨(beqb_ff h4897), (beqb_ff h4897), (beqb_ff h4897), (beqb_ff h4897), z⟩
      refine cond_some hF (fun h4898 hF => ?_) (fun h4898 hF => ?_)
      ·
        have pq4991 : ∀ {l : List Cond}, HoldAll E H hn26 l → HoldAll E H hn26 (.test (beqb (ilt a4888.Prog 4) true) true :: .test (beqb (ilt a4888.Prog 4) true) true :: .test (beqb (ilt a4888.Prog 4) true) true :: .test (beqb (ilt a4888.Prog 4) true) true :: .test (beqb (ilt r4893.1 a4889.Val) false) true :: .test (ilt a4888.Prog 4) true :: .test (ilt r4893.1 a4889.Val) false :: l) := fun z => ⟨(beqb_t h4898), (beqb_t h4898), (beqb_t h4898), (beqb_t h4898), (beqb_ff h4897), h4898, h4897, z⟩
        refine cond_some hF (fun h4899 hF => ?_) (fun h4899 hF => ?_)
        ·
          have hr := Option.some.inj hF
          subst hr
          have pz : HoldAll E H hn26 [.test (igt r4893.1 a4889.Val) true] := ⟨(igt_eq h4899), trivial⟩
          exact fn_playC hn26 (f := 26) (ads := [.agg (eGGraph a4887), .agg (eGJob a4888), .agg (eGAsked a4889)]) (r := F26_res false) (pq4988 (pq4989 (pq4990 (pq4991 pz)))) (by kernel_rfl) (by kernel_rfl)
        refine bind_some hF (fun r4900 h4901 hF => ?_)
        have pq4992 : ∀ {l : List Cond}, HoldAll E H hn26 l → HoldAll E H hn26 (.test (igt r4893.1 a4889.Val) false :: .call 69 [.agg (eGGraph a4887), .one (.lit (.int .i64 a4889.V))] (F69_res r4900) :: .test (leadsAny (Res.mk [(.one (.own 89 (.sl (len r4900) (flat eGEdge r4900))))] [])) false :: .int (nlen (len r4893.2.1)) (nlen (len r4893.2.1)) :: l) := fun z => ⟨(igt_eq h4899), (F69_ok K a4887 a4889.V _ h4901), (leads_ok (by simp only [leadsAny, List.any_cons, List.any_nil, RV.leads, RC.leads, leadsT, hasSl_lit, Bool.or_false, flat_ns (eInt_ns _), flat_ns eBool_ns, flat_ns eStr_ns, flat_ns eGJob_ns, flat_ns eGEdge_ns, flat_ns eGAsked_ns, flat_ns eGMsg_ns, flat_ns eGrule_ns, flat_ns eGA199_ns, flat_ns eGA202_ns])), rfl, z⟩
        refine cond_some hF (fun h4902 hF => ?_) (fun h4902 hF => ?_)
        ·
          have pq4993 : ∀ {l : List Cond}, HoldAll E H hn26 l → HoldAll E H hn26 (.test (beqb (ine (nlen (len r4893.2.1)) 0) true) false :: .test (beqb (ine (nlen (len r4893.2.1)) 0) true) false :: .test (beqb (ine (nlen (len r4893.2.1)) 0) true) false :: .test (beqb (ine (nlen (len r4893.2.1)) 0) true) false :: .test (beqb (ine (nlen (len r4893.2.1)) 0) true) false :: .test (ine (nlen (len r4893.2.1)) 0) false :: .test false false :: l) := fun z => ⟨(beqb_t (ine_t h4902)), (beqb_t (ine_t h4902)), (beqb_t (ine_t h4902)), (beqb_t (ine_t h4902)), (beqb_t (ine_t h4902)), (ine_t h4902), rfl, z⟩
          refine bind_some hF (fun y4926 h4925 hF => ?_)
          refine sum_some hF (fun w4927 hx hF => ?_) (fun w4928 hx hF => ?_)
          ·
            subst hx
            have hr := Option.some.inj hF
            subst hr
            have pz : HoldAll E H hn26 [.loop 0 c26_0 (F26_l0_0_S r4893.2.1 r4900 0) .ret (F26_l0_0_X0 r4893.2.1 r4900 w4927)] := ⟨(F26_l0_0_ok K r4893.2.1 r4900 K 0 _ h4925), trivial⟩
            exact fn_playC hn26 (f := 26) (ads := [.agg (eGGraph a4887), .agg (eGJob a4888), .agg (eGAsked a4889)]) (r := F26_res false) (pq4988 (pq4989 (pq4990 (pq4991 (pq4992 (pq4993 pz)))))) (by kernel_rfl) (by kernel_rfl)
          subst hx
          have hr := Option.some.inj hF
          subst hr
          have pz : HoldAll E H hn26 [.loop 0 c26_0 (F26_l0_0_S r4893.2.1 r4900 0) (.exit 0) (F26_l0_0_X1 r4893.2.1 r4900 w4928), .call 93 [] (Res.mk [(.one (.im (.lit (.bool true))))] []), .test (leadsAny (Res.mk [(.one (.im (.lit (.bool true))))] [])) false] := ⟨(F26_l0_0_ok K r4893.2.1 r4900 K 0 _ h4925), knows93, (leads_ok (by simp only [leadsAny, List.any_cons, List.any_nil, RV.leads, RC.leads, leadsT, hasSl_lit, Bool.or_false, flat_ns (eInt_ns _), flat_ns eBool_ns, flat_ns eStr_ns, flat_ns eGJob_ns, flat_ns eGEdge_ns, flat_ns eGAsked_ns, flat_ns eGMsg_ns, flat_ns eGrule_ns, flat_ns eGA199_ns, flat_ns eGA202_ns])), trivial⟩
          exact fn_playC hn26 (f := 26) (ads := [.agg (eGGraph a4887), .agg (eGJob a4888), .agg (eGAsked a4889)]) (r := F26_res true) (pq4988 (pq4989 (pq4990 (pq4991 (pq4992 (pq4993 pz)))))) (by kernel_rfl) (by kernel_rfl)
        have pq4994 : ∀ {l : List Cond}, HoldAll E H hn26 l → HoldAll E H hn26 (.test (beqb (ine (nlen (len r4893.2.1)) 0) true) true :: .test (beqb (ine (nlen (len r4893.2.1)) 0) true) true :: .int (nlen (len r4893.2.1)) (nlen (len r4893.2.1)) :: .test (beqb (ine (nlen (len r4893.2.1)) 0) true) true :: .test (beqb (ine (nlen (len r4893.2.1)) 0) true) true :: .int (nlen (len r4900)) (nlen (len r4900)) :: .test (beqb (ine (nlen (len r4893.2.1)) 0) true) true :: .test (ine (nlen (len r4893.2.1)) 0) true :: l) := fun z => ⟨(beqb_t (ine_f h4902)), (beqb_t (ine_f h4902)), rfl, (beqb_t (ine_f h4902)), (beqb_t (ine_f h4902)), rfl, (beqb_t (ine_f h4902)), (ine_f h4902), z⟩
        refine cond_some hF (fun h4929 hF => ?_) (fun h4929 hF => ?_)
        ·
          refine bind_some hF (fun y4933 h4932 hF => ?_)
          refine sum_some hF (fun w4934 hx hF => ?_) (fun w4935 hx hF => ?_)
          ·
            subst hx
            have hr := Option.some.inj hF
            subst hr
            have pz : HoldAll E H hn26 [.test (ine (nlen (len r4893.2.1)) (nlen (len r4900))) false, .loop 0 c26_0 (F26_l0_0_S r4893.2.1 r4900 0) .ret (F26_l0_0_X0 r4893.2.1 r4900 w4934)] := ⟨(ine_t h4929), (F26_l0_0_ok K r4893.2.1 r4900 K 0 _ h4932), trivial⟩
            exact fn_playC hn26 (f := 26) (ads := [.agg (eGGraph a4887), .agg (eGJob a4888), .agg (eGAsked a4889)]) (r := F26_res false) (pq4988 (pq4989 (pq4990 (pq4991 (pq4992 (pq4994 pz)))))) (by kernel_rfl) (by kernel_rfl)
          subst hx
          have hr := Option.some.inj hF
          subst hr
          have pz : HoldAll E H hn26 [.test (ine (nlen (len r4893.2.1)) (nlen (len r4900))) false, .loop 0 c26_0 (F26_l0_0_S r4893.2.1 r4900 0) (.exit 0) (F26_l0_0_X1 r4893.2.1 r4900 w4935), .call 93 [] (Res.mk [(.one (.im (.lit (.bool true))))] []), .test (leadsAny (Res.mk [(.one (.im (.lit (.bool true))))] [])) false] := ⟨(ine_t h4929), (F26_l0_0_ok K r4893.2.1 r4900 K 0 _ h4932), knows93, (leads_ok (by simp only [leadsAny, List.any_cons, List.any_nil, RV.leads, RC.leads, leadsT, hasSl_lit, Bool.or_false, flat_ns (eInt_ns _), flat_ns eBool_ns, flat_ns eStr_ns, flat_ns eGJob_ns, flat_ns eGEdge_ns, flat_ns eGAsked_ns, flat_ns eGMsg_ns, flat_ns eGrule_ns, flat_ns eGA199_ns, flat_ns eGA202_ns])), trivial⟩
          exact fn_playC hn26 (f := 26) (ads := [.agg (eGGraph a4887), .agg (eGJob a4888), .agg (eGAsked a4889)]) (r := F26_res true) (pq4988 (pq4989 (pq4990 (pq4991 (pq4992 (pq4994 pz)))))) (by kernel_rfl) (by kernel_rfl)
        have hr := Option.some.inj hF
        subst hr
        have pz : HoldAll E H hn26 [.test (ine (nlen (len r4893.2.1)) (nlen (len r4900))) true] := ⟨(ine_f h4929), trivial⟩
        exact fn_playC hn26 (f := 26) (ads := [.agg (eGGraph a4887), .agg (eGJob a4888), .agg (eGAsked a4889)]) (r := F26_res false) (pq4988 (pq4989 (pq4990 (pq4991 (pq4992 (pq4994 pz)))))) (by kernel_rfl) (by kernel_rfl)
      refine bind_some hF (fun r4936 h4937 hF => ?_)
      have pq4995 : ∀ {l : List Cond}, HoldAll E H hn26 l → HoldAll E H hn26 (.test (beqb (ilt a4888.Prog 4) true) false :: .test (beqb (ilt a4888.Prog 4) true) false :: .test (beqb (ilt a4888.Prog 4) true) false :: .test (beqb (ilt a4888.Prog 4) true) false :: .test (beqb (ilt r4893.1 a4889.Val) false) true :: .test (ilt a4888.Prog 4) false :: .test (ilt r4893.1 a4889.Val) false :: .test false false :: .call 69 [.agg (eGGraph a4887), .one (.lit (.int .i64 a4889.V))] (F69_res r4936) :: .test (leadsAny (Res.mk [(.one (.own 89 (.sl (len r4936) (flat eGEdge r4936))))] [])) false :: .int (nlen (len r4893.2.1)) (nlen (len r4893.2.1)) :: l) := fun z => ⟨(beqb_t h4898), (beqb_t h4898), (beqb_t h4898), (beqb_t h4898), (beqb_ff h4897), h4898, h4897, rfl, (F69_ok K a4887 a4889.V _ h4937), (leads_ok (by simp only [leadsAny, List.any_cons, List.any_nil, RV.leads, RC.leads, leadsT, hasSl_lit, Bool.or_false, flat_ns (eInt_ns _), flat_ns eBool_ns, flat_ns eStr_ns, flat_ns eGJob_ns, flat_ns eGEdge_ns, flat_ns eGAsked_ns, flat_ns eGMsg_ns, flat_ns eGrule_ns, flat_ns eGA199_ns, flat_ns eGA202_ns])), rfl, z⟩
      refine cond_some hF (fun h4938 hF => ?_) (fun h4938 hF => ?_)
      ·
        have pq4996 : ∀ {l : List Cond}, HoldAll E H hn26 l → HoldAll E H hn26 (.test (beqb (ine (nlen (len r4893.2.1)) 0) true) false :: .test (beqb (ine (nlen (len r4893.2.1)) 0) true) false :: .test (beqb (ine (nlen (len r4893.2.1)) 0) true) false :: .test (beqb (ine (nlen (len r4893.2.1)) 0) true) false :: .test (beqb (ine (nlen (len r4893.2.1)) 0) true) false :: .test (ine (nlen (len r4893.2.1)) 0) false :: .test false false :: l) := fun z => ⟨(beqb_t (ine_t h4938)), (beqb_t (ine_t h4938)), (beqb_t (ine_t h4938)), (beqb_t (ine_t h4938)), (beqb_t (ine_t h4938)), (ine_t h4938), rfl, z⟩
        refine bind_some hF (fun y4942 h4941 hF => ?_)
        refine sum_some hF (fun w4943 hx hF => ?_) (fun w4944 hx hF => ?_)
        ·
          subst hx
          have hr := Option.some.inj hF
          subst hr
          have pz : HoldAll E H hn26 [.loop 0 c26_0 (F26_l0_0_S r4893.2.1 r4936 0) .ret (F26_l0_0_X0 r4893.2.1 r4936 w4943)] := ⟨(F26_l0_0_ok K r4893.2.1 r4936 K 0 _ h4941), trivial⟩
          exact fn_playC hn26 (f := 26) (ads := [.agg (eGGraph a4887), .agg (eGJob a4888), .agg (eGAsked a4889)]) (r := F26_res false) (pq4988 (pq4989 (pq4990 (pq4995 (pq4996 pz))))) (by kernel_rfl) (by kernel_rfl)
        subst hx
        have hr := Option.some.inj hF
        subst hr
        have pz : HoldAll E H hn26 [.loop 0 c26_0 (F26_l0_0_S r4893.2.1 r4936 0) (.exit 0) (F26_l0_0_X1 r4893.2.1 r4936 w4944), .call 93 [] (Res.mk [(.one (.im (.lit (.bool true))))] []), .test (leadsAny (Res.mk [(.one (.im (.lit (.bool true))))] [])) false] := ⟨(F26_l0_0_ok K r4893.2.1 r4936 K 0 _ h4941), knows93, (leads_ok (by simp only [leadsAny, List.any_cons, List.any_nil, RV.leads, RC.leads, leadsT, hasSl_lit, Bool.or_false, flat_ns (eInt_ns _), flat_ns eBool_ns, flat_ns eStr_ns, flat_ns eGJob_ns, flat_ns eGEdge_ns, flat_ns eGAsked_ns, flat_ns eGMsg_ns, flat_ns eGrule_ns, flat_ns eGA199_ns, flat_ns eGA202_ns])), trivial⟩
        exact fn_playC hn26 (f := 26) (ads := [.agg (eGGraph a4887), .agg (eGJob a4888), .agg (eGAsked a4889)]) (r := F26_res true) (pq4988 (pq4989 (pq4990 (pq4995 (pq4996 pz))))) (by kernel_rfl) (by kernel_rfl)
      have pq4997 : ∀ {l : List Cond}, HoldAll E H hn26 l → HoldAll E H hn26 (.test (beqb (ine (nlen (len r4893.2.1)) 0) true) true :: .test (beqb (ine (nlen (len r4893.2.1)) 0) true) true :: .int (nlen (len r4893.2.1)) (nlen (len r4893.2.1)) :: .test (beqb (ine (nlen (len r4893.2.1)) 0) true) true :: .test (beqb (ine (nlen (len r4893.2.1)) 0) true) true :: .int (nlen (len r4936)) (nlen (len r4936)) :: .test (beqb (ine (nlen (len r4893.2.1)) 0) true) true :: .test (ine (nlen (len r4893.2.1)) 0) true :: l) := fun z => ⟨(beqb_t (ine_f h4938)), (beqb_t (ine_f h4938)), rfl, (beqb_t (ine_f h4938)), (beqb_t (ine_f h4938)), rfl, (beqb_t (ine_f h4938)), (ine_f h4938), z⟩
      refine cond_some hF (fun h4945 hF => ?_) (fun h4945 hF => ?_)
      ·
        refine bind_some hF (fun y4949 h4948 hF => ?_)
        refine sum_some hF (fun w4950 hx hF => ?_) (fun w4951 hx hF => ?_)
        ·
          subst hx
          have hr := Option.some.inj hF
          subst hr
          have pz : HoldAll E H hn26 [.test (ine (nlen (len r4893.2.1)) (nlen (len r4936))) false, .loop 0 c26_0 (F26_l0_0_S r4893.2.1 r4936 0) .ret (F26_l0_0_X0 r4893.2.1 r4936 w4950)] := ⟨(ine_t h4945), (F26_l0_0_ok K r4893.2.1 r4936 K 0 _ h4948), trivial⟩
          exact fn_playC hn26 (f := 26) (ads := [.agg (eGGraph a4887), .agg (eGJob a4888), .agg (eGAsked a4889)]) (r := F26_res false) (pq4988 (pq4989 (pq4990 (pq4995 (pq4997 pz))))) (by kernel_rfl) (by kernel_rfl)
        subst hx
        have hr := Option.some.inj hF
        subst hr
        have pz : HoldAll E H hn26 [.test (ine (nlen (len r4893.2.1)) (nlen (len r4936))) false, .loop 0 c26_0 (F26_l0_0_S r4893.2.1 r4936 0) (.exit 0) (F26_l0_0_X1 r4893.2.1 r4936 w4951), .call 93 [] (Res.mk [(.one (.im (.lit (.bool true))))] []), .test (leadsAny (Res.mk [(.one (.im (.lit (.bool true))))] [])) false] := ⟨(ine_t h4945), (F26_l0_0_ok K r4893.2.1 r4936 K 0 _ h4948), knows93, (leads_ok (by simp only [leadsAny, List.any_cons, List.any_nil, RV.leads, RC.leads, leadsT, hasSl_lit, Bool.or_false, flat_ns (eInt_ns _), flat_ns eBool_ns, flat_ns eStr_ns, flat_ns eGJob_ns, flat_ns eGEdge_ns, flat_ns eGAsked_ns, flat_ns eGMsg_ns, flat_ns eGrule_ns, flat_ns eGA199_ns, flat_ns eGA202_ns])), trivial⟩
        exact fn_playC hn26 (f := 26) (ads := [.agg (eGGraph a4887), .agg (eGJob a4888), .agg (eGAsked a4889)]) (r := F26_res true) (pq4988 (pq4989 (pq4990 (pq4995 (pq4997 pz))))) (by kernel_rfl) (by kernel_rfl)
      have hr := Option.some.inj hF
      subst hr
      have pz : HoldAll E H hn26 [.test (ine (nlen (len r4893.2.1)) (nlen (len r4936))) true] := ⟨(ine_f h4945), trivial⟩
      exact fn_playC hn26 (f := 26) (ads := [.agg (eGGraph a4887), .agg (eGJob a4888), .agg (eGAsked a4889)]) (r := F26_res false) (pq4988 (pq4989 (pq4990 (pq4995 (pq4997 pz))))) (by kernel_rfl) (by kernel_rfl)
    have pq4998 : ∀ {l : List Cond}, HoldAll E H hn26 l → HoldAll E H hn26 (.test (ine r4893.2.2.2 0) false :: .test (beqb (ieq a4888.Prog 4) true) false :: .test (beqb (ieq a4888.Prog 4) true) false :: .test (beqb (ieq a4888.Prog 4) true) false :: .test (beqb (ieq a4888.Prog 4) true) false :: .test (ieq a4888.Prog 4) false :: .test (beqb false false) true :: .test (beqb false false) true :: .test (beqb false false) true :: .test (beqb false false) true :: l) := fun z => ⟨(ine_t h4895), (beqb_t h4896), (beqb_t h4896), (beqb_t h4896), (beqb_t h4896), h4896, (beqb_ff rfl), (beqb_ff rfl), (beqb_ff rfl), (beqb_ff rfl), z⟩
    refine cond_some hF (fun h4952 hF => ?_) (fun h4952 hF => ?_)
    ·
      have pq4999 : ∀ {l : List Cond}, HoldAll E H hn26 l → HoldAll E H hn26 (.test (beqb (ilt a4888.Prog 4) true) true :: .test (beqb (ilt a4888.Prog 4) true) true :: .test (beqb (ilt a4888.Prog 4) true) true :: .test (beqb (ilt a4888.Prog 4) true) true :: .test (beqb false false) true :: .test (ilt a4888.Prog 4) true :: .test false false :: l) := fun z => ⟨(beqb_t h4952), (beqb_t h4952), (beqb_t h4952), (beqb_t h4952), (beqb_ff rfl), h4952, rfl, z⟩
      refine cond_some hF (fun h4953 hF => ?_) (fun h4953 hF => ?_)
      ·
        have hr := Option.some.inj hF
        subst hr
        have pz : HoldAll E H hn26 [.test (igt r4893.1 a4889.Val) true] := ⟨(igt_eq h4953), trivial⟩
        exact fn_playC hn26 (f := 26) (ads := [.agg (eGGraph a4887), .agg (eGJob a4888), .agg (eGAsked a4889)]) (r := F26_res false) (pq4988 (pq4998 (pq4999 pz))) (by kernel_rfl) (by kernel_rfl)
      refine bind_some hF (fun r4954 h4955 hF => ?_)
      have pq5000 : ∀ {l : List Cond}, HoldAll E H hn26 l → HoldAll E H hn26 (.test (igt r4893.1 a4889.Val) false :: .call 69 [.agg (eGGraph a4887), .one (.lit (.int .i64 a4889.V))] (F69_res r4954) :: .test (leadsAny (Res.mk [(.one (.own 89 (.sl (len r4954) (flat eGEdge r4954))))] [])) false :: .int (nlen (len r4893.2.1)) (nlen (len r4893.2.1)) :: l) := fun z => ⟨(igt_eq h4953), (F69_ok K a4887 a4889.V _ h4955), (leads_ok (by simp only [leadsAny, List.any_cons, List.any_nil, RV.leads, RC.leads, leadsT, hasSl_lit, Bool.or_false, flat_ns (eInt_ns _), flat_ns eBool_ns, flat_ns eStr_ns, flat_ns eGJob_ns, flat_ns eGEdge_ns, flat_ns eGAsked_ns, flat_ns eGMsg_ns, flat_ns eGrule_ns, flat_ns eGA199_ns, flat_ns eGA202_ns])), rfl, z⟩
      refine cond_some hF (fun h4956 hF => ?_) (fun h4956 hF => ?_)
      ·
        have pq5001 : ∀ {l : List Cond}, HoldAll E H hn26 l → HoldAll E H hn26 (.test (beqb (ine (nlen (len r4893.2.1)) 0) true) false :: .test (beqb (ine (nlen (len r4893.2.1)) 0) true) false :: .test (beqb (ine (nlen (len r4893.2.1)) 0) true) false :: .test (beqb (ine (nlen (len r4893.2.1)) 0) true) false :: .test (beqb (ine (nlen (len r4893.2.1)) 0) true) false :: .test (ine (nlen (len r4893.2.1)) 0) false :: .test false false :: l) := fun z => ⟨(beqb_t (ine_t h4956)), (beqb_t (ine_t h4956)), (beqb_t (ine_t h4956)), (beqb_t (ine_t h4956)), (beqb_t (ine_t h4956)), (ine_t h4956), rfl, z⟩
        refine bind_some hF (fun y4960 h4959 hF => ?_)
        refine sum_some hF (fun w4961 hx hF => ?_) (fun w4962 hx hF => ?_)
        ·
          subst hx
          have hr := Option.some.inj hF
          subst hr
          have pz : HoldAll E H hn26 [.loop 0 c26_0 (F26_l0_0_S r4893.2.1 r4954 0) .ret (F26_l0_0_X0 r4893.2.1 r4954 w4961)] := ⟨(F26_l0_0_ok K r4893.2.1 r4954 K 0 _ h4959), trivial⟩
          exact fn_playC hn26 (f := 26) (ads := [.agg (eGGraph a4887), .agg (eGJob a4888), .agg (eGAsked a4889)]) (r := F26_res false) (pq4988 (pq4998 (pq4999 (pq5000 (pq5001 pz))))) (by kernel_rfl) (by kernel_rfl)
        subst hx
        have hr := Option.some.inj hF
        subst hr
        have pz : HoldAll E H hn26 [.loop 0 c26_0 (F26_l0_0_S r4893.2.1 r4954 0) (.exit 0) (F26_l0_0_X1 r4893.2.1 r4954 w4962), .call 93 [] (Res.mk [(.one (.im (.lit (.bool true))))] []), .test (leadsAny (Res.mk [(.one (.im (.lit (.bool true))))] [])) false] := ⟨(F26_l0_0_ok K r4893.2.1 r4954 K 0 _ h4959), knows93, (leads_ok (by simp only [leadsAny, List.any_cons, List.any_nil, RV.leads, RC.leads, leadsT, hasSl_lit, Bool.or_false, flat_ns (eInt_ns _), flat_ns eBool_ns, flat_ns eStr_ns, flat_ns eGJob_ns, flat_ns eGEdge_ns, flat_ns eGAsked_ns, flat_ns eGMsg_ns, flat_ns eGrule_ns, flat_ns eGA199_ns, flat_ns eGA202_ns])), trivial⟩
        exact fn_playC hn26 (f := 26) (ads := [.agg (eGGraph a4887), .agg (eGJob a4888), .agg (eGAsked a4889)]) (r := F26_res true) (pq4988 (pq4998 (pq4999 (pq5000 (pq5001 pz))))) (by kernel_rfl) (by kernel_rfl)
      have pq5002 : ∀ {l : List Cond}, HoldAll E H hn26 l → HoldAll E H hn26 (.test (beqb (ine (nlen (len r4893.2.1)) 0) true) true :: .test (beqb (ine (nlen (len r4893.2.1)) 0) true) true :: .int (nlen (len r4893.2.1)) (nlen (len r4893.2.1)) :: .test (beqb (ine (nlen (len r4893.2.1)) 0) true) true :: .test (beqb (ine (nlen (len r4893.2.1)) 0) true) true :: .int (nlen (len r4954)) (nlen (len r4954)) :: .test (beqb (ine (nlen (len r4893.2.1)) 0) true) true :: .test (ine (nlen (len r4893.2.1)) 0) true :: l) := fun z => ⟨(beqb_t (ine_f h4956)), (beqb_t (ine_f h4956)), rfl, (beqb_t (ine_f h4956)), (beqb_t (ine_f h4956)), rfl, (beqb_t (ine_f h4956)), (ine_f h4956), z⟩
      refine cond_some hF (fun h4963 hF => ?_) (fun h4963 hF => ?_)
      ·
        refine bind_some hF (fun y4967 h4966 hF => ?_)
        refine sum_some hF (fun w4968 hx hF => ?_) (fun w4969 hx hF => ?_)
        ·
          subst hx
          have hr := Option.some.inj hF
          subst hr
          have pz : HoldAll E H hn26 [.test (ine (nlen (len r4893.2.1)) (nlen (len r4954))) false, .loop 0 c26_0 (F26_l0_0_S r4893.2.1 r4954 0) .ret (F26_l0_0_X0 r4893.2.1 r4954 w4968)] := ⟨(ine_t h4963), (F26_l0_0_ok K r4893.2.1 r4954 K 0 _ h4966), trivial⟩
          exact fn_playC hn26 (f := 26) (ads := [.agg (eGGraph a4887), .agg (eGJob a4888), .agg (eGAsked a4889)]) (r := F26_res false) (pq4988 (pq4998 (pq4999 (pq5000 (pq5002 pz))))) (by kernel_rfl) (by kernel_rfl)
        subst hx
        have hr := Option.some.inj hF
        subst hr
        have pz : HoldAll E H hn26 [.test (ine (nlen (len r4893.2.1)) (nlen (len r4954))) false, .loop 0 c26_0 (F26_l0_0_S r4893.2.1 r4954 0) (.exit 0) (F26_l0_0_X1 r4893.2.1 r4954 w4969), .call 93 [] (Res.mk [(.one (.im (.lit (.bool true))))] []), .test (leadsAny (Res.mk [(.one (.im (.lit (.bool true))))] [])) false] := ⟨(ine_t h4963), (F26_l0_0_ok K r4893.2.1 r4954 K 0 _ h4966), knows93, (leads_ok (by simp only [leadsAny, List.any_cons, List.any_nil, RV.leads, RC.leads, leadsT, hasSl_lit, Bool.or_false, flat_ns (eInt_ns _), flat_ns eBool_ns, flat_ns eStr_ns, flat_ns eGJob_ns, flat_ns eGEdge_ns, flat_ns eGAsked_ns, flat_ns eGMsg_ns, flat_ns eGrule_ns, flat_ns eGA199_ns, flat_ns eGA202_ns])), trivial⟩
        exact fn_playC hn26 (f := 26) (ads := [.agg (eGGraph a4887), .agg (eGJob a4888), .agg (eGAsked a4889)]) (r := F26_res true) (pq4988 (pq4998 (pq4999 (pq5000 (pq5002 pz))))) (by kernel_rfl) (by kernel_rfl)
      have hr := Option.some.inj hF
      subst hr
      have pz : HoldAll E H hn26 [.test (ine (nlen (len r4893.2.1)) (nlen (len r4954))) true] := ⟨(ine_f h4963), trivial⟩
      exact fn_playC hn26 (f := 26) (ads := [.agg (eGGraph a4887), .agg (eGJob a4888), .agg (eGAsked a4889)]) (r := F26_res false) (pq4988 (pq4998 (pq4999 (pq5000 (pq5002 pz))))) (by kernel_rfl) (by kernel_rfl)
    refine bind_some hF (fun r4970 h4971 hF => ?_)
    have pq5003 : ∀ {l : List Cond}, HoldAll E H hn26 l → HoldAll E H hn26 (.test (beqb (ilt a4888.Prog 4) true) false :: .test (beqb (ilt a4888.Prog 4) true) false :: .test (beqb (ilt a4888.Prog 4) true) false :: .test (beqb (ilt a4888.Prog 4) true) false :: .test (beqb false false) true :: .test (ilt a4888.Prog 4) false :: .test false false :: .test false false :: .call 69 [.agg (eGGraph a4887), .one (.lit (.int .i64 a4889.V))] (F69_res r4970) :: .test (leadsAny (Res.mk [(.one (.own 89 (.sl (len r4970) (flat eGEdge r4970))))] [])) false :: .int (nlen (len r4893.2.1)) (nlen (len r4893.2.1)) :: l) := fun z => ⟨(beqb_t h4952), (beqb_t h4952), (beqb_t h4952), (beqb_t h4952), (beqb_ff rfl), h4952, rfl, rfl, (F69_ok K a4887 a4889.V _ h4971), (leads_ok (by simp only [leadsAny, List.any_cons, List.any_nil, RV.leads, RC.leads, leadsT, hasSl_lit, Bool.or_false, flat_ns (eInt_ns _), flat_ns eBool_ns, flat_ns eStr_ns, flat_ns eGJob_ns, flat_ns eGEdge_ns, flat_ns eGAsked_ns, flat_ns eGMsg_ns, flat_ns eGrule_ns, flat_ns eGA199_ns, flat_ns eGA202_ns])), rfl, z⟩
    refine cond_some hF (fun h4972 hF => ?_) (fun h4972 hF => ?_)
    ·
      have pq5004 : ∀ {l : List Cond}, HoldAll E H hn26 l → HoldAll E H hn26 (.test (beqb (ine (nlen (len r4893.2.1)) 0) true) false :: .test (beqb (ine (nlen (len r4893.2.1)) 0) true) false :: .test (beqb (ine (nlen (len r4893.2.1)) 0) true) false :: .test (beqb (ine (nlen (len r4893.2.1)) 0) true) false :: .test (beqb (ine (nlen (len r4893.2.1)) 0) true) false :: .test (ine (nlen (len r4893.2.1)) 0) false :: .test false false :: l) := fun z => ⟨(beqb_t (ine_t h4972)), (beqb_t (ine_t h4972)), (beqb_t (ine_t h4972)), (beqb_t (ine_t h4972)), (beqb_t (ine_t h4972)), (ine_t h4972), rfl, z⟩
      refine bind_some hF (fun y4976 h4975 hF => ?_)
      refine sum_some hF (fun w4977 hx hF => ?_) (fun w4978 hx hF => ?_)
      ·
        subst hx
        have hr := Option.some.inj hF
        subst hr
        have pz : HoldAll E H hn26 [.loop 0 c26_0 (F26_l0_0_S r4893.2.1 r4970 0) .ret (F26_l0_0_X0 r4893.2.1 r4970 w4977)] := ⟨(F26_l0_0_ok K r4893.2.1 r4970 K 0 _ h4975), trivial⟩
        exact fn_playC hn26 (f := 26) (ads := [.agg (eGGraph a4887), .agg (eGJob a4888), .agg (eGAsked a4889)]) (r := F26_res false) (pq4988 (pq4998 (pq5003 (pq5004 pz)))) (by kernel_rfl) (by kernel_rfl)
      subst hx
      have hr := Option.some.inj hF
      subst hr
      have pz : HoldAll E H hn26 [.loop 0 c26_0 (F26_l0_0_S r4893.2.1 r4970 0) (.exit 0) (F26_l0_0_X1 r4893.2.1 r4970 w4978), .call 93 [] (Res.mk [(.one (.im (.lit (.bool true))))] []), .test (leadsAny (Res.mk [(.one (.im (.lit (.bool true))))] [])) false] := ⟨(F26_l0_0_ok K r4893.2.1 r4970 K 0 _ h4975), knows93, (leads_ok (by simp only [leadsAny, List.any_cons, List.any_nil, RV.leads, RC.leads, leadsT, hasSl_lit, Bool.or_false, flat_ns (eInt_ns _), flat_ns eBool_ns, flat_ns eStr_ns, flat_ns eGJob_ns, flat_ns eGEdge_ns, flat_ns eGAsked_ns, flat_ns eGMsg_ns, flat_ns eGrule_ns, flat_ns eGA199_ns, flat_ns eGA202_ns])), trivial⟩
      exact fn_playC hn26 (f := 26) (ads := [.agg (eGGraph a4887), .agg (eGJob a4888), .agg (eGAsked a4889)]) (r := F26_res true) (pq4988 (pq4998 (pq5003 (pq5004 pz)))) (by kernel_rfl) (by kernel_rfl)
    have pq5005 : ∀ {l : List Cond}, HoldAll E H hn26 l → HoldAll E H hn26 (.test (beqb (ine (nlen (len r4893.2.1)) 0) true) true :: .test (beqb (ine (nlen (len r4893.2.1)) 0) true) true :: .int (nlen (len r4893.2.1)) (nlen (len r4893.2.1)) :: .test (beqb (ine (nlen (len r4893.2.1)) 0) true) true :: .test (beqb (ine (nlen (len r4893.2.1)) 0) true) true :: .int (nlen (len r4970)) (nlen (len r4970)) :: .test (beqb (ine (nlen (len r4893.2.1)) 0) true) true :: .test (ine (nlen (len r4893.2.1)) 0) true :: l) := fun z => ⟨(beqb_t (ine_f h4972)), (beqb_t (ine_f h4972)), rfl, (beqb_t (ine_f h4972)), (beqb_t (ine_f h4972)), rfl, (beqb_t (ine_f h4972)), (ine_f h4972), z⟩
    refine cond_some hF (fun h4979 hF => ?_) (fun h4979 hF => ?_)
    ·
      refine bind_some hF (fun y4983 h4982 hF => ?_)
      refine sum_some hF (fun w4984 hx hF => ?_) (fun w4985 hx hF => ?_)
      ·
        subst hx
        have hr := Option.some.inj hF
        subst hr
        have pz : HoldAll E H hn26 [.test (ine (nlen (len r4893.2.1)) (nlen (len r4970))) false, .loop 0 c26_0 (F26_l0_0_S r4893.2.1 r4970 0) .ret (F26_l0_0_X0 r4893.2.1 r4970 w4984)] := ⟨(ine_t h4979), (F26_l0_0_ok K r4893.2.1 r4970 K 0 _ h4982), trivial⟩
        exact fn_playC hn26 (f := 26) (ads := [.agg (eGGraph a4887), .agg (eGJob a4888), .agg (eGAsked a4889)]) (r := F26_res false) (pq4988 (pq4998 (pq5003 (pq5005 pz)))) (by kernel_rfl) (by kernel_rfl)
      subst hx
      have hr := Option.some.inj hF
      subst hr
      have pz : HoldAll E H hn26 [.test (ine (nlen (len r4893.2.1)) (nlen (len r4970))) false, .loop 0 c26_0 (F26_l0_0_S r4893.2.1 r4970 0) (.exit 0) (F26_l0_0_X1 r4893.2.1 r4970 w4985), .call 93 [] (Res.mk [(.one (.im (.lit (.bool true))))] []), .test (leadsAny (Res.mk [(.one (.im (.lit (.bool true))))] [])) false] := ⟨(ine_t h4979), (F26_l0_0_ok K r4893.2.1 r4970 K 0 _ h4982), knows93, (leads_ok (by simp only [leadsAny, List.any_cons, List.any_nil, RV.leads, RC.leads, leadsT, hasSl_lit, Bool.or_false, flat_ns (eInt_ns _), flat_ns eBool_ns, flat_ns eStr_ns, flat_ns eGJob_ns, flat_ns eGEdge_ns, flat_ns eGAsked_ns, flat_ns eGMsg_ns, flat_ns eGrule_ns, flat_ns eGA199_ns, flat_ns eGA202_ns])), trivial⟩
      exact fn_playC hn26 (f := 26) (ads := [.agg (eGGraph a4887), .agg (eGJob a4888), .agg (eGAsked a4889)]) (r := F26_res true) (pq4988 (pq4998 (pq5003 (pq5005 pz)))) (by kernel_rfl) (by kernel_rfl)
    have hr := Option.some.inj hF
    subst hr
    have pz : HoldAll E H hn26 [.test (ine (nlen (len r4893.2.1)) (nlen (len r4970))) true] := ⟨(ine_f h4979), trivial⟩
    exact fn_playC hn26 (f := 26) (ads := [.agg (eGGraph a4887), .agg (eGJob a4888), .agg (eGAsked a4889)]) (r := F26_res false) (pq4988 (pq4998 (pq5003 (pq5005 pz)))) (by kernel_rfl) (by kernel_rfl)
  refine cond_some hF (fun h4986 hF => ?_) (fun h4986 hF => ?_)
  ·
    have pq5006 : ∀ {l : List Cond}, HoldAll E H hn26 l → HoldAll E H hn26 (.test (ine r4893.2.2.2 0) true :: .test (beqb (ieq r4893.1 0) true) true :: .test (beqb (ieq r4893.1 0) true) true :: .int (nlen (len r4893.2.1)) (nlen (len r4893.2.1)) :: .test (beqb (ieq r4893.1 0) true) true :: .test (ieq r4893.1 0) true :: l) := fun z => ⟨(ine_f h4895), (beqb_t h4986), (beqb_t h4986), rfl, (beqb_t h4986), h4986, z⟩
    refine cond_some hF (fun h4987 hF => ?_) (fun h4987 hF => ?_)
    ·
      have hr := Option.some.inj hF
      subst hr
      have pz : HoldAll E H hn26 [.test (beqb (ieq (nlen (len r4893.2.1)) 0) true) true, .call 93 [] (Res.mk [(.one (.im (.lit (.bool true))))] []), .test (leadsAny (Res.mk [(.one (.im (.lit (.bool true))))] [])) false, .test (ieq (nlen (len r4893.2.1)) 0) true] := ⟨(beqb_t h4987), knows93, (leads_ok (by simp only [leadsAny, List.any_cons, List.any_nil, RV.leads, RC.leads, leadsT, hasSl_lit, Bool.or_false, flat_ns (eInt_ns _), flat_ns eBool_ns, flat_ns eStr_ns, flat_ns eGJob_ns, flat_ns eGEdge_ns, flat_ns eGAsked_ns, flat_ns eGMsg_ns, flat_ns eGrule_ns, flat_ns eGA199_ns, flat_ns eGA202_ns])), h4987, trivial⟩
      exact fn_playC hn26 (f := 26) (ads := [.agg (eGGraph a4887), .agg (eGJob a4888), .agg (eGAsked a4889)]) (r := F26_res true) (pq4988 (pq5006 pz)) (by kernel_rfl) (by kernel_rfl)
    have hr := Option.some.inj hF
    subst hr
    have pz : HoldAll E H hn26 [.test (beqb (ieq (nlen (len r4893.2.1)) 0) true) false, .test (ieq (nlen (len r4893.2.1)) 0) false] := ⟨(beqb_t h4987), h4987, trivial⟩
    exact fn_playC hn26 (f := 26) (ads := [.agg (eGGraph a4887), .agg (eGJob a4888), .agg (eGAsked a4889)]) (r := F26_res false) (pq4988 (pq5006 pz)) (by kernel_rfl) (by kernel_rfl)
  have hr := Option.some.inj hF
  subst hr
  have pz : HoldAll E H hn26 [.test (ine r4893.2.2.2 0) true, .test (beqb (ieq r4893.1 0) true) false, .test (beqb (ieq r4893.1 0) true) false, .test (beqb (ieq r4893.1 0) true) false, .test (ieq r4893.1 0) false, .test (beqb false true) false, .test false false] := ⟨(ine_f h4895), (beqb_t h4986), (beqb_t h4986), (beqb_t h4986), h4986, (beqb_t rfl), rfl, trivial⟩
  exact fn_playC hn26 (f := 26) (ads := [.agg (eGGraph a4887), .agg (eGJob a4888), .agg (eGAsked a4889)]) (r := F26_res false) (pq4988 pz) (by kernel_rfl) (by kernel_rfl)

end Go.Proofs.Ytnjanliihnadjaa.Tm

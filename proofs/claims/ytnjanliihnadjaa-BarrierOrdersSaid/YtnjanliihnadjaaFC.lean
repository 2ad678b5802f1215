/- Printed by program: what each function computes, and that the machine answers so. Conditions: none. -/
import Derived.Test.YtnjanliihnadjaaTy
import Derived.Test.YtnjanliihnadjaaTab
import Derived.Test.YtnjanliihnadjaaKn
import Derived.Test.YtnjanliihnadjaaFA
import Derived.Test.YtnjanliihnadjaaFB
import Derived.KernelRfl
set_option linter.unusedVariables false
set_option linter.unusedSimpArgs false
namespace Go.Proofs.Ytnjanliihnadjaa.Tm
open Go
/-! ### haywain/barrier.Say -/
noncomputable def hn56 : Hint := { H 56 with nt := 38, prot := 0 }
noncomputable def c56_0 : Code := loopOf E 56 0
def F56_res (r677 : Int × Bool) : Res := ⟨[(.one (.im (.lit (.int .i64 r677.1)))), (.one (.im (.lit (.bool r677.2))))], []⟩
def F56_l0_0 (K : Nat) (a621 : GBarrier) (a622 : Int) : Nat → Bool → Int → Option (Bool)
  | 0, _, _ => none
  | k + 1, v656, v657 =>
    bif (ilt v657 (nlen (len a621.Came))) then
      (bif (inr v657 (len a621.Came)) then
      (elAt a621.Came v657).bind fun x660 =>
      bif v656 then
        ((F123 K x660).bind fun r663 =>
        F56_l0_0 K a621 a622 k r663 (wadd .i64 v657 1))
      else
      F56_l0_0 K a621 a622 k false (wadd .i64 v657 1)
      else none)
    else
    some v656
def F56_l0_0_S (a621 : GBarrier) (a622 : Int) (v656 : Bool) (v657 : Int) : TS := .on [64, 65, 128, 129, 130, 131, 132, 133, 384, 385, 1088, 1152, 1153, 1216, 1217, 1280, 1281] [(64, ⟨.one, 0, nob⟩), (65, ⟨.im, 0, (.lit (.int .i64 a622))⟩), (128, ⟨(.box 24 5), 0, nob⟩), (129, ⟨.im, 0, (.lit (.int .i64 a621.Epoch))⟩), (130, ⟨.im, 0, (.lit (.int .i64 a621.Step))⟩), (131, ⟨.im, 0, (.lit (.int .i64 a621.Parts))⟩), (132, ⟨.im, 0, (.sl (len a621.Came) (flat eGPart a621.Came))⟩), (133, ⟨.im, 0, (.lit (.bool a621.Over))⟩), (384, ⟨.one, 0, nob⟩), (385, ⟨.im, 0, (.lit (.bool v656))⟩), (1088, ⟨(.ad 2 0 3), 0, nob⟩), (1152, ⟨.one, 0, nob⟩), (1153, ⟨.im, 0, (.sl (len a621.Came) (flat eGPart a621.Came))⟩), (1216, ⟨.one, 0, nob⟩), (1217, ⟨.im, 0, (.lit (.int .i64 (nlen (len a621.Came))))⟩), (1280, ⟨.one, 0, nob⟩), (1281, ⟨.im, 0, (.lit (.int .i64 v657))⟩)]
def F56_l0_0_X0 (a621 : GBarrier) (a622 : Int) (w665 : Bool) : TS := .on [64, 65, 128, 129, 130, 131, 132, 133, 384, 385] [(64, ⟨.one, 0, nob⟩), (65, ⟨.im, 0, (.lit (.int .i64 a622))⟩), (128, ⟨(.box 24 5), 0, nob⟩), (129, ⟨.im, 0, (.lit (.int .i64 a621.Epoch))⟩), (130, ⟨.im, 0, (.lit (.int .i64 a621.Step))⟩), (131, ⟨.im, 0, (.lit (.int .i64 a621.Parts))⟩), (132, ⟨.im, 0, (.sl (len a621.Came) (flat eGPart a621.Came))⟩), (133, ⟨.im, 0, (.lit (.bool a621.Over))⟩), (384, ⟨.one, 0, nob⟩), (385, ⟨.im, 0, (.lit (.bool w665))⟩)]
theorem F56_l0_0_ok (K : Nat) (a621 : GBarrier) (a622 : Int) : ∀ (k : Nat) (v656 : Bool) (v657 : Int) (r : Bool), F56_l0_0 K a621 a622 k v656 v657 = some r → LoopEv E H hn56 0 c56_0 (F56_l0_0_S a621 a622 v656 v657) (.exit 0) (F56_l0_0_X0 a621 a622 r) := by
  intro k
  induction k with
  | zero => intro v656 v657 r hF; cases hF
  | succ k ih =>
    intro v656 v657 r hF
    rw [F56_l0_0] at hF
    refine cond_some hF (fun h658 hF => ?_) (fun h658 hF => ?_)
    ·
      refine cond_some hF (fun h659 hF => ?_) (fun _ hF => nomatch hF)
      refine bind_some hF (fun x660 h661 hF => ?_)
      have pq667 : ∀ {l : List Cond}, HoldAll E H hn56 l → HoldAll E H hn56 (.test (ilt v657 (nlen (len a621.Came))) true :: .test (inr v657 (len a621.Came)) true :: .sub (flat eGPart a621.Came) (nidx v657 5) 5 [(.lit (.int .i64 x660.P)), (.lit (.int .i64 x660.Step)), (.sl (len x660.Vals) (flat (eInt .i64) x660.Vals)), (.sl (len x660.Rest) (flat eBool x660.Rest)), (.sl (len x660.In) (flat eGMsg x660.In))] :: l) := fun z => ⟨h658, h659, ⟨rfl, sub_flat0 eGPart_len h661 5 (by decide)⟩, z⟩
      refine cond_some hF (fun h662 hF => ?_) (fun h662 hF => ?_)
      ·
        refine bind_some hF (fun r663 h664 hF => ?_)
        have pz : HoldAll E H hn56 [.test (beqb v656 true) true, .test (beqb v656 true) true, .call 123 [.agg (eGPart x660)] (F123_res r663), .test (leadsAny (Res.mk [(.one (.im (.lit (.bool r663))))] [])) false, .test v656 true, .int (wadd .i64 v657 1) (wadd .i64 v657 1)] := ⟨(beqb_t h662), (beqb_t h662), (F123_ok K x660 _ h664), (leads_ok (by simp only [leadsAny, List.any_cons, List.any_nil, RV.leads, RC.leads, leadsT, hasSl_lit, Bool.or_false, flat_ns (eInt_ns _), flat_ns eBool_ns, flat_ns eStr_ns, flat_ns eGJob_ns, flat_ns eGEdge_ns, flat_ns eGAsked_ns, flat_ns eGMsg_ns, flat_ns eGrule_ns, flat_ns eGA199_ns, flat_ns eGA202_ns])), h662, rfl, trivial⟩
        have h0 := ih _ _ _ hF
        have hn := fun ex ts' => loop_nextC (h := hn56) (l := 0) (c := c56_0) (ts := F56_l0_0_S a621 a622 v656 v657) (ts1 := (F56_l0_0_S a621 a622 r663 (wadd .i64 v657 1))) (ex := ex) (ts' := ts') (pq667 pz) (by kernel_rfl)
        exact hn _ _ h0
      have pz : HoldAll E H hn56 [.test (beqb v656 true) false, .test (beqb v656 true) false, .test v656 false, .int (wadd .i64 v657 1) (wadd .i64 v657 1)] := ⟨(beqb_t h662), (beqb_t h662), h662, rfl, trivial⟩
      have h0 := ih _ _ _ hF
      have hn := fun ex ts' => loop_nextC (h := hn56) (l := 0) (c := c56_0) (ts := F56_l0_0_S a621 a622 v656 v657) (ts1 := (F56_l0_0_S a621 a622 false (wadd .i64 v657 1))) (ex := ex) (ts' := ts') (pq667 pz) (by kernel_rfl)
      exact hn _ _ h0
    have hr := Option.some.inj hF
    subst hr
    have pz : HoldAll E H hn56 [.test (ilt v657 (nlen (len a621.Came))) false] := ⟨h658, trivial⟩
    exact loop_endC (h := hn56) (l := 0) (c := c56_0) (ts := F56_l0_0_S a621 a622 v656 v657) (ts' := F56_l0_0_X0 a621 a622 v656) (ex := (.exit 0)) pz (by kernel_rfl) trivial

def F56 (K : Nat) (a621 : GBarrier) (a622 : Int) : Option (Int × Bool) :=
  (F48 K a621).bind fun r623 =>
  bif r623 then
    (bif a621.Over then
      (some (2, true))
    else
    (F50 K a621).bind fun r627 =>
    bif r627 then
      ((F56_l0_0 K a621 a622 K true 0).bind fun w670 =>
      bif w670 then
        (some (1, true))
      else
      bif (ile a622 (wadd .i64 a621.Step 1)) then
        (some (3, true))
      else
      some (0, true))
    else
    some (0, false))
  else
  some (0, false)
theorem F56_ok (K : Nat) (a621 : GBarrier) (a622 : Int) (r : Int × Bool) (hF : F56 K a621 a622 = some r) : Evt E H 56 [.agg (eGBarrier a621), .one (.lit (.int .i64 a622))] (F56_res r) := by
  rw [F56] at hF
  refine bind_some hF (fun r623 h624 hF => ?_)
  refine cond_some hF (fun h625 hF => ?_) (fun h625 hF => ?_)
  ·
    have pq674 : ∀ {l : List Cond}, HoldAll E H hn56 l → HoldAll E H hn56 (.call 48 [.agg (eGBarrier a621)] (F48_res r623) :: .test (leadsAny (Res.mk [(.one (.im (.lit (.bool r623))))] [])) false :: .test (bnot r623) false :: l) := fun z => ⟨(F48_ok K a621 _ h624), (leads_ok (by simp only [leadsAny, List.any_cons, List.any_nil, RV.leads, RC.leads, leadsT, hasSl_lit, Bool.or_false, flat_ns (eInt_ns _), flat_ns eBool_ns, flat_ns eStr_ns, flat_ns eGJob_ns, flat_ns eGEdge_ns, flat_ns eGAsked_ns, flat_ns eGMsg_ns, flat_ns eGrule_ns, flat_ns eGA199_ns, flat_ns eGA202_ns])), (bnot_t h625), z⟩
    refine cond_some hF (fun h626 hF => ?_) (fun h626 hF => ?_)
    ·
      have hr := Option.some.inj hF
      subst hr
      have pz : HoldAll E H hn56 [.test a621.Over true] := ⟨h626, trivial⟩
      exact fn_playC hn56 (f := 56) (ads := [.agg (eGBarrier a621), .one (.lit (.int .i64 a622))]) (r := F56_res (2, true)) (pq674 pz) (by kernel_rfl) (by kernel_rfl)
    refine bind_some hF (fun r627 h628 hF => ?_)
    have pq675 : ∀ {l : List Cond}, HoldAll E H hn56 l → HoldAll E H hn56 (.test a621.Over false :: .call 50 [.agg (eGBarrier a621)] (F50_res r627) :: .test (leadsAny (Res.mk [(.one (.im (.lit (.bool r627))))] [])) false :: l) := fun z => ⟨h626, (F50_ok K a621 _ h628), (leads_ok (by simp only [leadsAny, List.any_cons, List.any_nil, RV.leads, RC.leads, leadsT, hasSl_lit, Bool.or_false, flat_ns (eInt_ns _), flat_ns eBool_ns, flat_ns eStr_ns, flat_ns eGJob_ns, flat_ns eGEdge_ns, flat_ns eGAsked_ns, flat_ns eGMsg_ns, flat_ns eGrule_ns, flat_ns eGA199_ns, flat_ns eGA202_ns])), z⟩
    refine cond_some hF (fun h629 hF => ?_) (fun h629 hF => ?_)
    ·
      refine bind_some hF (fun w670 h668 hF => ?_)
      have pq676 : ∀ {l : List Cond}, HoldAll E H hn56 l → HoldAll E H hn56 (.test (bnot r627) false :: .int (nlen (len a621.Came)) (nlen (len a621.Came)) :: .loop 0 c56_0 (F56_l0_0_S a621 a622 true 0) (.exit 0) (F56_l0_0_X0 a621 a622 w670) :: l) := fun z => ⟨(bnot_t h629), rfl, (F56_l0_0_ok K a621 a622 K true 0 _ h668), z⟩
      refine cond_some hF (fun h672 hF => ?_) (fun h672 hF => ?_)
      ·
        have hr := Option.some.inj hF
        subst hr
        have pz : HoldAll E H hn56 [.test w670 true] := ⟨h672, trivial⟩
        exact fn_playC hn56 (f := 56) (ads := [.agg (eGBarrier a621), .one (.lit (.int .i64 a622))]) (r := F56_res (1, true)) (pq674 (pq675 (pq676 pz))) (by kernel_rfl) (by kernel_rfl)
      refine cond_some hF (fun h673 hF => ?_) (fun h673 hF => ?_)
      ·
        have hr := Option.some.inj hF
        subst hr
        have pz : HoldAll E H hn56 [.test w670 false, .int (wadd .i64 a621.Step 1) (wadd .i64 a621.Step 1), .test (ige (wadd .i64 a621.Step 1) a622) true] := ⟨h672, rfl, (ige_eq h673), trivial⟩
        exact fn_playC hn56 (f := 56) (ads := [.agg (eGBarrier a621), .one (.lit (.int .i64 a622))]) (r := F56_res (3, true)) (pq674 (pq675 (pq676 pz))) (by kernel_rfl) (by kernel_rfl)
      have hr := Option.some.inj hF
      subst hr
      have pz : HoldAll E H hn56 [.test w670 false, .int (wadd .i64 a621.Step 1) (wadd .i64 a621.Step 1), .test (ige (wadd .i64 a621.Step 1) a622) false] := ⟨h672, rfl, (ige_eq h673), trivial⟩
      exact fn_playC hn56 (f := 56) (ads := [.agg (eGBarrier a621), .one (.lit (.int .i64 a622))]) (r := F56_res (0, true)) (pq674 (pq675 (pq676 pz))) (by kernel_rfl) (by kernel_rfl)
    have hr := Option.some.inj hF
    subst hr
    have pz : HoldAll E H hn56 [.test (bnot r627) true] := ⟨(bnot_f h629), trivial⟩
    exact fn_playC hn56 (f := 56) (ads := [.agg (eGBarrier a621), .one (.lit (.int .i64 a622))]) (r := F56_res (0, false)) (pq674 (pq675 pz)) (by kernel_rfl) (by kernel_rfl)
  have hr := Option.some.inj hF
  subst hr
  have pz : HoldAll E H hn56 [.call 48 [.agg (eGBarrier a621)] (F48_res r623), .test (leadsAny (Res.mk [(.one (.im (.lit (.bool r623))))] [])) false, .test (bnot r623) true] := ⟨(F48_ok K a621 _ h624), (leads_ok (by simp only [leadsAny, List.any_cons, List.any_nil, RV.leads, RC.leads, leadsT, hasSl_lit, Bool.or_false, flat_ns (eInt_ns _), flat_ns eBool_ns, flat_ns eStr_ns, flat_ns eGJob_ns, flat_ns eGEdge_ns, flat_ns eGAsked_ns, flat_ns eGMsg_ns, flat_ns eGrule_ns, flat_ns eGA199_ns, flat_ns eGA202_ns])), (bnot_f h625), trivial⟩
  exact fn_playC hn56 (f := 56) (ads := [.agg (eGBarrier a621), .one (.lit (.int .i64 a622))]) (r := F56_res (0, false)) pz (by kernel_rfl) (by kernel_rfl)

/-! ### haywain/haywainref19.Say -/
noncomputable def hn57 : Hint := { H 57 with nt := 37, prot := 0 }
noncomputable def c57_0 : Code := loopOf E 57 0
def F57_res (r741 : Int × Bool) : Res := ⟨[(.one (.im (.lit (.int .i64 r741.1)))), (.one (.im (.lit (.bool r741.2))))], []⟩
def F57_l0_0 (K : Nat) (a682 : GBarrier) (a683 : Int) : Nat → Int → Option ((Int) ⊕ (Unit))
  | 0, _ => none
  | k + 1, v721 =>
    bif (ilt v721 (nlen (len a682.Came))) then
      (bif (inr v721 (len a682.Came)) then
      (elAt a682.Came v721).bind fun x724 =>
      (F124 K x724).bind fun r726 =>
      bif r726 then
        (F57_l0_0 K a682 a683 k (wadd .i64 v721 1))
      else
      bif (ile a683 (wadd .i64 a682.Step 1)) then
        (some (.inl 3))
      else
      some (.inl 0)
      else none)
    else
    some (.inr ())
def F57_l0_0_S (a682 : GBarrier) (a683 : Int) (v721 : Int) : TS := .on [64, 65, 128, 129, 130, 131, 132, 133, 384, 385] [(64, ⟨.one, 0, nob⟩), (65, ⟨.im, 0, (.lit (.int .i64 a683))⟩), (128, ⟨(.box 28 5), 0, nob⟩), (129, ⟨.im, 0, (.lit (.int .i64 a682.Epoch))⟩), (130, ⟨.im, 0, (.lit (.int .i64 a682.Step))⟩), (131, ⟨.im, 0, (.lit (.int .i64 a682.Parts))⟩), (132, ⟨.im, 0, (.sl (len a682.Came) (flat eGPart a682.Came))⟩), (133, ⟨.im, 0, (.lit (.bool a682.Over))⟩), (384, ⟨.one, 0, nob⟩), (385, ⟨.im, 0, (.lit (.int .i64 v721))⟩)]
def F57_l0_0_X0 (a682 : GBarrier) (a683 : Int) (w730 : Int) : TS := .on [256, 257, 320, 321] [(256, ⟨.one, 0, nob⟩), (257, ⟨.im, 0, (.lit (.int .i64 w730))⟩), (320, ⟨.one, 0, nob⟩), (321, ⟨.im, 0, (.lit (.bool true))⟩)]
def F57_l0_0_X1 (a682 : GBarrier) (a683 : Int) (w732 : Unit) : TS := .on [] []
theorem F57_l0_0_ok (K : Nat) (a682 : GBarrier) (a683 : Int) : ∀ (k : Nat) (v721 : Int) (r : (Int) ⊕ (Unit)), F57_l0_0 K a682 a683 k v721 = some r → (Sum.elim (fun w => LoopEv E H hn57 0 c57_0 (F57_l0_0_S a682 a683 v721) .ret (F57_l0_0_X0 a682 a683 w)) (fun w => LoopEv E H hn57 0 c57_0 (F57_l0_0_S a682 a683 v721) (.exit 0) (F57_l0_0_X1 a682 a683 w))) r := by
  intro k
  induction k with
  | zero => intro v721 r hF; cases hF
  | succ k ih =>
    intro v721 r hF
    rw [F57_l0_0] at hF
    refine cond_some hF (fun h722 hF => ?_) (fun h722 hF => ?_)
    ·
      refine cond_some hF (fun h723 hF => ?_) (fun _ hF => nomatch hF)
      refine bind_some hF (fun x724 h725 hF => ?_)
      refine bind_some hF (fun r726 h727 hF => ?_)
      have pq733 : ∀ {l : List Cond}, HoldAll E H hn57 l → HoldAll E H hn57 (.int (nlen (len a682.Came)) (nlen (len a682.Came)) :: .test (ilt v721 (nlen (len a682.Came))) true :: .test (inr v721 (len a682.Came)) true :: .sub (flat eGPart a682.Came) (nidx v721 5) 5 [(.lit (.int .i64 x724.P)), (.lit (.int .i64 x724.Step)), (.sl (len x724.Vals) (flat (eInt .i64) x724.Vals)), (.sl (len x724.Rest) (flat eBool x724.Rest)), (.sl (len x724.In) (flat eGMsg x724.In))] :: .call 124 [.agg (eGPart x724)] (F124_res r726) :: .test (leadsAny (Res.mk [(.one (.im (.lit (.bool r726))))] [])) false :: l) := fun z => ⟨rfl, h722, h723, ⟨rfl, sub_flat0 eGPart_len h725 5 (by decide)⟩, (F124_ok K x724 _ h727), (leads_ok (by simp only [leadsAny, List.any_cons, List.any_nil, RV.leads, RC.leads, leadsT, hasSl_lit, Bool.or_false, flat_ns (eInt_ns _), flat_ns eBool_ns, flat_ns eStr_ns, flat_ns eGJob_ns, flat_ns eGEdge_ns, flat_ns eGAsked_ns, flat_ns eGMsg_ns, flat_ns eGrule_ns, flat_ns eGA199_ns, flat_ns eGA202_ns])), z⟩
      refine cond_some hF (fun h728 hF => ?_) (fun h728 hF => ?_)
      ·
        have pz : HoldAll E H hn57 [.test (bnot r726) false, .int (wadd .i64 v721 1) (wadd .i64 v721 1)] := ⟨(bnot_t h728), rfl, trivial⟩
        have h0 := ih _ _ hF
        have hn := fun ex ts' => loop_nextC (h := hn57) (l := 0) (c := c57_0) (ts := F57_l0_0_S a682 a683 v721) (ts1 := (F57_l0_0_S a682 a683 (wadd .i64 v721 1))) (ex := ex) (ts' := ts') (pq733 pz) (by kernel_rfl)
        cases r with
        | inl w => exact hn _ _ h0
        | inr w => exact hn _ _ h0
      refine cond_some hF (fun h729 hF => ?_) (fun h729 hF => ?_)
      ·
        have hr := Option.some.inj hF
        subst hr
        have pz : HoldAll E H hn57 [.test (bnot r726) true, .int (wadd .i64 a682.Step 1) (wadd .i64 a682.Step 1), .test (ige (wadd .i64 a682.Step 1) a683) true] := ⟨(bnot_f h728), rfl, (ige_eq h729), trivial⟩
        exact loop_endC (h := hn57) (l := 0) (c := c57_0) (ts := F57_l0_0_S a682 a683 v721) (ts' := F57_l0_0_X0 a682 a683 3) (ex := .ret) (pq733 pz) (by kernel_rfl) trivial
      have hr := Option.some.inj hF
      subst hr
      have pz : HoldAll E H hn57 [.test (bnot r726) true, .int (wadd .i64 a682.Step 1) (wadd .i64 a682.Step 1), .test (ige (wadd .i64 a682.Step 1) a683) false] := ⟨(bnot_f h728), rfl, (ige_eq h729), trivial⟩
      exact loop_endC (h := hn57) (l := 0) (c := c57_0) (ts := F57_l0_0_S a682 a683 v721) (ts' := F57_l0_0_X0 a682 a683 0) (ex := .ret) (pq733 pz) (by kernel_rfl) trivial
    have hr := Option.some.inj hF
    subst hr
    have pz : HoldAll E H hn57 [.int (nlen (len a682.Came)) (nlen (len a682.Came)), .test (ilt v721 (nlen (len a682.Came))) false] := ⟨rfl, h722, trivial⟩
    exact loop_endC (h := hn57) (l := 0) (c := c57_0) (ts := F57_l0_0_S a682 a683 v721) (ts' := F57_l0_0_X1 a682 a683 ()) (ex := (.exit 0)) pz (by kernel_rfl) trivial

def F57 (K : Nat) (a682 : GBarrier) (a683 : Int) : Option (Int × Bool) :=
  (F49 K a682).bind fun r684 =>
  bif r684 then
    (bif a682.Over then
      (some (2, true))
    else
    bif (ilt (nlen (len a682.Came)) a682.Parts) then
      (some (0, false))
    else
    (F57_l0_0 K a682 a683 K 0).bind fun y735 =>
    Sum.elim (fun w736 =>
      some (w736, true))
      (fun w738 =>
      some (1, true)) y735)
  else
  some (0, false)
theorem F57_ok (K : Nat) (a682 : GBarrier) (a683 : Int) (r : Int × Bool) (hF : F57 K a682 a683 = some r) : Evt E H 57 [.agg (eGBarrier a682), .one (.lit (.int .i64 a683))] (F57_res r) := by
  rw [F57] at hF
  refine bind_some hF (fun r684 h685 hF => ?_)
  refine cond_some hF (fun h686 hF => ?_) (fun h686 hF => ?_)
  ·
    have pq739 : ∀ {l : List Cond}, HoldAll E H hn57 l → HoldAll E H hn57 (.call 49 [.agg (eGBarrier a682)] (F49_res r684) :: .test (leadsAny (Res.mk [(.one (.im (.lit (.bool r684))))] [])) false :: .test (bnot r684) false :: l) := fun z => ⟨(F49_ok K a682 _ h685), (leads_ok (by simp only [leadsAny, List.any_cons, List.any_nil, RV.leads, RC.leads, leadsT, hasSl_lit, Bool.or_false, flat_ns (eInt_ns _), flat_ns eBool_ns, flat_ns eStr_ns, flat_ns eGJob_ns, flat_ns eGEdge_ns, flat_ns eGAsked_ns, flat_ns eGMsg_ns, flat_ns eGrule_ns, flat_ns eGA199_ns, flat_ns eGA202_ns])), (bnot_t h686), z⟩
    refine cond_some hF (fun h687 hF => ?_) (fun h687 hF => ?_)
    ·
      have hr := Option.some.inj hF
      subst hr
      have pz : HoldAll E H hn57 [.test a682.Over true] := ⟨h687, trivial⟩
      exact fn_playC hn57 (f := 57) (ads := [.agg (eGBarrier a682), .one (.lit (.int .i64 a683))]) (r := F57_res (2, true)) (pq739 pz) (by kernel_rfl) (by kernel_rfl)
    refine cond_some hF (fun h688 hF => ?_) (fun h688 hF => ?_)
    ·
      have hr := Option.some.inj hF
      subst hr
      have pz : HoldAll E H hn57 [.test a682.Over false, .int (nlen (len a682.Came)) (nlen (len a682.Came)), .test (ilt (nlen (len a682.Came)) a682.Parts) true] := ⟨h687, rfl, h688, trivial⟩
      exact fn_playC hn57 (f := 57) (ads := [.agg (eGBarrier a682), .one (.lit (.int .i64 a683))]) (r := F57_res (0, false)) (pq739 pz) (by kernel_rfl) (by kernel_rfl)
    have pq740 : ∀ {l : List Cond}, HoldAll E H hn57 l → HoldAll E H hn57 (.test a682.Over false :: .int (nlen (len a682.Came)) (nlen (len a682.Came)) :: .test (ilt (nlen (len a682.Came)) a682.Parts) false :: l) := fun z => ⟨h687, rfl, h688, z⟩
    refine bind_some hF (fun y735 h734 hF => ?_)
    refine sum_some hF (fun w736 hx hF => ?_) (fun w738 hx hF => ?_)
    ·
      subst hx
      have hr := Option.some.inj hF
      subst hr
      have pz : HoldAll E H hn57 [.loop 0 c57_0 (F57_l0_0_S a682 a683 0) .ret (F57_l0_0_X0 a682 a683 w736)] := ⟨(F57_l0_0_ok K a682 a683 K 0 _ h734), trivial⟩
      exact fn_playC hn57 (f := 57) (ads := [.agg (eGBarrier a682), .one (.lit (.int .i64 a683))]) (r := F57_res (w736, true)) (pq739 (pq740 pz)) (by kernel_rfl) (by kernel_rfl)
    subst hx
    have hr := Option.some.inj hF
    subst hr
    have pz : HoldAll E H hn57 [.loop 0 c57_0 (F57_l0_0_S a682 a683 0) (.exit 0) (F57_l0_0_X1 a682 a683 w738)] := ⟨(F57_l0_0_ok K a682 a683 K 0 _ h734), trivial⟩
    exact fn_playC hn57 (f := 57) (ads := [.agg (eGBarrier a682), .one (.lit (.int .i64 a683))]) (r := F57_res (1, true)) (pq739 (pq740 pz)) (by kernel_rfl) (by kernel_rfl)
  have hr := Option.some.inj hF
  subst hr
  have pz : HoldAll E H hn57 [.call 49 [.agg (eGBarrier a682)] (F49_res r684), .test (leadsAny (Res.mk [(.one (.im (.lit (.bool r684))))] [])) false, .test (bnot r684) true] := ⟨(F49_ok K a682 _ h685), (leads_ok (by simp only [leadsAny, List.any_cons, List.any_nil, RV.leads, RC.leads, leadsT, hasSl_lit, Bool.or_false, flat_ns (eInt_ns _), flat_ns eBool_ns, flat_ns eStr_ns, flat_ns eGJob_ns, flat_ns eGEdge_ns, flat_ns eGAsked_ns, flat_ns eGMsg_ns, flat_ns eGrule_ns, flat_ns eGA199_ns, flat_ns eGA202_ns])), (bnot_f h686), trivial⟩
  exact fn_playC hn57 (f := 57) (ads := [.agg (eGBarrier a682), .one (.lit (.int .i64 a683))]) (r := F57_res (0, false)) pz (by kernel_rfl) (by kernel_rfl)

/-! ### haywain/haywainlaw19.one -/
noncomputable def hn58 : Hint := { H 58 with nt := 17, prot := 0 }
def F58_res (r782 : GPart) : Res := ⟨[(.agg [(.im (.lit (.int .i64 r782.P))), (.im (.lit (.int .i64 r782.Step))), (.own 2 (.sl (len r782.Vals) (flat (eInt .i64) r782.Vals))), (.own 4 (.sl (len r782.Rest) (flat eBool r782.Rest))), (.own 130 (.sl (len r782.In) (flat eGMsg r782.In)))])], []⟩
def F58 (K : Nat) (a779 : Int) (a780 : Int) (a781 : Int) : Option (GPart) :=
  some (GPart.mk a779 (wadd .i64 a780 1) [a781] [(ieq (wrem a781 2) 0)] [])
theorem F58_ok (K : Nat) (a779 : Int) (a780 : Int) (a781 : Int) (r : GPart) (hF : F58 K a779 a780 a781 = some r) : Evt E H 58 [.one (.lit (.int .i64 a779)), .one (.lit (.int .i64 a780)), .one (.lit (.int .i64 a781))] (F58_res r) := by
  rw [F58] at hF
  have hr := Option.some.inj hF
  subst hr
  have pz : HoldAll E H hn58 [.int (wadd .i64 a780 1) (wadd .i64 a780 1), .test (izero 2) false, .int (wrem a781 2) (wrem a781 2)] := ⟨rfl, (by first | exact rfl | (unfold Cond.Holds; decide)), rfl, trivial⟩
  exact fn_playC hn58 (f := 58) (ads := [.one (.lit (.int .i64 a779)), .one (.lit (.int .i64 a780)), .one (.lit (.int .i64 a781))]) (r := F58_res (GPart.mk a779 (wadd .i64 a780 1) [a781] [(ieq (wrem a781 2) 0)] [])) pz (by kernel_rfl) (by kernel_rfl)

end Go.Proofs.Ytnjanliihnadjaa.Tm

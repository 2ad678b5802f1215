/- Printed by program: what each function computes, and that the machine answers so. Conditions: none. -/
import Derived.Test.YtnjanliihnadjaaTy
import Derived.Test.YtnjanliihnadjaaTab
import Derived.Test.YtnjanliihnadjaaFA
import Derived.KernelRfl
set_option linter.unusedVariables false
set_option linter.unusedSimpArgs false
namespace Go.Proofs.Ytnjanliihnadjaa.Tm
open Go
/-! ### haywain/haywainlaw19.broad -/
noncomputable def hn47 : Hint := { H 47 with nt := 19, prot := 0 }
def F47_res (r297 : Bool) : Res := ⟨[(.one (.im (.lit (.bool r297))))], []⟩
def F47 (K : Nat) (a293 : GPart) : Option (Bool) :=
  bif (ilt 100 (nlen (len a293.Vals))) then
    (some true)
  else
  bif (ilt 100 (nlen (len a293.Rest))) then
    (some true)
  else
  some (igt (nlen (len a293.In)) 100)
theorem F47_ok (K : Nat) (a293 : GPart) (r : Bool) (hF : F47 K a293 = some r) : Evt E H 47 [.agg (eGPart a293)] (F47_res r) := by
  rw [F47] at hF
  refine cond_some hF (fun h294 hF => ?_) (fun h294 hF => ?_)
  ·
    have hr := Option.some.inj hF
    subst hr
    have pz : HoldAll E H hn47 [.int (nlen (len a293.Vals)) (nlen (len a293.Vals)), .test (beqb (igt (nlen (len a293.Vals)) 100) false) false, .test (beqb (igt (nlen (len a293.Vals)) 100) false) false, .test (beqb (igt (nlen (len a293.Vals)) 100) false) false, .test (beqb (igt (nlen (len a293.Vals)) 100) false) false, .test (igt (nlen (len a293.Vals)) 100) true, .test (beqb true false) false, .test (beqb true false) false, .test (beqb true false) false, .test (beqb true false) false, .test true true] := ⟨rfl, (beqb_ft (igt_eq h294)), (beqb_ft (igt_eq h294)), (beqb_ft (igt_eq h294)), (beqb_ft (igt_eq h294)), (igt_eq h294), (beqb_ft rfl), (beqb_ft rfl), (beqb_ft rfl), (beqb_ft rfl), rfl, trivial⟩
    exact fn_playC hn47 (f := 47) (ads := [.agg (eGPart a293)]) (r := F47_res true) pz (by kernel_rfl) (by kernel_rfl)
  have pq296 : ∀ {l : List Cond}, HoldAll E H hn47 l → HoldAll E H hn47 (.int (nlen (len a293.Vals)) (nlen (len a293.Vals)) :: .test (beqb (igt (nlen (len a293.Vals)) 100) false) true :: .test (beqb (igt (nlen (len a293.Vals)) 100) false) true :: .test (beqb (igt (nlen (len a293.Vals)) 100) false) true :: .int (nlen (len a293.Rest)) (nlen (len a293.Rest)) :: .test (beqb (igt (nlen (len a293.Vals)) 100) false) true :: .test (igt (nlen (len a293.Vals)) 100) false :: l) := fun z => ⟨rfl, (beqb_ff (igt_eq h294)), (beqb_ff (igt_eq h294)), (beqb_ff (igt_eq h294)), rfl, (beqb_ff (igt_eq h294)), (igt_eq h294), z⟩
  refine cond_some hF (fun h295 hF => ?_) (fun h295 hF => ?_)
  ·
    have hr := Option.some.inj hF
    subst hr
    have pz : HoldAll E H hn47 [.test (beqb (igt (nlen (len a293.Rest)) 100) false) false, .test (beqb (igt (nlen (len a293.Rest)) 100) false) false, .test (beqb (igt (nlen (len a293.Rest)) 100) false) false, .test (beqb (igt (nlen (len a293.Rest)) 100) false) false, .test (igt (nlen (len a293.Rest)) 100) true] := ⟨(beqb_ft (igt_eq h295)), (beqb_ft (igt_eq h295)), (beqb_ft (igt_eq h295)), (beqb_ft (igt_eq h295)), (igt_eq h295), trivial⟩
    exact fn_playC hn47 (f := 47) (ads := [.agg (eGPart a293)]) (r := F47_res true) (pq296 pz) (by kernel_rfl) (by kernel_rfl)
  have hr := Option.some.inj hF
  subst hr
  have pz : HoldAll E H hn47 [.test (beqb (igt (nlen (len a293.Rest)) 100) false) true, .test (beqb (igt (nlen (len a293.Rest)) 100) false) true, .test (beqb (igt (nlen (len a293.Rest)) 100) false) true, .int (nlen (len a293.In)) (nlen (len a293.In)), .test (beqb (igt (nlen (len a293.Rest)) 100) false) true, .test (igt (nlen (len a293.Rest)) 100) false] := ⟨(beqb_ff (igt_eq h295)), (beqb_ff (igt_eq h295)), (beqb_ff (igt_eq h295)), rfl, (beqb_ff (igt_eq h295)), (igt_eq h295), trivial⟩
  exact fn_playC hn47 (f := 47) (ads := [.agg (eGPart a293)]) (r := F47_res (igt (nlen (len a293.In)) 100)) (pq296 pz) (by kernel_rfl) (by kernel_rfl)

/-! ### haywain/haywainlaw19.great -/
noncomputable def hn46 : Hint := { H 46 with nt := 21, prot := 0 }
noncomputable def c46_0 : Code := loopOf E 46 0
def F46_res (r316 : Bool) : Res := ⟨[(.one (.im (.lit (.bool r316))))], []⟩
def F46_l0_0 (K : Nat) (a287 : GBarrier) : Nat → Int → Option ((Unit) ⊕ (Unit))
  | 0, _ => none
  | k + 1, v301 =>
    bif (ilt v301 (nlen (len a287.Came))) then
      (bif (inr v301 (len a287.Came)) then
      (elAt a287.Came v301).bind fun x304 =>
      (F47 K x304).bind fun r306 =>
      bif r306 then
        (some (.inl ()))
      else
      F46_l0_0 K a287 k (wadd .i64 v301 1)
      else none)
    else
    some (.inr ())
def F46_l0_0_S (a287 : GBarrier) (v301 : Int) : TS := .on [64, 65, 66, 67, 68, 69, 192, 193] [(64, ⟨(.box 24 5), 0, nob⟩), (65, ⟨.im, 0, (.lit (.int .i64 a287.Epoch))⟩), (66, ⟨.im, 0, (.lit (.int .i64 a287.Step))⟩), (67, ⟨.im, 0, (.lit (.int .i64 a287.Parts))⟩), (68, ⟨.im, 0, (.sl (len a287.Came) (flat eGPart a287.Came))⟩), (69, ⟨.im, 0, (.lit (.bool a287.Over))⟩), (192, ⟨.one, 0, nob⟩), (193, ⟨.im, 0, (.lit (.int .i64 v301))⟩)]
def F46_l0_0_X0 (a287 : GBarrier) (w309 : Unit) : TS := .on [128, 129] [(128, ⟨.one, 0, nob⟩), (129, ⟨.im, 0, (.lit (.bool true))⟩)]
def F46_l0_0_X1 (a287 : GBarrier) (w310 : Unit) : TS := .on [] []
theorem F46_l0_0_ok (K : Nat) (a287 : GBarrier) : ∀ (k : Nat) (v301 : Int) (r : (Unit) ⊕ (Unit)), F46_l0_0 K a287 k v301 = some r → (Sum.elim (fun w => LoopEv E H hn46 0 c46_0 (F46_l0_0_S a287 v301) .ret (F46_l0_0_X0 a287 w)) (fun w => LoopEv E H hn46 0 c46_0 (F46_l0_0_S a287 v301) (.exit 0) (F46_l0_0_X1 a287 w))) r := by
  intro k
  induction k with
  | zero => intro v301 r hF; cases hF
  | succ k ih =>
    intro v301 r hF
    rw [F46_l0_0] at hF
    refine cond_some hF (fun h302 hF => ?_) (fun h302 hF => ?_)
    ·
      refine cond_some hF (fun h303 hF => ?_) (fun _ hF => nomatch hF)
      refine bind_some hF (fun x304 h305 hF => ?_)
      refine bind_some hF (fun r306 h307 hF => ?_)
      have pq311 : ∀ {l : List Cond}, HoldAll E H hn46 l → HoldAll E H hn46 (.int (nlen (len a287.Came)) (nlen (len a287.Came)) :: .test (ilt v301 (nlen (len a287.Came))) true :: .test (inr v301 (len a287.Came)) true :: .sub (flat eGPart a287.Came) (nidx v301 5) 5 [(.lit (.int .i64 x304.P)), (.lit (.int .i64 x304.Step)), (.sl (len x304.Vals) (flat (eInt .i64) x304.Vals)), (.sl (len x304.Rest) (flat eBool x304.Rest)), (.sl (len x304.In) (flat eGMsg x304.In))] :: .call 47 [.agg (eGPart x304)] (F47_res r306) :: .test (leadsAny (Res.mk [(.one (.im (.lit (.bool r306))))] [])) false :: l) := fun z => ⟨rfl, h302, h303, ⟨rfl, sub_flat0 eGPart_len h305 5 (by decide)⟩, (F47_ok K x304 _ h307), (leads_ok (by simp only [leadsAny, List.any_cons, List.any_nil, RV.leads, RC.leads, leadsT, hasSl_lit, Bool.or_false, flat_ns (eInt_ns _), flat_ns eBool_ns, flat_ns eStr_ns, flat_ns eGJob_ns, flat_ns eGEdge_ns, flat_ns eGAsked_ns, flat_ns eGMsg_ns, flat_ns eGrule_ns])), z⟩
      refine cond_some hF (fun h308 hF => ?_) (fun h308 hF => ?_)
      ·
        have hr := Option.some.inj hF
        subst hr
        have pz : HoldAll E H hn46 [.test r306 true] := ⟨h308, trivial⟩
        exact loop_endC (h := hn46) (l := 0) (c := c46_0) (ts := F46_l0_0_S a287 v301) (ts' := F46_l0_0_X0 a287 ()) (ex := .ret) (pq311 pz) (by kernel_rfl) trivial
      have pz : HoldAll E H hn46 [.test r306 false, .int (wadd .i64 v301 1) (wadd .i64 v301 1)] := ⟨h308, rfl, trivial⟩
      have h0 := ih _ _ hF
      have hn := fun ex ts' => loop_nextC (h := hn46) (l := 0) (c := c46_0) (ts := F46_l0_0_S a287 v301) (ts1 := (F46_l0_0_S a287 (wadd .i64 v301 1))) (ex := ex) (ts' := ts') (pq311 pz) (by kernel_rfl)
      cases r with
      | inl w => exact hn _ _ h0
      | inr w => exact hn _ _ h0
    have hr := Option.some.inj hF
    subst hr
    have pz : HoldAll E H hn46 [.int (nlen (len a287.Came)) (nlen (len a287.Came)), .test (ilt v301 (nlen (len a287.Came))) false] := ⟨rfl, h302, trivial⟩
    exact loop_endC (h := hn46) (l := 0) (c := c46_0) (ts := F46_l0_0_S a287 v301) (ts' := F46_l0_0_X1 a287 ()) (ex := (.exit 0)) pz (by kernel_rfl) trivial

def F46 (K : Nat) (a287 : GBarrier) : Option (Bool) :=
  bif (ilt 30 (nlen (len a287.Came))) then
    (some true)
  else
  (F46_l0_0 K a287 K 0).bind fun y313 =>
  Sum.elim (fun w314 =>
    some true)
    (fun w315 =>
    some false) y313
theorem F46_ok (K : Nat) (a287 : GBarrier) (r : Bool) (hF : F46 K a287 = some r) : Evt E H 46 [.agg (eGBarrier a287)] (F46_res r) := by
  rw [F46] at hF
  refine cond_some hF (fun h288 hF => ?_) (fun h288 hF => ?_)
  ·
    have hr := Option.some.inj hF
    subst hr
    have pz : HoldAll E H hn46 [.int (nlen (len a287.Came)) (nlen (len a287.Came)), .test (igt (nlen (len a287.Came)) 30) true] := ⟨rfl, (igt_eq h288), trivial⟩
    exact fn_playC hn46 (f := 46) (ads := [.agg (eGBarrier a287)]) (r := F46_res true) pz (by kernel_rfl) (by kernel_rfl)
  refine bind_some hF (fun y313 h312 hF => ?_)
  refine sum_some hF (fun w314 hx hF => ?_) (fun w315 hx hF => ?_)
  ·
    subst hx
    have hr := Option.some.inj hF
    subst hr
    have pz : HoldAll E H hn46 [.int (nlen (len a287.Came)) (nlen (len a287.Came)), .test (igt (nlen (len a287.Came)) 30) false, .loop 0 c46_0 (F46_l0_0_S a287 0) .ret (F46_l0_0_X0 a287 w314)] := ⟨rfl, (igt_eq h288), (F46_l0_0_ok K a287 K 0 _ h312), trivial⟩
    exact fn_playC hn46 (f := 46) (ads := [.agg (eGBarrier a287)]) (r := F46_res true) pz (by kernel_rfl) (by kernel_rfl)
  subst hx
  have hr := Option.some.inj hF
  subst hr
  have pz : HoldAll E H hn46 [.int (nlen (len a287.Came)) (nlen (len a287.Came)), .test (igt (nlen (len a287.Came)) 30) false, .loop 0 c46_0 (F46_l0_0_S a287 0) (.exit 0) (F46_l0_0_X1 a287 w315)] := ⟨rfl, (igt_eq h288), (F46_l0_0_ok K a287 K 0 _ h312), trivial⟩
  exact fn_playC hn46 (f := 46) (ads := [.agg (eGBarrier a287)]) (r := F46_res false) pz (by kernel_rfl) (by kernel_rfl)

/-! ### haywain/barrier.Full -/
noncomputable def hn50 : Hint := { H 50 with nt := 13, prot := 0 }
def F50_res (r338 : Bool) : Res := ⟨[(.one (.im (.lit (.bool r338))))], []⟩
def F50 (K : Nat) (a334 : GBarrier) : Option (Bool) :=
  (F48 K a334).bind fun r335 =>
  bif r335 then
    (some (ieq (nlen (len a334.Came)) a334.Parts))
  else
  some false
theorem F50_ok (K : Nat) (a334 : GBarrier) (r : Bool) (hF : F50 K a334 = some r) : Evt E H 50 [.agg (eGBarrier a334)] (F50_res r) := by
  rw [F50] at hF
  refine bind_some hF (fun r335 h336 hF => ?_)
  refine cond_some hF (fun h337 hF => ?_) (fun h337 hF => ?_)
  ·
    have hr := Option.some.inj hF
    subst hr
    have pz : HoldAll E H hn50 [.call 48 [.agg (eGBarrier a334)] (F48_res r335), .test (leadsAny (Res.mk [(.one (.im (.lit (.bool r335))))] [])) false, .test (beqb r335 true) true, .test (beqb r335 true) true, .test (beqb r335 true) true, .int (nlen (len a334.Came)) (nlen (len a334.Came)), .test (beqb r335 true) true, .test (beqb r335 true) true, .test (beqb r335 true) true, .test r335 true] := ⟨(F48_ok K a334 _ h336), (leads_ok (by simp only [leadsAny, List.any_cons, List.any_nil, RV.leads, RC.leads, leadsT, hasSl_lit, Bool.or_false, flat_ns (eInt_ns _), flat_ns eBool_ns, flat_ns eStr_ns, flat_ns eGJob_ns, flat_ns eGEdge_ns, flat_ns eGAsked_ns, flat_ns eGMsg_ns, flat_ns eGrule_ns])), (beqb_t h337), (beqb_t h337), (beqb_t h337), rfl, (beqb_t h337), (beqb_t h337), (beqb_t h337), h337, trivial⟩
    exact fn_playC hn50 (f := 50) (ads := [.agg (eGBarrier a334)]) (r := F50_res (ieq (nlen (len a334.Came)) a334.Parts)) pz (by kernel_rfl) (by kernel_rfl)
  have hr := Option.some.inj hF
  subst hr
  have pz : HoldAll E H hn50 [.call 48 [.agg (eGBarrier a334)] (F48_res r335), .test (leadsAny (Res.mk [(.one (.im (.lit (.bool r335))))] [])) false, .test (beqb r335 true) false, .test (beqb r335 true) false, .test (beqb r335 true) false, .test (beqb r335 true) false, .test (beqb r335 true) false, .test (beqb r335 true) false, .test r335 false] := ⟨(F48_ok K a334 _ h336), (leads_ok (by simp only [leadsAny, List.any_cons, List.any_nil, RV.leads, RC.leads, leadsT, hasSl_lit, Bool.or_false, flat_ns (eInt_ns _), flat_ns eBool_ns, flat_ns eStr_ns, flat_ns eGJob_ns, flat_ns eGEdge_ns, flat_ns eGAsked_ns, flat_ns eGMsg_ns, flat_ns eGrule_ns])), (beqb_t h337), (beqb_t h337), (beqb_t h337), (beqb_t h337), (beqb_t h337), (beqb_t h337), h337, trivial⟩
  exact fn_playC hn50 (f := 50) (ads := [.agg (eGBarrier a334)]) (r := F50_res false) pz (by kernel_rfl) (by kernel_rfl)

/-! ### haywain/haywainref19.Full -/
noncomputable def hn51 : Hint := { H 51 with nt := 13, prot := 0 }
def F51_res (r345 : Bool) : Res := ⟨[(.one (.im (.lit (.bool r345))))], []⟩
def F51 (K : Nat) (a341 : GBarrier) : Option (Bool) :=
  (F49 K a341).bind fun r342 =>
  bif r342 then
    (some (ieq (nlen (len a341.Came)) a341.Parts))
  else
  some false
theorem F51_ok (K : Nat) (a341 : GBarrier) (r : Bool) (hF : F51 K a341 = some r) : Evt E H 51 [.agg (eGBarrier a341)] (F51_res r) := by
  rw [F51] at hF
  refine bind_some hF (fun r342 h343 hF => ?_)
  refine cond_some hF (fun h344 hF => ?_) (fun h344 hF => ?_)
  ·
    have hr := Option.some.inj hF
    subst hr
    have pz : HoldAll E H hn51 [.call 49 [.agg (eGBarrier a341)] (F49_res r342), .test (leadsAny (Res.mk [(.one (.im (.lit (.bool r342))))] [])) false, .test (beqb r342 true) true, .test (beqb r342 true) true, .test (beqb r342 true) true, .int (nlen (len a341.Came)) (nlen (len a341.Came)), .test (beqb r342 true) true, .test (beqb r342 true) true, .test (beqb r342 true) true, .test r342 true] := ⟨(F49_ok K a341 _ h343), (leads_ok (by simp only [leadsAny, List.any_cons, List.any_nil, RV.leads, RC.leads, leadsT, hasSl_lit, Bool.or_false, flat_ns (eInt_ns _), flat_ns eBool_ns, flat_ns eStr_ns, flat_ns eGJob_ns, flat_ns eGEdge_ns, flat_ns eGAsked_ns, flat_ns eGMsg_ns, flat_ns eGrule_ns])), (beqb_t h344), (beqb_t h344), (beqb_t h344), rfl, (beqb_t h344), (beqb_t h344), (beqb_t h344), h344, trivial⟩
    exact fn_playC hn51 (f := 51) (ads := [.agg (eGBarrier a341)]) (r := F51_res (ieq (nlen (len a341.Came)) a341.Parts)) pz (by kernel_rfl) (by kernel_rfl)
  have hr := Option.some.inj hF
  subst hr
  have pz : HoldAll E H hn51 [.call 49 [.agg (eGBarrier a341)] (F49_res r342), .test (leadsAny (Res.mk [(.one (.im (.lit (.bool r342))))] [])) false, .test (beqb r342 true) false, .test (beqb r342 true) false, .test (beqb r342 true) false, .test (beqb r342 true) false, .test (beqb r342 true) false, .test (beqb r342 true) false, .test r342 false] := ⟨(F49_ok K a341 _ h343), (leads_ok (by simp only [leadsAny, List.any_cons, List.any_nil, RV.leads, RC.leads, leadsT, hasSl_lit, Bool.or_false, flat_ns (eInt_ns _), flat_ns eBool_ns, flat_ns eStr_ns, flat_ns eGJob_ns, flat_ns eGEdge_ns, flat_ns eGAsked_ns, flat_ns eGMsg_ns, flat_ns eGrule_ns])), (beqb_t h344), (beqb_t h344), (beqb_t h344), (beqb_t h344), (beqb_t h344), (beqb_t h344), h344, trivial⟩
  exact fn_playC hn51 (f := 51) (ads := [.agg (eGBarrier a341)]) (r := F51_res false) pz (by kernel_rfl) (by kernel_rfl)

/-! ### haywain/barrier.own -/
noncomputable def hn129 : Hint := { H 129 with nt := 38, prot := 0 }
def F129_res (r366 : GPart) : Res := ⟨[(.agg [(.im (.lit (.int .i64 r366.P))), (.im (.lit (.int .i64 r366.Step))), (.own 2 (.sl (len r366.Vals) (flat (eInt .i64) r366.Vals))), (.own 4 (.sl (len r366.Rest) (flat eBool r366.Rest))), (.own 130 (.sl (len r366.In) (flat eGMsg r366.In)))])], []⟩
def F129 (K : Nat) (a362 : GPart) : Option (GPart) :=
  bif (mkok (nlen (len a362.Vals)) (nlen (len a362.Vals)) 8) then
  bif (mkok (nlen (len a362.Rest)) (nlen (len a362.Rest)) 1) then
  bif (mkok (nlen (len a362.In)) (nlen (len a362.In)) 16) then
  some (GPart.mk a362.P a362.Step (copyL a362.Vals (repL (α := Int) (nlen (len a362.Vals)) 0)) (copyL a362.Rest (repL (α := Bool) (nlen (len a362.Rest)) false)) (copyL a362.In (repL (α := GMsg) (nlen (len a362.In)) (GMsg.mk 0 0))))
  else none
  else none
  else none
theorem F129_ok (K : Nat) (a362 : GPart) (r : GPart) (hF : F129 K a362 = some r) : Evt E H 129 [.agg (eGPart a362)] (F129_res r) := by
  rw [F129] at hF
  refine cond_some hF (fun h363 hF => ?_) (fun _ hF => nomatch hF)
  refine cond_some hF (fun h364 hF => ?_) (fun _ hF => nomatch hF)
  refine cond_some hF (fun h365 hF => ?_) (fun _ hF => nomatch hF)
  have hr := Option.some.inj hF
  subst hr
  have pz : HoldAll E H hn129 [.int (nlen (len a362.Vals)) (nlen (len a362.Vals)), .test (mkok (nlen (len a362.Vals)) (nlen (len a362.Vals)) 8) true, .sl (nint (nlen (len a362.Vals))) (lrep (nlen (len a362.Vals)) [(.lit (.int .i64 0))]) (len (α := Int) (repL (α := Int) (nlen (len a362.Vals)) 0)) (flat (eInt .i64) (repL (α := Int) (nlen (len a362.Vals)) 0)), .int (nlen (len a362.Rest)) (nlen (len a362.Rest)), .test (mkok (nlen (len a362.Rest)) (nlen (len a362.Rest)) 1) true, .sl (nint (nlen (len a362.Rest))) (lrep (nlen (len a362.Rest)) [(.lit (.bool false))]) (len (α := Bool) (repL (α := Bool) (nlen (len a362.Rest)) false)) (flat eBool (repL (α := Bool) (nlen (len a362.Rest)) false)), .int (nlen (len a362.In)) (nlen (len a362.In)), .test (mkok (nlen (len a362.In)) (nlen (len a362.In)) 16) true, .sl (nint (nlen (len a362.In))) (lrep (nlen (len a362.In)) [(.lit (.int .i64 0)), (.lit (.int .i64 0))]) (len (α := GMsg) (repL (α := GMsg) (nlen (len a362.In)) (GMsg.mk 0 0))) (flat eGMsg (repL (α := GMsg) (nlen (len a362.In)) (GMsg.mk 0 0))), .test (leqm (flat (eInt .i64) a362.Vals) (len a362.Vals) 1) true, .sl (len (α := Int) (repL (α := Int) (nlen (len a362.Vals)) 0)) (lcopy (flat (eInt .i64) a362.Vals) (flat (eInt .i64) (repL (α := Int) (nlen (len a362.Vals)) 0)) (len a362.Vals) (len (α := Int) (repL (α := Int) (nlen (len a362.Vals)) 0)) 1) (len (α := Int) (copyL a362.Vals (repL (α := Int) (nlen (len a362.Vals)) 0))) (flat (eInt .i64) (copyL a362.Vals (repL (α := Int) (nlen (len a362.Vals)) 0))), .int (nmin (len a362.Vals) (len (α := Int) (repL (α := Int) (nlen (len a362.Vals)) 0))) (nmin (len a362.Vals) (len (α := Int) (repL (α := Int) (nlen (len a362.Vals)) 0))), .test (leqm (flat eBool a362.Rest) (len a362.Rest) 1) true, .sl (len (α := Bool) (repL (α := Bool) (nlen (len a362.Rest)) false)) (lcopy (flat eBool a362.Rest) (flat eBool (repL (α := Bool) (nlen (len a362.Rest)) false)) (len a362.Rest) (len (α := Bool) (repL (α := Bool) (nlen (len a362.Rest)) false)) 1) (len (α := Bool) (copyL a362.Rest (repL (α := Bool) (nlen (len a362.Rest)) false))) (flat eBool (copyL a362.Rest (repL (α := Bool) (nlen (len a362.Rest)) false))), .int (nmin (len a362.Rest) (len (α := Bool) (repL (α := Bool) (nlen (len a362.Rest)) false))) (nmin (len a362.Rest) (len (α := Bool) (repL (α := Bool) (nlen (len a362.Rest)) false))), .test (leqm (flat eGMsg a362.In) (len a362.In) 2) true, .sl (len (α := GMsg) (repL (α := GMsg) (nlen (len a362.In)) (GMsg.mk 0 0))) (lcopy (flat eGMsg a362.In) (flat eGMsg (repL (α := GMsg) (nlen (len a362.In)) (GMsg.mk 0 0))) (len a362.In) (len (α := GMsg) (repL (α := GMsg) (nlen (len a362.In)) (GMsg.mk 0 0))) 2) (len (α := GMsg) (copyL a362.In (repL (α := GMsg) (nlen (len a362.In)) (GMsg.mk 0 0)))) (flat eGMsg (copyL a362.In (repL (α := GMsg) (nlen (len a362.In)) (GMsg.mk 0 0)))), .int (nmin (len a362.In) (len (α := GMsg) (repL (α := GMsg) (nlen (len a362.In)) (GMsg.mk 0 0)))) (nmin (len a362.In) (len (α := GMsg) (repL (α := GMsg) (nlen (len a362.In)) (GMsg.mk 0 0))))] := ⟨rfl, h363, (rep_okC (enc := (eInt .i64)) (n := (nlen (len a362.Vals))) (x := 0) rfl), rfl, h364, (rep_okC (enc := eBool) (n := (nlen (len a362.Rest))) (x := false) rfl), rfl, h365, (rep_okC (enc := eGMsg) (n := (nlen (len a362.In))) (x := (GMsg.mk 0 0)) rfl), (leqm_flat (eInt_len _) _), (copy_ok (enc := (eInt .i64)) (eInt_len _) a362.Vals (repL (α := Int) (nlen (len a362.Vals)) 0)), rfl, (leqm_flat eBool_len _), (copy_ok (enc := eBool) eBool_len a362.Rest (repL (α := Bool) (nlen (len a362.Rest)) false)), rfl, (leqm_flat eGMsg_len _), (copy_ok (enc := eGMsg) eGMsg_len a362.In (repL (α := GMsg) (nlen (len a362.In)) (GMsg.mk 0 0))), rfl, trivial⟩
  exact fn_playC hn129 (f := 129) (ads := [.agg (eGPart a362)]) (r := F129_res (GPart.mk a362.P a362.Step (copyL a362.Vals (repL (α := Int) (nlen (len a362.Vals)) 0)) (copyL a362.Rest (repL (α := Bool) (nlen (len a362.Rest)) false)) (copyL a362.In (repL (α := GMsg) (nlen (len a362.In)) (GMsg.mk 0 0))))) pz (by kernel_rfl) (by kernel_rfl)

/-! ### haywain/barrier.copied -/
noncomputable def hn127 : Hint := { H 127 with nt := 27, prot := 0 }
noncomputable def c127_0 : Code := loopOf E 127 0
def F127_res (r389 : GBarrier) : Res := ⟨[(.agg [(.im (.lit (.int .i64 r389.Epoch))), (.im (.lit (.int .i64 r389.Step))), (.im (.lit (.int .i64 r389.Parts))), (.own 42 (.sl (len r389.Came) (flat eGPart r389.Came))), (.im (.lit (.bool r389.Over)))])], []⟩
def F127_l0_0 (K : Nat) (a356 : GBarrier) : Nat → List GPart → Int → Option (List GPart)
  | 0, _, _ => none
  | k + 1, v372, v373 =>
    bif (ilt v373 (nlen (len (α := GPart) (repL (α := GPart) (nlen (len a356.Came)) (GPart.mk 0 0 [] [] []))))) then
      (bif (inr v373 (len a356.Came)) then
      (elAt a356.Came v373).bind fun x376 =>
      (F129 K x376).bind fun r378 =>
      bif (inr v373 (len v372)) then
      (elAt v372 v373).bind fun x381 =>
      F127_l0_0 K a356 k (putAt v372 v373 r378) (wadd .i64 v373 1)
      else none
      else none)
    else
    some v372
def F127_l0_0_S (a356 : GBarrier) (v372 : List GPart) (v373 : Int) : TS := .on [64, 65, 66, 67, 68, 69, 128, 129, 130, 131, 132, 133, 192, 193, 640, 641, 704, 705] [(64, ⟨(.box 24 5), 0, nob⟩), (65, ⟨.im, 0, (.lit (.int .i64 a356.Epoch))⟩), (66, ⟨.im, 0, (.lit (.int .i64 a356.Step))⟩), (67, ⟨.im, 0, (.lit (.int .i64 a356.Parts))⟩), (68, ⟨.im, 0, (.sl (len a356.Came) (flat eGPart a356.Came))⟩), (69, ⟨.im, 0, (.lit (.bool a356.Over))⟩), (128, ⟨(.box 24 5), 0, nob⟩), (129, ⟨.im, 0, (.lit (.int .i64 0))⟩), (130, ⟨.im, 0, (.lit (.int .i64 0))⟩), (131, ⟨.im, 0, (.lit (.int .i64 0))⟩), (132, ⟨(.own 42), 0, (.sl 0 [])⟩), (133, ⟨.im, 0, (.lit (.bool false))⟩), (192, ⟨.one, 0, nob⟩), (193, ⟨(.own 42), 0, (.sl (len v372) (flat eGPart v372))⟩), (640, ⟨.one, 0, nob⟩), (641, ⟨.im, 0, (.lit (.int .i64 (nlen (len (α := GPart) (repL (α := GPart) (nlen (len a356.Came)) (GPart.mk 0 0 [] [] []))))))⟩), (704, ⟨.one, 0, nob⟩), (705, ⟨.im, 0, (.lit (.int .i64 v373))⟩)]
def F127_l0_0_X0 (a356 : GBarrier) (w383 : List GPart) : TS := .on [64, 65, 66, 67, 68, 69, 128, 129, 130, 131, 132, 133, 192, 193] [(64, ⟨(.box 24 5), 0, nob⟩), (65, ⟨.im, 0, (.lit (.int .i64 a356.Epoch))⟩), (66, ⟨.im, 0, (.lit (.int .i64 a356.Step))⟩), (67, ⟨.im, 0, (.lit (.int .i64 a356.Parts))⟩), (68, ⟨.im, 0, (.sl (len a356.Came) (flat eGPart a356.Came))⟩), (69, ⟨.im, 0, (.lit (.bool a356.Over))⟩), (128, ⟨(.box 24 5), 0, nob⟩), (129, ⟨.im, 0, (.lit (.int .i64 0))⟩), (130, ⟨.im, 0, (.lit (.int .i64 0))⟩), (131, ⟨.im, 0, (.lit (.int .i64 0))⟩), (132, ⟨(.own 42), 0, (.sl 0 [])⟩), (133, ⟨.im, 0, (.lit (.bool false))⟩), (192, ⟨.one, 0, nob⟩), (193, ⟨(.own 42), 0, (.sl (len w383) (flat eGPart w383))⟩)]
theorem F127_l0_0_ok (K : Nat) (a356 : GBarrier) : ∀ (k : Nat) (v372 : List GPart) (v373 : Int) (r : List GPart), F127_l0_0 K a356 k v372 v373 = some r → LoopEv E H hn127 0 c127_0 (F127_l0_0_S a356 v372 v373) (.exit 0) (F127_l0_0_X0 a356 r) := by
  intro k
  induction k with
  | zero => intro v372 v373 r hF; cases hF
  | succ k ih =>
    intro v372 v373 r hF
    rw [F127_l0_0] at hF
    refine cond_some hF (fun h374 hF => ?_) (fun h374 hF => ?_)
    ·
      refine cond_some hF (fun h375 hF => ?_) (fun _ hF => nomatch hF)
      refine bind_some hF (fun x376 h377 hF => ?_)
      refine bind_some hF (fun r378 h379 hF => ?_)
      refine cond_some hF (fun h380 hF => ?_) (fun _ hF => nomatch hF)
      refine bind_some hF (fun x381 h382 hF => ?_)
      have pz : HoldAll E H hn127 [.test (ilt v373 (nlen (len (α := GPart) (repL (α := GPart) (nlen (len a356.Came)) (GPart.mk 0 0 [] [] []))))) true, .test (inr v373 (len a356.Came)) true, .sub (flat eGPart a356.Came) (nidx v373 5) 5 [(.lit (.int .i64 x376.P)), (.lit (.int .i64 x376.Step)), (.sl (len x376.Vals) (flat (eInt .i64) x376.Vals)), (.sl (len x376.Rest) (flat eBool x376.Rest)), (.sl (len x376.In) (flat eGMsg x376.In))], .call 129 [.agg (eGPart x376)] (F129_res r378), .test (leadsAny (Res.mk [(.agg [(.im (.lit (.int .i64 r378.P))), (.im (.lit (.int .i64 r378.Step))), (.own 2 (.sl (len r378.Vals) (flat (eInt .i64) r378.Vals))), (.own 4 (.sl (len r378.Rest) (flat eBool r378.Rest))), (.own 130 (.sl (len r378.In) (flat eGMsg r378.In)))])] [])) false, .test (inr v373 (len v372)) true, .test (lfits (nidx v373 5) 5 (flat eGPart v372)) true, .sl (len v372) (lset (flat eGPart v372) (nidx v373 5) [(.lit (.int .i64 r378.P)), (.lit (.int .i64 r378.Step)), (.sl (len r378.Vals) (flat (eInt .i64) r378.Vals)), (.sl (len r378.Rest) (flat eBool r378.Rest)), (.sl (len r378.In) (flat eGMsg r378.In))]) (len (α := GPart) (putAt v372 v373 r378)) (flat eGPart (putAt v372 v373 r378)), .int (wadd .i64 v373 1) (wadd .i64 v373 1)] := ⟨h374, h375, ⟨rfl, sub_flat0 eGPart_len h377 5 (by decide)⟩, (F129_ok K x376 _ h379), (leads_ok (by simp only [leadsAny, List.any_cons, List.any_nil, RV.leads, RC.leads, leadsT, hasSl_lit, Bool.or_false, flat_ns (eInt_ns _), flat_ns eBool_ns, flat_ns eStr_ns, flat_ns eGJob_ns, flat_ns eGEdge_ns, flat_ns eGAsked_ns, flat_ns eGMsg_ns, flat_ns eGrule_ns])), h380, (lfits_flat0 eGPart_len h382 _ (by decide)), (set_ok0 eGPart_len h382 _ (by simp) rfl), rfl, trivial⟩
      have h0 := ih _ _ _ hF
      have hn := fun ex ts' => loop_nextC (h := hn127) (l := 0) (c := c127_0) (ts := F127_l0_0_S a356 v372 v373) (ts1 := (F127_l0_0_S a356 (putAt v372 v373 r378) (wadd .i64 v373 1))) (ex := ex) (ts' := ts') pz (by kernel_rfl)
      exact hn _ _ h0
    have hr := Option.some.inj hF
    subst hr
    have pz : HoldAll E H hn127 [.test (ilt v373 (nlen (len (α := GPart) (repL (α := GPart) (nlen (len a356.Came)) (GPart.mk 0 0 [] [] []))))) false] := ⟨h374, trivial⟩
    exact loop_endC (h := hn127) (l := 0) (c := c127_0) (ts := F127_l0_0_S a356 v372 v373) (ts' := F127_l0_0_X0 a356 v372) (ex := (.exit 0)) pz (by kernel_rfl) trivial

def F127 (K : Nat) (a356 : GBarrier) : Option (GBarrier) :=
  bif (mkok (nlen (len a356.Came)) (nlen (len a356.Came)) 88) then
  (F127_l0_0 K a356 K (repL (α := GPart) (nlen (len a356.Came)) (GPart.mk 0 0 [] [] [])) 0).bind fun w387 =>
  some (GBarrier.mk a356.Epoch a356.Step a356.Parts w387 a356.Over)
  else none
theorem F127_ok (K : Nat) (a356 : GBarrier) (r : GBarrier) (hF : F127 K a356 = some r) : Evt E H 127 [.agg (eGBarrier a356)] (F127_res r) := by
  rw [F127] at hF
  refine cond_some hF (fun h357 hF => ?_) (fun _ hF => nomatch hF)
  refine bind_some hF (fun w387 h385 hF => ?_)
  have hr := Option.some.inj hF
  subst hr
  have pz : HoldAll E H hn127 [.int (nlen (len a356.Came)) (nlen (len a356.Came)), .test (mkok (nlen (len a356.Came)) (nlen (len a356.Came)) 88) true, .sl (nint (nlen (len a356.Came))) (lrep (nlen (len a356.Came)) [(.lit (.int .i64 0)), (.lit (.int .i64 0)), (.sl 0 []), (.sl 0 []), (.sl 0 [])]) (len (α := GPart) (repL (α := GPart) (nlen (len a356.Came)) (GPart.mk 0 0 [] [] []))) (flat eGPart (repL (α := GPart) (nlen (len a356.Came)) (GPart.mk 0 0 [] [] []))), .int (nlen (len (α := GPart) (repL (α := GPart) (nlen (len a356.Came)) (GPart.mk 0 0 [] [] [])))) (nlen (len (α := GPart) (repL (α := GPart) (nlen (len a356.Came)) (GPart.mk 0 0 [] [] [])))), .loop 0 c127_0 (F127_l0_0_S a356 (repL (α := GPart) (nlen (len a356.Came)) (GPart.mk 0 0 [] [] [])) 0) (.exit 0) (F127_l0_0_X0 a356 w387)] := ⟨rfl, h357, (rep_okC (enc := eGPart) (n := (nlen (len a356.Came))) (x := (GPart.mk 0 0 [] [] [])) rfl), rfl, (F127_l0_0_ok K a356 K (repL (α := GPart) (nlen (len a356.Came)) (GPart.mk 0 0 [] [] [])) 0 _ h385), trivial⟩
  exact fn_playC hn127 (f := 127) (ads := [.agg (eGBarrier a356)]) (r := F127_res (GBarrier.mk a356.Epoch a356.Step a356.Parts w387 a356.Over)) pz (by kernel_rfl) (by kernel_rfl)

/-! ### haywain/barrier.find -/
noncomputable def hn128 : Hint := { H 128 with nt := 21, prot := 0 }
noncomputable def c128_0 : Code := loopOf E 128 0
def F128_res (r456 : GPart × Bool) : Res := ⟨[(.agg [(.im (.lit (.int .i64 r456.1.P))), (.im (.lit (.int .i64 r456.1.Step))), (.im (.sl (len r456.1.Vals) (flat (eInt .i64) r456.1.Vals))), (.im (.sl (len r456.1.Rest) (flat eBool r456.1.Rest))), (.im (.sl (len r456.1.In) (flat eGMsg r456.1.In)))]), (.one (.im (.lit (.bool r456.2))))], []⟩
def F128_l0_0 (K : Nat) (a426 : List GPart) (a427 : Int) : Nat → Int → Option (((Int × Int × List Int × List Bool × List GMsg)) ⊕ (Unit))
  | 0, _ => none
  | k + 1, v433 =>
    bif (ilt v433 (nlen (len a426))) then
      (bif (inr v433 (len a426)) then
      (elAt a426 v433).bind fun x436 =>
      bif (ieq x436.P a427) then
        (some (.inl (x436.P, (x436.Step, (x436.Vals, (x436.Rest, x436.In))))))
      else
      F128_l0_0 K a426 a427 k (wadd .i64 v433 1)
      else none)
    else
    some (.inr ())
def F128_l0_0_S (a426 : List GPart) (a427 : Int) (v433 : Int) : TS := .on [0, 1, 64, 65, 256, 257, 258, 259, 260, 261, 512, 513, 576, 577, 640, 641] [(0, ⟨.one, 0, nob⟩), (1, ⟨.im, 0, (.sl (len a426) (flat eGPart a426))⟩), (64, ⟨.one, 0, nob⟩), (65, ⟨.im, 0, (.lit (.int .i64 a427))⟩), (256, ⟨(.box 42 5), 0, nob⟩), (257, ⟨.im, 0, (.lit (.int .i64 0))⟩), (258, ⟨.im, 0, (.lit (.int .i64 0))⟩), (259, ⟨(.own 2), 0, (.sl 0 [])⟩), (260, ⟨(.own 4), 0, (.sl 0 [])⟩), (261, ⟨(.own 130), 0, (.sl 0 [])⟩), (512, ⟨.one, 0, nob⟩), (513, ⟨.im, 0, (.sl (len a426) (flat eGPart a426))⟩), (576, ⟨.one, 0, nob⟩), (577, ⟨.im, 0, (.lit (.int .i64 (nlen (len a426))))⟩), (640, ⟨.one, 0, nob⟩), (641, ⟨.im, 0, (.lit (.int .i64 v433))⟩)]
def F128_l0_0_X0 (a426 : List GPart) (a427 : Int) (w439 : Int × Int × List Int × List Bool × List GMsg) : TS := .on [256, 257, 258, 259, 260, 261, 320, 321] [(256, ⟨(.box 42 5), 0, nob⟩), (257, ⟨.im, 0, (.lit (.int .i64 w439.1))⟩), (258, ⟨.im, 0, (.lit (.int .i64 w439.2.1))⟩), (259, ⟨.im, 0, (.sl (len w439.2.2.1) (flat (eInt .i64) w439.2.2.1))⟩), (260, ⟨.im, 0, (.sl (len w439.2.2.2.1) (flat eBool w439.2.2.2.1))⟩), (261, ⟨.im, 0, (.sl (len w439.2.2.2.2) (flat eGMsg w439.2.2.2.2))⟩), (320, ⟨.one, 0, nob⟩), (321, ⟨.im, 0, (.lit (.bool true))⟩)]
def F128_l0_0_X1 (a426 : List GPart) (a427 : Int) (w445 : Unit) : TS := .on [256, 257, 258, 259, 260, 261] [(256, ⟨(.box 42 5), 0, nob⟩), (257, ⟨.im, 0, (.lit (.int .i64 0))⟩), (258, ⟨.im, 0, (.lit (.int .i64 0))⟩), (259, ⟨(.own 2), 0, (.sl 0 [])⟩), (260, ⟨(.own 4), 0, (.sl 0 [])⟩), (261, ⟨(.own 130), 0, (.sl 0 [])⟩)]
theorem F128_l0_0_ok (K : Nat) (a426 : List GPart) (a427 : Int) : ∀ (k : Nat) (v433 : Int) (r : ((Int × Int × List Int × List Bool × List GMsg)) ⊕ (Unit)), F128_l0_0 K a426 a427 k v433 = some r → (Sum.elim (fun w => LoopEv E H hn128 0 c128_0 (F128_l0_0_S a426 a427 v433) .ret (F128_l0_0_X0 a426 a427 w)) (fun w => LoopEv E H hn128 0 c128_0 (F128_l0_0_S a426 a427 v433) (.exit 0) (F128_l0_0_X1 a426 a427 w))) r := by
  intro k
  induction k with
  | zero => intro v433 r hF; cases hF
  | succ k ih =>
    intro v433 r hF
    rw [F128_l0_0] at hF
    refine cond_some hF (fun h434 hF => ?_) (fun h434 hF => ?_)
    ·
      refine cond_some hF (fun h435 hF => ?_) (fun _ hF => nomatch hF)
      refine bind_some hF (fun x436 h437 hF => ?_)
      have pq446 : ∀ {l : List Cond}, HoldAll E H hn128 l → HoldAll E H hn128 (.test (ilt v433 (nlen (len a426))) true :: .test (inr v433 (len a426)) true :: .sub (flat eGPart a426) (nidx v433 5) 5 [(.lit (.int .i64 x436.P)), (.lit (.int .i64 x436.Step)), (.sl (len x436.Vals) (flat (eInt .i64) x436.Vals)), (.sl (len x436.Rest) (flat eBool x436.Rest)), (.sl (len x436.In) (flat eGMsg x436.In))] :: l) := fun z => ⟨h434, h435, ⟨rfl, sub_flat0 eGPart_len h437 5 (by decide)⟩, z⟩
      refine cond_some hF (fun h438 hF => ?_) (fun h438 hF => ?_)
      ·
        have hr := Option.some.inj hF
        subst hr
        have pz : HoldAll E H hn128 [.test (ieq x436.P a427) true] := ⟨h438, trivial⟩
        exact loop_endC (h := hn128) (l := 0) (c := c128_0) (ts := F128_l0_0_S a426 a427 v433) (ts' := F128_l0_0_X0 a426 a427 (x436.P, (x436.Step, (x436.Vals, (x436.Rest, x436.In))))) (ex := .ret) (pq446 pz) (by kernel_rfl) trivial
      have pz : HoldAll E H hn128 [.test (ieq x436.P a427) false, .int (wadd .i64 v433 1) (wadd .i64 v433 1)] := ⟨h438, rfl, trivial⟩
      have h0 := ih _ _ hF
      have hn := fun ex ts' => loop_nextC (h := hn128) (l := 0) (c := c128_0) (ts := F128_l0_0_S a426 a427 v433) (ts1 := (F128_l0_0_S a426 a427 (wadd .i64 v433 1))) (ex := ex) (ts' := ts') (pq446 pz) (by kernel_rfl)
      cases r with
      | inl w => exact hn _ _ h0
      | inr w => exact hn _ _ h0
    have hr := Option.some.inj hF
    subst hr
    have pz : HoldAll E H hn128 [.test (ilt v433 (nlen (len a426))) false] := ⟨h434, trivial⟩
    exact loop_endC (h := hn128) (l := 0) (c := c128_0) (ts := F128_l0_0_S a426 a427 v433) (ts' := F128_l0_0_X1 a426 a427 ()) (ex := (.exit 0)) pz (by kernel_rfl) trivial

def F128 (K : Nat) (a426 : List GPart) (a427 : Int) : Option (GPart × Bool) :=
  (F128_l0_0 K a426 a427 K 0).bind fun y448 =>
  Sum.elim (fun w449 =>
    some ((GPart.mk w449.1 w449.2.1 w449.2.2.1 w449.2.2.2.1 w449.2.2.2.2), true))
    (fun w455 =>
    some ((GPart.mk 0 0 [] [] []), false)) y448
theorem F128_ok (K : Nat) (a426 : List GPart) (a427 : Int) (r : GPart × Bool) (hF : F128 K a426 a427 = some r) : Evt E H 128 [.one (.sl (len a426) (flat eGPart a426)), .one (.lit (.int .i64 a427))] (F128_res r) := by
  rw [F128] at hF
  refine bind_some hF (fun y448 h447 hF => ?_)
  refine sum_some hF (fun w449 hx hF => ?_) (fun w455 hx hF => ?_)
  ·
    subst hx
    have hr := Option.some.inj hF
    subst hr
    have pz : HoldAll E H hn128 [.int (nlen (len a426)) (nlen (len a426)), .loop 0 c128_0 (F128_l0_0_S a426 a427 0) .ret (F128_l0_0_X0 a426 a427 w449)] := ⟨rfl, (F128_l0_0_ok K a426 a427 K 0 _ h447), trivial⟩
    exact fn_playC hn128 (f := 128) (ads := [.one (.sl (len a426) (flat eGPart a426)), .one (.lit (.int .i64 a427))]) (r := F128_res ((GPart.mk w449.1 w449.2.1 w449.2.2.1 w449.2.2.2.1 w449.2.2.2.2), true)) pz (by kernel_rfl) (by kernel_rfl)
  subst hx
  have hr := Option.some.inj hF
  subst hr
  have pz : HoldAll E H hn128 [.int (nlen (len a426)) (nlen (len a426)), .loop 0 c128_0 (F128_l0_0_S a426 a427 0) (.exit 0) (F128_l0_0_X1 a426 a427 w455)] := ⟨rfl, (F128_l0_0_ok K a426 a427 K 0 _ h447), trivial⟩
  exact fn_playC hn128 (f := 128) (ads := [.one (.sl (len a426) (flat eGPart a426)), .one (.lit (.int .i64 a427))]) (r := F128_res ((GPart.mk 0 0 [] [] []), false)) pz (by kernel_rfl) (by kernel_rfl)

/-! ### haywain/barrier.Put -/
noncomputable def hn52 : Hint := { H 52 with nt := 84, prot := 0 }
noncomputable def c52_0 : Code := loopOf E 52 0
def F52_res (r507 : GBarrier × Int) : Res := ⟨[(.agg [(.im (.lit (.int .i64 r507.1.Epoch))), (.im (.lit (.int .i64 r507.1.Step))), (.im (.lit (.int .i64 r507.1.Parts))), (.own 42 (.sl (len r507.1.Came) (flat eGPart r507.1.Came))), (.im (.lit (.bool r507.1.Over)))]), (.one (.im (.lit (.int .i64 r507.2))))], []⟩
def F52_l0_0 (K : Nat) (a468 : GBarrier) (r474 : GBarrier) (r483 : GPart) : Nat → List GPart → Int → Option (List GPart)
  | 0, _, _ => none
  | k + 1, v491, v492 =>
    bif (ilt v492 a468.Parts) then
      ((F128 K (appL r474.Came [r483]) v492).bind fun r494 =>
      bif r494.2 then
        (bif (apok (len v491) 1 88) then
        F52_l0_0 K a468 r474 r483 k (appL v491 [r494.1]) (wadd .i64 v492 1)
        else none)
      else
      F52_l0_0 K a468 r474 r483 k v491 (wadd .i64 v492 1))
    else
    some v491
def F52_l0_0_S (a468 : GBarrier) (r474 : GBarrier) (r483 : GPart) (v491 : List GPart) (v492 : Int) : TS := .on [384, 385, 386, 387, 388, 389, 512, 513, 514, 515, 516, 517, 704, 705, 768, 769, 4160, 4161, 4224, 4225] [(384, ⟨(.box 24 5), 0, nob⟩), (385, ⟨.im, 0, (.lit (.int .i64 0))⟩), (386, ⟨.im, 0, (.lit (.int .i64 0))⟩), (387, ⟨.im, 0, (.lit (.int .i64 0))⟩), (388, ⟨(.own 42), 0, (.sl 0 [])⟩), (389, ⟨.im, 0, (.lit (.bool false))⟩), (512, ⟨(.box 24 5), 0, nob⟩), (513, ⟨.im, 0, (.lit (.int .i64 r474.Epoch))⟩), (514, ⟨.im, 0, (.lit (.int .i64 r474.Step))⟩), (515, ⟨.im, 0, (.lit (.int .i64 r474.Parts))⟩), (516, ⟨.dead, 0, nob⟩), (517, ⟨.im, 0, (.lit (.bool r474.Over))⟩), (704, ⟨.one, 0, nob⟩), (705, ⟨.im, 0, (.sl (len (α := GPart) (appL r474.Came [r483])) (flat eGPart (appL r474.Came [r483])))⟩), (768, ⟨.one, 0, nob⟩), (769, ⟨(.own 42), 0, (.sl (len v491) (flat eGPart v491))⟩), (4160, ⟨.one, 0, nob⟩), (4161, ⟨.im, 0, (.lit (.int .i64 a468.Parts))⟩), (4224, ⟨.one, 0, nob⟩), (4225, ⟨.im, 0, (.lit (.int .i64 v492))⟩)]
def F52_l0_0_X0 (a468 : GBarrier) (r474 : GBarrier) (r483 : GPart) (w498 : List GPart) : TS := .on [384, 385, 386, 387, 388, 389, 512, 513, 514, 515, 516, 517, 768, 769] [(384, ⟨(.box 24 5), 0, nob⟩), (385, ⟨.im, 0, (.lit (.int .i64 0))⟩), (386, ⟨.im, 0, (.lit (.int .i64 0))⟩), (387, ⟨.im, 0, (.lit (.int .i64 0))⟩), (388, ⟨(.own 42), 0, (.sl 0 [])⟩), (389, ⟨.im, 0, (.lit (.bool false))⟩), (512, ⟨(.box 24 5), 0, nob⟩), (513, ⟨.im, 0, (.lit (.int .i64 r474.Epoch))⟩), (514, ⟨.im, 0, (.lit (.int .i64 r474.Step))⟩), (515, ⟨.im, 0, (.lit (.int .i64 r474.Parts))⟩), (516, ⟨.dead, 0, nob⟩), (517, ⟨.im, 0, (.lit (.bool r474.Over))⟩), (768, ⟨.one, 0, nob⟩), (769, ⟨(.own 42), 0, (.sl (len w498) (flat eGPart w498))⟩)]
theorem F52_l0_0_ok (K : Nat) (a468 : GBarrier) (r474 : GBarrier) (r483 : GPart) : ∀ (k : Nat) (v491 : List GPart) (v492 : Int) (r : List GPart), F52_l0_0 K a468 r474 r483 k v491 v492 = some r → LoopEv E H hn52 1 c52_0 (F52_l0_0_S a468 r474 r483 v491 v492) (.exit 1) (F52_l0_0_X0 a468 r474 r483 r) := by
  intro k
  induction k with
  | zero => intro v491 v492 r hF; cases hF
  | succ k ih =>
    intro v491 v492 r hF
    rw [F52_l0_0] at hF
    refine cond_some hF (fun h493 hF => ?_) (fun h493 hF => ?_)
    ·
      refine bind_some hF (fun r494 h495 hF => ?_)
      refine cond_some hF (fun h496 hF => ?_) (fun h496 hF => ?_)
      ·
        refine cond_some hF (fun h497 hF => ?_) (fun _ hF => nomatch hF)
        have pz : HoldAll E H hn52 [.test (ilt v492 a468.Parts) true, .call 128 [.one (.sl (len (α := GPart) (appL r474.Came [r483])) (flat eGPart (appL r474.Came [r483]))), .one (.lit (.int .i64 v492))] (F128_res r494), .test r494.2 true, .test (leqm [(.lit (.int .i64 r494.1.P)), (.lit (.int .i64 r494.1.Step)), (.sl (len r494.1.Vals) (flat (eInt .i64) r494.1.Vals)), (.sl (len r494.1.Rest) (flat eBool r494.1.Rest)), (.sl (len r494.1.In) (flat eGMsg r494.1.In))] 1 5) true, .test (apok (len v491) 1 88) true, .sl (nadd (len v491) 1) (lapp (flat eGPart v491) [(.lit (.int .i64 r494.1.P)), (.lit (.int .i64 r494.1.Step)), (.sl (len r494.1.Vals) (flat (eInt .i64) r494.1.Vals)), (.sl (len r494.1.Rest) (flat eBool r494.1.Rest)), (.sl (len r494.1.In) (flat eGMsg r494.1.In))]) (len (α := GPart) (appL v491 [r494.1])) (flat eGPart (appL v491 [r494.1])), .int (wadd .i64 v492 1) (wadd .i64 v492 1)] := ⟨h493, (F128_ok K (appL r474.Came [r483]) v492 _ h495), h496, rfl, h497, (app_ok (enc := eGPart) (v491 : List GPart) [r494.1]), rfl, trivial⟩
        have h0 := ih _ _ _ hF
        have hn := fun ex ts' => loop_nextC (h := hn52) (l := 1) (c := c52_0) (ts := F52_l0_0_S a468 r474 r483 v491 v492) (ts1 := (F52_l0_0_S a468 r474 r483 (appL v491 [r494.1]) (wadd .i64 v492 1))) (ex := ex) (ts' := ts') pz (by kernel_rfl)
        exact hn _ _ h0
      have pz : HoldAll E H hn52 [.test (ilt v492 a468.Parts) true, .call 128 [.one (.sl (len (α := GPart) (appL r474.Came [r483])) (flat eGPart (appL r474.Came [r483]))), .one (.lit (.int .i64 v492))] (F128_res r494), .test r494.2 false, .int (wadd .i64 v492 1) (wadd .i64 v492 1)] := ⟨h493, (F128_ok K (appL r474.Came [r483]) v492 _ h495), h496, rfl, trivial⟩
      have h0 := ih _ _ _ hF
      have hn := fun ex ts' => loop_nextC (h := hn52) (l := 1) (c := c52_0) (ts := F52_l0_0_S a468 r474 r483 v491 v492) (ts1 := (F52_l0_0_S a468 r474 r483 v491 (wadd .i64 v492 1))) (ex := ex) (ts' := ts') pz (by kernel_rfl)
      exact hn _ _ h0
    have hr := Option.some.inj hF
    subst hr
    have pz : HoldAll E H hn52 [.test (ilt v492 a468.Parts) false] := ⟨h493, trivial⟩
    exact loop_endC (h := hn52) (l := 1) (c := c52_0) (ts := F52_l0_0_S a468 r474 r483 v491 v492) (ts' := F52_l0_0_X0 a468 r474 r483 v491) (ex := (.exit 1)) pz (by kernel_rfl) trivial

def F52 (K : Nat) (a468 : GBarrier) (a469 : Int) (a470 : GPart) : Option (GBarrier × Int) :=
  (F48 K a468).bind fun r471 =>
  bif r471 then
    ((F127 K a468).bind fun r474 =>
    bif (ieq a469 a468.Epoch) then
      (bif (ieq a470.Step (wadd .i64 a468.Step 1)) then
        (bif (ilt a470.P 0) then
          (some (r474, 4))
        else
        bif (ile a468.Parts a470.P) then
          (some (r474, 4))
        else
        (F128 K a468.Came a470.P).bind fun r480 =>
        bif r480.2 then
          (some (r474, 5))
        else
        (F129 K a470).bind fun r483 =>
        bif (apok (len r474.Came) 1 88) then
        (F52_l0_0 K a468 r474 r483 K [] 0).bind fun w502 =>
        some ((GBarrier.mk r474.Epoch r474.Step r474.Parts w502 r474.Over), 0)
        else none)
      else
      some (r474, 9))
    else
    some (r474, 9))
  else
  some ((GBarrier.mk 0 0 0 [] false), 1)
theorem F52_ok (K : Nat) (a468 : GBarrier) (a469 : Int) (a470 : GPart) (r : GBarrier × Int) (hF : F52 K a468 a469 a470 = some r) : Evt E H 52 [.agg (eGBarrier a468), .one (.lit (.int .i64 a469)), .agg (eGPart a470)] (F52_res r) := by
  rw [F52] at hF
  refine bind_some hF (fun r471 h472 hF => ?_)
  refine cond_some hF (fun h473 hF => ?_) (fun h473 hF => ?_)
  ·
    refine bind_some hF (fun r474 h475 hF => ?_)
    have pq504 : ∀ {l : List Cond}, HoldAll E H hn52 l → HoldAll E H hn52 (.call 48 [.agg (eGBarrier a468)] (F48_res r471) :: .test (leadsAny (Res.mk [(.one (.im (.lit (.bool r471))))] [])) false :: .test (bnot r471) false :: .call 127 [.agg (eGBarrier a468)] (F127_res r474) :: l) := fun z => ⟨(F48_ok K a468 _ h472), (leads_ok (by simp only [leadsAny, List.any_cons, List.any_nil, RV.leads, RC.leads, leadsT, hasSl_lit, Bool.or_false, flat_ns (eInt_ns _), flat_ns eBool_ns, flat_ns eStr_ns, flat_ns eGJob_ns, flat_ns eGEdge_ns, flat_ns eGAsked_ns, flat_ns eGMsg_ns, flat_ns eGrule_ns])), (bnot_t h473), (F127_ok K a468 _ h475), z⟩
    refine cond_some hF (fun h476 hF => ?_) (fun h476 hF => ?_)
    ·
      have pq505 : ∀ {l : List Cond}, HoldAll E H hn52 l → HoldAll E H hn52 (.test (beqb (ine a469 a468.Epoch) false) true :: .test (beqb (ine a469 a468.Epoch) false) true :: .test (beqb (ine a469 a468.Epoch) false) true :: .test (beqb (ine a469 a468.Epoch) false) true :: .test (beqb (ine a469 a468.Epoch) false) true :: .int (wadd .i64 a468.Step 1) (wadd .i64 a468.Step 1) :: .test (beqb (ine a469 a468.Epoch) false) true :: .test (ine a469 a468.Epoch) false :: l) := fun z => ⟨(beqb_ff (ine_t h476)), (beqb_ff (ine_t h476)), (beqb_ff (ine_t h476)), (beqb_ff (ine_t h476)), (beqb_ff (ine_t h476)), rfl, (beqb_ff (ine_t h476)), (ine_t h476), z⟩
      refine cond_some hF (fun h477 hF => ?_) (fun h477 hF => ?_)
      ·
        refine cond_some hF (fun h478 hF => ?_) (fun h478 hF => ?_)
        ·
          have hr := Option.some.inj hF
          subst hr
          have pz : HoldAll E H hn52 [.test (ine a470.Step (wadd .i64 a468.Step 1)) false, .test (beqb (ilt a470.P 0) false) false, .test (beqb (ilt a470.P 0) false) false, .test (beqb (ilt a470.P 0) false) false, .test (beqb (ilt a470.P 0) false) false, .test (beqb (ilt a470.P 0) false) false, .test (ilt a470.P 0) true, .test true true] := ⟨(ine_t h477), (beqb_ft h478), (beqb_ft h478), (beqb_ft h478), (beqb_ft h478), (beqb_ft h478), h478, rfl, trivial⟩
          exact fn_playC hn52 (f := 52) (ads := [.agg (eGBarrier a468), .one (.lit (.int .i64 a469)), .agg (eGPart a470)]) (r := F52_res (r474, 4)) (pq504 (pq505 pz)) (by kernel_rfl) (by kernel_rfl)
        have pq506 : ∀ {l : List Cond}, HoldAll E H hn52 l → HoldAll E H hn52 (.test (ine a470.Step (wadd .i64 a468.Step 1)) false :: .test (beqb (ilt a470.P 0) false) true :: .test (beqb (ilt a470.P 0) false) true :: .test (beqb (ilt a470.P 0) false) true :: .test (beqb (ilt a470.P 0) false) true :: .test (beqb (ilt a470.P 0) false) true :: .test (ilt a470.P 0) false :: l) := fun z => ⟨(ine_t h477), (beqb_ff h478), (beqb_ff h478), (beqb_ff h478), (beqb_ff h478), (beqb_ff h478), h478, z⟩
        refine cond_some hF (fun h479 hF => ?_) (fun h479 hF => ?_)
        ·
          have hr := Option.some.inj hF
          subst hr
          have pz : HoldAll E H hn52 [.test (ige a470.P a468.Parts) true] := ⟨(ige_eq h479), trivial⟩
          exact fn_playC hn52 (f := 52) (ads := [.agg (eGBarrier a468), .one (.lit (.int .i64 a469)), .agg (eGPart a470)]) (r := F52_res (r474, 4)) (pq504 (pq505 (pq506 pz))) (by kernel_rfl) (by kernel_rfl)
        refine bind_some hF (fun r480 h481 hF => ?_)
        refine cond_some hF (fun h482 hF => ?_) (fun h482 hF => ?_)
        ·
          have hr := Option.some.inj hF
          subst hr
          have pz : HoldAll E H hn52 [.test (ige a470.P a468.Parts) false, .call 128 [.one (.sl (len a468.Came) (flat eGPart a468.Came)), .one (.lit (.int .i64 a470.P))] (F128_res r480), .test r480.2 true] := ⟨(ige_eq h479), (F128_ok K a468.Came a470.P _ h481), h482, trivial⟩
          exact fn_playC hn52 (f := 52) (ads := [.agg (eGBarrier a468), .one (.lit (.int .i64 a469)), .agg (eGPart a470)]) (r := F52_res (r474, 5)) (pq504 (pq505 (pq506 pz))) (by kernel_rfl) (by kernel_rfl)
        refine bind_some hF (fun r483 h484 hF => ?_)
        refine cond_some hF (fun h485 hF => ?_) (fun _ hF => nomatch hF)
        refine bind_some hF (fun w502 h500 hF => ?_)
        have hr := Option.some.inj hF
        subst hr
        have pz : HoldAll E H hn52 [.test (ige a470.P a468.Parts) false, .call 128 [.one (.sl (len a468.Came) (flat eGPart a468.Came)), .one (.lit (.int .i64 a470.P))] (F128_res r480), .test r480.2 false, .call 129 [.agg (eGPart a470)] (F129_res r483), .test (leadsAny (Res.mk [(.agg [(.im (.lit (.int .i64 r483.P))), (.im (.lit (.int .i64 r483.Step))), (.own 2 (.sl (len r483.Vals) (flat (eInt .i64) r483.Vals))), (.own 4 (.sl (len r483.Rest) (flat eBool r483.Rest))), (.own 130 (.sl (len r483.In) (flat eGMsg r483.In)))])] [])) false, .test (leqm [(.lit (.int .i64 r483.P)), (.lit (.int .i64 r483.Step)), (.sl (len r483.Vals) (flat (eInt .i64) r483.Vals)), (.sl (len r483.Rest) (flat eBool r483.Rest)), (.sl (len r483.In) (flat eGMsg r483.In))] 1 5) true, .test (apok (len r474.Came) 1 88) true, .sl (nadd (len r474.Came) 1) (lapp (flat eGPart r474.Came) [(.lit (.int .i64 r483.P)), (.lit (.int .i64 r483.Step)), (.sl (len r483.Vals) (flat (eInt .i64) r483.Vals)), (.sl (len r483.Rest) (flat eBool r483.Rest)), (.sl (len r483.In) (flat eGMsg r483.In))]) (len (α := GPart) (appL r474.Came [r483])) (flat eGPart (appL r474.Came [r483])), .loop 1 c52_0 (F52_l0_0_S a468 r474 r483 [] 0) (.exit 1) (F52_l0_0_X0 a468 r474 r483 w502)] := ⟨(ige_eq h479), (F128_ok K a468.Came a470.P _ h481), h482, (F129_ok K a470 _ h484), (leads_ok (by simp only [leadsAny, List.any_cons, List.any_nil, RV.leads, RC.leads, leadsT, hasSl_lit, Bool.or_false, flat_ns (eInt_ns _), flat_ns eBool_ns, flat_ns eStr_ns, flat_ns eGJob_ns, flat_ns eGEdge_ns, flat_ns eGAsked_ns, flat_ns eGMsg_ns, flat_ns eGrule_ns])), rfl, h485, (app_ok (enc := eGPart) (r474.Came : List GPart) [r483]), (F52_l0_0_ok K a468 r474 r483 K [] 0 _ h500), trivial⟩
        exact fn_playC hn52 (f := 52) (ads := [.agg (eGBarrier a468), .one (.lit (.int .i64 a469)), .agg (eGPart a470)]) (r := F52_res ((GBarrier.mk r474.Epoch r474.Step r474.Parts w502 r474.Over), 0)) (pq504 (pq505 (pq506 pz))) (by kernel_rfl) (by kernel_rfl)
      have hr := Option.some.inj hF
      subst hr
      have pz : HoldAll E H hn52 [.test (ine a470.Step (wadd .i64 a468.Step 1)) true] := ⟨(ine_f h477), trivial⟩
      exact fn_playC hn52 (f := 52) (ads := [.agg (eGBarrier a468), .one (.lit (.int .i64 a469)), .agg (eGPart a470)]) (r := F52_res (r474, 9)) (pq504 (pq505 pz)) (by kernel_rfl) (by kernel_rfl)
    have hr := Option.some.inj hF
    subst hr
    have pz : HoldAll E H hn52 [.test (beqb (ine a469 a468.Epoch) false) false, .test (beqb (ine a469 a468.Epoch) false) false, .test (beqb (ine a469 a468.Epoch) false) false, .test (beqb (ine a469 a468.Epoch) false) false, .test (beqb (ine a469 a468.Epoch) false) false, .test (beqb (ine a469 a468.Epoch) false) false, .test (ine a469 a468.Epoch) true, .test true true] := ⟨(beqb_ft (ine_f h476)), (beqb_ft (ine_f h476)), (beqb_ft (ine_f h476)), (beqb_ft (ine_f h476)), (beqb_ft (ine_f h476)), (beqb_ft (ine_f h476)), (ine_f h476), rfl, trivial⟩
    exact fn_playC hn52 (f := 52) (ads := [.agg (eGBarrier a468), .one (.lit (.int .i64 a469)), .agg (eGPart a470)]) (r := F52_res (r474, 9)) (pq504 pz) (by kernel_rfl) (by kernel_rfl)
  have hr := Option.some.inj hF
  subst hr
  have pz : HoldAll E H hn52 [.call 48 [.agg (eGBarrier a468)] (F48_res r471), .test (leadsAny (Res.mk [(.one (.im (.lit (.bool r471))))] [])) false, .test (bnot r471) true] := ⟨(F48_ok K a468 _ h472), (leads_ok (by simp only [leadsAny, List.any_cons, List.any_nil, RV.leads, RC.leads, leadsT, hasSl_lit, Bool.or_false, flat_ns (eInt_ns _), flat_ns eBool_ns, flat_ns eStr_ns, flat_ns eGJob_ns, flat_ns eGEdge_ns, flat_ns eGAsked_ns, flat_ns eGMsg_ns, flat_ns eGrule_ns])), (bnot_f h473), trivial⟩
  exact fn_playC hn52 (f := 52) (ads := [.agg (eGBarrier a468), .one (.lit (.int .i64 a469)), .agg (eGPart a470)]) (r := F52_res ((GBarrier.mk 0 0 0 [] false), 1)) pz (by kernel_rfl) (by kernel_rfl)

/-! ### haywain/haywainref19.Put -/
noncomputable def hn53 : Hint := { H 53 with nt := 84, prot := 0 }
noncomputable def c53_0 : Code := loopOf E 53 0
def F53_res (r607 : GBarrier × Int) : Res := ⟨[(.agg [(.im (.lit (.int .i64 r607.1.Epoch))), (.im (.lit (.int .i64 r607.1.Step))), (.im (.lit (.int .i64 r607.1.Parts))), (.im (.sl (len r607.1.Came) (flat eGPart r607.1.Came))), (.im (.lit (.bool r607.1.Over)))]), (.one (.im (.lit (.int .i64 r607.2))))], []⟩
def F53_l0_0 (K : Nat) (a557 : GBarrier) (a559 : GPart) : Nat → List GPart → Bool → Int → Option ((Unit) ⊕ (List GPart × Bool))
  | 0, _, _, _ => none
  | k + 1, v576, v577, v578 =>
    bif (ilt v578 (nlen (len a557.Came))) then
      (bif (inr v578 (len a557.Came)) then
      (elAt a557.Came v578).bind fun x581 =>
      bif (ieq x581.P a559.P) then
        (some (.inl ()))
      else
      bif v577 then
        (bif (apok (len v576) 1 88) then
        F53_l0_0 K a557 a559 k (appL v576 [x581]) v577 (wadd .i64 v578 1)
        else none)
      else
      bif (ilt a559.P x581.P) then
        (bif (apok (len v576) 1 88) then
        bif (apok (len (α := GPart) (appL v576 [a559])) 1 88) then
        F53_l0_0 K a557 a559 k (appL (appL v576 [a559]) [x581]) true (wadd .i64 v578 1)
        else none
        else none)
      else
      bif (apok (len v576) 1 88) then
      F53_l0_0 K a557 a559 k (appL v576 [x581]) v577 (wadd .i64 v578 1)
      else none
      else none)
    else
    some (.inr (v576, v577))
def F53_l0_0_S (a557 : GBarrier) (a559 : GPart) (v576 : List GPart) (v577 : Bool) (v578 : Int) : TS := .on [192, 193, 194, 195, 196, 197, 320, 321, 322, 323, 324, 325, 384, 385, 386, 387, 388, 389, 512, 513, 576, 577, 640, 641] [(192, ⟨(.box 28 5), 0, nob⟩), (193, ⟨.im, 0, (.lit (.int .i64 a557.Epoch))⟩), (194, ⟨.im, 0, (.lit (.int .i64 a557.Step))⟩), (195, ⟨.im, 0, (.lit (.int .i64 a557.Parts))⟩), (196, ⟨.im, 0, (.sl (len a557.Came) (flat eGPart a557.Came))⟩), (197, ⟨.im, 0, (.lit (.bool a557.Over))⟩), (320, ⟨(.box 42 5), 0, nob⟩), (321, ⟨.im, 0, (.lit (.int .i64 a559.P))⟩), (322, ⟨.im, 0, (.lit (.int .i64 a559.Step))⟩), (323, ⟨.im, 0, (.sl (len a559.Vals) (flat (eInt .i64) a559.Vals))⟩), (324, ⟨.im, 0, (.sl (len a559.Rest) (flat eBool a559.Rest))⟩), (325, ⟨.im, 0, (.sl (len a559.In) (flat eGMsg a559.In))⟩), (384, ⟨(.box 28 5), 0, nob⟩), (385, ⟨.im, 0, (.lit (.int .i64 0))⟩), (386, ⟨.im, 0, (.lit (.int .i64 0))⟩), (387, ⟨.im, 0, (.lit (.int .i64 0))⟩), (388, ⟨(.own 42), 0, (.sl 0 [])⟩), (389, ⟨.im, 0, (.lit (.bool false))⟩), (512, ⟨.one, 0, nob⟩), (513, ⟨(.own 42), 0, (.sl (len v576) (flat eGPart v576))⟩), (576, ⟨.one, 0, nob⟩), (577, ⟨.im, 0, (.lit (.bool v577))⟩), (640, ⟨.one, 0, nob⟩), (641, ⟨.im, 0, (.lit (.int .i64 v578))⟩)]
def F53_l0_0_X0 (a557 : GBarrier) (a559 : GPart) (w590 : Unit) : TS := .on [384, 385, 386, 387, 388, 389, 448, 449] [(384, ⟨(.box 28 5), 0, nob⟩), (385, ⟨.im, 0, (.lit (.int .i64 a557.Epoch))⟩), (386, ⟨.im, 0, (.lit (.int .i64 a557.Step))⟩), (387, ⟨.im, 0, (.lit (.int .i64 a557.Parts))⟩), (388, ⟨.im, 0, (.sl (len a557.Came) (flat eGPart a557.Came))⟩), (389, ⟨.im, 0, (.lit (.bool a557.Over))⟩), (448, ⟨.one, 0, nob⟩), (449, ⟨.im, 0, (.lit (.int .i64 5))⟩)]
def F53_l0_0_X1 (a557 : GBarrier) (a559 : GPart) (w591 : List GPart × Bool) : TS := .on [192, 193, 194, 195, 196, 197, 320, 321, 322, 323, 324, 325, 384, 385, 386, 387, 388, 389, 512, 513, 576, 577] [(192, ⟨(.box 28 5), 0, nob⟩), (193, ⟨.im, 0, (.lit (.int .i64 a557.Epoch))⟩), (194, ⟨.im, 0, (.lit (.int .i64 a557.Step))⟩), (195, ⟨.im, 0, (.lit (.int .i64 a557.Parts))⟩), (196, ⟨.im, 0, (.sl (len a557.Came) (flat eGPart a557.Came))⟩), (197, ⟨.im, 0, (.lit (.bool a557.Over))⟩), (320, ⟨(.box 42 5), 0, nob⟩), (321, ⟨.im, 0, (.lit (.int .i64 a559.P))⟩), (322, ⟨.im, 0, (.lit (.int .i64 a559.Step))⟩), (323, ⟨.im, 0, (.sl (len a559.Vals) (flat (eInt .i64) a559.Vals))⟩), (324, ⟨.im, 0, (.sl (len a559.Rest) (flat eBool a559.Rest))⟩), (325, ⟨.im, 0, (.sl (len a559.In) (flat eGMsg a559.In))⟩), (384, ⟨(.box 28 5), 0, nob⟩), (385, ⟨.im, 0, (.lit (.int .i64 0))⟩), (386, ⟨.im, 0, (.lit (.int .i64 0))⟩), (387, ⟨.im, 0, (.lit (.int .i64 0))⟩), (388, ⟨(.own 42), 0, (.sl 0 [])⟩), (389, ⟨.im, 0, (.lit (.bool false))⟩), (512, ⟨.one, 0, nob⟩), (513, ⟨(.own 42), 0, (.sl (len w591.1) (flat eGPart w591.1))⟩), (576, ⟨.one, 0, nob⟩), (577, ⟨.im, 0, (.lit (.bool w591.2))⟩)]
theorem F53_l0_0_ok (K : Nat) (a557 : GBarrier) (a559 : GPart) : ∀ (k : Nat) (v576 : List GPart) (v577 : Bool) (v578 : Int) (r : (Unit) ⊕ (List GPart × Bool)), F53_l0_0 K a557 a559 k v576 v577 v578 = some r → (Sum.elim (fun w => LoopEv E H hn53 0 c53_0 (F53_l0_0_S a557 a559 v576 v577 v578) .ret (F53_l0_0_X0 a557 a559 w)) (fun w => LoopEv E H hn53 0 c53_0 (F53_l0_0_S a557 a559 v576 v577 v578) (.exit 0) (F53_l0_0_X1 a557 a559 w))) r := by
  intro k
  induction k with
  | zero => intro v576 v577 v578 r hF; cases hF
  | succ k ih =>
    intro v576 v577 v578 r hF
    rw [F53_l0_0] at hF
    refine cond_some hF (fun h579 hF => ?_) (fun h579 hF => ?_)
    ·
      refine cond_some hF (fun h580 hF => ?_) (fun _ hF => nomatch hF)
      refine bind_some hF (fun x581 h582 hF => ?_)
      have pq594 : ∀ {l : List Cond}, HoldAll E H hn53 l → HoldAll E H hn53 (.int (nlen (len a557.Came)) (nlen (len a557.Came)) :: .test (ilt v578 (nlen (len a557.Came))) true :: .test (inr v578 (len a557.Came)) true :: .sub (flat eGPart a557.Came) (nidx v578 5) 5 [(.lit (.int .i64 x581.P)), (.lit (.int .i64 x581.Step)), (.sl (len x581.Vals) (flat (eInt .i64) x581.Vals)), (.sl (len x581.Rest) (flat eBool x581.Rest)), (.sl (len x581.In) (flat eGMsg x581.In))] :: l) := fun z => ⟨rfl, h579, h580, ⟨rfl, sub_flat0 eGPart_len h582 5 (by decide)⟩, z⟩
      refine cond_some hF (fun h583 hF => ?_) (fun h583 hF => ?_)
      ·
        have hr := Option.some.inj hF
        subst hr
        have pz : HoldAll E H hn53 [.test (ieq x581.P a559.P) true] := ⟨h583, trivial⟩
        exact loop_endC (h := hn53) (l := 0) (c := c53_0) (ts := F53_l0_0_S a557 a559 v576 v577 v578) (ts' := F53_l0_0_X0 a557 a559 ()) (ex := .ret) (pq594 pz) (by kernel_rfl) trivial
      refine cond_some hF (fun h584 hF => ?_) (fun h584 hF => ?_)
      ·
        refine cond_some hF (fun h585 hF => ?_) (fun _ hF => nomatch hF)
        have pz : HoldAll E H hn53 [.test (ieq x581.P a559.P) false, .test (beqb (bnot v577) true) false, .test (beqb (bnot v577) true) false, .test (beqb (bnot v577) true) false, .test (beqb (bnot v577) true) false, .test (beqb (bnot v577) true) false, .test (bnot v577) false, .test false false, .test (leqm [(.lit (.int .i64 x581.P)), (.lit (.int .i64 x581.Step)), (.sl (len x581.Vals) (flat (eInt .i64) x581.Vals)), (.sl (len x581.Rest) (flat eBool x581.Rest)), (.sl (len x581.In) (flat eGMsg x581.In))] 1 5) true, .test (apok (len v576) 1 88) true, .sl (nadd (len v576) 1) (lapp (flat eGPart v576) [(.lit (.int .i64 x581.P)), (.lit (.int .i64 x581.Step)), (.sl (len x581.Vals) (flat (eInt .i64) x581.Vals)), (.sl (len x581.Rest) (flat eBool x581.Rest)), (.sl (len x581.In) (flat eGMsg x581.In))]) (len (α := GPart) (appL v576 [x581])) (flat eGPart (appL v576 [x581])), .int (wadd .i64 v578 1) (wadd .i64 v578 1)] := ⟨h583, (beqb_t (bnot_t h584)), (beqb_t (bnot_t h584)), (beqb_t (bnot_t h584)), (beqb_t (bnot_t h584)), (beqb_t (bnot_t h584)), (bnot_t h584), rfl, rfl, h585, (app_ok (enc := eGPart) (v576 : List GPart) [x581]), rfl, trivial⟩
        have h0 := ih _ _ _ _ hF
        have hn := fun ex ts' => loop_nextC (h := hn53) (l := 0) (c := c53_0) (ts := F53_l0_0_S a557 a559 v576 v577 v578) (ts1 := (F53_l0_0_S a557 a559 (appL v576 [x581]) v577 (wadd .i64 v578 1))) (ex := ex) (ts' := ts') (pq594 pz) (by kernel_rfl)
        cases r with
        | inl w => exact hn _ _ h0
        | inr w => exact hn _ _ h0
      have pq595 : ∀ {l : List Cond}, HoldAll E H hn53 l → HoldAll E H hn53 (.test (ieq x581.P a559.P) false :: .test (beqb (bnot v577) true) true :: .test (beqb (bnot v577) true) true :: .test (beqb (bnot v577) true) true :: .test (beqb (bnot v577) true) true :: .test (beqb (bnot v577) true) true :: .test (bnot v577) true :: l) := fun z => ⟨h583, (beqb_t (bnot_f h584)), (beqb_t (bnot_f h584)), (beqb_t (bnot_f h584)), (beqb_t (bnot_f h584)), (beqb_t (bnot_f h584)), (bnot_f h584), z⟩
      refine cond_some hF (fun h586 hF => ?_) (fun h586 hF => ?_)
      ·
        refine cond_some hF (fun h587 hF => ?_) (fun _ hF => nomatch hF)
        refine cond_some hF (fun h588 hF => ?_) (fun _ hF => nomatch hF)
        have pz : HoldAll E H hn53 [.test (igt x581.P a559.P) true, .test (leqm [(.lit (.int .i64 a559.P)), (.lit (.int .i64 a559.Step)), (.sl (len a559.Vals) (flat (eInt .i64) a559.Vals)), (.sl (len a559.Rest) (flat eBool a559.Rest)), (.sl (len a559.In) (flat eGMsg a559.In))] 1 5) true, .test (apok (len v576) 1 88) true, .sl (nadd (len v576) 1) (lapp (flat eGPart v576) [(.lit (.int .i64 a559.P)), (.lit (.int .i64 a559.Step)), (.sl (len a559.Vals) (flat (eInt .i64) a559.Vals)), (.sl (len a559.Rest) (flat eBool a559.Rest)), (.sl (len a559.In) (flat eGMsg a559.In))]) (len (α := GPart) (appL v576 [a559])) (flat eGPart (appL v576 [a559])), .test (leqm [(.lit (.int .i64 x581.P)), (.lit (.int .i64 x581.Step)), (.sl (len x581.Vals) (flat (eInt .i64) x581.Vals)), (.sl (len x581.Rest) (flat eBool x581.Rest)), (.sl (len x581.In) (flat eGMsg x581.In))] 1 5) true, .test (apok (len (α := GPart) (appL v576 [a559])) 1 88) true, .sl (nadd (len (α := GPart) (appL v576 [a559])) 1) (lapp (flat eGPart (appL v576 [a559])) [(.lit (.int .i64 x581.P)), (.lit (.int .i64 x581.Step)), (.sl (len x581.Vals) (flat (eInt .i64) x581.Vals)), (.sl (len x581.Rest) (flat eBool x581.Rest)), (.sl (len x581.In) (flat eGMsg x581.In))]) (len (α := GPart) (appL (appL v576 [a559]) [x581])) (flat eGPart (appL (appL v576 [a559]) [x581])), .int (wadd .i64 v578 1) (wadd .i64 v578 1)] := ⟨(igt_eq h586), rfl, h587, (app_ok (enc := eGPart) (v576 : List GPart) [a559]), rfl, h588, (app_ok (enc := eGPart) ((appL v576 [a559]) : List GPart) [x581]), rfl, trivial⟩
        have h0 := ih _ _ _ _ hF
        have hn := fun ex ts' => loop_nextC (h := hn53) (l := 0) (c := c53_0) (ts := F53_l0_0_S a557 a559 v576 v577 v578) (ts1 := (F53_l0_0_S a557 a559 (appL (appL v576 [a559]) [x581]) true (wadd .i64 v578 1))) (ex := ex) (ts' := ts') (pq594 (pq595 pz)) (by kernel_rfl)
        cases r with
        | inl w => exact hn _ _ h0
        | inr w => exact hn _ _ h0
      refine cond_some hF (fun h589 hF => ?_) (fun _ hF => nomatch hF)
      have pz : HoldAll E H hn53 [.test (igt x581.P a559.P) false, .test (leqm [(.lit (.int .i64 x581.P)), (.lit (.int .i64 x581.Step)), (.sl (len x581.Vals) (flat (eInt .i64) x581.Vals)), (.sl (len x581.Rest) (flat eBool x581.Rest)), (.sl (len x581.In) (flat eGMsg x581.In))] 1 5) true, .test (apok (len v576) 1 88) true, .sl (nadd (len v576) 1) (lapp (flat eGPart v576) [(.lit (.int .i64 x581.P)), (.lit (.int .i64 x581.Step)), (.sl (len x581.Vals) (flat (eInt .i64) x581.Vals)), (.sl (len x581.Rest) (flat eBool x581.Rest)), (.sl (len x581.In) (flat eGMsg x581.In))]) (len (α := GPart) (appL v576 [x581])) (flat eGPart (appL v576 [x581])), .int (wadd .i64 v578 1) (wadd .i64 v578 1)] := ⟨(igt_eq h586), rfl, h589, (app_ok (enc := eGPart) (v576 : List GPart) [x581]), rfl, trivial⟩
      have h0 := ih _ _ _ _ hF
      have hn := fun ex ts' => loop_nextC (h := hn53) (l := 0) (c := c53_0) (ts := F53_l0_0_S a557 a559 v576 v577 v578) (ts1 := (F53_l0_0_S a557 a559 (appL v576 [x581]) v577 (wadd .i64 v578 1))) (ex := ex) (ts' := ts') (pq594 (pq595 pz)) (by kernel_rfl)
      cases r with
      | inl w => exact hn _ _ h0
      | inr w => exact hn _ _ h0
    have hr := Option.some.inj hF
    subst hr
    have pz : HoldAll E H hn53 [.int (nlen (len a557.Came)) (nlen (len a557.Came)), .test (ilt v578 (nlen (len a557.Came))) false] := ⟨rfl, h579, trivial⟩
    exact loop_endC (h := hn53) (l := 0) (c := c53_0) (ts := F53_l0_0_S a557 a559 v576 v577 v578) (ts' := F53_l0_0_X1 a557 a559 (v576, v577)) (ex := (.exit 0)) pz (by kernel_rfl) trivial

def F53 (K : Nat) (a557 : GBarrier) (a558 : Int) (a559 : GPart) : Option (GBarrier × Int) :=
  (F49 K a557).bind fun r560 =>
  bif r560 then
    (bif (ieq a558 a557.Epoch) then
      (bif (ieq a559.Step (wadd .i64 a557.Step 1)) then
        (bif (ilt a559.P 0) then
          (some (a557, 4))
        else
        bif (ile a557.Parts a559.P) then
          (some (a557, 4))
        else
        (F53_l0_0 K a557 a559 K [] false 0).bind fun y597 =>
        Sum.elim (fun w598 =>
          some (a557, 5))
          (fun w599 =>
          bif w599.2 then
            (some ((GBarrier.mk a557.Epoch a557.Step a557.Parts w599.1 a557.Over), 0))
          else
          bif (apok (len w599.1) 1 88) then
          some ((GBarrier.mk a557.Epoch a557.Step a557.Parts (appL w599.1 [a559]) a557.Over), 0)
          else none) y597)
      else
      some (a557, 9))
    else
    some (a557, 9))
  else
  some ((GBarrier.mk 0 0 0 [] false), 1)
theorem F53_ok (K : Nat) (a557 : GBarrier) (a558 : Int) (a559 : GPart) (r : GBarrier × Int) (hF : F53 K a557 a558 a559 = some r) : Evt E H 53 [.agg (eGBarrier a557), .one (.lit (.int .i64 a558)), .agg (eGPart a559)] (F53_res r) := by
  rw [F53] at hF
  refine bind_some hF (fun r560 h561 hF => ?_)
  refine cond_some hF (fun h562 hF => ?_) (fun h562 hF => ?_)
  ·
    have pq604 : ∀ {l : List Cond}, HoldAll E H hn53 l → HoldAll E H hn53 (.call 49 [.agg (eGBarrier a557)] (F49_res r560) :: .test (leadsAny (Res.mk [(.one (.im (.lit (.bool r560))))] [])) false :: .test (bnot r560) false :: l) := fun z => ⟨(F49_ok K a557 _ h561), (leads_ok (by simp only [leadsAny, List.any_cons, List.any_nil, RV.leads, RC.leads, leadsT, hasSl_lit, Bool.or_false, flat_ns (eInt_ns _), flat_ns eBool_ns, flat_ns eStr_ns, flat_ns eGJob_ns, flat_ns eGEdge_ns, flat_ns eGAsked_ns, flat_ns eGMsg_ns, flat_ns eGrule_ns])), (bnot_t h562), z⟩
    refine cond_some hF (fun h563 hF => ?_) (fun h563 hF => ?_)
    ·
      have pq605 : ∀ {l : List Cond}, HoldAll E H hn53 l → HoldAll E H hn53 (.test (beqb (ine a558 a557.Epoch) false) true :: .test (beqb (ine a558 a557.Epoch) false) true :: .test (beqb (ine a558 a557.Epoch) false) true :: .test (beqb (ine a558 a557.Epoch) false) true :: .test (beqb (ine a558 a557.Epoch) false) true :: .int (wadd .i64 a557.Step 1) (wadd .i64 a557.Step 1) :: .test (beqb (ine a558 a557.Epoch) false) true :: .test (ine a558 a557.Epoch) false :: l) := fun z => ⟨(beqb_ff (ine_t h563)), (beqb_ff (ine_t h563)), (beqb_ff (ine_t h563)), (beqb_ff (ine_t h563)), (beqb_ff (ine_t h563)), rfl, (beqb_ff (ine_t h563)), (ine_t h563), z⟩
      refine cond_some hF (fun h564 hF => ?_) (fun h564 hF => ?_)
      ·
        refine cond_some hF (fun h565 hF => ?_) (fun h565 hF => ?_)
        ·
          have hr := Option.some.inj hF
          subst hr
          have pz : HoldAll E H hn53 [.test (ine a559.Step (wadd .i64 a557.Step 1)) false, .test (beqb (ilt a559.P 0) false) false, .test (beqb (ilt a559.P 0) false) false, .test (beqb (ilt a559.P 0) false) false, .test (beqb (ilt a559.P 0) false) false, .test (beqb (ilt a559.P 0) false) false, .test (ilt a559.P 0) true, .test true true] := ⟨(ine_t h564), (beqb_ft h565), (beqb_ft h565), (beqb_ft h565), (beqb_ft h565), (beqb_ft h565), h565, rfl, trivial⟩
          exact fn_playC hn53 (f := 53) (ads := [.agg (eGBarrier a557), .one (.lit (.int .i64 a558)), .agg (eGPart a559)]) (r := F53_res (a557, 4)) (pq604 (pq605 pz)) (by kernel_rfl) (by kernel_rfl)
        have pq606 : ∀ {l : List Cond}, HoldAll E H hn53 l → HoldAll E H hn53 (.test (ine a559.Step (wadd .i64 a557.Step 1)) false :: .test (beqb (ilt a559.P 0) false) true :: .test (beqb (ilt a559.P 0) false) true :: .test (beqb (ilt a559.P 0) false) true :: .test (beqb (ilt a559.P 0) false) true :: .test (beqb (ilt a559.P 0) false) true :: .test (ilt a559.P 0) false :: l) := fun z => ⟨(ine_t h564), (beqb_ff h565), (beqb_ff h565), (beqb_ff h565), (beqb_ff h565), (beqb_ff h565), h565, z⟩
        refine cond_some hF (fun h566 hF => ?_) (fun h566 hF => ?_)
        ·
          have hr := Option.some.inj hF
          subst hr
          have pz : HoldAll E H hn53 [.test (ige a559.P a557.Parts) true] := ⟨(ige_eq h566), trivial⟩
          exact fn_playC hn53 (f := 53) (ads := [.agg (eGBarrier a557), .one (.lit (.int .i64 a558)), .agg (eGPart a559)]) (r := F53_res (a557, 4)) (pq604 (pq605 (pq606 pz))) (by kernel_rfl) (by kernel_rfl)
        refine bind_some hF (fun y597 h596 hF => ?_)
        refine sum_some hF (fun w598 hx hF => ?_) (fun w599 hx hF => ?_)
        ·
          subst hx
          have hr := Option.some.inj hF
          subst hr
          have pz : HoldAll E H hn53 [.test (ige a559.P a557.Parts) false, .loop 0 c53_0 (F53_l0_0_S a557 a559 [] false 0) .ret (F53_l0_0_X0 a557 a559 w598)] := ⟨(ige_eq h566), (F53_l0_0_ok K a557 a559 K [] false 0 _ h596), trivial⟩
          exact fn_playC hn53 (f := 53) (ads := [.agg (eGBarrier a557), .one (.lit (.int .i64 a558)), .agg (eGPart a559)]) (r := F53_res (a557, 5)) (pq604 (pq605 (pq606 pz))) (by kernel_rfl) (by kernel_rfl)
        subst hx
        refine cond_some hF (fun h602 hF => ?_) (fun h602 hF => ?_)
        ·
          have hr := Option.some.inj hF
          subst hr
          have pz : HoldAll E H hn53 [.test (ige a559.P a557.Parts) false, .loop 0 c53_0 (F53_l0_0_S a557 a559 [] false 0) (.exit 0) (F53_l0_0_X1 a557 a559 w599), .test (bnot w599.2) false] := ⟨(ige_eq h566), (F53_l0_0_ok K a557 a559 K [] false 0 _ h596), (bnot_t h602), trivial⟩
          exact fn_playC hn53 (f := 53) (ads := [.agg (eGBarrier a557), .one (.lit (.int .i64 a558)), .agg (eGPart a559)]) (r := F53_res ((GBarrier.mk a557.Epoch a557.Step a557.Parts w599.1 a557.Over), 0)) (pq604 (pq605 (pq606 pz))) (by kernel_rfl) (by kernel_rfl)
        refine cond_some hF (fun h603 hF => ?_) (fun _ hF => nomatch hF)
        have hr := Option.some.inj hF
        subst hr
        have pz : HoldAll E H hn53 [.test (ige a559.P a557.Parts) false, .loop 0 c53_0 (F53_l0_0_S a557 a559 [] false 0) (.exit 0) (F53_l0_0_X1 a557 a559 w599), .test (bnot w599.2) true, .test (leqm [(.lit (.int .i64 a559.P)), (.lit (.int .i64 a559.Step)), (.sl (len a559.Vals) (flat (eInt .i64) a559.Vals)), (.sl (len a559.Rest) (flat eBool a559.Rest)), (.sl (len a559.In) (flat eGMsg a559.In))] 1 5) true, .test (apok (len w599.1) 1 88) true, .sl (nadd (len w599.1) 1) (lapp (flat eGPart w599.1) [(.lit (.int .i64 a559.P)), (.lit (.int .i64 a559.Step)), (.sl (len a559.Vals) (flat (eInt .i64) a559.Vals)), (.sl (len a559.Rest) (flat eBool a559.Rest)), (.sl (len a559.In) (flat eGMsg a559.In))]) (len (α := GPart) (appL w599.1 [a559])) (flat eGPart (appL w599.1 [a559]))] := ⟨(ige_eq h566), (F53_l0_0_ok K a557 a559 K [] false 0 _ h596), (bnot_f h602), rfl, h603, (app_ok (enc := eGPart) (w599.1 : List GPart) [a559]), trivial⟩
        exact fn_playC hn53 (f := 53) (ads := [.agg (eGBarrier a557), .one (.lit (.int .i64 a558)), .agg (eGPart a559)]) (r := F53_res ((GBarrier.mk a557.Epoch a557.Step a557.Parts (appL w599.1 [a559]) a557.Over), 0)) (pq604 (pq605 (pq606 pz))) (by kernel_rfl) (by kernel_rfl)
      have hr := Option.some.inj hF
      subst hr
      have pz : HoldAll E H hn53 [.test (ine a559.Step (wadd .i64 a557.Step 1)) true] := ⟨(ine_f h564), trivial⟩
      exact fn_playC hn53 (f := 53) (ads := [.agg (eGBarrier a557), .one (.lit (.int .i64 a558)), .agg (eGPart a559)]) (r := F53_res (a557, 9)) (pq604 (pq605 pz)) (by kernel_rfl) (by kernel_rfl)
    have hr := Option.some.inj hF
    subst hr
    have pz : HoldAll E H hn53 [.test (beqb (ine a558 a557.Epoch) false) false, .test (beqb (ine a558 a557.Epoch) false) false, .test (beqb (ine a558 a557.Epoch) false) false, .test (beqb (ine a558 a557.Epoch) false) false, .test (beqb (ine a558 a557.Epoch) false) false, .test (beqb (ine a558 a557.Epoch) false) false, .test (ine a558 a557.Epoch) true, .test true true] := ⟨(beqb_ft (ine_f h563)), (beqb_ft (ine_f h563)), (beqb_ft (ine_f h563)), (beqb_ft (ine_f h563)), (beqb_ft (ine_f h563)), (beqb_ft (ine_f h563)), (ine_f h563), rfl, trivial⟩
    exact fn_playC hn53 (f := 53) (ads := [.agg (eGBarrier a557), .one (.lit (.int .i64 a558)), .agg (eGPart a559)]) (r := F53_res (a557, 9)) (pq604 pz) (by kernel_rfl) (by kernel_rfl)
  have hr := Option.some.inj hF
  subst hr
  have pz : HoldAll E H hn53 [.call 49 [.agg (eGBarrier a557)] (F49_res r560), .test (leadsAny (Res.mk [(.one (.im (.lit (.bool r560))))] [])) false, .test (bnot r560) true] := ⟨(F49_ok K a557 _ h561), (leads_ok (by simp only [leadsAny, List.any_cons, List.any_nil, RV.leads, RC.leads, leadsT, hasSl_lit, Bool.or_false, flat_ns (eInt_ns _), flat_ns eBool_ns, flat_ns eStr_ns, flat_ns eGJob_ns, flat_ns eGEdge_ns, flat_ns eGAsked_ns, flat_ns eGMsg_ns, flat_ns eGrule_ns])), (bnot_f h562), trivial⟩
  exact fn_playC hn53 (f := 53) (ads := [.agg (eGBarrier a557), .one (.lit (.int .i64 a558)), .agg (eGPart a559)]) (r := F53_res ((GBarrier.mk 0 0 0 [] false), 1)) pz (by kernel_rfl) (by kernel_rfl)

/-! ### haywain/barrier.Fail -/
noncomputable def hn54 : Hint := { H 54 with nt := 28, prot := 0 }
def F54_res (r628 : GBarrier × Int) : Res := ⟨[(.agg [(.im (.lit (.int .i64 r628.1.Epoch))), (.im (.lit (.int .i64 r628.1.Step))), (.im (.lit (.int .i64 r628.1.Parts))), (.own 42 (.sl (len r628.1.Came) (flat eGPart r628.1.Came))), (.im (.lit (.bool r628.1.Over)))]), (.one (.im (.lit (.int .i64 r628.2))))], []⟩
def F54 (K : Nat) (a616 : GBarrier) (a617 : Int) (a618 : Int) : Option (GBarrier × Int) :=
  (F48 K a616).bind fun r619 =>
  bif r619 then
    ((F127 K a616).bind fun r622 =>
    bif (ieq a617 a616.Epoch) then
      (bif (ieq a618 a616.Step) then
        (some ((GBarrier.mk r622.Epoch r622.Step r622.Parts r622.Came true), 0))
      else
      some (r622, 9))
    else
    some (r622, 9))
  else
  some ((GBarrier.mk 0 0 0 [] false), 1)
theorem F54_ok (K : Nat) (a616 : GBarrier) (a617 : Int) (a618 : Int) (r : GBarrier × Int) (hF : F54 K a616 a617 a618 = some r) : Evt E H 54 [.agg (eGBarrier a616), .one (.lit (.int .i64 a617)), .one (.lit (.int .i64 a618))] (F54_res r) := by
  rw [F54] at hF
  refine bind_some hF (fun r619 h620 hF => ?_)
  refine cond_some hF (fun h621 hF => ?_) (fun h621 hF => ?_)
  ·
    refine bind_some hF (fun r622 h623 hF => ?_)
    have pq626 : ∀ {l : List Cond}, HoldAll E H hn54 l → HoldAll E H hn54 (.call 48 [.agg (eGBarrier a616)] (F48_res r619) :: .test (leadsAny (Res.mk [(.one (.im (.lit (.bool r619))))] [])) false :: .test (bnot r619) false :: .call 127 [.agg (eGBarrier a616)] (F127_res r622) :: l) := fun z => ⟨(F48_ok K a616 _ h620), (leads_ok (by simp only [leadsAny, List.any_cons, List.any_nil, RV.leads, RC.leads, leadsT, hasSl_lit, Bool.or_false, flat_ns (eInt_ns _), flat_ns eBool_ns, flat_ns eStr_ns, flat_ns eGJob_ns, flat_ns eGEdge_ns, flat_ns eGAsked_ns, flat_ns eGMsg_ns, flat_ns eGrule_ns])), (bnot_t h621), (F127_ok K a616 _ h623), z⟩
    refine cond_some hF (fun h624 hF => ?_) (fun h624 hF => ?_)
    ·
      have pq627 : ∀ {l : List Cond}, HoldAll E H hn54 l → HoldAll E H hn54 (.test (beqb (ine a617 a616.Epoch) false) true :: .test (beqb (ine a617 a616.Epoch) false) true :: .test (beqb (ine a617 a616.Epoch) false) true :: .test (beqb (ine a617 a616.Epoch) false) true :: .test (ine a617 a616.Epoch) false :: l) := fun z => ⟨(beqb_ff (ine_t h624)), (beqb_ff (ine_t h624)), (beqb_ff (ine_t h624)), (beqb_ff (ine_t h624)), (ine_t h624), z⟩
      refine cond_some hF (fun h625 hF => ?_) (fun h625 hF => ?_)
      ·
        have hr := Option.some.inj hF
        subst hr
        have pz : HoldAll E H hn54 [.test (ine a618 a616.Step) false] := ⟨(ine_t h625), trivial⟩
        exact fn_playC hn54 (f := 54) (ads := [.agg (eGBarrier a616), .one (.lit (.int .i64 a617)), .one (.lit (.int .i64 a618))]) (r := F54_res ((GBarrier.mk r622.Epoch r622.Step r622.Parts r622.Came true), 0)) (pq626 (pq627 pz)) (by kernel_rfl) (by kernel_rfl)
      have hr := Option.some.inj hF
      subst hr
      have pz : HoldAll E H hn54 [.test (ine a618 a616.Step) true] := ⟨(ine_f h625), trivial⟩
      exact fn_playC hn54 (f := 54) (ads := [.agg (eGBarrier a616), .one (.lit (.int .i64 a617)), .one (.lit (.int .i64 a618))]) (r := F54_res (r622, 9)) (pq626 (pq627 pz)) (by kernel_rfl) (by kernel_rfl)
    have hr := Option.some.inj hF
    subst hr
    have pz : HoldAll E H hn54 [.test (beqb (ine a617 a616.Epoch) false) false, .test (beqb (ine a617 a616.Epoch) false) false, .test (beqb (ine a617 a616.Epoch) false) false, .test (beqb (ine a617 a616.Epoch) false) false, .test (ine a617 a616.Epoch) true, .test true true] := ⟨(beqb_ft (ine_f h624)), (beqb_ft (ine_f h624)), (beqb_ft (ine_f h624)), (beqb_ft (ine_f h624)), (ine_f h624), rfl, trivial⟩
    exact fn_playC hn54 (f := 54) (ads := [.agg (eGBarrier a616), .one (.lit (.int .i64 a617)), .one (.lit (.int .i64 a618))]) (r := F54_res (r622, 9)) (pq626 pz) (by kernel_rfl) (by kernel_rfl)
  have hr := Option.some.inj hF
  subst hr
  have pz : HoldAll E H hn54 [.call 48 [.agg (eGBarrier a616)] (F48_res r619), .test (leadsAny (Res.mk [(.one (.im (.lit (.bool r619))))] [])) false, .test (bnot r619) true] := ⟨(F48_ok K a616 _ h620), (leads_ok (by simp only [leadsAny, List.any_cons, List.any_nil, RV.leads, RC.leads, leadsT, hasSl_lit, Bool.or_false, flat_ns (eInt_ns _), flat_ns eBool_ns, flat_ns eStr_ns, flat_ns eGJob_ns, flat_ns eGEdge_ns, flat_ns eGAsked_ns, flat_ns eGMsg_ns, flat_ns eGrule_ns])), (bnot_f h621), trivial⟩
  exact fn_playC hn54 (f := 54) (ads := [.agg (eGBarrier a616), .one (.lit (.int .i64 a617)), .one (.lit (.int .i64 a618))]) (r := F54_res ((GBarrier.mk 0 0 0 [] false), 1)) pz (by kernel_rfl) (by kernel_rfl)

/-! ### haywain/haywainref19.Fail -/
noncomputable def hn55 : Hint := { H 55 with nt := 25, prot := 0 }
def F55_res (r649 : GBarrier × Int) : Res := ⟨[(.agg [(.im (.lit (.int .i64 r649.1.Epoch))), (.im (.lit (.int .i64 r649.1.Step))), (.im (.lit (.int .i64 r649.1.Parts))), (.im (.sl (len r649.1.Came) (flat eGPart r649.1.Came))), (.im (.lit (.bool r649.1.Over)))]), (.one (.im (.lit (.int .i64 r649.2))))], []⟩
def F55 (K : Nat) (a639 : GBarrier) (a640 : Int) (a641 : Int) : Option (GBarrier × Int) :=
  (F49 K a639).bind fun r642 =>
  bif r642 then
    (bif (ieq a640 a639.Epoch) then
      (bif (ieq a641 a639.Step) then
        (some ((GBarrier.mk a639.Epoch a639.Step a639.Parts a639.Came true), 0))
      else
      some (a639, 9))
    else
    some (a639, 9))
  else
  some ((GBarrier.mk 0 0 0 [] false), 1)
theorem F55_ok (K : Nat) (a639 : GBarrier) (a640 : Int) (a641 : Int) (r : GBarrier × Int) (hF : F55 K a639 a640 a641 = some r) : Evt E H 55 [.agg (eGBarrier a639), .one (.lit (.int .i64 a640)), .one (.lit (.int .i64 a641))] (F55_res r) := by
  rw [F55] at hF
  refine bind_some hF (fun r642 h643 hF => ?_)
  refine cond_some hF (fun h644 hF => ?_) (fun h644 hF => ?_)
  ·
    have pq647 : ∀ {l : List Cond}, HoldAll E H hn55 l → HoldAll E H hn55 (.call 49 [.agg (eGBarrier a639)] (F49_res r642) :: .test (leadsAny (Res.mk [(.one (.im (.lit (.bool r642))))] [])) false :: .test (bnot r642) false :: l) := fun z => ⟨(F49_ok K a639 _ h643), (leads_ok (by simp only [leadsAny, List.any_cons, List.any_nil, RV.leads, RC.leads, leadsT, hasSl_lit, Bool.or_false, flat_ns (eInt_ns _), flat_ns eBool_ns, flat_ns eStr_ns, flat_ns eGJob_ns, flat_ns eGEdge_ns, flat_ns eGAsked_ns, flat_ns eGMsg_ns, flat_ns eGrule_ns])), (bnot_t h644), z⟩
    refine cond_some hF (fun h645 hF => ?_) (fun h645 hF => ?_)
    ·
      have pq648 : ∀ {l : List Cond}, HoldAll E H hn55 l → HoldAll E H hn55 (.test (beqb (ine a640 a639.Epoch) false) true :: .test (beqb (ine a640 a639.Epoch) false) true :: .test (beqb (ine a640 a639.Epoch) false) true :: .test (beqb (ine a640 a639.Epoch) false) true :: .test (ine a640 a639.Epoch) false :: l) := fun z => ⟨(beqb_ff (ine_t h645)), (beqb_ff (ine_t h645)), (beqb_ff (ine_t h645)), (beqb_ff (ine_t h645)), (ine_t h645), z⟩
      refine cond_some hF (fun h646 hF => ?_) (fun h646 hF => ?_)
      ·
        have hr := Option.some.inj hF
        subst hr
        have pz : HoldAll E H hn55 [.test (ine a641 a639.Step) false] := ⟨(ine_t h646), trivial⟩
        exact fn_playC hn55 (f := 55) (ads := [.agg (eGBarrier a639), .one (.lit (.int .i64 a640)), .one (.lit (.int .i64 a641))]) (r := F55_res ((GBarrier.mk a639.Epoch a639.Step a639.Parts a639.Came true), 0)) (pq647 (pq648 pz)) (by kernel_rfl) (by kernel_rfl)
      have hr := Option.some.inj hF
      subst hr
      have pz : HoldAll E H hn55 [.test (ine a641 a639.Step) true] := ⟨(ine_f h646), trivial⟩
      exact fn_playC hn55 (f := 55) (ads := [.agg (eGBarrier a639), .one (.lit (.int .i64 a640)), .one (.lit (.int .i64 a641))]) (r := F55_res (a639, 9)) (pq647 (pq648 pz)) (by kernel_rfl) (by kernel_rfl)
    have hr := Option.some.inj hF
    subst hr
    have pz : HoldAll E H hn55 [.test (beqb (ine a640 a639.Epoch) false) false, .test (beqb (ine a640 a639.Epoch) false) false, .test (beqb (ine a640 a639.Epoch) false) false, .test (beqb (ine a640 a639.Epoch) false) false, .test (ine a640 a639.Epoch) true, .test true true] := ⟨(beqb_ft (ine_f h645)), (beqb_ft (ine_f h645)), (beqb_ft (ine_f h645)), (beqb_ft (ine_f h645)), (ine_f h645), rfl, trivial⟩
    exact fn_playC hn55 (f := 55) (ads := [.agg (eGBarrier a639), .one (.lit (.int .i64 a640)), .one (.lit (.int .i64 a641))]) (r := F55_res (a639, 9)) (pq647 pz) (by kernel_rfl) (by kernel_rfl)
  have hr := Option.some.inj hF
  subst hr
  have pz : HoldAll E H hn55 [.call 49 [.agg (eGBarrier a639)] (F49_res r642), .test (leadsAny (Res.mk [(.one (.im (.lit (.bool r642))))] [])) false, .test (bnot r642) true] := ⟨(F49_ok K a639 _ h643), (leads_ok (by simp only [leadsAny, List.any_cons, List.any_nil, RV.leads, RC.leads, leadsT, hasSl_lit, Bool.or_false, flat_ns (eInt_ns _), flat_ns eBool_ns, flat_ns eStr_ns, flat_ns eGJob_ns, flat_ns eGEdge_ns, flat_ns eGAsked_ns, flat_ns eGMsg_ns, flat_ns eGrule_ns])), (bnot_f h644), trivial⟩
  exact fn_playC hn55 (f := 55) (ads := [.agg (eGBarrier a639), .one (.lit (.int .i64 a640)), .one (.lit (.int .i64 a641))]) (r := F55_res ((GBarrier.mk 0 0 0 [] false), 1)) pz (by kernel_rfl) (by kernel_rfl)

/-! ### haywain/haywainlaw19.BarrierPlays -/
noncomputable def hn4 : Hint := { H 4 with nt := 123, prot := 0 }
noncomputable def c4_0 : Code := loopOf E 4 0
def F4_res (r724 : Bool) : Res := ⟨[(.one (.im (.lit (.bool r724))))], []⟩
def F4_l0_0 (K : Nat) (a286 : List GAct) : Nat → Int → Int → Int → List GPart → Bool → Int → Int → Int → List GPart → Bool → Int → Option ((Unit) ⊕ (Unit))
  | 0, _, _, _, _, _, _, _, _, _, _, _ => none
  | k + 1, v658, v659, v660, v661, v662, v663, v664, v665, v666, v667, v668 =>
    bif (ilt v668 (nlen (len a286))) then
      (bif (ilt v668 20) then
        (bif (inr v668 (len a286)) then
        (elAt a286 v668).bind fun x672 =>
        (F47 K x672.X).bind fun r674 =>
        bif r674 then
          (F4_l0_0 K a286 k v658 v659 v660 v661 v662 v663 v664 v665 v666 v667 (wadd .i64 v668 1))
        else
        (F48 K (GBarrier.mk v658 v659 v660 v661 v662)).bind fun r677 =>
        (F49 K (GBarrier.mk v663 v664 v665 v666 v667)).bind fun r679 =>
        bif (beqb r677 r679) then
          ((F50 K (GBarrier.mk v658 v659 v660 v661 v662)).bind fun r682 =>
          (F51 K (GBarrier.mk v663 v664 v665 v666 v667)).bind fun r684 =>
          bif (beqb r682 r684) then
            (bif (ieq x672.Kind 0) then
              ((F52 K (GBarrier.mk v658 v659 v660 v661 v662) x672.Epoch x672.X).bind fun r688 =>
              (F53 K (GBarrier.mk v663 v664 v665 v666 v667) x672.Epoch x672.X).bind fun r690 =>
              bif (ieq r688.2 r690.2) then
                ((F44 K r688.1).bind fun r693 =>
                (F43 K r693 r690.1).bind fun r695 =>
                bif r695 then
                  (F4_l0_0 K a286 k r688.1.Epoch r688.1.Step r688.1.Parts r688.1.Came r688.1.Over r690.1.Epoch r690.1.Step r690.1.Parts r690.1.Came r690.1.Over (wadd .i64 v668 1))
                else
                some (.inl ()))
              else
              some (.inl ()))
            else
            (F54 K (GBarrier.mk v658 v659 v660 v661 v662) x672.Epoch x672.Step).bind fun r698 =>
            (F55 K (GBarrier.mk v663 v664 v665 v666 v667) x672.Epoch x672.Step).bind fun r700 =>
            bif (ieq r698.2 r700.2) then
              ((F44 K r698.1).bind fun r703 =>
              (F43 K r703 r700.1).bind fun r705 =>
              bif r705 then
                (F4_l0_0 K a286 k r698.1.Epoch r698.1.Step r698.1.Parts r698.1.Came r698.1.Over r700.1.Epoch r700.1.Step r700.1.Parts r700.1.Came r700.1.Over (wadd .i64 v668 1))
              else
              some (.inl ()))
            else
            some (.inl ()))
          else
          some (.inl ()))
        else
        some (.inl ())
        else none)
      else
      some (.inr ()))
    else
    some (.inr ())
def F4_l0_0_S (a286 : List GAct) (v658 : Int) (v659 : Int) (v660 : Int) (v661 : List GPart) (v662 : Bool) (v663 : Int) (v664 : Int) (v665 : Int) (v666 : List GPart) (v667 : Bool) (v668 : Int) : TS := .on [64, 65, 128, 129, 130, 131, 132, 133, 320, 321, 322, 323, 324, 325, 384, 385] [(64, ⟨.one, 0, nob⟩), (65, ⟨.im, 0, (.sl (len a286) (flat eGAct a286))⟩), (128, ⟨(.box 24 5), 0, nob⟩), (129, ⟨.im, 0, (.lit (.int .i64 v658))⟩), (130, ⟨.im, 0, (.lit (.int .i64 v659))⟩), (131, ⟨.im, 0, (.lit (.int .i64 v660))⟩), (132, ⟨.im, 0, (.sl (len v661) (flat eGPart v661))⟩), (133, ⟨.im, 0, (.lit (.bool v662))⟩), (320, ⟨(.box 28 5), 0, nob⟩), (321, ⟨.im, 0, (.lit (.int .i64 v663))⟩), (322, ⟨.im, 0, (.lit (.int .i64 v664))⟩), (323, ⟨.im, 0, (.lit (.int .i64 v665))⟩), (324, ⟨.im, 0, (.sl (len v666) (flat eGPart v666))⟩), (325, ⟨.im, 0, (.lit (.bool v667))⟩), (384, ⟨.one, 0, nob⟩), (385, ⟨.im, 0, (.lit (.int .i64 v668))⟩)]
def F4_l0_0_X0 (a286 : List GAct) (w708 : Unit) : TS := .on [256, 257] [(256, ⟨.one, 0, nob⟩), (257, ⟨.im, 0, (.lit (.bool false))⟩)]
def F4_l0_0_X1 (a286 : List GAct) (w709 : Unit) : TS := .on [] []
theorem F4_l0_0_ok (K : Nat) (a286 : List GAct) : ∀ (k : Nat) (v658 : Int) (v659 : Int) (v660 : Int) (v661 : List GPart) (v662 : Bool) (v663 : Int) (v664 : Int) (v665 : Int) (v666 : List GPart) (v667 : Bool) (v668 : Int) (r : (Unit) ⊕ (Unit)), F4_l0_0 K a286 k v658 v659 v660 v661 v662 v663 v664 v665 v666 v667 v668 = some r → (Sum.elim (fun w => LoopEv E H hn4 0 c4_0 (F4_l0_0_S a286 v658 v659 v660 v661 v662 v663 v664 v665 v666 v667 v668) .ret (F4_l0_0_X0 a286 w)) (fun w => LoopEv E H hn4 0 c4_0 (F4_l0_0_S a286 v658 v659 v660 v661 v662 v663 v664 v665 v666 v667 v668) (.exit 0) (F4_l0_0_X1 a286 w))) r := by
  intro k
  induction k with
  | zero => intro v658 v659 v660 v661 v662 v663 v664 v665 v666 v667 v668 r hF; cases hF
  | succ k ih =>
    intro v658 v659 v660 v661 v662 v663 v664 v665 v666 v667 v668 r hF
    rw [F4_l0_0] at hF
    refine cond_some hF (fun h669 hF => ?_) (fun h669 hF => ?_)
    ·
      have pq710 : ∀ {l : List Cond}, HoldAll E H hn4 l → HoldAll E H hn4 (.int (nlen (len a286)) (nlen (len a286)) :: .test (beqb (ilt v668 (nlen (len a286))) true) true :: .test (beqb (ilt v668 (nlen (len a286))) true) true :: .test (ilt v668 (nlen (len a286))) true :: l) := fun z => ⟨rfl, (beqb_t h669), (beqb_t h669), h669, z⟩
      refine cond_some hF (fun h670 hF => ?_) (fun h670 hF => ?_)
      ·
        refine cond_some hF (fun h671 hF => ?_) (fun _ hF => nomatch hF)
        refine bind_some hF (fun x672 h673 hF => ?_)
        refine bind_some hF (fun r674 h675 hF => ?_)
        have pq711 : ∀ {l : List Cond}, HoldAll E H hn4 l → HoldAll E H hn4 (.test (ilt v668 20) true :: .test (inr v668 (len a286)) true :: .sub (flat eGAct a286) (nadd (nidx v668 8) 3) 5 [(.lit (.int .i64 x672.X.P)), (.lit (.int .i64 x672.X.Step)), (.sl (len x672.X.Vals) (flat (eInt .i64) x672.X.Vals)), (.sl (len x672.X.Rest) (flat eBool x672.X.Rest)), (.sl (len x672.X.In) (flat eGMsg x672.X.In))] :: .call 47 [.agg (eGPart x672.X)] (F47_res r674) :: .test (leadsAny (Res.mk [(.one (.im (.lit (.bool r674))))] [])) false :: l) := fun z => ⟨h670, h671, ⟨rfl, sub_flat eGAct_len h673 3 5 (by decide)⟩, (F47_ok K x672.X _ h675), (leads_ok (by simp only [leadsAny, List.any_cons, List.any_nil, RV.leads, RC.leads, leadsT, hasSl_lit, Bool.or_false, flat_ns (eInt_ns _), flat_ns eBool_ns, flat_ns eStr_ns, flat_ns eGJob_ns, flat_ns eGEdge_ns, flat_ns eGAsked_ns, flat_ns eGMsg_ns, flat_ns eGrule_ns])), z⟩
        refine cond_some hF (fun h676 hF => ?_) (fun h676 hF => ?_)
        ·
          have pz : HoldAll E H hn4 [.test r674 true, .int (wadd .i64 v668 1) (wadd .i64 v668 1)] := ⟨h676, rfl, trivial⟩
          have h0 := ih _ _ _ _ _ _ _ _ _ _ _ _ hF
          have hn := fun ex ts' => loop_nextC (h := hn4) (l := 0) (c := c4_0) (ts := F4_l0_0_S a286 v658 v659 v660 v661 v662 v663 v664 v665 v666 v667 v668) (ts1 := (F4_l0_0_S a286 v658 v659 v660 v661 v662 v663 v664 v665 v666 v667 (wadd .i64 v668 1))) (ex := ex) (ts' := ts') (pq710 (pq711 pz)) (by kernel_rfl)
          cases r with
          | inl w => exact hn _ _ h0
          | inr w => exact hn _ _ h0
        refine bind_some hF (fun r677 h678 hF => ?_)
        refine bind_some hF (fun r679 h680 hF => ?_)
        have pq712 : ∀ {l : List Cond}, HoldAll E H hn4 l → HoldAll E H hn4 (.test r674 false :: .call 48 [.agg (eGBarrier (GBarrier.mk v658 v659 v660 v661 v662))] (F48_res r677) :: .test (leadsAny (Res.mk [(.one (.im (.lit (.bool r677))))] [])) false :: .call 49 [.agg (eGBarrier (GBarrier.mk v663 v664 v665 v666 v667))] (F49_res r679) :: .test (leadsAny (Res.mk [(.one (.im (.lit (.bool r679))))] [])) false :: l) := fun z => ⟨h676, (F48_ok K (GBarrier.mk v658 v659 v660 v661 v662) _ h678), (leads_ok (by simp only [leadsAny, List.any_cons, List.any_nil, RV.leads, RC.leads, leadsT, hasSl_lit, Bool.or_false, flat_ns (eInt_ns _), flat_ns eBool_ns, flat_ns eStr_ns, flat_ns eGJob_ns, flat_ns eGEdge_ns, flat_ns eGAsked_ns, flat_ns eGMsg_ns, flat_ns eGrule_ns])), (F49_ok K (GBarrier.mk v663 v664 v665 v666 v667) _ h680), (leads_ok (by simp only [leadsAny, List.any_cons, List.any_nil, RV.leads, RC.leads, leadsT, hasSl_lit, Bool.or_false, flat_ns (eInt_ns _), flat_ns eBool_ns, flat_ns eStr_ns, flat_ns eGJob_ns, flat_ns eGEdge_ns, flat_ns eGAsked_ns, flat_ns eGMsg_ns, flat_ns eGrule_ns])), z⟩
        refine cond_some hF (fun h681 hF => ?_) (fun h681 hF => ?_)
        ·
          refine bind_some hF (fun r682 h683 hF => ?_)
          refine bind_some hF (fun r684 h685 hF => ?_)
          have pq713 : ∀ {l : List Cond}, HoldAll E H hn4 l → HoldAll E H hn4 (.test (beqb (bnot (beqb r677 r679)) false) true :: .test (beqb (bnot (beqb r677 r679)) false) true :: .call 50 [.agg (eGBarrier (GBarrier.mk v658 v659 v660 v661 v662))] (F50_res r682) :: .test (leadsAny (Res.mk [(.one (.im (.lit (.bool r682))))] [])) false :: .test (beqb (bnot (beqb r677 r679)) false) true :: .test (beqb (bnot (beqb r677 r679)) false) true :: .call 51 [.agg (eGBarrier (GBarrier.mk v663 v664 v665 v666 v667))] (F51_res r684) :: .test (leadsAny (Res.mk [(.one (.im (.lit (.bool r684))))] [])) false :: .test (beqb (bnot (beqb r677 r679)) false) true :: .test (bnot (beqb r677 r679)) false :: l) := fun z => ⟨(beqb_ff (bnot_t h681)), (beqb_ff (bnot_t h681)), (F50_ok K (GBarrier.mk v658 v659 v660 v661 v662) _ h683), (leads_ok (by simp only [leadsAny, List.any_cons, List.any_nil, RV.leads, RC.leads, leadsT, hasSl_lit, Bool.or_false, flat_ns (eInt_ns _), flat_ns eBool_ns, flat_ns eStr_ns, flat_ns eGJob_ns, flat_ns eGEdge_ns, flat_ns eGAsked_ns, flat_ns eGMsg_ns, flat_ns eGrule_ns])), (beqb_ff (bnot_t h681)), (beqb_ff (bnot_t h681)), (F51_ok K (GBarrier.mk v663 v664 v665 v666 v667) _ h685), (leads_ok (by simp only [leadsAny, List.any_cons, List.any_nil, RV.leads, RC.leads, leadsT, hasSl_lit, Bool.or_false, flat_ns (eInt_ns _), flat_ns eBool_ns, flat_ns eStr_ns, flat_ns eGJob_ns, flat_ns eGEdge_ns, flat_ns eGAsked_ns, flat_ns eGMsg_ns, flat_ns eGrule_ns])), (beqb_ff (bnot_t h681)), (bnot_t h681), z⟩
          refine cond_some hF (fun h686 hF => ?_) (fun h686 hF => ?_)
          ·
            have pq714 : ∀ {l : List Cond}, HoldAll E H hn4 l → HoldAll E H hn4 (.test (bnot (beqb r682 r684)) false :: .test (inr v668 (len a286)) true :: .sub (flat eGAct a286) (nadd (nidx v668 8) 0) 1 [(.lit (.int .i64 x672.Kind))] :: l) := fun z => ⟨(bnot_t h686), h671, ⟨rfl, sub_flat eGAct_len h673 0 1 (by decide)⟩, z⟩
            refine cond_some hF (fun h687 hF => ?_) (fun h687 hF => ?_)
            ·
              refine bind_some hF (fun r688 h689 hF => ?_)
              refine bind_some hF (fun r690 h691 hF => ?_)
              have pq715 : ∀ {l : List Cond}, HoldAll E H hn4 l → HoldAll E H hn4 (.test (ieq x672.Kind 0) true :: .test (inr v668 (len a286)) true :: .sub (flat eGAct a286) (nadd (nidx v668 8) 1) 1 [(.lit (.int .i64 x672.Epoch))] :: .test (inr v668 (len a286)) true :: .sub (flat eGAct a286) (nadd (nidx v668 8) 3) 5 [(.lit (.int .i64 x672.X.P)), (.lit (.int .i64 x672.X.Step)), (.sl (len x672.X.Vals) (flat (eInt .i64) x672.X.Vals)), (.sl (len x672.X.Rest) (flat eBool x672.X.Rest)), (.sl (len x672.X.In) (flat eGMsg x672.X.In))] :: .call 52 [.agg (eGBarrier (GBarrier.mk v658 v659 v660 v661 v662)), .one (.lit (.int .i64 x672.Epoch)), .agg (eGPart x672.X)] (F52_res r688) :: .test (inr v668 (len a286)) true :: .sub (flat eGAct a286) (nadd (nidx v668 8) 1) 1 [(.lit (.int .i64 x672.Epoch))] :: .test (inr v668 (len a286)) true :: .sub (flat eGAct a286) (nadd (nidx v668 8) 3) 5 [(.lit (.int .i64 x672.X.P)), (.lit (.int .i64 x672.X.Step)), (.sl (len x672.X.Vals) (flat (eInt .i64) x672.X.Vals)), (.sl (len x672.X.Rest) (flat eBool x672.X.Rest)), (.sl (len x672.X.In) (flat eGMsg x672.X.In))] :: .call 53 [.agg (eGBarrier (GBarrier.mk v663 v664 v665 v666 v667)), .one (.lit (.int .i64 x672.Epoch)), .agg (eGPart x672.X)] (F53_res r690) :: l) := fun z => ⟨h687, h671, ⟨rfl, sub_flat eGAct_len h673 1 1 (by decide)⟩, h671, ⟨rfl, sub_flat eGAct_len h673 3 5 (by decide)⟩, (F52_ok K (GBarrier.mk v658 v659 v660 v661 v662) x672.Epoch x672.X _ h689), h671, ⟨rfl, sub_flat eGAct_len h673 1 1 (by decide)⟩, h671, ⟨rfl, sub_flat eGAct_len h673 3 5 (by decide)⟩, (F53_ok K (GBarrier.mk v663 v664 v665 v666 v667) x672.Epoch x672.X _ h691), z⟩
              refine cond_some hF (fun h692 hF => ?_) (fun h692 hF => ?_)
              ·
                refine bind_some hF (fun r693 h694 hF => ?_)
                refine bind_some hF (fun r695 h696 hF => ?_)
                have pq716 : ∀ {l : List Cond}, HoldAll E H hn4 l → HoldAll E H hn4 (.test (beqb (ine r688.2 r690.2) false) true :: .test (beqb (ine r688.2 r690.2) false) true :: .call 44 [.agg (eGBarrier r688.1)] (F44_res r693) :: .test (beqb (ine r688.2 r690.2) false) true :: .test (beqb (ine r688.2 r690.2) false) true :: .call 43 [.agg (eGBarrier r693), .agg (eGBarrier r690.1)] (F43_res r695) :: .test (leadsAny (Res.mk [(.one (.im (.lit (.bool r695))))] [])) false :: .test (beqb (ine r688.2 r690.2) false) true :: .test (ine r688.2 r690.2) false :: l) := fun z => ⟨(beqb_ff (ine_t h692)), (beqb_ff (ine_t h692)), (F44_ok K r688.1 _ h694), (beqb_ff (ine_t h692)), (beqb_ff (ine_t h692)), (F43_ok K r693 r690.1 _ h696), (leads_ok (by simp only [leadsAny, List.any_cons, List.any_nil, RV.leads, RC.leads, leadsT, hasSl_lit, Bool.or_false, flat_ns (eInt_ns _), flat_ns eBool_ns, flat_ns eStr_ns, flat_ns eGJob_ns, flat_ns eGEdge_ns, flat_ns eGAsked_ns, flat_ns eGMsg_ns, flat_ns eGrule_ns])), (beqb_ff (ine_t h692)), (ine_t h692), z⟩
                refine cond_some hF (fun h697 hF => ?_) (fun h697 hF => ?_)
                ·
                  have pz : HoldAll E H hn4 [.test (bnot r695) false, .int (wadd .i64 v668 1) (wadd .i64 v668 1)] := ⟨(bnot_t h697), rfl, trivial⟩
                  have h0 := ih _ _ _ _ _ _ _ _ _ _ _ _ hF
                  have hn := fun ex ts' => loop_nextC (h := hn4) (l := 0) (c := c4_0) (ts := F4_l0_0_S a286 v658 v659 v660 v661 v662 v663 v664 v665 v666 v667 v668) (ts1 := (F4_l0_0_S a286 r688.1.Epoch r688.1.Step r688.1.Parts r688.1.Came r688.1.Over r690.1.Epoch r690.1.Step r690.1.Parts r690.1.Came r690.1.Over (wadd .i64 v668 1))) (ex := ex) (ts' := ts') (pq710 (pq711 (pq712 (pq713 (pq714 (pq715 (pq716 pz))))))) (by kernel_rfl)
                  cases r with
                  | inl w => exact hn _ _ h0
                  | inr w => exact hn _ _ h0
                have hr := Option.some.inj hF
                subst hr
                have pz : HoldAll E H hn4 [.test (bnot r695) true] := ⟨(bnot_f h697), trivial⟩
                exact loop_endC (h := hn4) (l := 0) (c := c4_0) (ts := F4_l0_0_S a286 v658 v659 v660 v661 v662 v663 v664 v665 v666 v667 v668) (ts' := F4_l0_0_X0 a286 ()) (ex := .ret) (pq710 (pq711 (pq712 (pq713 (pq714 (pq715 (pq716 pz))))))) (by kernel_rfl) trivial
              have hr := Option.some.inj hF
              subst hr
              have pz : HoldAll E H hn4 [.test (beqb (ine r688.2 r690.2) false) false, .test (beqb (ine r688.2 r690.2) false) false, .test (beqb (ine r688.2 r690.2) false) false, .test (beqb (ine r688.2 r690.2) false) false, .test (beqb (ine r688.2 r690.2) false) false, .test (ine r688.2 r690.2) true, .test true true] := ⟨(beqb_ft (ine_f h692)), (beqb_ft (ine_f h692)), (beqb_ft (ine_f h692)), (beqb_ft (ine_f h692)), (beqb_ft (ine_f h692)), (ine_f h692), rfl, trivial⟩
              exact loop_endC (h := hn4) (l := 0) (c := c4_0) (ts := F4_l0_0_S a286 v658 v659 v660 v661 v662 v663 v664 v665 v666 v667 v668) (ts' := F4_l0_0_X0 a286 ()) (ex := .ret) (pq710 (pq711 (pq712 (pq713 (pq714 (pq715 pz)))))) (by kernel_rfl) trivial
            refine bind_some hF (fun r698 h699 hF => ?_)
            refine bind_some hF (fun r700 h701 hF => ?_)
            have pq717 : ∀ {l : List Cond}, HoldAll E H hn4 l → HoldAll E H hn4 (.test (ieq x672.Kind 0) false :: .test (inr v668 (len a286)) true :: .sub (flat eGAct a286) (nadd (nidx v668 8) 1) 1 [(.lit (.int .i64 x672.Epoch))] :: .test (inr v668 (len a286)) true :: .sub (flat eGAct a286) (nadd (nidx v668 8) 2) 1 [(.lit (.int .i64 x672.Step))] :: .call 54 [.agg (eGBarrier (GBarrier.mk v658 v659 v660 v661 v662)), .one (.lit (.int .i64 x672.Epoch)), .one (.lit (.int .i64 x672.Step))] (F54_res r698) :: .test (inr v668 (len a286)) true :: .sub (flat eGAct a286) (nadd (nidx v668 8) 1) 1 [(.lit (.int .i64 x672.Epoch))] :: .test (inr v668 (len a286)) true :: .sub (flat eGAct a286) (nadd (nidx v668 8) 2) 1 [(.lit (.int .i64 x672.Step))] :: .call 55 [.agg (eGBarrier (GBarrier.mk v663 v664 v665 v666 v667)), .one (.lit (.int .i64 x672.Epoch)), .one (.lit (.int .i64 x672.Step))] (F55_res r700) :: l) := fun z => ⟨h687, h671, ⟨rfl, sub_flat eGAct_len h673 1 1 (by decide)⟩, h671, ⟨rfl, sub_flat eGAct_len h673 2 1 (by decide)⟩, (F54_ok K (GBarrier.mk v658 v659 v660 v661 v662) x672.Epoch x672.Step _ h699), h671, ⟨rfl, sub_flat eGAct_len h673 1 1 (by decide)⟩, h671, ⟨rfl, sub_flat eGAct_len h673 2 1 (by decide)⟩, (F55_ok K (GBarrier.mk v663 v664 v665 v666 v667) x672.Epoch x672.Step _ h701), z⟩
            refine cond_some hF (fun h702 hF => ?_) (fun h702 hF => ?_)
            ·
              refine bind_some hF (fun r703 h704 hF => ?_)
              refine bind_some hF (fun r705 h706 hF => ?_)
              have pq718 : ∀ {l : List Cond}, HoldAll E H hn4 l → HoldAll E H hn4 (.test (beqb (ine r698.2 r700.2) false) true :: .test (beqb (ine r698.2 r700.2) false) true :: .call 44 [.agg (eGBarrier r698.1)] (F44_res r703) :: .test (beqb (ine r698.2 r700.2) false) true :: .test (beqb (ine r698.2 r700.2) false) true :: .call 43 [.agg (eGBarrier r703), .agg (eGBarrier r700.1)] (F43_res r705) :: .test (leadsAny (Res.mk [(.one (.im (.lit (.bool r705))))] [])) false :: .test (beqb (ine r698.2 r700.2) false) true :: .test (ine r698.2 r700.2) false :: l) := fun z => ⟨(beqb_ff (ine_t h702)), (beqb_ff (ine_t h702)), (F44_ok K r698.1 _ h704), (beqb_ff (ine_t h702)), (beqb_ff (ine_t h702)), (F43_ok K r703 r700.1 _ h706), (leads_ok (by simp only [leadsAny, List.any_cons, List.any_nil, RV.leads, RC.leads, leadsT, hasSl_lit, Bool.or_false, flat_ns (eInt_ns _), flat_ns eBool_ns, flat_ns eStr_ns, flat_ns eGJob_ns, flat_ns eGEdge_ns, flat_ns eGAsked_ns, flat_ns eGMsg_ns, flat_ns eGrule_ns])), (beqb_ff (ine_t h702)), (ine_t h702), z⟩
              refine cond_some hF (fun h707 hF => ?_) (fun h707 hF => ?_)
              ·
                have pz : HoldAll E H hn4 [.test (bnot r705) false, .int (wadd .i64 v668 1) (wadd .i64 v668 1)] := ⟨(bnot_t h707), rfl, trivial⟩
                have h0 := ih _ _ _ _ _ _ _ _ _ _ _ _ hF
                have hn := fun ex ts' => loop_nextC (h := hn4) (l := 0) (c := c4_0) (ts := F4_l0_0_S a286 v658 v659 v660 v661 v662 v663 v664 v665 v666 v667 v668) (ts1 := (F4_l0_0_S a286 r698.1.Epoch r698.1.Step r698.1.Parts r698.1.Came r698.1.Over r700.1.Epoch r700.1.Step r700.1.Parts r700.1.Came r700.1.Over (wadd .i64 v668 1))) (ex := ex) (ts' := ts') (pq710 (pq711 (pq712 (pq713 (pq714 (pq717 (pq718 pz))))))) (by kernel_rfl)
                cases r with
                | inl w => exact hn _ _ h0
                | inr w => exact hn _ _ h0
              have hr := Option.some.inj hF
              subst hr
              have pz : HoldAll E H hn4 [.test (bnot r705) true] := ⟨(bnot_f h707), trivial⟩
              exact loop_endC (h := hn4) (l := 0) (c := c4_0) (ts := F4_l0_0_S a286 v658 v659 v660 v661 v662 v663 v664 v665 v666 v667 v668) (ts' := F4_l0_0_X0 a286 ()) (ex := .ret) (pq710 (pq711 (pq712 (pq713 (pq714 (pq717 (pq718 pz))))))) (by kernel_rfl) trivial
            have hr := Option.some.inj hF
            subst hr
            have pz : HoldAll E H hn4 [.test (beqb (ine r698.2 r700.2) false) false, .test (beqb (ine r698.2 r700.2) false) false, .test (beqb (ine r698.2 r700.2) false) false, .test (beqb (ine r698.2 r700.2) false) false, .test (beqb (ine r698.2 r700.2) false) false, .test (ine r698.2 r700.2) true, .test true true] := ⟨(beqb_ft (ine_f h702)), (beqb_ft (ine_f h702)), (beqb_ft (ine_f h702)), (beqb_ft (ine_f h702)), (beqb_ft (ine_f h702)), (ine_f h702), rfl, trivial⟩
            exact loop_endC (h := hn4) (l := 0) (c := c4_0) (ts := F4_l0_0_S a286 v658 v659 v660 v661 v662 v663 v664 v665 v666 v667 v668) (ts' := F4_l0_0_X0 a286 ()) (ex := .ret) (pq710 (pq711 (pq712 (pq713 (pq714 (pq717 pz)))))) (by kernel_rfl) trivial
          have hr := Option.some.inj hF
          subst hr
          have pz : HoldAll E H hn4 [.test (bnot (beqb r682 r684)) true] := ⟨(bnot_f h686), trivial⟩
          exact loop_endC (h := hn4) (l := 0) (c := c4_0) (ts := F4_l0_0_S a286 v658 v659 v660 v661 v662 v663 v664 v665 v666 v667 v668) (ts' := F4_l0_0_X0 a286 ()) (ex := .ret) (pq710 (pq711 (pq712 (pq713 pz)))) (by kernel_rfl) trivial
        have hr := Option.some.inj hF
        subst hr
        have pz : HoldAll E H hn4 [.test (beqb (bnot (beqb r677 r679)) false) false, .test (beqb (bnot (beqb r677 r679)) false) false, .test (beqb (bnot (beqb r677 r679)) false) false, .test (beqb (bnot (beqb r677 r679)) false) false, .test (beqb (bnot (beqb r677 r679)) false) false, .test (bnot (beqb r677 r679)) true, .test true true] := ⟨(beqb_ft (bnot_f h681)), (beqb_ft (bnot_f h681)), (beqb_ft (bnot_f h681)), (beqb_ft (bnot_f h681)), (beqb_ft (bnot_f h681)), (bnot_f h681), rfl, trivial⟩
        exact loop_endC (h := hn4) (l := 0) (c := c4_0) (ts := F4_l0_0_S a286 v658 v659 v660 v661 v662 v663 v664 v665 v666 v667 v668) (ts' := F4_l0_0_X0 a286 ()) (ex := .ret) (pq710 (pq711 (pq712 pz))) (by kernel_rfl) trivial
      have hr := Option.some.inj hF
      subst hr
      have pz : HoldAll E H hn4 [.test (ilt v668 20) false] := ⟨h670, trivial⟩
      exact loop_endC (h := hn4) (l := 0) (c := c4_0) (ts := F4_l0_0_S a286 v658 v659 v660 v661 v662 v663 v664 v665 v666 v667 v668) (ts' := F4_l0_0_X1 a286 ()) (ex := (.exit 0)) (pq710 pz) (by kernel_rfl) trivial
    have hr := Option.some.inj hF
    subst hr
    have pz : HoldAll E H hn4 [.int (nlen (len a286)) (nlen (len a286)), .test (beqb (ilt v668 (nlen (len a286))) true) false, .test (beqb (ilt v668 (nlen (len a286))) true) false, .test (ilt v668 (nlen (len a286))) false, .test false false] := ⟨rfl, (beqb_t h669), (beqb_t h669), h669, rfl, trivial⟩
    exact loop_endC (h := hn4) (l := 0) (c := c4_0) (ts := F4_l0_0_S a286 v658 v659 v660 v661 v662 v663 v664 v665 v666 v667 v668) (ts' := F4_l0_0_X1 a286 ()) (ex := (.exit 0)) pz (by kernel_rfl) trivial

def F4 (K : Nat) (a285 : GBarrier) (a286 : List GAct) : Option (Bool) :=
  (F46 K a285).bind fun r317 =>
  bif r317 then
    (some true)
  else
  (F44 K a285).bind fun r320 =>
  (F4_l0_0 K a286 K a285.Epoch a285.Step a285.Parts a285.Came a285.Over r320.Epoch r320.Step r320.Parts r320.Came r320.Over 0).bind fun y720 =>
  Sum.elim (fun w721 =>
    some false)
    (fun w722 =>
    some true) y720
theorem F4_ok (K : Nat) (a285 : GBarrier) (a286 : List GAct) (r : Bool) (hF : F4 K a285 a286 = some r) : Evt E H 4 [.agg (eGBarrier a285), .one (.sl (len a286) (flat eGAct a286))] (F4_res r) := by
  rw [F4] at hF
  refine bind_some hF (fun r317 h318 hF => ?_)
  refine cond_some hF (fun h319 hF => ?_) (fun h319 hF => ?_)
  ·
    have hr := Option.some.inj hF
    subst hr
    have pz : HoldAll E H hn4 [.call 46 [.agg (eGBarrier a285)] (F46_res r317), .test (leadsAny (Res.mk [(.one (.im (.lit (.bool r317))))] [])) false, .test r317 true, .call 45 [] (Res.mk [(.one (.im (.lit (.bool true))))] []), .test (leadsAny (Res.mk [(.one (.im (.lit (.bool true))))] [])) false] := ⟨(F46_ok K a285 _ h318), (leads_ok (by simp only [leadsAny, List.any_cons, List.any_nil, RV.leads, RC.leads, leadsT, hasSl_lit, Bool.or_false, flat_ns (eInt_ns _), flat_ns eBool_ns, flat_ns eStr_ns, flat_ns eGJob_ns, flat_ns eGEdge_ns, flat_ns eGAsked_ns, flat_ns eGMsg_ns, flat_ns eGrule_ns])), h319, knows45, (leads_ok (by simp only [leadsAny, List.any_cons, List.any_nil, RV.leads, RC.leads, leadsT, hasSl_lit, Bool.or_false, flat_ns (eInt_ns _), flat_ns eBool_ns, flat_ns eStr_ns, flat_ns eGJob_ns, flat_ns eGEdge_ns, flat_ns eGAsked_ns, flat_ns eGMsg_ns, flat_ns eGrule_ns])), trivial⟩
    exact fn_playC hn4 (f := 4) (ads := [.agg (eGBarrier a285), .one (.sl (len a286) (flat eGAct a286))]) (r := F4_res true) pz (by kernel_rfl) (by kernel_rfl)
  refine bind_some hF (fun r320 h321 hF => ?_)
  have pq723 : ∀ {l : List Cond}, HoldAll E H hn4 l → HoldAll E H hn4 (.call 46 [.agg (eGBarrier a285)] (F46_res r317) :: .test (leadsAny (Res.mk [(.one (.im (.lit (.bool r317))))] [])) false :: .test r317 false :: .call 44 [.agg (eGBarrier a285)] (F44_res r320) :: l) := fun z => ⟨(F46_ok K a285 _ h318), (leads_ok (by simp only [leadsAny, List.any_cons, List.any_nil, RV.leads, RC.leads, leadsT, hasSl_lit, Bool.or_false, flat_ns (eInt_ns _), flat_ns eBool_ns, flat_ns eStr_ns, flat_ns eGJob_ns, flat_ns eGEdge_ns, flat_ns eGAsked_ns, flat_ns eGMsg_ns, flat_ns eGrule_ns])), h319, (F44_ok K a285 _ h321), z⟩
  refine bind_some hF (fun y720 h719 hF => ?_)
  refine sum_some hF (fun w721 hx hF => ?_) (fun w722 hx hF => ?_)
  ·
    subst hx
    have hr := Option.some.inj hF
    subst hr
    have pz : HoldAll E H hn4 [.loop 0 c4_0 (F4_l0_0_S a286 a285.Epoch a285.Step a285.Parts a285.Came a285.Over r320.Epoch r320.Step r320.Parts r320.Came r320.Over 0) .ret (F4_l0_0_X0 a286 w721)] := ⟨(F4_l0_0_ok K a286 K a285.Epoch a285.Step a285.Parts a285.Came a285.Over r320.Epoch r320.Step r320.Parts r320.Came r320.Over 0 _ h719), trivial⟩
    exact fn_playC hn4 (f := 4) (ads := [.agg (eGBarrier a285), .one (.sl (len a286) (flat eGAct a286))]) (r := F4_res false) (pq723 pz) (by kernel_rfl) (by kernel_rfl)
  subst hx
  have hr := Option.some.inj hF
  subst hr
  have pz : HoldAll E H hn4 [.loop 0 c4_0 (F4_l0_0_S a286 a285.Epoch a285.Step a285.Parts a285.Came a285.Over r320.Epoch r320.Step r320.Parts r320.Came r320.Over 0) (.exit 0) (F4_l0_0_X1 a286 w722), .call 45 [] (Res.mk [(.one (.im (.lit (.bool true))))] []), .test (leadsAny (Res.mk [(.one (.im (.lit (.bool true))))] [])) false] := ⟨(F4_l0_0_ok K a286 K a285.Epoch a285.Step a285.Parts a285.Came a285.Over r320.Epoch r320.Step r320.Parts r320.Came r320.Over 0 _ h719), knows45, (leads_ok (by simp only [leadsAny, List.any_cons, List.any_nil, RV.leads, RC.leads, leadsT, hasSl_lit, Bool.or_false, flat_ns (eInt_ns _), flat_ns eBool_ns, flat_ns eStr_ns, flat_ns eGJob_ns, flat_ns eGEdge_ns, flat_ns eGAsked_ns, flat_ns eGMsg_ns, flat_ns eGrule_ns])), trivial⟩
  exact fn_playC hn4 (f := 4) (ads := [.agg (eGBarrier a285), .one (.sl (len a286) (flat eGAct a286))]) (r := F4_res true) (pq723 pz) (by kernel_rfl) (by kernel_rfl)

end Go.Proofs.Ytnjanliihnadjaa.Tm

/- Printed by program: what each function computes, and that the machine answers so. Conditions: none. -/
import Derived.Test.YtnjanliihnadjaaTy
import Derived.Test.YtnjanliihnadjaaTab
import Derived.Test.YtnjanliihnadjaaKn
import Derived.Test.YtnjanliihnadjaaFA
import Derived.KernelRfl
set_option linter.unusedVariables false
set_option linter.unusedSimpArgs false
namespace Go.Proofs.Ytnjanliihnadjaa.Tm
open Go
/-! ### haywain/haywainlaw19.broad -/
noncomputable def hn47 : Hint := { H 47 with nt := 19, prot := 0 }
def F47_res (r296 : Bool) : Res := ⟨[(.one (.im (.lit (.bool r296))))], []⟩
def F47 (K : Nat) (a292 : GPart) : Option (Bool) :=
  bif (ilt 100 (nlen (len a292.Vals))) then
    (some true)
  else
  bif (ilt 100 (nlen (len a292.Rest))) then
    (some true)
  else
  some (igt (nlen (len a292.In)) 100)
theorem F47_ok (K : Nat) (a292 : GPart) (r : Bool) (hF : F47 K a292 = some r) : Evt E H 47 [.agg (eGPart a292)] (F47_res r) := by
  rw [F47] at hF
  refine cond_some hF (fun h293 hF => ?_) (fun h293 hF => ?_)
  ·
    have hr := Option.some.inj hF
    subst hr
    have pz : HoldAll E H hn47 [.int (nlen (len a292.Vals)) (nlen (len a292.Vals)), .test (beqb (igt (nlen (len a292.Vals)) 100) false) false, .test (beqb (igt (nlen (len a292.Vals)) 100) false) false, .test (beqb (igt (nlen (len a292.Vals)) 100) false) false, .test (beqb (igt (nlen (len a292.Vals)) 100) false) false, .test (igt (nlen (len a292.Vals)) 100) true, .test (beqb true false) false, .test (beqb true false) false, .test (beqb true false) false, .test (beqb true false) false, .test true true] := ⟨rfl, (beqb_ft (igt_eq h293)), (beqb_ft (igt_eq h293)), (beqb_ft (igt_eq h293)), (beqb_ft (igt_eq h293)), (igt_eq h293), (beqb_ft rfl), (beqb_ft rfl), (beqb_ft rfl), (beqb_ft rfl), rfl, trivial⟩
    exact fn_playC hn47 (f := 47) (ads := [.agg (eGPart a292)]) (r := F47_res true) pz (by kernel_rfl) (by kernel_rfl)
  have pq295 : ∀ {l : List Cond}, HoldAll E H hn47 l → HoldAll E H hn47 (.int (nlen (len a292.Vals)) (nlen (len a292.Vals)) :: .test (beqb (igt (nlen (len a292.Vals)) 100) false) true :: .test (beqb (igt (nlen (len a292.Vals)) 100) false) true :: .test (beqb (igt (nlen (len a292.Vals)) 100) false) true :: .int (nlen (len a292.Rest)) (nlen (len a292.Rest)) :: .test (beqb (igt (nlen (len a292.Vals)) 100) false) true :: .test (igt (nlen (len a292.Vals)) 100) false :: l) := fun z => ⟨rfl, (beqb_ff (igt_eq h293)), (beqb_ff (igt_eq h293)), (beqb_ff (igt_eq h293)), rfl, (beqb_ff (igt_eq h293)), (igt_eq h293), z⟩
  refine cond_some hF (fun h294 hF => ?_) (fun h294 hF => ?_)
  ·
    have hr := Option.some.inj hF
    subst hr
    have pz : HoldAll E H hn47 [.test (beqb (igt (nlen (len a292.Rest)) 100) false) false, .test (beqb (igt (nlen (len a292.Rest)) 100) false) false, .test (beqb (igt (nlen (len a292.Rest)) 100) false) false, .test (beqb (igt (nlen (len a292.Rest)) 100) false) false, .test (igt (nlen (len a292.Rest)) 100) true] := ⟨(beqb_ft (igt_eq h294)), (beqb_ft (igt_eq h294)), (beqb_ft (igt_eq h294)), (beqb_ft (igt_eq h294)), (igt_eq h294), trivial⟩
    exact fn_playC hn47 (f := 47) (ads := [.agg (eGPart a292)]) (r := F47_res true) (pq295 pz) (by kernel_rfl) (by kernel_rfl)
  have hr := Option.some.inj hF
  subst hr
  have pz : HoldAll E H hn47 [.test (beqb (igt (nlen (len a292.Rest)) 100) false) true, .test (beqb (igt (nlen (len a292.Rest)) 100) false) true, .test (beqb (igt (nlen (len a292.Rest)) 100) false) true, .int (nlen (len a292.In)) (nlen (len a292.In)), .test (beqb (igt (nlen (len a292.Rest)) 100) false) true, .test (igt (nlen (len a292.Rest)) 100) false] := ⟨(beqb_ff (igt_eq h294)), (beqb_ff (igt_eq h294)), (beqb_ff (igt_eq h294)), rfl, (beqb_ff (igt_eq h294)), (igt_eq h294), trivial⟩
  exact fn_playC hn47 (f := 47) (ads := [.agg (eGPart a292)]) (r := F47_res (igt (nlen (len a292.In)) 100)) (pq295 pz) (by kernel_rfl) (by kernel_rfl)

/-! ### haywain/haywainlaw19.great -/
noncomputable def hn46 : Hint := { H 46 with nt := 21, prot := 0 }
noncomputable def c46_0 : Code := loopOf E 46 0
def F46_res (r315 : Bool) : Res := ⟨[(.one (.im (.lit (.bool r315))))], []⟩
def F46_l0_0 (K : Nat) (a286 : GBarrier) : Nat → Int → Option ((Unit) ⊕ (Unit))
  | 0, _ => none
  | k + 1, v300 =>
    bif (ilt v300 (nlen (len a286.Came))) then
      (bif (inr v300 (len a286.Came)) then
      (elAt a286.Came v300).bind fun x303 =>
      (F47 K x303).bind fun r305 =>
      bif r305 then
        (some (.inl ()))
      else
      F46_l0_0 K a286 k (wadd .i64 v300 1)
      else none)
    else
    some (.inr ())
def F46_l0_0_S (a286 : GBarrier) (v300 : Int) : TS := .on [64, 65, 66, 67, 68, 69, 192, 193] [(64, ⟨(.box 24 5), 0, nob⟩), (65, ⟨.im, 0, (.lit (.int .i64 a286.Epoch))⟩), (66, ⟨.im, 0, (.lit (.int .i64 a286.Step))⟩), (67, ⟨.im, 0, (.lit (.int .i64 a286.Parts))⟩), (68, ⟨.im, 0, (.sl (len a286.Came) (flat eGPart a286.Came))⟩), (69, ⟨.im, 0, (.lit (.bool a286.Over))⟩), (192, ⟨.one, 0, nob⟩), (193, ⟨.im, 0, (.lit (.int .i64 v300))⟩)]
def F46_l0_0_X0 (a286 : GBarrier) (w308 : Unit) : TS := .on [128, 129] [(128, ⟨.one, 0, nob⟩), (129, ⟨.im, 0, (.lit (.bool true))⟩)]
def F46_l0_0_X1 (a286 : GBarrier) (w309 : Unit) : TS := .on [] []
theorem F46_l0_0_ok (K : Nat) (a286 : GBarrier) : ∀ (k : Nat) (v300 : Int) (r : (Unit) ⊕ (Unit)), F46_l0_0 K a286 k v300 = some r → (Sum.elim (fun w => LoopEv E H hn46 0 c46_0 (F46_l0_0_S a286 v300) .ret (F46_l0_0_X0 a286 w)) (fun w => LoopEv E H hn46 0 c46_0 (F46_l0_0_S a286 v300) (.exit 0) (F46_l0_0_X1 a286 w))) r := by
  intro k
  induction k with
  | zero => intro v300 r hF; cases hF
  | succ k ih =>
    intro v300 r hF
    rw [F46_l0_0] at hF
    refine cond_some hF (fun h301 hF => ?_) (fun h301 hF => ?_)
    ·
      refine cond_some hF (fun h302 hF => ?_) (fun _ hF => nomatch hF)
      refine bind_some hF (fun x303 h304 hF => ?_)
      refine bind_some hF (fun r305 h306 hF => ?_)
      have pq310 : ∀ {l : List Cond}, HoldAll E H hn46 l → HoldAll E H hn46 (.int (nlen (len a286.Came)) (nlen (len a286.Came)) :: .test (ilt v300 (nlen (len a286.Came))) true :: .test (inr v300 (len a286.Came)) true :: .sub (flat eGPart a286.Came) (nidx v300 5) 5 [(.lit (.int .i64 x303.P)), (.lit (.int .i64 x303.Step)), (.sl (len x303.Vals) (flat (eInt .i64) x303.Vals)), (.sl (len x303.Rest) (flat eBool x303.Rest)), (.sl (len x303.In) (flat eGMsg x303.In))] :: .call 47 [.agg (eGPart x303)] (F47_res r305) :: .test (leadsAny (Res.mk [(.one (.im (.lit (.bool r305))))] [])) false :: l) := fun z => ⟨rfl, h301, h302, ⟨rfl, sub_flat0 eGPart_len h304 5 (by decide)⟩, (F47_ok K x303 _ h306), (leads_ok (by simp only [leadsAny, List.any_cons, List.any_nil, RV.leads, RC.leads, leadsT, hasSl_lit, Bool.or_false, flat_ns (eInt_ns _), flat_ns eBool_ns, flat_ns eStr_ns, flat_ns eGJob_ns, flat_ns eGEdge_ns, flat_ns eGAsked_ns, flat_ns eGMsg_ns, flat_ns eGrule_ns, flat_ns eGA199_ns, flat_ns eGA202_ns])), z⟩
      refine cond_some hF (fun h307 hF => ?_) (fun h307 hF => ?_)
      ·
        have hr := Option.some.inj hF
        subst hr
        have pz : HoldAll E H hn46 [.test r305 true] := ⟨h307, trivial⟩
        exact loop_endC (h := hn46) (l := 0) (c := c46_0) (ts := F46_l0_0_S a286 v300) (ts' := F46_l0_0_X0 a286 ()) (ex := .ret) (pq310 pz) (by kernel_rfl) trivial
      have pz : HoldAll E H hn46 [.test r305 false, .int (wadd .i64 v300 1) (wadd .i64 v300 1)] := ⟨h307, rfl, trivial⟩
      have h0 := ih _ _ hF
      have hn := fun ex ts' => loop_nextC (h := hn46) (l := 0) (c := c46_0) (ts := F46_l0_0_S a286 v300) (ts1 := (F46_l0_0_S a286 (wadd .i64 v300 1))) (ex := ex) (ts' := ts') (pq310 pz) (by kernel_rfl)
      cases r with
      | inl w => exact hn _ _ h0
      | inr w => exact hn _ _ h0
    have hr := Option.some.inj hF
    subst hr
    have pz : HoldAll E H hn46 [.int (nlen (len a286.Came)) (nlen (len a286.Came)), .test (ilt v300 (nlen (len a286.Came))) false] := ⟨rfl, h301, trivial⟩
    exact loop_endC (h := hn46) (l := 0) (c := c46_0) (ts := F46_l0_0_S a286 v300) (ts' := F46_l0_0_X1 a286 ()) (ex := (.exit 0)) pz (by kernel_rfl) trivial

def F46 (K : Nat) (a286 : GBarrier) : Option (Bool) :=
  bif (ilt 30 (nlen (len a286.Came))) then
    (some true)
  else
  (F46_l0_0 K a286 K 0).bind fun y312 =>
  Sum.elim (fun w313 =>
    some true)
    (fun w314 =>
    some false) y312
theorem F46_ok (K : Nat) (a286 : GBarrier) (r : Bool) (hF : F46 K a286 = some r) : Evt E H 46 [.agg (eGBarrier a286)] (F46_res r) := by
  rw [F46] at hF
  refine cond_some hF (fun h287 hF => ?_) (fun h287 hF => ?_)
  ·
    have hr := Option.some.inj hF
    subst hr
    have pz : HoldAll E H hn46 [.int (nlen (len a286.Came)) (nlen (len a286.Came)), .test (igt (nlen (len a286.Came)) 30) true] := ⟨rfl, (igt_eq h287), trivial⟩
    exact fn_playC hn46 (f := 46) (ads := [.agg (eGBarrier a286)]) (r := F46_res true) pz (by kernel_rfl) (by kernel_rfl)
  refine bind_some hF (fun y312 h311 hF => ?_)
  refine sum_some hF (fun w313 hx hF => ?_) (fun w314 hx hF => ?_)
  ·
    subst hx
    have hr := Option.some.inj hF
    subst hr
    have pz : HoldAll E H hn46 [.int (nlen (len a286.Came)) (nlen (len a286.Came)), .test (igt (nlen (len a286.Came)) 30) false, .loop 0 c46_0 (F46_l0_0_S a286 0) .ret (F46_l0_0_X0 a286 w313)] := ⟨rfl, (igt_eq h287), (F46_l0_0_ok K a286 K 0 _ h311), trivial⟩
    exact fn_playC hn46 (f := 46) (ads := [.agg (eGBarrier a286)]) (r := F46_res true) pz (by kernel_rfl) (by kernel_rfl)
  subst hx
  have hr := Option.some.inj hF
  subst hr
  have pz : HoldAll E H hn46 [.int (nlen (len a286.Came)) (nlen (len a286.Came)), .test (igt (nlen (len a286.Came)) 30) false, .loop 0 c46_0 (F46_l0_0_S a286 0) (.exit 0) (F46_l0_0_X1 a286 w314)] := ⟨rfl, (igt_eq h287), (F46_l0_0_ok K a286 K 0 _ h311), trivial⟩
  exact fn_playC hn46 (f := 46) (ads := [.agg (eGBarrier a286)]) (r := F46_res false) pz (by kernel_rfl) (by kernel_rfl)

/-! ### haywain/barrier.Full -/
noncomputable def hn50 : Hint := { H 50 with nt := 13, prot := 0 }
def F50_res (r337 : Bool) : Res := ⟨[(.one (.im (.lit (.bool r337))))], []⟩
def F50 (K : Nat) (a333 : GBarrier) : Option (Bool) :=
  (F48 K a333).bind fun r334 =>
  bif r334 then
    (some (ieq (nlen (len a333.Came)) a333.Parts))
  else
  some false
theorem F50_ok (K : Nat) (a333 : GBarrier) (r : Bool) (hF : F50 K a333 = some r) : Evt E H 50 [.agg (eGBarrier a333)] (F50_res r) := by
  rw [F50] at hF
  refine bind_some hF (fun r334 h335 hF => ?_)
  refine cond_some hF (fun h336 hF => ?_) (fun h336 hF => ?_)
  ·
    have hr := Option.some.inj hF
    subst hr
    have pz : HoldAll E H hn50 [.call 48 [.agg (eGBarrier a333)] (F48_res r334), .test (leadsAny (Res.mk [(.one (.im (.lit (.bool r334))))] [])) false, .test (beqb r334 true) true, .test (beqb r334 true) true, .test (beqb r334 true) true, .int (nlen (len a333.Came)) (nlen (len a333.Came)), .test (beqb r334 true) true, .test (beqb r334 true) true, .test (beqb r334 true) true, .test r334 true] := ⟨(F48_ok K a333 _ h335), (leads_ok (by simp only [leadsAny, List.any_cons, List.any_nil, RV.leads, RC.leads, leadsT, hasSl_lit, Bool.or_false, flat_ns (eInt_ns _), flat_ns eBool_ns, flat_ns eStr_ns, flat_ns eGJob_ns, flat_ns eGEdge_ns, flat_ns eGAsked_ns, flat_ns eGMsg_ns, flat_ns eGrule_ns, flat_ns eGA199_ns, flat_ns eGA202_ns])), (beqb_t h336), (beqb_t h336), (beqb_t h336), rfl, (beqb_t h336), (beqb_t h336), (beqb_t h336), h336, trivial⟩
    exact fn_playC hn50 (f := 50) (ads := [.agg (eGBarrier a333)]) (r := F50_res (ieq (nlen (len a333.Came)) a333.Parts)) pz (by kernel_rfl) (by kernel_rfl)
  have hr := Option.some.inj hF
  subst hr
  have pz : HoldAll E H hn50 [.call 48 [.agg (eGBarrier a333)] (F48_res r334), .test (leadsAny (Res.mk [(.one (.im (.lit (.bool r334))))] [])) false, .test (beqb r334 true) false, .test (beqb r334 true) false, .test (beqb r334 true) false, .test (beqb r334 true) false, .test (beqb r334 true) false, .test (beqb r334 true) false, .test r334 false] := ⟨(F48_ok K a333 _ h335), (leads_ok (by simp only [leadsAny, List.any_cons, List.any_nil, RV.leads, RC.leads, leadsT, hasSl_lit, Bool.or_false, flat_ns (eInt_ns _), flat_ns eBool_ns, flat_ns eStr_ns, flat_ns eGJob_ns, flat_ns eGEdge_ns, flat_ns eGAsked_ns, flat_ns eGMsg_ns, flat_ns eGrule_ns, flat_ns eGA199_ns, flat_ns eGA202_ns])), (beqb_t h336), (beqb_t h336), (beqb_t h336), (beqb_t h336), (beqb_t h336), (beqb_t h336), h336, trivial⟩
  exact fn_playC hn50 (f := 50) (ads := [.agg (eGBarrier a333)]) (r := F50_res false) pz (by kernel_rfl) (by kernel_rfl)

/-! ### haywain/haywainref19.Full -/
noncomputable def hn51 : Hint := { H 51 with nt := 13, prot := 0 }
def F51_res (r344 : Bool) : Res := ⟨[(.one (.im (.lit (.bool r344))))], []⟩
def F51 (K : Nat) (a340 : GBarrier) : Option (Bool) :=
  (F49 K a340).bind fun r341 =>
  bif r341 then
    (some (ieq (nlen (len a340.Came)) a340.Parts))
  else
  some false
theorem F51_ok (K : Nat) (a340 : GBarrier) (r : Bool) (hF : F51 K a340 = some r) : Evt E H 51 [.agg (eGBarrier a340)] (F51_res r) := by
  rw [F51] at hF
  refine bind_some hF (fun r341 h342 hF => ?_)
  refine cond_some hF (fun h343 hF => ?_) (fun h343 hF => ?_)
  ·
    have hr := Option.some.inj hF
    subst hr
    have pz : HoldAll E H hn51 [.call 49 [.agg (eGBarrier a340)] (F49_res r341), .test (leadsAny (Res.mk [(.one (.im (.lit (.bool r341))))] [])) false, .test (beqb r341 true) true, .test (beqb r341 true) true, .test (beqb r341 true) true, .int (nlen (len a340.Came)) (nlen (len a340.Came)), .test (beqb r341 true) true, .test (beqb r341 true) true, .test (beqb r341 true) true, .test r341 true] := ⟨(F49_ok K a340 _ h342), (leads_ok (by simp only [leadsAny, List.any_cons, List.any_nil, RV.leads, RC.leads, leadsT, hasSl_lit, Bool.or_false, flat_ns (eInt_ns _), flat_ns eBool_ns, flat_ns eStr_ns, flat_ns eGJob_ns, flat_ns eGEdge_ns, flat_ns eGAsked_ns, flat_ns eGMsg_ns, flat_ns eGrule_ns, flat_ns eGA199_ns, flat_ns eGA202_ns])), (beqb_t h343), (beqb_t h343), (beqb_t h343), rfl, (beqb_t h343), (beqb_t h343), (beqb_t h343), h343, trivial⟩
    exact fn_playC hn51 (f := 51) (ads := [.agg (eGBarrier a340)]) (r := F51_res (ieq (nlen (len a340.Came)) a340.Parts)) pz (by kernel_rfl) (by kernel_rfl)
  have hr := Option.some.inj hF
  subst hr
  have pz : HoldAll E H hn51 [.call 49 [.agg (eGBarrier a340)] (F49_res r341), .test (leadsAny (Res.mk [(.one (.im (.lit (.bool r341))))] [])) false, .test (beqb r341 true) false, .test (beqb r341 true) false, .test (beqb r341 true) false, .test (beqb r341 true) false, .test (beqb r341 true) false, .test (beqb r341 true) false, .test r341 false] := ⟨(F49_ok K a340 _ h342), (leads_ok (by simp only [leadsAny, List.any_cons, List.any_nil, RV.leads, RC.leads, leadsT, hasSl_lit, Bool.or_false, flat_ns (eInt_ns _), flat_ns eBool_ns, flat_ns eStr_ns, flat_ns eGJob_ns, flat_ns eGEdge_ns, flat_ns eGAsked_ns, flat_ns eGMsg_ns, flat_ns eGrule_ns, flat_ns eGA199_ns, flat_ns eGA202_ns])), (beqb_t h343), (beqb_t h343), (beqb_t h343), (beqb_t h343), (beqb_t h343), (beqb_t h343), h343, trivial⟩
  exact fn_playC hn51 (f := 51) (ads := [.agg (eGBarrier a340)]) (r := F51_res false) pz (by kernel_rfl) (by kernel_rfl)

/-! ### haywain/barrier.own -/
noncomputable def hn129 : Hint := { H 129 with nt := 38, prot := 0 }
def F129_res (r365 : GPart) : Res := ⟨[(.agg [(.im (.lit (.int .i64 r365.P))), (.im (.lit (.int .i64 r365.Step))), (.own 2 (.sl (len r365.Vals) (flat (eInt .i64) r365.Vals))), (.own 4 (.sl (len r365.Rest) (flat eBool r365.Rest))), (.own 130 (.sl (len r365.In) (flat eGMsg r365.In)))])], []⟩
def F129 (K : Nat) (a361 : GPart) : Option (GPart) :=
  bif (mkok (nlen (len a361.Vals)) (nlen (len a361.Vals)) 8) then
  bif (mkok (nlen (len a361.Rest)) (nlen (len a361.Rest)) 1) then
  bif (mkok (nlen (len a361.In)) (nlen (len a361.In)) 16) then
  some (GPart.mk a361.P a361.Step (copyL a361.Vals (repL (α := Int) (nlen (len a361.Vals)) 0)) (copyL a361.Rest (repL (α := Bool) (nlen (len a361.Rest)) false)) (copyL a361.In (repL (α := GMsg) (nlen (len a361.In)) (GMsg.mk 0 0))))
  else none
  else none
  else none
theorem F129_ok (K : Nat) (a361 : GPart) (r : GPart) (hF : F129 K a361 = some r) : Evt E H 129 [.agg (eGPart a361)] (F129_res r) := by
  rw [F129] at hF
  refine cond_some hF (fun h362 hF => ?_) (fun _ hF => nomatch hF)
  refine cond_some hF (fun h363 hF => ?_) (fun _ hF => nomatch hF)
  refine cond_some hF (fun h364 hF => ?_) (fun _ hF => nomatch hF)
  have hr := Option.some.inj hF
  subst hr
  have pz : HoldAll E H hn129 [.int (nlen (len a361.Vals)) (nlen (len a361.Vals)), .test (mkok (nlen (len a361.Vals)) (nlen (len a361.Vals)) 8) true, .sl (nint (nlen (len a361.Vals))) (lrep (nlen (len a361.Vals)) [(.lit (.int .i64 0))]) (len (α := Int) (repL (α := Int) (nlen (len a361.Vals)) 0)) (flat (eInt .i64) (repL (α := Int) (nlen (len a361.Vals)) 0)), .int (nlen (len a361.Rest)) (nlen (len a361.Rest)), .test (mkok (nlen (len a361.Rest)) (nlen (len a361.Rest)) 1) true, .sl (nint (nlen (len a361.Rest))) (lrep (nlen (len a361.Rest)) [(.lit (.bool false))]) (len (α := Bool) (repL (α := Bool) (nlen (len a361.Rest)) false)) (flat eBool (repL (α := Bool) (nlen (len a361.Rest)) false)), .int (nlen (len a361.In)) (nlen (len a361.In)), .test (mkok (nlen (len a361.In)) (nlen (len a361.In)) 16) true, .sl (nint (nlen (len a361.In))) (lrep (nlen (len a361.In)) [(.lit (.int .i64 0)), (.lit (.int .i64 0))]) (len (α := GMsg) (repL (α := GMsg) (nlen (len a361.In)) (GMsg.mk 0 0))) (flat eGMsg (repL (α := GMsg) (nlen (len a361.In)) (GMsg.mk 0 0))), .test (leqm (flat (eInt .i64) a361.Vals) (len a361.Vals) 1) true, .sl (len (α := Int) (repL (α := Int) (nlen (len a361.Vals)) 0)) (lcopy (flat (eInt .i64) a361.Vals) (flat (eInt .i64) (repL (α := Int) (nlen (len a361.Vals)) 0)) (len a361.Vals) (len (α := Int) (repL (α := Int) (nlen (len a361.Vals)) 0)) 1) (len (α := Int) (copyL a361.Vals (repL (α := Int) (nlen (len a361.Vals)) 0))) (flat (eInt .i64) (copyL a361.Vals (repL (α := Int) (nlen (len a361.Vals)) 0))), .int (nmin (len a361.Vals) (len (α := Int) (repL (α := Int) (nlen (len a361.Vals)) 0))) (nmin (len a361.Vals) (len (α := Int) (repL (α := Int) (nlen (len a361.Vals)) 0))), .test (leqm (flat eBool a361.Rest) (len a361.Rest) 1) true, .sl (len (α := Bool) (repL (α := Bool) (nlen (len a361.Rest)) false)) (lcopy (flat eBool a361.Rest) (flat eBool (repL (α := Bool) (nlen (len a361.Rest)) false)) (len a361.Rest) (len (α := Bool) (repL (α := Bool) (nlen (len a361.Rest)) false)) 1) (len (α := Bool) (copyL a361.Rest (repL (α := Bool) (nlen (len a361.Rest)) false))) (flat eBool (copyL a361.Rest (repL (α := Bool) (nlen (len a361.Rest)) false))), .int (nmin (len a361.Rest) (len (α := Bool) (repL (α := Bool) (nlen (len a361.Rest)) false))) (nmin (len a361.Rest) (len (α := Bool) (repL (α := Bool) (nlen (len a361.Rest)) false))), .test (leqm (flat eGMsg a361.In) (len a361.In) 2) true, .sl (len (α := GMsg) (repL (α := GMsg) (nlen (len a361.In)) (GMsg.mk 0 0))) (lcopy (flat eGMsg a361.In) (flat eGMsg (repL (α := GMsg) (nlen (len a361.In)) (GMsg.mk 0 0))) (len a361.In) (len (α := GMsg) (repL (α := GMsg) (nlen (len a361.In)) (GMsg.mk 0 0))) 2) (len (α := GMsg) (copyL a361.In (repL (α := GMsg) (nlen (len a361.In)) (GMsg.mk 0 0)))) (flat eGMsg (copyL a361.In (repL (α := GMsg) (nlen (len a361.In)) (GMsg.mk 0 0)))), .int (nmin (len a361.In) (len (α := GMsg) (repL (α := GMsg) (nlen (len a361.In)) (GMsg.mk 0 0)))) (nmin (len a361.In) (len (α := GMsg) (repL (α := GMsg) (nlen (len a361.In)) (GMsg.mk 0 0))))] := ⟨rfl, h362, (rep_okC (enc := (eInt .i64)) (n := (nlen (len a361.Vals))) (x := 0) rfl), rfl, h363, (rep_okC (enc := eBool) (n := (nlen (len a361.Rest))) (x := false) rfl), rfl, h364, (rep_okC (enc := eGMsg) (n := (nlen (len a361.In))) (x := (GMsg.mk 0 0)) rfl), (leqm_flat (eInt_len _) _), (copy_ok (enc := (eInt .i64)) (eInt_len _) a361.Vals (repL (α := Int) (nlen (len a361.Vals)) 0)), rfl, (leqm_flat eBool_len _), (copy_ok (enc := eBool) eBool_len a361.Rest (repL (α := Bool) (nlen (len a361.Rest)) false)), rfl, (leqm_flat eGMsg_len _), (copy_ok (enc := eGMsg) eGMsg_len a361.In (repL (α := GMsg) (nlen (len a361.In)) (GMsg.mk 0 0))), rfl, trivial⟩
  exact fn_playC hn129 (f := 129) (ads := [.agg (eGPart a361)]) (r := F129_res (GPart.mk a361.P a361.Step (copyL a361.Vals (repL (α := Int) (nlen (len a361.Vals)) 0)) (copyL a361.Rest (repL (α := Bool) (nlen (len a361.Rest)) false)) (copyL a361.In (repL (α := GMsg) (nlen (len a361.In)) (GMsg.mk 0 0))))) pz (by kernel_rfl) (by kernel_rfl)

/-! ### haywain/barrier.copied -/
noncomputable def hn127 : Hint := { H 127 with nt := 27, prot := 0 }
noncomputable def c127_0 : Code := loopOf E 127 0
def F127_res (r388 : GBarrier) : Res := ⟨[(.agg [(.im (.lit (.int .i64 r388.Epoch))), (.im (.lit (.int .i64 r388.Step))), (.im (.lit (.int .i64 r388.Parts))), (.own 42 (.sl (len r388.Came) (flat eGPart r388.Came))), (.im (.lit (.bool r388.Over)))])], []⟩
def F127_l0_0 (K : Nat) (a355 : GBarrier) : Nat → List GPart → Int → Option (List GPart)
  | 0, _, _ => none
  | k + 1, v371, v372 =>
    bif (ilt v372 (nlen (len (α := GPart) (repL (α := GPart) (nlen (len a355.Came)) (GPart.mk 0 0 [] [] []))))) then
      (bif (inr v372 (len a355.Came)) then
      (elAt a355.Came v372).bind fun x375 =>
      (F129 K x375).bind fun r377 =>
      bif (inr v372 (len v371)) then
      (elAt v371 v372).bind fun x380 =>
      F127_l0_0 K a355 k (putAt v371 v372 r377) (wadd .i64 v372 1)
      else none
      else none)
    else
    some v371
def F127_l0_0_S (a355 : GBarrier) (v371 : List GPart) (v372 : Int) : TS := .on [64, 65, 66, 67, 68, 69, 128, 129, 130, 131, 132, 133, 192, 193, 640, 641, 704, 705] [(64, ⟨(.box 24 5), 0, nob⟩), (65, ⟨.im, 0, (.lit (.int .i64 a355.Epoch))⟩), (66, ⟨.im, 0, (.lit (.int .i64 a355.Step))⟩), (67, ⟨.im, 0, (.lit (.int .i64 a355.Parts))⟩), (68, ⟨.im, 0, (.sl (len a355.Came) (flat eGPart a355.Came))⟩), (69, ⟨.im, 0, (.lit (.bool a355.Over))⟩), (128, ⟨(.box 24 5), 0, nob⟩), (129, ⟨.im, 0, (.lit (.int .i64 0))⟩), (130, ⟨.im, 0, (.lit (.int .i64 0))⟩), (131, ⟨.im, 0, (.lit (.int .i64 0))⟩), (132, ⟨(.own 42), 0, (.sl 0 [])⟩), (133, ⟨.im, 0, (.lit (.bool false))⟩), (192, ⟨.one, 0, nob⟩), (193, ⟨(.own 42), 0, (.sl (len v371) (flat eGPart v371))⟩), (640, ⟨.one, 0, nob⟩), (641, ⟨.im, 0, (.lit (.int .i64 (nlen (len (α := GPart) (repL (α := GPart) (nlen (len a355.Came)) (GPart.mk 0 0 [] [] []))))))⟩), (704, ⟨.one, 0, nob⟩), (705, ⟨.im, 0, (.lit (.int .i64 v372))⟩)]
def F127_l0_0_X0 (a355 : GBarrier) (w382 : List GPart) : TS := .on [64, 65, 66, 67, 68, 69, 128, 129, 130, 131, 132, 133, 192, 193] [(64, ⟨(.box 24 5), 0, nob⟩), (65, ⟨.im, 0, (.lit (.int .i64 a355.Epoch))⟩), (66, ⟨.im, 0, (.lit (.int .i64 a355.Step))⟩), (67, ⟨.im, 0, (.lit (.int .i64 a355.Parts))⟩), (68, ⟨.im, 0, (.sl (len a355.Came) (flat eGPart a355.Came))⟩), (69, ⟨.im, 0, (.lit (.bool a355.Over))⟩), (128, ⟨(.box 24 5), 0, nob⟩), (129, ⟨.im, 0, (.lit (.int .i64 0))⟩), (130, ⟨.im, 0, (.lit (.int .i64 0))⟩), (131, ⟨.im, 0, (.lit (.int .i64 0))⟩), (132, ⟨(.own 42), 0, (.sl 0 [])⟩), (133, ⟨.im, 0, (.lit (.bool false))⟩), (192, ⟨.one, 0, nob⟩), (193, ⟨(.own 42), 0, (.sl (len w382) (flat eGPart w382))⟩)]
theorem F127_l0_0_ok (K : Nat) (a355 : GBarrier) : ∀ (k : Nat) (v371 : List GPart) (v372 : Int) (r : List GPart), F127_l0_0 K a355 k v371 v372 = some r → LoopEv E H hn127 0 c127_0 (F127_l0_0_S a355 v371 v372) (.exit 0) (F127_l0_0_X0 a355 r) := by
  intro k
  induction k with
  | zero => intro v371 v372 r hF; cases hF
  | succ k ih =>
    intro v371 v372 r hF
    rw [F127_l0_0] at hF
    refine cond_some hF (fun h373 hF => ?_) (fun h373 hF => ?_)
    ·
      refine cond_some hF (fun h374 hF => ?_) (fun _ hF => nomatch hF)
      refine bind_some hF (fun x375 h376 hF => ?_)
      refine bind_some hF (fun r377 h378 hF => ?_)
      refine cond_some hF (fun h379 hF => ?_) (fun _ hF => nomatch hF)
      refine bind_some hF (fun x380 h381 hF => ?_)
      have pz : HoldAll E H hn127 [.test (ilt v372 (nlen (len (α := GPart) (repL (α := GPart) (nlen (len a355.Came)) (GPart.mk 0 0 [] [] []))))) true, .test (inr v372 (len a355.Came)) true, .sub (flat eGPart a355.Came) (nidx v372 5) 5 [(.lit (.int .i64 x375.P)), (.lit (.int .i64 x375.Step)), (.sl (len x375.Vals) (flat (eInt .i64) x375.Vals)), (.sl (len x375.Rest) (flat eBool x375.Rest)), (.sl (len x375.In) (flat eGMsg x375.In))], .call 129 [.agg (eGPart x375)] (F129_res r377), .test (leadsAny (Res.mk [(.agg [(.im (.lit (.int .i64 r377.P))), (.im (.lit (.int .i64 r377.Step))), (.own 2 (.sl (len r377.Vals) (flat (eInt .i64) r377.Vals))), (.own 4 (.sl (len r377.Rest) (flat eBool r377.Rest))), (.own 130 (.sl (len r377.In) (flat eGMsg r377.In)))])] [])) false, .test (inr v372 (len v371)) true, .test (lfits (nidx v372 5) 5 (flat eGPart v371)) true, .sl (len v371) (lset (flat eGPart v371) (nidx v372 5) [(.lit (.int .i64 r377.P)), (.lit (.int .i64 r377.Step)), (.sl (len r377.Vals) (flat (eInt .i64) r377.Vals)), (.sl (len r377.Rest) (flat eBool r377.Rest)), (.sl (len r377.In) (flat eGMsg r377.In))]) (len (α := GPart) (putAt v371 v372 r377)) (flat eGPart (putAt v371 v372 r377)), .int (wadd .i64 v372 1) (wadd .i64 v372 1)] := ⟨h373, h374, ⟨rfl, sub_flat0 eGPart_len h376 5 (by decide)⟩, (F129_ok K x375 _ h378), (leads_ok (by simp only [leadsAny, List.any_cons, List.any_nil, RV.leads, RC.leads, leadsT, hasSl_lit, Bool.or_false, flat_ns (eInt_ns _), flat_ns eBool_ns, flat_ns eStr_ns, flat_ns eGJob_ns, flat_ns eGEdge_ns, flat_ns eGAsked_ns, flat_ns eGMsg_ns, flat_ns eGrule_ns, flat_ns eGA199_ns, flat_ns eGA202_ns])), h379, (lfits_flat0 eGPart_len h381 _ (by decide)), (set_ok0 eGPart_len h381 _ (by simp) rfl), rfl, trivial⟩
      have h0 := ih _ _ _ hF
      have hn := fun ex ts' => loop_nextC (h := hn127) (l := 0) (c := c127_0) (ts := F127_l0_0_S a355 v371 v372) (ts1 := (F127_l0_0_S a355 (putAt v371 v372 r377) (wadd .i64 v372 1))) (ex := ex) (ts' := ts') pz (by kernel_rfl)
      exact hn _ _ h0
    have hr := Option.some.inj hF
    subst hr
    have pz : HoldAll E H hn127 [.test (ilt v372 (nlen (len (α := GPart) (repL (α := GPart) (nlen (len a355.Came)) (GPart.mk 0 0 [] [] []))))) false] := ⟨h373, trivial⟩
    exact loop_endC (h := hn127) (l := 0) (c := c127_0) (ts := F127_l0_0_S a355 v371 v372) (ts' := F127_l0_0_X0 a355 v371) (ex := (.exit 0)) pz (by kernel_rfl) trivial

def F127 (K : Nat) (a355 : GBarrier) : Option (GBarrier) :=
  bif (mkok (nlen (len a355.Came)) (nlen (len a355.Came)) 88) then
  (F127_l0_0 K a355 K (repL (α := GPart) (nlen (len a355.Came)) (GPart.mk 0 0 [] [] [])) 0).bind fun w386 =>
  some (GBarrier.mk a355.Epoch a355.Step a355.Parts w386 a355.Over)
  else none
theorem F127_ok (K : Nat) (a355 : GBarrier) (r : GBarrier) (hF : F127 K a355 = some r) : Evt E H 127 [.agg (eGBarrier a355)] (F127_res r) := by
  rw [F127] at hF
  refine cond_some hF (fun h356 hF => ?_) (fun _ hF => nomatch hF)
  refine bind_some hF (fun w386 h384 hF => ?_)
  have hr := Option.some.inj hF
  subst hr
  have pz : HoldAll E H hn127 [.int (nlen (len a355.Came)) (nlen (len a355.Came)), .test (mkok (nlen (len a355.Came)) (nlen (len a355.Came)) 88) true, .sl (nint (nlen (len a355.Came))) (lrep (nlen (len a355.Came)) [(.lit (.int .i64 0)), (.lit (.int .i64 0)), (.sl 0 []), (.sl 0 []), (.sl 0 [])]) (len (α := GPart) (repL (α := GPart) (nlen (len a355.Came)) (GPart.mk 0 0 [] [] []))) (flat eGPart (repL (α := GPart) (nlen (len a355.Came)) (GPart.mk 0 0 [] [] []))), .int (nlen (len (α := GPart) (repL (α := GPart) (nlen (len a355.Came)) (GPart.mk 0 0 [] [] [])))) (nlen (len (α := GPart) (repL (α := GPart) (nlen (len a355.Came)) (GPart.mk 0 0 [] [] [])))), .loop 0 c127_0 (F127_l0_0_S a355 (repL (α := GPart) (nlen (len a355.Came)) (GPart.mk 0 0 [] [] [])) 0) (.exit 0) (F127_l0_0_X0 a355 w386)] := ⟨rfl, h356, (rep_okC (enc := eGPart) (n := (nlen (len a355.Came))) (x := (GPart.mk 0 0 [] [] [])) rfl), rfl, (F127_l0_0_ok K a355 K (repL (α := GPart) (nlen (len a355.Came)) (GPart.mk 0 0 [] [] [])) 0 _ h384), trivial⟩
  exact fn_playC hn127 (f := 127) (ads := [.agg (eGBarrier a355)]) (r := F127_res (GBarrier.mk a355.Epoch a355.Step a355.Parts w386 a355.Over)) pz (by kernel_rfl) (by kernel_rfl)

/-! ### haywain/barrier.find -/
noncomputable def hn128 : Hint := { H 128 with nt := 21, prot := 0 }
noncomputable def c128_0 : Code := loopOf E 128 0
def F128_res (r425 : GPart × Bool) : Res := ⟨[(.agg [(.im (.lit (.int .i64 r425.1.P))), (.im (.lit (.int .i64 r425.1.Step))), (.im (.sl (len r425.1.Vals) (flat (eInt .i64) r425.1.Vals))), (.im (.sl (len r425.1.Rest) (flat eBool r425.1.Rest))), (.im (.sl (len r425.1.In) (flat eGMsg r425.1.In)))]), (.one (.im (.lit (.bool r425.2))))], []⟩
def F128_l0_0 (K : Nat) (a395 : List GPart) (a396 : Int) : Nat → Int → Option (((Int × Int × List Int × List Bool × List GMsg)) ⊕ (Unit))
  | 0, _ => none
  | k + 1, v402 =>
    bif (ilt v402 (nlen (len a395))) then
      (bif (inr v402 (len a395)) then
      (elAt a395 v402).bind fun x405 =>
      bif (ieq x405.P a396) then
        (some (.inl (x405.P, (x405.Step, (x405.Vals, (x405.Rest, x405.In))))))
      else
      F128_l0_0 K a395 a396 k (wadd .i64 v402 1)
      else none)
    else
    some (.inr ())
def F128_l0_0_S (a395 : List GPart) (a396 : Int) (v402 : Int) : TS := .on [0, 1, 64, 65, 256, 257, 258, 259, 260, 261, 512, 513, 576, 577, 640, 641] [(0, ⟨.one, 0, nob⟩), (1, ⟨.im, 0, (.sl (len a395) (flat eGPart a395))⟩), (64, ⟨.one, 0, nob⟩), (65, ⟨.im, 0, (.lit (.int .i64 a396))⟩), (256, ⟨(.box 42 5), 0, nob⟩), (257, ⟨.im, 0, (.lit (.int .i64 0))⟩), (258, ⟨.im, 0, (.lit (.int .i64 0))⟩), (259, ⟨(.own 2), 0, (.sl 0 [])⟩), (260, ⟨(.own 4), 0, (.sl 0 [])⟩), (261, ⟨(.own 130), 0, (.sl 0 [])⟩), (512, ⟨.one, 0, nob⟩), (513, ⟨.im, 0, (.sl (len a395) (flat eGPart a395))⟩), (576, ⟨.one, 0, nob⟩), (577, ⟨.im, 0, (.lit (.int .i64 (nlen (len a395))))⟩), (640, ⟨.one, 0, nob⟩), (641, ⟨.im, 0, (.lit (.int .i64 v402))⟩)]
def F128_l0_0_X0 (a395 : List GPart) (a396 : Int) (w408 : Int × Int × List Int × List Bool × List GMsg) : TS := .on [256, 257, 258, 259, 260, 261, 320, 321] [(256, ⟨(.box 42 5), 0, nob⟩), (257, ⟨.im, 0, (.lit (.int .i64 w408.1))⟩), (258, ⟨.im, 0, (.lit (.int .i64 w408.2.1))⟩), (259, ⟨.im, 0, (.sl (len w408.2.2.1) (flat (eInt .i64) w408.2.2.1))⟩), (260, ⟨.im, 0, (.sl (len w408.2.2.2.1) (flat eBool w408.2.2.2.1))⟩), (261, ⟨.im, 0, (.sl (len w408.2.2.2.2) (flat eGMsg w408.2.2.2.2))⟩), (320, ⟨.one, 0, nob⟩), (321, ⟨.im, 0, (.lit (.bool true))⟩)]
def F128_l0_0_X1 (a395 : List GPart) (a396 : Int) (w414 : Unit) : TS := .on [256, 257, 258, 259, 260, 261] [(256, ⟨(.box 42 5), 0, nob⟩), (257, ⟨.im, 0, (.lit (.int .i64 0))⟩), (258, ⟨.im, 0, (.lit (.int .i64 0))⟩), (259, ⟨(.own 2), 0, (.sl 0 [])⟩), (260, ⟨(.own 4), 0, (.sl 0 [])⟩), (261, ⟨(.own 130), 0, (.sl 0 [])⟩)]
theorem F128_l0_0_ok (K : Nat) (a395 : List GPart) (a396 : Int) : ∀ (k : Nat) (v402 : Int) (r : ((Int × Int × List Int × List Bool × List GMsg)) ⊕ (Unit)), F128_l0_0 K a395 a396 k v402 = some r → (Sum.elim (fun w => LoopEv E H hn128 0 c128_0 (F128_l0_0_S a395 a396 v402) .ret (F128_l0_0_X0 a395 a396 w)) (fun w => LoopEv E H hn128 0 c128_0 (F128_l0_0_S a395 a396 v402) (.exit 0) (F128_l0_0_X1 a395 a396 w))) r := by
  intro k
  induction k with
  | zero => intro v402 r hF; cases hF
  | succ k ih =>
    intro v402 r hF
    rw [F128_l0_0] at hF
    refine cond_some hF (fun h403 hF => ?_) (fun h403 hF => ?_)
    ·
      refine cond_some hF (fun h404 hF => ?_) (fun _ hF => nomatch hF)
      refine bind_some hF (fun x405 h406 hF => ?_)
      have pq415 : ∀ {l : List Cond}, HoldAll E H hn128 l → HoldAll E H hn128 (.test (ilt v402 (nlen (len a395))) true :: .test (inr v402 (len a395)) true :: .sub (flat eGPart a395) (nidx v402 5) 5 [(.lit (.int .i64 x405.P)), (.lit (.int .i64 x405.Step)), (.sl (len x405.Vals) (flat (eInt .i64) x405.Vals)), (.sl (len x405.Rest) (flat eBool x405.Rest)), (.sl (len x405.In) (flat eGMsg x405.In))] :: l) := fun z => ⟨h403, h404, ⟨rfl, sub_flat0 eGPart_len h406 5 (by decide)⟩, z⟩
      refine cond_some hF (fun h407 hF => ?_) (fun h407 hF => ?_)
      ·
        have hr := Option.some.inj hF
        subst hr
        have pz : HoldAll E H hn128 [.test (ieq x405.P a396) true] := ⟨h407, trivial⟩
        exact loop_endC (h := hn128) (l := 0) (c := c128_0) (ts := F128_l0_0_S a395 a396 v402) (ts' := F128_l0_0_X0 a395 a396 (x405.P, (x405.Step, (x405.Vals, (x405.Rest, x405.In))))) (ex := .ret) (pq415 pz) (by kernel_rfl) trivial
      have pz : HoldAll E H hn128 [.test (ieq x405.P a396) false, .int (wadd .i64 v402 1) (wadd .i64 v402 1)] := ⟨h407, rfl, trivial⟩
      have h0 := ih _ _ hF
      have hn := fun ex ts' => loop_nextC (h := hn128) (l := 0) (c := c128_0) (ts := F128_l0_0_S a395 a396 v402) (ts1 := (F128_l0_0_S a395 a396 (wadd .i64 v402 1))) (ex := ex) (ts' := ts') (pq415 pz) (by kernel_rfl)
      cases r with
      | inl w => exact hn _ _ h0
      | inr w => exact hn _ _ h0
    have hr := Option.some.inj hF
    subst hr
    have pz : HoldAll E H hn128 [.test (ilt v402 (nlen (len a395))) false] := ⟨h403, trivial⟩
    exact loop_endC (h := hn128) (l := 0) (c := c128_0) (ts := F128_l0_0_S a395 a396 v402) (ts' := F128_l0_0_X1 a395 a396 ()) (ex := (.exit 0)) pz (by kernel_rfl) trivial

def F128 (K : Nat) (a395 : List GPart) (a396 : Int) : Option (GPart × Bool) :=
  (F128_l0_0 K a395 a396 K 0).bind fun y417 =>
  Sum.elim (fun w418 =>
    some ((GPart.mk w418.1 w418.2.1 w418.2.2.1 w418.2.2.2.1 w418.2.2.2.2), true))
    (fun w424 =>
    some ((GPart.mk 0 0 [] [] []), false)) y417
theorem F128_ok (K : Nat) (a395 : List GPart) (a396 : Int) (r : GPart × Bool) (hF : F128 K a395 a396 = some r) : Evt E H 128 [.one (.sl (len a395) (flat eGPart a395)), .one (.lit (.int .i64 a396))] (F128_res r) := by
  rw [F128] at hF
  refine bind_some hF (fun y417 h416 hF => ?_)
  refine sum_some hF (fun w418 hx hF => ?_) (fun w424 hx hF => ?_)
  ·
    subst hx
    have hr := Option.some.inj hF
    subst hr
    have pz : HoldAll E H hn128 [.int (nlen (len a395)) (nlen (len a395)), .loop 0 c128_0 (F128_l0_0_S a395 a396 0) .ret (F128_l0_0_X0 a395 a396 w418)] := ⟨rfl, (F128_l0_0_ok K a395 a396 K 0 _ h416), trivial⟩
    exact fn_playC hn128 (f := 128) (ads := [.one (.sl (len a395) (flat eGPart a395)), .one (.lit (.int .i64 a396))]) (r := F128_res ((GPart.mk w418.1 w418.2.1 w418.2.2.1 w418.2.2.2.1 w418.2.2.2.2), true)) pz (by kernel_rfl) (by kernel_rfl)
  subst hx
  have hr := Option.some.inj hF
  subst hr
  have pz : HoldAll E H hn128 [.int (nlen (len a395)) (nlen (len a395)), .loop 0 c128_0 (F128_l0_0_S a395 a396 0) (.exit 0) (F128_l0_0_X1 a395 a396 w424)] := ⟨rfl, (F128_l0_0_ok K a395 a396 K 0 _ h416), trivial⟩
  exact fn_playC hn128 (f := 128) (ads := [.one (.sl (len a395) (flat eGPart a395)), .one (.lit (.int .i64 a396))]) (r := F128_res ((GPart.mk 0 0 [] [] []), false)) pz (by kernel_rfl) (by kernel_rfl)

/-! ### haywain/barrier.Put -/
noncomputable def hn52 : Hint := { H 52 with nt := 84, prot := 0 }
noncomputable def c52_0 : Code := loopOf E 52 0
def F52_res (r453 : GBarrier × Int) : Res := ⟨[(.agg [(.im (.lit (.int .i64 r453.1.Epoch))), (.im (.lit (.int .i64 r453.1.Step))), (.im (.lit (.int .i64 r453.1.Parts))), (.own 42 (.sl (len r453.1.Came) (flat eGPart r453.1.Came))), (.im (.lit (.bool r453.1.Over)))]), (.one (.im (.lit (.int .i64 r453.2))))], []⟩
def F52_l0_0 (K : Nat) (a349 : GBarrier) (r389 : GBarrier) (r429 : GPart) : Nat → List GPart → Int → Option (List GPart)
  | 0, _, _ => none
  | k + 1, v437, v438 =>
    bif (ilt v438 a349.Parts) then
      ((F128 K (appL r389.Came [r429]) v438).bind fun r440 =>
      bif r440.2 then
        (bif (apok (len v437) 1 88) then
        F52_l0_0 K a349 r389 r429 k (appL v437 [r440.1]) (wadd .i64 v438 1)
        else none)
      else
      F52_l0_0 K a349 r389 r429 k v437 (wadd .i64 v438 1))
    else
    some v437
def F52_l0_0_S (a349 : GBarrier) (r389 : GBarrier) (r429 : GPart) (v437 : List GPart) (v438 : Int) : TS := .on [384, 385, 386, 387, 388, 389, 512, 513, 514, 515, 516, 517, 704, 705, 768, 769, 4160, 4161, 4224, 4225] [(384, ⟨(.box 24 5), 0, nob⟩), (385, ⟨.im, 0, (.lit (.int .i64 0))⟩), (386, ⟨.im, 0, (.lit (.int .i64 0))⟩), (387, ⟨.im, 0, (.lit (.int .i64 0))⟩), (388, ⟨(.own 42), 0, (.sl 0 [])⟩), (389, ⟨.im, 0, (.lit (.bool false))⟩), (512, ⟨(.box 24 5), 0, nob⟩), (513, ⟨.im, 0, (.lit (.int .i64 r389.Epoch))⟩), (514, ⟨.im, 0, (.lit (.int .i64 r389.Step))⟩), (515, ⟨.im, 0, (.lit (.int .i64 r389.Parts))⟩), (516, ⟨.dead, 0, nob⟩), (517, ⟨.im, 0, (.lit (.bool r389.Over))⟩), (704, ⟨.one, 0, nob⟩), (705, ⟨.im, 0, (.sl (len (α := GPart) (appL r389.Came [r429])) (flat eGPart (appL r389.Came [r429])))⟩), (768, ⟨.one, 0, nob⟩), (769, ⟨(.own 42), 0, (.sl (len v437) (flat eGPart v437))⟩), (4160, ⟨.one, 0, nob⟩), (4161, ⟨.im, 0, (.lit (.int .i64 a349.Parts))⟩), (4224, ⟨.one, 0, nob⟩), (4225, ⟨.im, 0, (.lit (.int .i64 v438))⟩)]
def F52_l0_0_X0 (a349 : GBarrier) (r389 : GBarrier) (r429 : GPart) (w444 : List GPart) : TS := .on [384, 385, 386, 387, 388, 389, 512, 513, 514, 515, 516, 517, 768, 769] [(384, ⟨(.box 24 5), 0, nob⟩), (385, ⟨.im, 0, (.lit (.int .i64 0))⟩), (386, ⟨.im, 0, (.lit (.int .i64 0))⟩), (387, ⟨.im, 0, (.lit (.int .i64 0))⟩), (388, ⟨(.own 42), 0, (.sl 0 [])⟩), (389, ⟨.im, 0, (.lit (.bool false))⟩), (512, ⟨(.box 24 5), 0, nob⟩), (513, ⟨.im, 0, (.lit (.int .i64 r389.Epoch))⟩), (514, ⟨.im, 0, (.lit (.int .i64 r389.Step))⟩), (515, ⟨.im, 0, (.lit (.int .i64 r389.Parts))⟩), (516, ⟨.dead, 0, nob⟩), (517, ⟨.im, 0, (.lit (.bool r389.Over))⟩), (768, ⟨.one, 0, nob⟩), (769, ⟨(.own 42), 0, (.sl (len w444) (flat eGPart w444))⟩)]
theorem F52_l0_0_ok (K : Nat) (a349 : GBarrier) (r389 : GBarrier) (r429 : GPart) : ∀ (k : Nat) (v437 : List GPart) (v438 : Int) (r : List GPart), F52_l0_0 K a349 r389 r429 k v437 v438 = some r → LoopEv E H hn52 1 c52_0 (F52_l0_0_S a349 r389 r429 v437 v438) (.exit 1) (F52_l0_0_X0 a349 r389 r429 r) := by
  intro k
  induction k with
  | zero => intro v437 v438 r hF; cases hF
  | succ k ih =>
    intro v437 v438 r hF
    rw [F52_l0_0] at hF
    refine cond_some hF (fun h439 hF => ?_) (fun h439 hF => ?_)
    ·
      refine bind_some hF (fun r440 h441 hF => ?_)
      refine cond_some hF (fun h442 hF => ?_) (fun h442 hF => ?_)
      ·
        refine cond_some hF (fun h443 hF => ?_) (fun _ hF => nomatch hF)
        have pz : HoldAll E H hn52 [.test (ilt v438 a349.Parts) true, .call 128 [.one (.sl (len (α := GPart) (appL r389.Came [r429])) (flat eGPart (appL r389.Came [r429]))), .one (.lit (.int .i64 v438))] (F128_res r440), .test r440.2 true, .test (leqm [(.lit (.int .i64 r440.1.P)), (.lit (.int .i64 r440.1.Step)), (.sl (len r440.1.Vals) (flat (eInt .i64) r440.1.Vals)), (.sl (len r440.1.Rest) (flat eBool r440.1.Rest)), (.sl (len r440.1.In) (flat eGMsg r440.1.In))] 1 5) true, .test (apok (len v437) 1 88) true, .sl (nadd (len v437) 1) (lapp (flat eGPart v437) [(.lit (.int .i64 r440.1.P)), (.lit (.int .i64 r440.1.Step)), (.sl (len r440.1.Vals) (flat (eInt .i64) r440.1.Vals)), (.sl (len r440.1.Rest) (flat eBool r440.1.Rest)), (.sl (len r440.1.In) (flat eGMsg r440.1.In))]) (len (α := GPart) (appL v437 [r440.1])) (flat eGPart (appL v437 [r440.1])), .int (wadd .i64 v438 1) (wadd .i64 v438 1)] := ⟨h439, (F128_ok K (appL r389.Came [r429]) v438 _ h441), h442, rfl, h443, (app_ok (enc := eGPart) (v437 : List GPart) [r440.1]), rfl, trivial⟩
        have h0 := ih _ _ _ hF
        have hn := fun ex ts' => loop_nextC (h := hn52) (l := 1) (c := c52_0) (ts := F52_l0_0_S a349 r389 r429 v437 v438) (ts1 := (F52_l0_0_S a349 r389 r429 (appL v437 [r440.1]) (wadd .i64 v438 1))) (ex := ex) (ts' := ts') pz (by kernel_rfl)
        exact hn _ _ h0
      have pz : HoldAll E H hn52 [.test (ilt v438 a349.Parts) true, .call 128 [.one (.sl (len (α := GPart) (appL r389.Came [r429])) (flat eGPart (appL r389.Came [r429]))), .one (.lit (.int .i64 v438))] (F128_res r440), .test r440.2 false, .int (wadd .i64 v438 1) (wadd .i64 v438 1)] := ⟨h439, (F128_ok K (appL r389.Came [r429]) v438 _ h441), h442, rfl, trivial⟩
      have h0 := ih _ _ _ hF
      have hn := fun ex ts' => loop_nextC (h := hn52) (l := 1) (c := c52_0) (ts := F52_l0_0_S a349 r389 r429 v437 v438) (ts1 := (F52_l0_0_S a349 r389 r429 v437 (wadd .i64 v438 1))) (ex := ex) (ts' := ts') pz (by kernel_rfl)
      exact hn _ _ h0
    have hr := Option.some.inj hF
    subst hr
    have pz : HoldAll E H hn52 [.test (ilt v438 a349.Parts) false] := ⟨h439, trivial⟩
    exact loop_endC (h := hn52) (l := 1) (c := c52_0) (ts := F52_l0_0_S a349 r389 r429 v437 v438) (ts' := F52_l0_0_X0 a349 r389 r429 v437) (ex := (.exit 1)) pz (by kernel_rfl) trivial

def F52 (K : Nat) (a349 : GBarrier) (a350 : Int) (a351 : GPart) : Option (GBarrier × Int) :=
  (F48 K a349).bind fun r352 =>
  bif r352 then
    ((F127 K a349).bind fun r389 =>
    bif (ieq a350 a349.Epoch) then
      (bif (ieq a351.Step (wadd .i64 a349.Step 1)) then
        (bif (ilt a351.P 0) then
          (some (r389, 4))
        else
        bif (ile a349.Parts a351.P) then
          (some (r389, 4))
        else
        (F128 K a349.Came a351.P).bind fun r426 =>
        bif r426.2 then
          (some (r389, 5))
        else
        (F129 K a351).bind fun r429 =>
        bif (apok (len r389.Came) 1 88) then
        (F52_l0_0 K a349 r389 r429 K [] 0).bind fun w448 =>
        some ((GBarrier.mk r389.Epoch r389.Step r389.Parts w448 r389.Over), 0)
        else none)
      else
      some (r389, 9))
    else
    some (r389, 9))
  else
  some ((GBarrier.mk 0 0 0 [] false), 1)
theorem F52_ok (K : Nat) (a349 : GBarrier) (a350 : Int) (a351 : GPart) (r : GBarrier × Int) (hF : F52 K a349 a350 a351 = some r) : Evt E H 52 [.agg (eGBarrier a349), .one (.lit (.int .i64 a350)), .agg (eGPart a351)] (F52_res r) := by
  rw [F52] at hF
  refine bind_some hF (fun r352 h353 hF => ?_)
  refine cond_some hF (fun h354 hF => ?_) (fun h354 hF => ?_)
  ·
    refine bind_some hF (fun r389 h390 hF => ?_)
    have pq450 : ∀ {l : List Cond}, HoldAll E H hn52 l → HoldAll E H hn52 (.call 48 [.agg (eGBarrier a349)] (F48_res r352) :: .test (leadsAny (Res.mk [(.one (.im (.lit (.bool r352))))] [])) false :: .test (bnot r352) false :: .call 127 [.agg (eGBarrier a349)] (F127_res r389) :: l) := fun z => ⟨(F48_ok K a349 _ h353), (leads_ok (by simp only [leadsAny, List.any_cons, List.any_nil, RV.leads, RC.leads, leadsT, hasSl_lit, Bool.or_false, flat_ns (eInt_ns _), flat_ns eBool_ns, flat_ns eStr_ns, flat_ns eGJob_ns, flat_ns eGEdge_ns, flat_ns eGAsked_ns, flat_ns eGMsg_ns, flat_ns eGrule_ns, flat_ns eGA199_ns, flat_ns eGA202_ns])), (bnot_t h354), (F127_ok K a349 _ h390), z⟩
    refine cond_some hF (fun h391 hF => ?_) (fun h391 hF => ?_)
    ·
      have pq451 : ∀ {l : List Cond}, HoldAll E H hn52 l → HoldAll E H hn52 (.test (beqb (ine a350 a349.Epoch) false) true :: .test (beqb (ine a350 a349.Epoch) false) true :: .test (beqb (ine a350 a349.Epoch) false) true :: .test (beqb (ine a350 a349.Epoch) false) true :: .test (beqb (ine a350 a349.Epoch) false) true :: .int (wadd .i64 a349.Step 1) (wadd .i64 a349.Step 1) :: .test (beqb (ine a350 a349.Epoch) false) true :: .test (ine a350 a349.Epoch) false :: l) := fun z => ⟨(beqb_ff (ine_t h391)), (beqb_ff (ine_t h391)), (beqb_ff (ine_t h391)), (beqb_ff (ine_t h391)), (beqb_ff (ine_t h391)), rfl, (beqb_ff (ine_t h391)), (ine_t h391), z⟩
      refine cond_some hF (fun h392 hF => ?_) (fun h392 hF => ?_)
      ·
        refine cond_some hF (fun h393 hF => ?_) (fun h393 hF => ?_)
        ·
          have hr := Option.some.inj hF
          subst hr
          have pz : HoldAll E H hn52 [.test (ine a351.Step (wadd .i64 a349.Step 1)) false, .test (beqb (ilt a351.P 0) false) false, .test (beqb (ilt a351.P 0) false) false, .test (beqb (ilt a351.P 0) false) false, .test (beqb (ilt a351.P 0) false) false, .test (beqb (ilt a351.P 0) false) false, .test (ilt a351.P 0) true, .test true true] := ⟨(ine_t h392), (beqb_ft h393), (beqb_ft h393), (beqb_ft h393), (beqb_ft h393), (beqb_ft h393), h393, rfl, trivial⟩
          exact fn_playC hn52 (f := 52) (ads := [.agg (eGBarrier a349), .one (.lit (.int .i64 a350)), .agg (eGPart a351)]) (r := F52_res (r389, 4)) (pq450 (pq451 pz)) (by kernel_rfl) (by kernel_rfl)
        have pq452 : ∀ {l : List Cond}, HoldAll E H hn52 l → HoldAll E H hn52 (.test (ine a351.Step (wadd .i64 a349.Step 1)) false :: .test (beqb (ilt a351.P 0) false) true :: .test (beqb (ilt a351.P 0) false) true :: .test (beqb (ilt a351.P 0) false) true :: .test (beqb (ilt a351.P 0) false) true :: .test (beqb (ilt a351.P 0) false) true :: .test (ilt a351.P 0) false :: l) := fun z => ⟨(ine_t h392), (beqb_ff h393), (beqb_ff h393), (beqb_ff h393), (beqb_ff h393), (beqb_ff h393), h393, z⟩
        refine cond_some hF (fun h394 hF => ?_) (fun h394 hF => ?_)
        ·
          have hr := Option.some.inj hF
          subst hr
          have pz : HoldAll E H hn52 [.test (ige a351.P a349.Parts) true] := ⟨(ige_eq h394), trivial⟩
          exact fn_playC hn52 (f := 52) (ads := [.agg (eGBarrier a349), .one (.lit (.int .i64 a350)), .agg (eGPart a351)]) (r := F52_res (r389, 4)) (pq450 (pq451 (pq452 pz))) (by kernel_rfl) (by kernel_rfl)
        refine bind_some hF (fun r426 h427 hF => ?_)
        refine cond_some hF (fun h428 hF => ?_) (fun h428 hF => ?_)
        ·
          have hr := Option.some.inj hF
          subst hr
          have pz : HoldAll E H hn52 [.test (ige a351.P a349.Parts) false, .call 128 [.one (.sl (len a349.Came) (flat eGPart a349.Came)), .one (.lit (.int .i64 a351.P))] (F128_res r426), .test r426.2 true] := ⟨(ige_eq h394), (F128_ok K a349.Came a351.P _ h427), h428, trivial⟩
          exact fn_playC hn52 (f := 52) (ads := [.agg (eGBarrier a349), .one (.lit (.int .i64 a350)), .agg (eGPart a351)]) (r := F52_res (r389, 5)) (pq450 (pq451 (pq452 pz))) (by kernel_rfl) (by kernel_rfl)
        refine bind_some hF (fun r429 h430 hF => ?_)
        refine cond_some hF (fun h431 hF => ?_) (fun _ hF => nomatch hF)
        refine bind_some hF (fun w448 h446 hF => ?_)
        have hr := Option.some.inj hF
        subst hr
        have pz : HoldAll E H hn52 [.test (ige a351.P a349.Parts) false, .call 128 [.one (.sl (len a349.Came) (flat eGPart a349.Came)), .one (.lit (.int .i64 a351.P))] (F128_res r426), .test r426.2 false, .call 129 [.agg (eGPart a351)] (F129_res r429), .test (leadsAny (Res.mk [(.agg [(.im (.lit (.int .i64 r429.P))), (.im (.lit (.int .i64 r429.Step))), (.own 2 (.sl (len r429.Vals) (flat (eInt .i64) r429.Vals))), (.own 4 (.sl (len r429.Rest) (flat eBool r429.Rest))), (.own 130 (.sl (len r429.In) (flat eGMsg r429.In)))])] [])) false, .test (leqm [(.lit (.int .i64 r429.P)), (.lit (.int .i64 r429.Step)), (.sl (len r429.Vals) (flat (eInt .i64) r429.Vals)), (.sl (len r429.Rest) (flat eBool r429.Rest)), (.sl (len r429.In) (flat eGMsg r429.In))] 1 5) true, .test (apok (len r389.Came) 1 88) true, .sl (nadd (len r389.Came) 1) (lapp (flat eGPart r389.Came) [(.lit (.int .i64 r429.P)), (.lit (.int .i64 r429.Step)), (.sl (len r429.Vals) (flat (eInt .i64) r429.Vals)), (.sl (len r429.Rest) (flat eBool r429.Rest)), (.sl (len r429.In) (flat eGMsg r429.In))]) (len (α := GPart) (appL r389.Came [r429])) (flat eGPart (appL r389.Came [r429])), .loop 1 c52_0 (F52_l0_0_S a349 r389 r429 [] 0) (.exit 1) (F52_l0_0_X0 a349 r389 r429 w448)] := ⟨(ige_eq h394), (F128_ok K a349.Came a351.P _ h427), h428, (F129_ok K a351 _ h430), (leads_ok (by simp only [leadsAny, List.any_cons, List.any_nil, RV.leads, RC.leads, leadsT, hasSl_lit, Bool.or_false, flat_ns (eInt_ns _), flat_ns eBool_ns, flat_ns eStr_ns, flat_ns eGJob_ns, flat_ns eGEdge_ns, flat_ns eGAsked_ns, flat_ns eGMsg_ns, flat_ns eGrule_ns, flat_ns eGA199_ns, flat_ns eGA202_ns])), rfl, h431, (app_ok (enc := eGPart) (r389.Came : List GPart) [r429]), (F52_l0_0_ok K a349 r389 r429 K [] 0 _ h446), trivial⟩
        exact fn_playC hn52 (f := 52) (ads := [.agg (eGBarrier a349), .one (.lit (.int .i64 a350)), .agg (eGPart a351)]) (r := F52_res ((GBarrier.mk r389.Epoch r389.Step r389.Parts w448 r389.Over), 0)) (pq450 (pq451 (pq452 pz))) (by kernel_rfl) (by kernel_rfl)
      have hr := Option.some.inj hF
      subst hr
      have pz : HoldAll E H hn52 [.test (ine a351.Step (wadd .i64 a349.Step 1)) true] := ⟨(ine_f h392), trivial⟩
      exact fn_playC hn52 (f := 52) (ads := [.agg (eGBarrier a349), .one (.lit (.int .i64 a350)), .agg (eGPart a351)]) (r := F52_res (r389, 9)) (pq450 (pq451 pz)) (by kernel_rfl) (by kernel_rfl)
    have hr := Option.some.inj hF
    subst hr
    have pz : HoldAll E H hn52 [.test (beqb (ine a350 a349.Epoch) false) false, .test (beqb (ine a350 a349.Epoch) false) false, .test (beqb (ine a350 a349.Epoch) false) false, .test (beqb (ine a350 a349.Epoch) false) false, .test (beqb (ine a350 a349.Epoch) false) false, .test (beqb (ine a350 a349.Epoch) false) false, .test (ine a350 a349.Epoch) true, .test true true] := ⟨(beqb_ft (ine_f h391)), (beqb_ft (ine_f h391)), (beqb_ft (ine_f h391)), (beqb_ft (ine_f h391)), (beqb_ft (ine_f h391)), (beqb_ft (ine_f h391)), (ine_f h391), rfl, trivial⟩
    exact fn_playC hn52 (f := 52) (ads := [.agg (eGBarrier a349), .one (.lit (.int .i64 a350)), .agg (eGPart a351)]) (r := F52_res (r389, 9)) (pq450 pz) (by kernel_rfl) (by kernel_rfl)
  have hr := Option.some.inj hF
  subst hr
  have pz : HoldAll E H hn52 [.call 48 [.agg (eGBarrier a349)] (F48_res r352), .test (leadsAny (Res.mk [(.one (.im (.lit (.bool r352))))] [])) false, .test (bnot r352) true] := ⟨(F48_ok K a349 _ h353), (leads_ok (by simp only [leadsAny, List.any_cons, List.any_nil, RV.leads, RC.leads, leadsT, hasSl_lit, Bool.or_false, flat_ns (eInt_ns _), flat_ns eBool_ns, flat_ns eStr_ns, flat_ns eGJob_ns, flat_ns eGEdge_ns, flat_ns eGAsked_ns, flat_ns eGMsg_ns, flat_ns eGrule_ns, flat_ns eGA199_ns, flat_ns eGA202_ns])), (bnot_f h354), trivial⟩
  exact fn_playC hn52 (f := 52) (ads := [.agg (eGBarrier a349), .one (.lit (.int .i64 a350)), .agg (eGPart a351)]) (r := F52_res ((GBarrier.mk 0 0 0 [] false), 1)) pz (by kernel_rfl) (by kernel_rfl)

/-! ### haywain/haywainref19.Put -/
noncomputable def hn53 : Hint := { H 53 with nt := 84, prot := 0 }
noncomputable def c53_0 : Code := loopOf E 53 0
def F53_res (r506 : GBarrier × Int) : Res := ⟨[(.agg [(.im (.lit (.int .i64 r506.1.Epoch))), (.im (.lit (.int .i64 r506.1.Step))), (.im (.lit (.int .i64 r506.1.Parts))), (.im (.sl (len r506.1.Came) (flat eGPart r506.1.Came))), (.im (.lit (.bool r506.1.Over)))]), (.one (.im (.lit (.int .i64 r506.2))))], []⟩
def F53_l0_0 (K : Nat) (a456 : GBarrier) (a458 : GPart) : Nat → List GPart → Bool → Int → Option ((Unit) ⊕ (List GPart × Bool))
  | 0, _, _, _ => none
  | k + 1, v475, v476, v477 =>
    bif (ilt v477 (nlen (len a456.Came))) then
      (bif (inr v477 (len a456.Came)) then
      (elAt a456.Came v477).bind fun x480 =>
      bif (ieq x480.P a458.P) then
        (some (.inl ()))
      else
      bif v476 then
        (bif (apok (len v475) 1 88) then
        F53_l0_0 K a456 a458 k (appL v475 [x480]) v476 (wadd .i64 v477 1)
        else none)
      else
      bif (ilt a458.P x480.P) then
        (bif (apok (len v475) 1 88) then
        bif (apok (len (α := GPart) (appL v475 [a458])) 1 88) then
        F53_l0_0 K a456 a458 k (appL (appL v475 [a458]) [x480]) true (wadd .i64 v477 1)
        else none
        else none)
      else
      bif (apok (len v475) 1 88) then
      F53_l0_0 K a456 a458 k (appL v475 [x480]) v476 (wadd .i64 v477 1)
      else none
      else none)
    else
    some (.inr (v475, v476))
def F53_l0_0_S (a456 : GBarrier) (a458 : GPart) (v475 : List GPart) (v476 : Bool) (v477 : Int) : TS := .on [192, 193, 194, 195, 196, 197, 320, 321, 322, 323, 324, 325, 384, 385, 386, 387, 388, 389, 512, 513, 576, 577, 640, 641] [(192, ⟨(.box 28 5), 0, nob⟩), (193, ⟨.im, 0, (.lit (.int .i64 a456.Epoch))⟩), (194, ⟨.im, 0, (.lit (.int .i64 a456.Step))⟩), (195, ⟨.im, 0, (.lit (.int .i64 a456.Parts))⟩), (196, ⟨.im, 0, (.sl (len a456.Came) (flat eGPart a456.Came))⟩), (197, ⟨.im, 0, (.lit (.bool a456.Over))⟩), (320, ⟨(.box 42 5), 0, nob⟩), (321, ⟨.im, 0, (.lit (.int .i64 a458.P))⟩), (322, ⟨.im, 0, (.lit (.int .i64 a458.Step))⟩), (323, ⟨.im, 0, (.sl (len a458.Vals) (flat (eInt .i64) a458.Vals))⟩), (324, ⟨.im, 0, (.sl (len a458.Rest) (flat eBool a458.Rest))⟩), (325, ⟨.im, 0, (.sl (len a458.In) (flat eGMsg a458.In))⟩), (384, ⟨(.box 28 5), 0, nob⟩), (385, ⟨.im, 0, (.lit (.int .i64 0))⟩), (386, ⟨.im, 0, (.lit (.int .i64 0))⟩), (387, ⟨.im, 0, (.lit (.int .i64 0))⟩), (388, ⟨(.own 42), 0, (.sl 0 [])⟩), (389, ⟨.im, 0, (.lit (.bool false))⟩), (512, ⟨.one, 0, nob⟩), (513, ⟨(.own 42), 0, (.sl (len v475) (flat eGPart v475))⟩), (576, ⟨.one, 0, nob⟩), (577, ⟨.im, 0, (.lit (.bool v476))⟩), (640, ⟨.one, 0, nob⟩), (641, ⟨.im, 0, (.lit (.int .i64 v477))⟩)]
def F53_l0_0_X0 (a456 : GBarrier) (a458 : GPart) (w489 : Unit) : TS := .on [384, 385, 386, 387, 388, 389, 448, 449] [(384, ⟨(.box 28 5), 0, nob⟩), (385, ⟨.im, 0, (.lit (.int .i64 a456.Epoch))⟩), (386, ⟨.im, 0, (.lit (.int .i64 a456.Step))⟩), (387, ⟨.im, 0, (.lit (.int .i64 a456.Parts))⟩), (388, ⟨.im, 0, (.sl (len a456.Came) (flat eGPart a456.Came))⟩), (389, ⟨.im, 0, (.lit (.bool a456.Over))⟩), (448, ⟨.one, 0, nob⟩), (449, ⟨.im, 0, (.lit (.int .i64 5))⟩)]
def F53_l0_0_X1 (a456 : GBarrier) (a458 : GPart) (w490 : List GPart × Bool) : TS := .on [192, 193, 194, 195, 196, 197, 320, 321, 322, 323, 324, 325, 384, 385, 386, 387, 388, 389, 512, 513, 576, 577] [(192, ⟨(.box 28 5), 0, nob⟩), (193, ⟨.im, 0, (.lit (.int .i64 a456.Epoch))⟩), (194, ⟨.im, 0, (.lit (.int .i64 a456.Step))⟩), (195, ⟨.im, 0, (.lit (.int .i64 a456.Parts))⟩), (196, ⟨.im, 0, (.sl (len a456.Came) (flat eGPart a456.Came))⟩), (197, ⟨.im, 0, (.lit (.bool a456.Over))⟩), (320, ⟨(.box 42 5), 0, nob⟩), (321, ⟨.im, 0, (.lit (.int .i64 a458.P))⟩), (322, ⟨.im, 0, (.lit (.int .i64 a458.Step))⟩), (323, ⟨.im, 0, (.sl (len a458.Vals) (flat (eInt .i64) a458.Vals))⟩), (324, ⟨.im, 0, (.sl (len a458.Rest) (flat eBool a458.Rest))⟩), (325, ⟨.im, 0, (.sl (len a458.In) (flat eGMsg a458.In))⟩), (384, ⟨(.box 28 5), 0, nob⟩), (385, ⟨.im, 0, (.lit (.int .i64 0))⟩), (386, ⟨.im, 0, (.lit (.int .i64 0))⟩), (387, ⟨.im, 0, (.lit (.int .i64 0))⟩), (388, ⟨(.own 42), 0, (.sl 0 [])⟩), (389, ⟨.im, 0, (.lit (.bool false))⟩), (512, ⟨.one, 0, nob⟩), (513, ⟨(.own 42), 0, (.sl (len w490.1) (flat eGPart w490.1))⟩), (576, ⟨.one, 0, nob⟩), (577, ⟨.im, 0, (.lit (.bool w490.2))⟩)]
theorem F53_l0_0_ok (K : Nat) (a456 : GBarrier) (a458 : GPart) : ∀ (k : Nat) (v475 : List GPart) (v476 : Bool) (v477 : Int) (r : (Unit) ⊕ (List GPart × Bool)), F53_l0_0 K a456 a458 k v475 v476 v477 = some r → (Sum.elim (fun w => LoopEv E H hn53 0 c53_0 (F53_l0_0_S a456 a458 v475 v476 v477) .ret (F53_l0_0_X0 a456 a458 w)) (fun w => LoopEv E H hn53 0 c53_0 (F53_l0_0_S a456 a458 v475 v476 v477) (.exit 0) (F53_l0_0_X1 a456 a458 w))) r := by
  intro k
  induction k with
  | zero => intro v475 v476 v477 r hF; cases hF
  | succ k ih =>
    intro v475 v476 v477 r hF
    rw [F53_l0_0] at hF
    refine cond_some hF (fun h478 hF => ?_) (fun h478 hF => ?_)
    ·
      refine cond_some hF (fun h479 hF => ?_) (fun _ hF => nomatch hF)
      refine bind_some hF (fun x480 h481 hF => ?_)
      have pq493 : ∀ {l : List Cond}, HoldAll E H hn53 l → HoldAll E H hn53 (.int (nlen (len a456.Came)) (nlen (len a456.Came)) :: .test (ilt v477 (nlen (len a456.Came))) true :: .test (inr v477 (len a456.Came)) true :: .sub (flat eGPart a456.Came) (nidx v477 5) 5 [(.lit (.int .i64 x480.P)), (.lit (.int .i64 x480.Step)), (.sl (len x480.Vals) (flat (eInt .i64) x480.Vals)), (.sl (len x480.Rest) (flat eBool x480.Rest)), (.sl (len x480.In) (flat eGMsg x480.In))] :: l) := fun z => ⟨rfl, h478, h479, ⟨rfl, sub_flat0 eGPart_len h481 5 (by decide)⟩, z⟩
      refine cond_some hF (fun h482 hF => ?_) (fun h482 hF => ?_)
      ·
        have hr := Option.some.inj hF
        subst hr
        have pz : HoldAll E H hn53 [.test (ieq x480.P a458.P) true] := ⟨h482, trivial⟩
        exact loop_endC (h := hn53) (l := 0) (c := c53_0) (ts := F53_l0_0_S a456 a458 v475 v476 v477) (ts' := F53_l0_0_X0 a456 a458 ()) (ex := .ret) (pq493 pz) (by kernel_rfl) trivial
      refine cond_some hF (fun h483 hF => ?_) (fun h483 hF => ?_)
      ·
        refine cond_some hF (fun h484 hF => ?_) (fun _ hF => nomatch hF)
        have pz : HoldAll E H hn53 [.test (ieq x480.P a458.P) false, .test (beqb (bnot v476) true) false, .test (beqb (bnot v476) true) false, .test (beqb (bnot v476) true) false, .test (beqb (bnot v476) true) false, .test (beqb (bnot v476) true) false, .test (bnot v476) false, .test false false, .test (leqm [(.lit (.int .i64 x480.P)), (.lit (.int .i64 x480.Step)), (.sl (len x480.Vals) (flat (eInt .i64) x480.Vals)), (.sl (len x480.Rest) (flat eBool x480.Rest)), (.sl (len x480.In) (flat eGMsg x480.In))] 1 5) true, .test (apok (len v475) 1 88) true, .sl (nadd (len v475) 1) (lapp (flat eGPart v475) [(.lit (.int .i64 x480.P)), (.lit (.int .i64 x480.Step)), (.sl (len x480.Vals) (flat (eInt .i64) x480.Vals)), (.sl (len x480.Rest) (flat eBool x480.Rest)), (.sl (len x480.In) (flat eGMsg x480.In))]) (len (α := GPart) (appL v475 [x480])) (flat eGPart (appL v475 [x480])), .int (wadd .i64 v477 1) (wadd .i64 v477 1)] := ⟨h482, (beqb_t (bnot_t h483)), (beqb_t (bnot_t h483)), (beqb_t (bnot_t h483)), (beqb_t (bnot_t h483)), (beqb_t (bnot_t h483)), (bnot_t h483), rfl, rfl, h484, (app_ok (enc := eGPart) (v475 : List GPart) [x480]), rfl, trivial⟩
        have h0 := ih _ _ _ _ hF
        have hn := fun ex ts' => loop_nextC (h := hn53) (l := 0) (c := c53_0) (ts := F53_l0_0_S a456 a458 v475 v476 v477) (ts1 := (F53_l0_0_S a456 a458 (appL v475 [x480]) v476 (wadd .i64 v477 1))) (ex := ex) (ts' := ts') (pq493 pz) (by kernel_rfl)
        cases r with
        | inl w => exact hn _ _ h0
        | inr w => exact hn _ _ h0
      have pq494 : ∀ {l : List Cond}, HoldAll E H hn53 l → HoldAll E H hn53 (.test (ieq x480.P a458.P) false :: .test (beqb (bnot v476) true) true :: .test (beqb (bnot v476) true) true :: .test (beqb (bnot v476) true) true :: .test (beqb (bnot v476) true) true :: .test (beqb (bnot v476) true) true :: .test (bnot v476) true :: l) := fun z => ⟨h482, (beqb_t (bnot_f h483)), (beqb_t (bnot_f h483)), (beqb_t (bnot_f h483)), (beqb_t (bnot_f h483)), (beqb_t (bnot_f h483)), (bnot_f h483), z⟩
      refine cond_some hF (fun h485 hF => ?_) (fun h485 hF => ?_)
      ·
        refine cond_some hF (fun h486 hF => ?_) (fun _ hF => nomatch hF)
        refine cond_some hF (fun h487 hF => ?_) (fun _ hF => nomatch hF)
        have pz : HoldAll E H hn53 [.test (igt x480.P a458.P) true, .test (leqm [(.lit (.int .i64 a458.P)), (.lit (.int .i64 a458.Step)), (.sl (len a458.Vals) (flat (eInt .i64) a458.Vals)), (.sl (len a458.Rest) (flat eBool a458.Rest)), (.sl (len a458.In) (flat eGMsg a458.In))] 1 5) true, .test (apok (len v475) 1 88) true, .sl (nadd (len v475) 1) (lapp (flat eGPart v475) [(.lit (.int .i64 a458.P)), (.lit (.int .i64 a458.Step)), (.sl (len a458.Vals) (flat (eInt .i64) a458.Vals)), (.sl (len a458.Rest) (flat eBool a458.Rest)), (.sl (len a458.In) (flat eGMsg a458.In))]) (len (α := GPart) (appL v475 [a458])) (flat eGPart (appL v475 [a458])), .test (leqm [(.lit (.int .i64 x480.P)), (.lit (.int .i64 x480.Step)), (.sl (len x480.Vals) (flat (eInt .i64) x480.Vals)), (.sl (len x480.Rest) (flat eBool x480.Rest)), (.sl (len x480.In) (flat eGMsg x480.In))] 1 5) true, .test (apok (len (α := GPart) (appL v475 [a458])) 1 88) true, .sl (nadd (len (α := GPart) (appL v475 [a458])) 1) (lapp (flat eGPart (appL v475 [a458])) [(.lit (.int .i64 x480.P)), (.lit (.int .i64 x480.Step)), (.sl (len x480.Vals) (flat (eInt .i64) x480.Vals)), (.sl (len x480.Rest) (flat eBool x480.Rest)), (.sl (len x480.In) (flat eGMsg x480.In))]) (len (α := GPart) (appL (appL v475 [a458]) [x480])) (flat eGPart (appL (appL v475 [a458]) [x480])), .int (wadd .i64 v477 1) (wadd .i64 v477 1)] := ⟨(igt_eq h485), rfl, h486, (app_ok (enc := eGPart) (v475 : List GPart) [a458]), rfl, h487, (app_ok (enc := eGPart) ((appL v475 [a458]) : List GPart) [x480]), rfl, trivial⟩
        have h0 := ih _ _ _ _ hF
        have hn := fun ex ts' => loop_nextC (h := hn53) (l := 0) (c := c53_0) (ts := F53_l0_0_S a456 a458 v475 v476 v477) (ts1 := (F53_l0_0_S a456 a458 (appL (appL v475 [a458]) [x480]) true (wadd .i64 v477 1))) (ex := ex) (ts' := ts') (pq493 (pq494 pz)) (by kernel_rfl)
        cases r with
        | inl w => exact hn _ _ h0
        | inr w => exact hn _ _ h0
      refine cond_some hF (fun h488 hF => ?_) (fun _ hF => nomatch hF)
      have pz : HoldAll E H hn53 [.test (igt x480.P a458.P) false, .test (leqm [(.lit (.int .i64 x480.P)), (.lit (.int .i64 x480.Step)), (.sl (len x480.Vals) (flat (eInt .i64) x480.Vals)), (.sl (len x480.Rest) (flat eBool x480.Rest)), (.sl (len x480.In) (flat eGMsg x480.In))] 1 5) true, .test (apok (len v475) 1 88) true, .sl (nadd (len v475) 1) (lapp (flat eGPart v475) [(.lit (.int .i64 x480.P)), (.lit (.int .i64 x480.Step)), (.sl (len x480.Vals) (flat (eInt .i64) x480.Vals)), (.sl (len x480.Rest) (flat eBool x480.Rest)), (.sl (len x480.In) (flat eGMsg x480.In))]) (len (α := GPart) (appL v475 [x480])) (flat eGPart (appL v475 [x480])), .int (wadd .i64 v477 1) (wadd .i64 v477 1)] := ⟨(igt_eq h485), rfl, h488, (app_ok (enc := eGPart) (v475 : List GPart) [x480]), rfl, trivial⟩
      have h0 := ih _ _ _ _ hF
      have hn := fun ex ts' => loop_nextC (h := hn53) (l := 0) (c := c53_0) (ts := F53_l0_0_S a456 a458 v475 v476 v477) (ts1 := (F53_l0_0_S a456 a458 (appL v475 [x480]) v476 (wadd .i64 v477 1))) (ex := ex) (ts' := ts') (pq493 (pq494 pz)) (by kernel_rfl)
      cases r with
      | inl w => exact hn _ _ h0
      | inr w => exact hn _ _ h0
    have hr := Option.some.inj hF
    subst hr
    have pz : HoldAll E H hn53 [.int (nlen (len a456.Came)) (nlen (len a456.Came)), .test (ilt v477 (nlen (len a456.Came))) false] := ⟨rfl, h478, trivial⟩
    exact loop_endC (h := hn53) (l := 0) (c := c53_0) (ts := F53_l0_0_S a456 a458 v475 v476 v477) (ts' := F53_l0_0_X1 a456 a458 (v475, v476)) (ex := (.exit 0)) pz (by kernel_rfl) trivial

def F53 (K : Nat) (a456 : GBarrier) (a457 : Int) (a458 : GPart) : Option (GBarrier × Int) :=
  (F49 K a456).bind fun r459 =>
  bif r459 then
    (bif (ieq a457 a456.Epoch) then
      (bif (ieq a458.Step (wadd .i64 a456.Step 1)) then
        (bif (ilt a458.P 0) then
          (some (a456, 4))
        else
        bif (ile a456.Parts a458.P) then
          (some (a456, 4))
        else
        (F53_l0_0 K a456 a458 K [] false 0).bind fun y496 =>
        Sum.elim (fun w497 =>
          some (a456, 5))
          (fun w498 =>
          bif w498.2 then
            (some ((GBarrier.mk a456.Epoch a456.Step a456.Parts w498.1 a456.Over), 0))
          else
          bif (apok (len w498.1) 1 88) then
          some ((GBarrier.mk a456.Epoch a456.Step a456.Parts (appL w498.1 [a458]) a456.Over), 0)
          else none) y496)
      else
      some (a456, 9))
    else
    some (a456, 9))
  else
  some ((GBarrier.mk 0 0 0 [] false), 1)
theorem F53_ok (K : Nat) (a456 : GBarrier) (a457 : Int) (a458 : GPart) (r : GBarrier × Int) (hF : F53 K a456 a457 a458 = some r) : Evt E H 53 [.agg (eGBarrier a456), .one (.lit (.int .i64 a457)), .agg (eGPart a458)] (F53_res r) := by
  rw [F53] at hF
  refine bind_some hF (fun r459 h460 hF => ?_)
  refine cond_some hF (fun h461 hF => ?_) (fun h461 hF => ?_)
  ·
    have pq503 : ∀ {l : List Cond}, HoldAll E H hn53 l → HoldAll E H hn53 (.call 49 [.agg (eGBarrier a456)] (F49_res r459) :: .test (leadsAny (Res.mk [(.one (.im (.lit (.bool r459))))] [])) false :: .test (bnot r459) false :: l) := fun z => ⟨(F49_ok K a456 _ h460), (leads_ok (by simp only [leadsAny, List.any_cons, List.any_nil, RV.leads, RC.leads, leadsT, hasSl_lit, Bool.or_false, flat_ns (eInt_ns _), flat_ns eBool_ns, flat_ns eStr_ns, flat_ns eGJob_ns, flat_ns eGEdge_ns, flat_ns eGAsked_ns, flat_ns eGMsg_ns, flat_ns eGrule_ns, flat_ns eGA199_ns, flat_ns eGA202_ns])), (bnot_t h461), z⟩
    refine cond_some hF (fun h462 hF => ?_) (fun h462 hF => ?_)
    ·
      have pq504 : ∀ {l : List Cond}, HoldAll E H hn53 l → HoldAll E H hn53 (.test (beqb (ine a457 a456.Epoch) false) true :: .test (beqb (ine a457 a456.Epoch) false) true :: .test (beqb (ine a457 a456.Epoch) false) true :: .test (beqb (ine a457 a456.Epoch) false) true :: .test (beqb (ine a457 a456.Epoch) false) true :: .int (wadd .i64 a456.Step 1) (wadd .i64 a456.Step 1) :: .test (beqb (ine a457 a456.Epoch) false) true :: .test (ine a457 a456.Epoch) false :: l) := fun z => ⟨(beqb_ff (ine_t h462)), (beqb_ff (ine_t h462)), (beqb_ff (ine_t h462)), (beqb_ff (ine_t h462)), (beqb_ff (ine_t h462)), rfl, (beqb_ff (ine_t h462)), (ine_t h462), z⟩
      refine cond_some hF (fun h463 hF => ?_) (fun h463 hF => ?_)
      ·
        refine cond_some hF (fun h464 hF => ?_) (fun h464 hF => ?_)
        ·
          have hr := Option.some.inj hF
          subst hr
          have pz : HoldAll E H hn53 [.test (ine a458.Step (wadd .i64 a456.Step 1)) false, .test (beqb (ilt a458.P 0) false) false, .test (beqb (ilt a458.P 0) false) false, .test (beqb (ilt a458.P 0) false) false, .test (beqb (ilt a458.P 0) false) false, .test (beqb (ilt a458.P 0) false) false, .test (ilt a458.P 0) true, .test true true] := ⟨(ine_t h463), (beqb_ft h464), (beqb_ft h464), (beqb_ft h464), (beqb_ft h464), (beqb_ft h464), h464, rfl, trivial⟩
          exact fn_playC hn53 (f := 53) (ads := [.agg (eGBarrier a456), .one (.lit (.int .i64 a457)), .agg (eGPart a458)]) (r := F53_res (a456, 4)) (pq503 (pq504 pz)) (by kernel_rfl) (by kernel_rfl)
        have pq505 : ∀ {l : List Cond}, HoldAll E H hn53 l → HoldAll E H hn53 (.test (ine a458.Step (wadd .i64 a456.Step 1)) false :: .test (beqb (ilt a458.P 0) false) true :: .test (beqb (ilt a458.P 0) false) true :: .test (beqb (ilt a458.P 0) false) true :: .test (beqb (ilt a458.P 0) false) true :: .test (beqb (ilt a458.P 0) false) true :: .test (ilt a458.P 0) false :: l) := fun z => ⟨(ine_t h463), (beqb_ff h464), (beqb_ff h464), (beqb_ff h464), (beqb_ff h464), (beqb_ff h464), h464, z⟩
        refine cond_some hF (fun h465 hF => ?_) (fun h465 hF => ?_)
        ·
          have hr := Option.some.inj hF
          subst hr
          have pz : HoldAll E H hn53 [.test (ige a458.P a456.Parts) true] := ⟨(ige_eq h465), trivial⟩
          exact fn_playC hn53 (f := 53) (ads := [.agg (eGBarrier a456), .one (.lit (.int .i64 a457)), .agg (eGPart a458)]) (r := F53_res (a456, 4)) (pq503 (pq504 (pq505 pz))) (by kernel_rfl) (by kernel_rfl)
        refine bind_some hF (fun y496 h495 hF => ?_)
        refine sum_some hF (fun w497 hx hF => ?_) (fun w498 hx hF => ?_)
        ·
          subst hx
          have hr := Option.some.inj hF
          subst hr
          have pz : HoldAll E H hn53 [.test (ige a458.P a456.Parts) false, .loop 0 c53_0 (F53_l0_0_S a456 a458 [] false 0) .ret (F53_l0_0_X0 a456 a458 w497)] := ⟨(ige_eq h465), (F53_l0_0_ok K a456 a458 K [] false 0 _ h495), trivial⟩
          exact fn_playC hn53 (f := 53) (ads := [.agg (eGBarrier a456), .one (.lit (.int .i64 a457)), .agg (eGPart a458)]) (r := F53_res (a456, 5)) (pq503 (pq504 (pq505 pz))) (by kernel_rfl) (by kernel_rfl)
        subst hx
        refine cond_some hF (fun h501 hF => ?_) (fun h501 hF => ?_)
        ·
          have hr := Option.some.inj hF
          subst hr
          have pz : HoldAll E H hn53 [.test (ige a458.P a456.Parts) false, .loop 0 c53_0 (F53_l0_0_S a456 a458 [] false 0) (.exit 0) (F53_l0_0_X1 a456 a458 w498), .test (bnot w498.2) false] := ⟨(ige_eq h465), (F53_l0_0_ok K a456 a458 K [] false 0 _ h495), (bnot_t h501), trivial⟩
          exact fn_playC hn53 (f := 53) (ads := [.agg (eGBarrier a456), .one (.lit (.int .i64 a457)), .agg (eGPart a458)]) (r := F53_res ((GBarrier.mk a456.Epoch a456.Step a456.Parts w498.1 a456.Over), 0)) (pq503 (pq504 (pq505 pz))) (by kernel_rfl) (by kernel_rfl)
        refine cond_some hF (fun h502 hF => ?_) (fun _ hF => nomatch hF)
        have hr := Option.some.inj hF
        subst hr
        have pz : HoldAll E H hn53 [.test (ige a458.P a456.Parts) false, .loop 0 c53_0 (F53_l0_0_S a456 a458 [] false 0) (.exit 0) (F53_l0_0_X1 a456 a458 w498), .test (bnot w498.2) true, .test (leqm [(.lit (.int .i64 a458.P)), (.lit (.int .i64 a458.Step)), (.sl (len a458.Vals) (flat (eInt .i64) a458.Vals)), (.sl (len a458.Rest) (flat eBool a458.Rest)), (.sl (len a458.In) (flat eGMsg a458.In))] 1 5) true, .test (apok (len w498.1) 1 88) true, .sl (nadd (len w498.1) 1) (lapp (flat eGPart w498.1) [(.lit (.int .i64 a458.P)), (.lit (.int .i64 a458.Step)), (.sl (len a458.Vals) (flat (eInt .i64) a458.Vals)), (.sl (len a458.Rest) (flat eBool a458.Rest)), (.sl (len a458.In) (flat eGMsg a458.In))]) (len (α := GPart) (appL w498.1 [a458])) (flat eGPart (appL w498.1 [a458]))] := ⟨(ige_eq h465), (F53_l0_0_ok K a456 a458 K [] false 0 _ h495), (bnot_f h501), rfl, h502, (app_ok (enc := eGPart) (w498.1 : List GPart) [a458]), trivial⟩
        exact fn_playC hn53 (f := 53) (ads := [.agg (eGBarrier a456), .one (.lit (.int .i64 a457)), .agg (eGPart a458)]) (r := F53_res ((GBarrier.mk a456.Epoch a456.Step a456.Parts (appL w498.1 [a458]) a456.Over), 0)) (pq503 (pq504 (pq505 pz))) (by kernel_rfl) (by kernel_rfl)
      have hr := Option.some.inj hF
      subst hr
      have pz : HoldAll E H hn53 [.test (ine a458.Step (wadd .i64 a456.Step 1)) true] := ⟨(ine_f h463), trivial⟩
      exact fn_playC hn53 (f := 53) (ads := [.agg (eGBarrier a456), .one (.lit (.int .i64 a457)), .agg (eGPart a458)]) (r := F53_res (a456, 9)) (pq503 (pq504 pz)) (by kernel_rfl) (by kernel_rfl)
    have hr := Option.some.inj hF
    subst hr
    have pz : HoldAll E H hn53 [.test (beqb (ine a457 a456.Epoch) false) false, .test (beqb (ine a457 a456.Epoch) false) false, .test (beqb (ine a457 a456.Epoch) false) false, .test (beqb (ine a457 a456.Epoch) false) false, .test (beqb (ine a457 a456.Epoch) false) false, .test (beqb (ine a457 a456.Epoch) false) false, .test (ine a457 a456.Epoch) true, .test true true] := ⟨(beqb_ft (ine_f h462)), (beqb_ft (ine_f h462)), (beqb_ft (ine_f h462)), (beqb_ft (ine_f h462)), (beqb_ft (ine_f h462)), (beqb_ft (ine_f h462)), (ine_f h462), rfl, trivial⟩
    exact fn_playC hn53 (f := 53) (ads := [.agg (eGBarrier a456), .one (.lit (.int .i64 a457)), .agg (eGPart a458)]) (r := F53_res (a456, 9)) (pq503 pz) (by kernel_rfl) (by kernel_rfl)
  have hr := Option.some.inj hF
  subst hr
  have pz : HoldAll E H hn53 [.call 49 [.agg (eGBarrier a456)] (F49_res r459), .test (leadsAny (Res.mk [(.one (.im (.lit (.bool r459))))] [])) false, .test (bnot r459) true] := ⟨(F49_ok K a456 _ h460), (leads_ok (by simp only [leadsAny, List.any_cons, List.any_nil, RV.leads, RC.leads, leadsT, hasSl_lit, Bool.or_false, flat_ns (eInt_ns _), flat_ns eBool_ns, flat_ns eStr_ns, flat_ns eGJob_ns, flat_ns eGEdge_ns, flat_ns eGAsked_ns, flat_ns eGMsg_ns, flat_ns eGrule_ns, flat_ns eGA199_ns, flat_ns eGA202_ns])), (bnot_f h461), trivial⟩
  exact fn_playC hn53 (f := 53) (ads := [.agg (eGBarrier a456), .one (.lit (.int .i64 a457)), .agg (eGPart a458)]) (r := F53_res ((GBarrier.mk 0 0 0 [] false), 1)) pz (by kernel_rfl) (by kernel_rfl)

/-! ### haywain/barrier.Fail -/
noncomputable def hn54 : Hint := { H 54 with nt := 28, prot := 0 }
def F54_res (r527 : GBarrier × Int) : Res := ⟨[(.agg [(.im (.lit (.int .i64 r527.1.Epoch))), (.im (.lit (.int .i64 r527.1.Step))), (.im (.lit (.int .i64 r527.1.Parts))), (.own 42 (.sl (len r527.1.Came) (flat eGPart r527.1.Came))), (.im (.lit (.bool r527.1.Over)))]), (.one (.im (.lit (.int .i64 r527.2))))], []⟩
def F54 (K : Nat) (a515 : GBarrier) (a516 : Int) (a517 : Int) : Option (GBarrier × Int) :=
  (F48 K a515).bind fun r518 =>
  bif r518 then
    ((F127 K a515).bind fun r521 =>
    bif (ieq a516 a515.Epoch) then
      (bif (ieq a517 a515.Step) then
        (some ((GBarrier.mk r521.Epoch r521.Step r521.Parts r521.Came true), 0))
      else
      some (r521, 9))
    else
    some (r521, 9))
  else
  some ((GBarrier.mk 0 0 0 [] false), 1)
theorem F54_ok (K : Nat) (a515 : GBarrier) (a516 : Int) (a517 : Int) (r : GBarrier × Int) (hF : F54 K a515 a516 a517 = some r) : Evt E H 54 [.agg (eGBarrier a515), .one (.lit (.int .i64 a516)), .one (.lit (.int .i64 a517))] (F54_res r) := by
  rw [F54] at hF
  refine bind_some hF (fun r518 h519 hF => ?_)
  refine cond_some hF (fun h520 hF => ?_) (fun h520 hF => ?_)
  ·
    refine bind_some hF (fun r521 h522 hF => ?_)
    have pq525 : ∀ {l : List Cond}, HoldAll E H hn54 l → HoldAll E H hn54 (.call 48 [.agg (eGBarrier a515)] (F48_res r518) :: .test (leadsAny (Res.mk [(.one (.im (.lit (.bool r518))))] [])) false :: .test (bnot r518) false :: .call 127 [.agg (eGBarrier a515)] (F127_res r521) :: l) := fun z => ⟨(F48_ok K a515 _ h519), (leads_ok (by simp only [leadsAny, List.any_cons, List.any_nil, RV.leads, RC.leads, leadsT, hasSl_lit, Bool.or_false, flat_ns (eInt_ns _), flat_ns eBool_ns, flat_ns eStr_ns, flat_ns eGJob_ns, flat_ns eGEdge_ns, flat_ns eGAsked_ns, flat_ns eGMsg_ns, flat_ns eGrule_ns, flat_ns eGA199_ns, flat_ns eGA202_ns])), (bnot_t h520), (F127_ok K a515 _ h522), z⟩
    refine cond_some hF (fun h523 hF => ?_) (fun h523 hF => ?_)
    ·
      have pq526 : ∀ {l : List Cond}, HoldAll E H hn54 l → HoldAll E H hn54 (.test (beqb (ine a516 a515.Epoch) false) true :: .test (beqb (ine a516 a515.Epoch) false) true :: .test (beqb (ine a516 a515.Epoch) false) true :: .test (beqb (ine a516 a515.Epoch) false) true :: .test (ine a516 a515.Epoch) false :: l) := fun z => ⟨(beqb_ff (ine_t h523)), (beqb_ff (ine_t h523)), (beqb_ff (ine_t h523)), (beqb_ff (ine_t h523)), (ine_t h523), z⟩
      refine cond_some hF (fun h524 hF => ?_) (fun h524 hF => ?_)
      ·
        have hr := Option.some.inj hF
        subst hr
        have pz : HoldAll E H hn54 [.test (ine a517 a515.Step) false] := ⟨(ine_t h524), trivial⟩
        exact fn_playC hn54 (f := 54) (ads := [.agg (eGBarrier a515), .one (.lit (.int .i64 a516)), .one (.lit (.int .i64 a517))]) (r := F54_res ((GBarrier.mk r521.Epoch r521.Step r521.Parts r521.Came true), 0)) (pq525 (pq526 pz)) (by kernel_rfl) (by kernel_rfl)
      have hr := Option.some.inj hF
      subst hr
      have pz : HoldAll E H hn54 [.test (ine a517 a515.Step) true] := ⟨(ine_f h524), trivial⟩
      exact fn_playC hn54 (f := 54) (ads := [.agg (eGBarrier a515), .one (.lit (.int .i64 a516)), .one (.lit (.int .i64 a517))]) (r := F54_res (r521, 9)) (pq525 (pq526 pz)) (by kernel_rfl) (by kernel_rfl)
    have hr := Option.some.inj hF
    subst hr
    have pz : HoldAll E H hn54 [.test (beqb (ine a516 a515.Epoch) false) false, .test (beqb (ine a516 a515.Epoch) false) false, .test (beqb (ine a516 a515.Epoch) false) false, .test (beqb (ine a516 a515.Epoch) false) false, .test (ine a516 a515.Epoch) true, .test true true] := ⟨(beqb_ft (ine_f h523)), (beqb_ft (ine_f h523)), (beqb_ft (ine_f h523)), (beqb_ft (ine_f h523)), (ine_f h523), rfl, trivial⟩
    exact fn_playC hn54 (f := 54) (ads := [.agg (eGBarrier a515), .one (.lit (.int .i64 a516)), .one (.lit (.int .i64 a517))]) (r := F54_res (r521, 9)) (pq525 pz) (by kernel_rfl) (by kernel_rfl)
  have hr := Option.some.inj hF
  subst hr
  have pz : HoldAll E H hn54 [.call 48 [.agg (eGBarrier a515)] (F48_res r518), .test (leadsAny (Res.mk [(.one (.im (.lit (.bool r518))))] [])) false, .test (bnot r518) true] := ⟨(F48_ok K a515 _ h519), (leads_ok (by simp only [leadsAny, List.any_cons, List.any_nil, RV.leads, RC.leads, leadsT, hasSl_lit, Bool.or_false, flat_ns (eInt_ns _), flat_ns eBool_ns, flat_ns eStr_ns, flat_ns eGJob_ns, flat_ns eGEdge_ns, flat_ns eGAsked_ns, flat_ns eGMsg_ns, flat_ns eGrule_ns, flat_ns eGA199_ns, flat_ns eGA202_ns])), (bnot_f h520), trivial⟩
  exact fn_playC hn54 (f := 54) (ads := [.agg (eGBarrier a515), .one (.lit (.int .i64 a516)), .one (.lit (.int .i64 a517))]) (r := F54_res ((GBarrier.mk 0 0 0 [] false), 1)) pz (by kernel_rfl) (by kernel_rfl)

/-! ### haywain/haywainref19.Fail -/
noncomputable def hn55 : Hint := { H 55 with nt := 25, prot := 0 }
def F55_res (r540 : GBarrier × Int) : Res := ⟨[(.agg [(.im (.lit (.int .i64 r540.1.Epoch))), (.im (.lit (.int .i64 r540.1.Step))), (.im (.lit (.int .i64 r540.1.Parts))), (.im (.sl (len r540.1.Came) (flat eGPart r540.1.Came))), (.im (.lit (.bool r540.1.Over)))]), (.one (.im (.lit (.int .i64 r540.2))))], []⟩
def F55 (K : Nat) (a530 : GBarrier) (a531 : Int) (a532 : Int) : Option (GBarrier × Int) :=
  (F49 K a530).bind fun r533 =>
  bif r533 then
    (bif (ieq a531 a530.Epoch) then
      (bif (ieq a532 a530.Step) then
        (some ((GBarrier.mk a530.Epoch a530.Step a530.Parts a530.Came true), 0))
      else
      some (a530, 9))
    else
    some (a530, 9))
  else
  some ((GBarrier.mk 0 0 0 [] false), 1)
theorem F55_ok (K : Nat) (a530 : GBarrier) (a531 : Int) (a532 : Int) (r : GBarrier × Int) (hF : F55 K a530 a531 a532 = some r) : Evt E H 55 [.agg (eGBarrier a530), .one (.lit (.int .i64 a531)), .one (.lit (.int .i64 a532))] (F55_res r) := by
  rw [F55] at hF
  refine bind_some hF (fun r533 h534 hF => ?_)
  refine cond_some hF (fun h535 hF => ?_) (fun h535 hF => ?_)
  ·
    have pq538 : ∀ {l : List Cond}, HoldAll E H hn55 l → HoldAll E H hn55 (.call 49 [.agg (eGBarrier a530)] (F49_res r533) :: .test (leadsAny (Res.mk [(.one (.im (.lit (.bool r533))))] [])) false :: .test (bnot r533) false :: l) := fun z => ⟨(F49_ok K a530 _ h534), (leads_ok (by simp only [leadsAny, List.any_cons, List.any_nil, RV.leads, RC.leads, leadsT, hasSl_lit, Bool.or_false, flat_ns (eInt_ns _), flat_ns eBool_ns, flat_ns eStr_ns, flat_ns eGJob_ns, flat_ns eGEdge_ns, flat_ns eGAsked_ns, flat_ns eGMsg_ns, flat_ns eGrule_ns, flat_ns eGA199_ns, flat_ns eGA202_ns])), (bnot_t h535), z⟩
    refine cond_some hF (fun h536 hF => ?_) (fun h536 hF => ?_)
    ·
      have pq539 : ∀ {l : List Cond}, HoldAll E H hn55 l → HoldAll E H hn55 (.test (beqb (ine a531 a530.Epoch) false) true :: .test (beqb (ine a531 a530.Epoch) false) true :: .test (beqb (ine a531 a530.Epoch) false) true :: .test (beqb (ine a531 a530.Epoch) false) true :: .test (ine a531 a530.Epoch) false :: l) := fun z => ⟨(beqb_ff (ine_t h536)), (beqb_ff (ine_t h536)), (beqb_ff (ine_t h536)), (beqb_ff (ine_t h536)), (ine_t h536), z⟩
      refine cond_some hF (fun h537 hF => ?_) (fun h537 hF => ?_)
      ·
        have hr := Option.some.inj hF
        subst hr
        have pz : HoldAll E H hn55 [.test (ine a532 a530.Step) false] := ⟨(ine_t h537), trivial⟩
        exact fn_playC hn55 (f := 55) (ads := [.agg (eGBarrier a530), .one (.lit (.int .i64 a531)), .one (.lit (.int .i64 a532))]) (r := F55_res ((GBarrier.mk a530.Epoch a530.Step a530.Parts a530.Came true), 0)) (pq538 (pq539 pz)) (by kernel_rfl) (by kernel_rfl)
      have hr := Option.some.inj hF
      subst hr
      have pz : HoldAll E H hn55 [.test (ine a532 a530.Step) true] := ⟨(ine_f h537), trivial⟩
      exact fn_playC hn55 (f := 55) (ads := [.agg (eGBarrier a530), .one (.lit (.int .i64 a531)), .one (.lit (.int .i64 a532))]) (r := F55_res (a530, 9)) (pq538 (pq539 pz)) (by kernel_rfl) (by kernel_rfl)
    have hr := Option.some.inj hF
    subst hr
    have pz : HoldAll E H hn55 [.test (beqb (ine a531 a530.Epoch) false) false, .test (beqb (ine a531 a530.Epoch) false) false, .test (beqb (ine a531 a530.Epoch) false) false, .test (beqb (ine a531 a530.Epoch) false) false, .test (ine a531 a530.Epoch) true, .test true true] := ⟨(beqb_ft (ine_f h536)), (beqb_ft (ine_f h536)), (beqb_ft (ine_f h536)), (beqb_ft (ine_f h536)), (ine_f h536), rfl, trivial⟩
    exact fn_playC hn55 (f := 55) (ads := [.agg (eGBarrier a530), .one (.lit (.int .i64 a531)), .one (.lit (.int .i64 a532))]) (r := F55_res (a530, 9)) (pq538 pz) (by kernel_rfl) (by kernel_rfl)
  have hr := Option.some.inj hF
  subst hr
  have pz : HoldAll E H hn55 [.call 49 [.agg (eGBarrier a530)] (F49_res r533), .test (leadsAny (Res.mk [(.one (.im (.lit (.bool r533))))] [])) false, .test (bnot r533) true] := ⟨(F49_ok K a530 _ h534), (leads_ok (by simp only [leadsAny, List.any_cons, List.any_nil, RV.leads, RC.leads, leadsT, hasSl_lit, Bool.or_false, flat_ns (eInt_ns _), flat_ns eBool_ns, flat_ns eStr_ns, flat_ns eGJob_ns, flat_ns eGEdge_ns, flat_ns eGAsked_ns, flat_ns eGMsg_ns, flat_ns eGrule_ns, flat_ns eGA199_ns, flat_ns eGA202_ns])), (bnot_f h535), trivial⟩
  exact fn_playC hn55 (f := 55) (ads := [.agg (eGBarrier a530), .one (.lit (.int .i64 a531)), .one (.lit (.int .i64 a532))]) (r := F55_res ((GBarrier.mk 0 0 0 [] false), 1)) pz (by kernel_rfl) (by kernel_rfl)

end Go.Proofs.Ytnjanliihnadjaa.Tm

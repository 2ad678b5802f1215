/- Printed by program: what each function computes, and that the machine answers so. Conditions: none. -/
import Derived.Test.YtnjanliihnadjaaTy
import Derived.Test.YtnjanliihnadjaaTab
import Derived.Test.YtnjanliihnadjaaKn
import Derived.KernelRfl
set_option linter.unusedVariables false
set_option linter.unusedSimpArgs false
namespace Go.Proofs.Ytnjanliihnadjaa.Tm
open Go
/-! ### haywain/work.Quiet -/
noncomputable def hn123 : Hint := { H 123 with nt := 19, prot := 0 }
noncomputable def c123_0 : Code := loopOf E 123 0
def F123_res (r653 : Bool) : Res := ⟨[(.one (.im (.lit (.bool r653))))], []⟩
def F123_l0_0 (K : Nat) (a634 : GPart) : Nat → Int → Option ((Unit) ⊕ (Unit))
  | 0, _ => none
  | k + 1, v640 =>
    bif (ilt v640 (nlen (len a634.Rest))) then
      (bif (inr v640 (len a634.Rest)) then
      (elAt a634.Rest v640).bind fun x643 =>
      bif x643 then
        (F123_l0_0 K a634 k (wadd .i64 v640 1))
      else
      some (.inl ())
      else none)
    else
    some (.inr ())
def F123_l0_0_S (a634 : GPart) (v640 : Int) : TS := .on [64, 65, 66, 67, 68, 69, 320, 384, 385, 448, 449, 512, 513] [(64, ⟨(.box 42 5), 0, nob⟩), (65, ⟨.im, 0, (.lit (.int .i64 a634.P))⟩), (66, ⟨.im, 0, (.lit (.int .i64 a634.Step))⟩), (67, ⟨.im, 0, (.sl (len a634.Vals) (flat (eInt .i64) a634.Vals))⟩), (68, ⟨.im, 0, (.sl (len a634.Rest) (flat eBool a634.Rest))⟩), (69, ⟨.im, 0, (.sl (len a634.In) (flat eGMsg a634.In))⟩), (320, ⟨(.ad 1 0 3), 0, nob⟩), (384, ⟨.one, 0, nob⟩), (385, ⟨.im, 0, (.sl (len a634.Rest) (flat eBool a634.Rest))⟩), (448, ⟨.one, 0, nob⟩), (449, ⟨.im, 0, (.lit (.int .i64 (nlen (len a634.Rest))))⟩), (512, ⟨.one, 0, nob⟩), (513, ⟨.im, 0, (.lit (.int .i64 v640))⟩)]
def F123_l0_0_X0 (a634 : GPart) (w646 : Unit) : TS := .on [128, 129] [(128, ⟨.one, 0, nob⟩), (129, ⟨.im, 0, (.lit (.bool false))⟩)]
def F123_l0_0_X1 (a634 : GPart) (w647 : Unit) : TS := .on [64, 65, 66, 67, 68, 69] [(64, ⟨(.box 42 5), 0, nob⟩), (65, ⟨.im, 0, (.lit (.int .i64 a634.P))⟩), (66, ⟨.im, 0, (.lit (.int .i64 a634.Step))⟩), (67, ⟨.im, 0, (.sl (len a634.Vals) (flat (eInt .i64) a634.Vals))⟩), (68, ⟨.im, 0, (.sl (len a634.Rest) (flat eBool a634.Rest))⟩), (69, ⟨.im, 0, (.sl (len a634.In) (flat eGMsg a634.In))⟩)]
theorem F123_l0_0_ok (K : Nat) (a634 : GPart) : ∀ (k : Nat) (v640 : Int) (r : (Unit) ⊕ (Unit)), F123_l0_0 K a634 k v640 = some r → (Sum.elim (fun w => LoopEv E H hn123 0 c123_0 (F123_l0_0_S a634 v640) .ret (F123_l0_0_X0 a634 w)) (fun w => LoopEv E H hn123 0 c123_0 (F123_l0_0_S a634 v640) (.exit 0) (F123_l0_0_X1 a634 w))) r := by
  intro k
  induction k with
  | zero => intro v640 r hF; cases hF
  | succ k ih =>
    intro v640 r hF
    rw [F123_l0_0] at hF
    refine cond_some hF (fun h641 hF => ?_) (fun h641 hF => ?_)
    ·
      refine cond_some hF (fun h642 hF => ?_) (fun _ hF => nomatch hF)
      refine bind_some hF (fun x643 h644 hF => ?_)
      have pq648 : ∀ {l : List Cond}, HoldAll E H hn123 l → HoldAll E H hn123 (.test (ilt v640 (nlen (len a634.Rest))) true :: .test (inr v640 (len a634.Rest)) true :: .sub (flat eBool a634.Rest) (nidx v640 1) 1 [(.lit (.bool x643))] :: l) := fun z => ⟨h641, h642, ⟨rfl, sub_flat0 eBool_len h644 1 (by decide)⟩, z⟩
      refine cond_some hF (fun h645 hF => ?_) (fun h645 hF => ?_)
      ·
        have pz : HoldAll E H hn123 [.test (bnot x643) false, .int (wadd .i64 v640 1) (wadd .i64 v640 1)] := ⟨(bnot_t h645), rfl, trivial⟩
        have h0 := ih _ _ hF
        have hn := fun ex ts' => loop_nextC (h := hn123) (l := 0) (c := c123_0) (ts := F123_l0_0_S a634 v640) (ts1 := (F123_l0_0_S a634 (wadd .i64 v640 1))) (ex := ex) (ts' := ts') (pq648 pz) (by kernel_rfl)
        cases r with
        | inl w => exact hn _ _ h0
        | inr w => exact hn _ _ h0
      have hr := Option.some.inj hF
      subst hr
      have pz : HoldAll E H hn123 [.test (bnot x643) true] := ⟨(bnot_f h645), trivial⟩
      exact loop_endC (h := hn123) (l := 0) (c := c123_0) (ts := F123_l0_0_S a634 v640) (ts' := F123_l0_0_X0 a634 ()) (ex := .ret) (pq648 pz) (by kernel_rfl) trivial
    have hr := Option.some.inj hF
    subst hr
    have pz : HoldAll E H hn123 [.test (ilt v640 (nlen (len a634.Rest))) false] := ⟨h641, trivial⟩
    exact loop_endC (h := hn123) (l := 0) (c := c123_0) (ts := F123_l0_0_S a634 v640) (ts' := F123_l0_0_X1 a634 ()) (ex := (.exit 0)) pz (by kernel_rfl) trivial

def F123 (K : Nat) (a634 : GPart) : Option (Bool) :=
  (F123_l0_0 K a634 K 0).bind fun y650 =>
  Sum.elim (fun w651 =>
    some false)
    (fun w652 =>
    some (ieq (nlen (len a634.In)) 0)) y650
theorem F123_ok (K : Nat) (a634 : GPart) (r : Bool) (hF : F123 K a634 = some r) : Evt E H 123 [.agg (eGPart a634)] (F123_res r) := by
  rw [F123] at hF
  refine bind_some hF (fun y650 h649 hF => ?_)
  refine sum_some hF (fun w651 hx hF => ?_) (fun w652 hx hF => ?_)
  ·
    subst hx
    have hr := Option.some.inj hF
    subst hr
    have pz : HoldAll E H hn123 [.int (nlen (len a634.Rest)) (nlen (len a634.Rest)), .loop 0 c123_0 (F123_l0_0_S a634 0) .ret (F123_l0_0_X0 a634 w651)] := ⟨rfl, (F123_l0_0_ok K a634 K 0 _ h649), trivial⟩
    exact fn_playC hn123 (f := 123) (ads := [.agg (eGPart a634)]) (r := F123_res false) pz (by kernel_rfl) (by kernel_rfl)
  subst hx
  have hr := Option.some.inj hF
  subst hr
  have pz : HoldAll E H hn123 [.int (nlen (len a634.Rest)) (nlen (len a634.Rest)), .loop 0 c123_0 (F123_l0_0_S a634 0) (.exit 0) (F123_l0_0_X1 a634 w652), .int (nlen (len a634.In)) (nlen (len a634.In))] := ⟨rfl, (F123_l0_0_ok K a634 K 0 _ h649), rfl, trivial⟩
  exact fn_playC hn123 (f := 123) (ads := [.agg (eGPart a634)]) (r := F123_res (ieq (nlen (len a634.In)) 0)) pz (by kernel_rfl) (by kernel_rfl)

/-! ### haywain/haywainref06.Quiet -/
noncomputable def hn106 : Hint := { H 106 with nt := 21, prot := 0 }
noncomputable def c106_0 : Code := loopOf E 106 0
def F106_res (r713 : Bool) : Res := ⟨[(.one (.im (.lit (.bool r713))))], []⟩
def F106_l0_0 (K : Nat) (a694 : GState) : Nat → Int → Option ((Unit) ⊕ (Unit))
  | 0, _ => none
  | k + 1, v700 =>
    bif (ilt v700 (nlen (len a694.Rest))) then
      (bif (inr v700 (len a694.Rest)) then
      (elAt a694.Rest v700).bind fun x703 =>
      bif x703 then
        (F106_l0_0 K a694 k (wadd .i64 v700 1))
      else
      some (.inl ())
      else none)
    else
    some (.inr ())
def F106_l0_0_S (a694 : GState) (v700 : Int) : TS := .on [64, 65, 66, 67, 68, 192, 193] [(64, ⟨(.box 74 4), 0, nob⟩), (65, ⟨.im, 0, (.lit (.int .i64 a694.Step))⟩), (66, ⟨.im, 0, (.sl (len a694.Vals) (flat (eInt .i64) a694.Vals))⟩), (67, ⟨.im, 0, (.sl (len a694.Rest) (flat eBool a694.Rest))⟩), (68, ⟨.im, 0, (.sl (len a694.In) (flat eGMsg a694.In))⟩), (192, ⟨.one, 0, nob⟩), (193, ⟨.im, 0, (.lit (.int .i64 v700))⟩)]
def F106_l0_0_X0 (a694 : GState) (w706 : Unit) : TS := .on [128, 129] [(128, ⟨.one, 0, nob⟩), (129, ⟨.im, 0, (.lit (.bool false))⟩)]
def F106_l0_0_X1 (a694 : GState) (w707 : Unit) : TS := .on [64, 65, 66, 67, 68] [(64, ⟨(.box 74 4), 0, nob⟩), (65, ⟨.im, 0, (.lit (.int .i64 a694.Step))⟩), (66, ⟨.im, 0, (.sl (len a694.Vals) (flat (eInt .i64) a694.Vals))⟩), (67, ⟨.im, 0, (.sl (len a694.Rest) (flat eBool a694.Rest))⟩), (68, ⟨.im, 0, (.sl (len a694.In) (flat eGMsg a694.In))⟩)]
theorem F106_l0_0_ok (K : Nat) (a694 : GState) : ∀ (k : Nat) (v700 : Int) (r : (Unit) ⊕ (Unit)), F106_l0_0 K a694 k v700 = some r → (Sum.elim (fun w => LoopEv E H hn106 0 c106_0 (F106_l0_0_S a694 v700) .ret (F106_l0_0_X0 a694 w)) (fun w => LoopEv E H hn106 0 c106_0 (F106_l0_0_S a694 v700) (.exit 0) (F106_l0_0_X1 a694 w))) r := by
  intro k
  induction k with
  | zero => intro v700 r hF; cases hF
  | succ k ih =>
    intro v700 r hF
    rw [F106_l0_0] at hF
    refine cond_some hF (fun h701 hF => ?_) (fun h701 hF => ?_)
    ·
      refine cond_some hF (fun h702 hF => ?_) (fun _ hF => nomatch hF)
      refine bind_some hF (fun x703 h704 hF => ?_)
      have pq708 : ∀ {l : List Cond}, HoldAll E H hn106 l → HoldAll E H hn106 (.int (nlen (len a694.Rest)) (nlen (len a694.Rest)) :: .test (ilt v700 (nlen (len a694.Rest))) true :: .test (inr v700 (len a694.Rest)) true :: .sub (flat eBool a694.Rest) (nidx v700 1) 1 [(.lit (.bool x703))] :: l) := fun z => ⟨rfl, h701, h702, ⟨rfl, sub_flat0 eBool_len h704 1 (by decide)⟩, z⟩
      refine cond_some hF (fun h705 hF => ?_) (fun h705 hF => ?_)
      ·
        have pz : HoldAll E H hn106 [.test (bnot x703) false, .int (wadd .i64 v700 1) (wadd .i64 v700 1)] := ⟨(bnot_t h705), rfl, trivial⟩
        have h0 := ih _ _ hF
        have hn := fun ex ts' => loop_nextC (h := hn106) (l := 0) (c := c106_0) (ts := F106_l0_0_S a694 v700) (ts1 := (F106_l0_0_S a694 (wadd .i64 v700 1))) (ex := ex) (ts' := ts') (pq708 pz) (by kernel_rfl)
        cases r with
        | inl w => exact hn _ _ h0
        | inr w => exact hn _ _ h0
      have hr := Option.some.inj hF
      subst hr
      have pz : HoldAll E H hn106 [.test (bnot x703) true] := ⟨(bnot_f h705), trivial⟩
      exact loop_endC (h := hn106) (l := 0) (c := c106_0) (ts := F106_l0_0_S a694 v700) (ts' := F106_l0_0_X0 a694 ()) (ex := .ret) (pq708 pz) (by kernel_rfl) trivial
    have hr := Option.some.inj hF
    subst hr
    have pz : HoldAll E H hn106 [.int (nlen (len a694.Rest)) (nlen (len a694.Rest)), .test (ilt v700 (nlen (len a694.Rest))) false] := ⟨rfl, h701, trivial⟩
    exact loop_endC (h := hn106) (l := 0) (c := c106_0) (ts := F106_l0_0_S a694 v700) (ts' := F106_l0_0_X1 a694 ()) (ex := (.exit 0)) pz (by kernel_rfl) trivial

def F106 (K : Nat) (a694 : GState) : Option (Bool) :=
  (F106_l0_0 K a694 K 0).bind fun y710 =>
  Sum.elim (fun w711 =>
    some false)
    (fun w712 =>
    some (ieq (nlen (len a694.In)) 0)) y710
theorem F106_ok (K : Nat) (a694 : GState) (r : Bool) (hF : F106 K a694 = some r) : Evt E H 106 [.agg (eGState a694)] (F106_res r) := by
  rw [F106] at hF
  refine bind_some hF (fun y710 h709 hF => ?_)
  refine sum_some hF (fun w711 hx hF => ?_) (fun w712 hx hF => ?_)
  ·
    subst hx
    have hr := Option.some.inj hF
    subst hr
    have pz : HoldAll E H hn106 [.loop 0 c106_0 (F106_l0_0_S a694 0) .ret (F106_l0_0_X0 a694 w711)] := ⟨(F106_l0_0_ok K a694 K 0 _ h709), trivial⟩
    exact fn_playC hn106 (f := 106) (ads := [.agg (eGState a694)]) (r := F106_res false) pz (by kernel_rfl) (by kernel_rfl)
  subst hx
  have hr := Option.some.inj hF
  subst hr
  have pz : HoldAll E H hn106 [.loop 0 c106_0 (F106_l0_0_S a694 0) (.exit 0) (F106_l0_0_X1 a694 w712), .int (nlen (len a694.In)) (nlen (len a694.In))] := ⟨(F106_l0_0_ok K a694 K 0 _ h709), rfl, trivial⟩
  exact fn_playC hn106 (f := 106) (ads := [.agg (eGState a694)]) (r := F106_res (ieq (nlen (len a694.In)) 0)) pz (by kernel_rfl) (by kernel_rfl)

/-! ### haywain/haywainref08.Quiet -/
noncomputable def hn124 : Hint := { H 124 with nt := 9, prot := 0 }
def F124_res (r716 : Bool) : Res := ⟨[(.one (.im (.lit (.bool r716))))], []⟩
def F124 (K : Nat) (a693 : GPart) : Option (Bool) :=
  (F106 K (GState.mk 0 [] a693.Rest a693.In)).bind fun r714 =>
  some r714
theorem F124_ok (K : Nat) (a693 : GPart) (r : Bool) (hF : F124 K a693 = some r) : Evt E H 124 [.agg (eGPart a693)] (F124_res r) := by
  rw [F124] at hF
  refine bind_some hF (fun r714 h715 hF => ?_)
  have hr := Option.some.inj hF
  subst hr
  have pz : HoldAll E H hn124 [.call 106 [.agg (eGState (GState.mk 0 [] a693.Rest a693.In))] (F106_res r714), .test (leadsAny (Res.mk [(.one (.im (.lit (.bool r714))))] [])) false] := ⟨(F106_ok K (GState.mk 0 [] a693.Rest a693.In) _ h715), (leads_ok (by simp only [leadsAny, List.any_cons, List.any_nil, RV.leads, RC.leads, leadsT, hasSl_lit, Bool.or_false, flat_ns (eInt_ns _), flat_ns eBool_ns, flat_ns eStr_ns, flat_ns eGJob_ns, flat_ns eGEdge_ns, flat_ns eGAsked_ns, flat_ns eGMsg_ns, flat_ns eGrule_ns, flat_ns eGA199_ns, flat_ns eGA202_ns])), trivial⟩
  exact fn_playC hn124 (f := 124) (ads := [.agg (eGPart a693)]) (r := F124_res r714) pz (by kernel_rfl) (by kernel_rfl)

end Go.Proofs.Ytnjanliihnadjaa.Tm

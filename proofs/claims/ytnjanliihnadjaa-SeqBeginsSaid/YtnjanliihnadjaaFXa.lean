/- Printed by program: what each function computes, and that the machine answers so. Conditions: none. -/
import Derived.Test.YtnjanliihnadjaaTy
import Derived.Test.YtnjanliihnadjaaTab
import Derived.Test.YtnjanliihnadjaaKn
import Derived.Test.YtnjanliihnadjaaFTa
import Derived.KernelRfl
set_option linter.unusedVariables false
set_option linter.unusedSimpArgs false
namespace Go.Proofs.Ytnjanliihnadjaa.Tm
open Go
/-! ### haywain/haywainref06.Begin -/
noncomputable def hn108 : Hint := { H 108 with nt := 27, prot := 0 }
noncomputable def c108_0 : Code := loopOf E 108 0
def F108_res (r1166 : GState) : Res := ⟨[(.agg [(.im (.lit (.int .i64 r1166.Step))), (.own 2 (.sl (len r1166.Vals) (flat (eInt .i64) r1166.Vals))), (.own 4 (.sl (len r1166.Rest) (flat eBool r1166.Rest))), (.own 130 (.sl (len r1166.In) (flat eGMsg r1166.In)))])], []⟩
def F108_l0_0 (K : Nat) (a1135 : GGraph) (a1136 : GJob) : Nat → List Int → List Bool → Int → Option (List Int × List Bool)
  | 0, _, _, _ => none
  | k + 1, v1150, v1151, v1152 =>
    bif (ilt v1152 a1135.N) then
      ((F96 K a1136 v1152).bind fun r1154 =>
      bif (apok (len v1150) 1 8) then
      bif (apok (len v1151) 1 1) then
      F108_l0_0 K a1135 a1136 k (appL v1150 [r1154]) (appL v1151 [false]) (wadd .i64 v1152 1)
      else none
      else none)
    else
    some (v1150, v1151)
def F108_l0_0_S (a1135 : GGraph) (a1136 : GJob) (v1150 : List Int) (v1151 : List Bool) (v1152 : Int) : TS := .on [128, 129, 130, 192, 193, 194, 195, 196, 256, 257, 258, 259, 260, 320, 321, 322, 323, 324, 384, 385] [(128, ⟨(.box 62 2), 0, nob⟩), (129, ⟨.im, 0, (.lit (.int .i64 a1135.N))⟩), (130, ⟨.im, 0, (.sl (len a1135.Edges) (flat eGEdge a1135.Edges))⟩), (192, ⟨(.box 64 4), 0, nob⟩), (193, ⟨.im, 0, (.lit (.int .i64 a1136.Prog))⟩), (194, ⟨.im, 0, (.lit (.int .i64 a1136.Source))⟩), (195, ⟨.im, 0, (.lit (.int .i64 a1136.Limit))⟩), (196, ⟨.im, 0, (.lit (.int .i64 a1136.Parts))⟩), (256, ⟨(.box 74 4), 0, nob⟩), (257, ⟨.im, 0, (.lit (.int .i64 0))⟩), (258, ⟨(.own 2), 0, (.sl 0 [])⟩), (259, ⟨(.own 4), 0, (.sl 0 [])⟩), (260, ⟨(.own 130), 0, (.sl 0 [])⟩), (320, ⟨(.box 74 4), 0, nob⟩), (321, ⟨.im, 0, (.lit (.int .i64 0))⟩), (322, ⟨(.own 2), 0, (.sl (len v1150) (flat (eInt .i64) v1150))⟩), (323, ⟨(.own 4), 0, (.sl (len v1151) (flat eBool v1151))⟩), (324, ⟨(.own 130), 0, (.sl 0 [])⟩), (384, ⟨.one, 0, nob⟩), (385, ⟨.im, 0, (.lit (.int .i64 v1152))⟩)]
def F108_l0_0_X0 (a1135 : GGraph) (a1136 : GJob) (w1158 : List Int × List Bool) : TS := .on [256, 257, 258, 259, 260, 320, 321, 322, 323, 324] [(256, ⟨(.box 74 4), 0, nob⟩), (257, ⟨.im, 0, (.lit (.int .i64 0))⟩), (258, ⟨(.own 2), 0, (.sl 0 [])⟩), (259, ⟨(.own 4), 0, (.sl 0 [])⟩), (260, ⟨(.own 130), 0, (.sl 0 [])⟩), (320, ⟨(.box 74 4), 0, nob⟩), (321, ⟨.im, 0, (.lit (.int .i64 0))⟩), (322, ⟨(.own 2), 0, (.sl (len w1158.1) (flat (eInt .i64) w1158.1))⟩), (323, ⟨(.own 4), 0, (.sl (len w1158.2) (flat eBool w1158.2))⟩), (324, ⟨(.own 130), 0, (.sl 0 [])⟩)]
theorem F108_l0_0_ok (K : Nat) (a1135 : GGraph) (a1136 : GJob) : ∀ (k : Nat) (v1150 : List Int) (v1151 : List Bool) (v1152 : Int) (r : List Int × List Bool), F108_l0_0 K a1135 a1136 k v1150 v1151 v1152 = some r → LoopEv E H hn108 0 c108_0 (F108_l0_0_S a1135 a1136 v1150 v1151 v1152) (.exit 0) (F108_l0_0_X0 a1135 a1136 r) := by
  intro k
  induction k with
  | zero => intro v1150 v1151 v1152 r hF; cases hF
  | succ k ih =>
    intro v1150 v1151 v1152 r hF
    rw [F108_l0_0] at hF
    refine cond_some hF (fun h1153 hF => ?_) (fun h1153 hF => ?_)
    ·
      refine bind_some hF (fun r1154 h1155 hF => ?_)
      refine cond_some hF (fun h1156 hF => ?_) (fun _ hF => nomatch hF)
      refine cond_some hF (fun h1157 hF => ?_) (fun _ hF => nomatch hF)
      have pz : HoldAll E H hn108 [.test (ilt v1152 a1135.N) true, .call 96 [.agg (eGJob a1136), .one (.lit (.int .i64 v1152))] (F96_res r1154), .test (leadsAny (Res.mk [(.one (.im (.lit (.int .i64 r1154))))] [])) false, .test (leqm [(.lit (.int .i64 r1154))] 1 1) true, .test (apok (len v1150) 1 8) true, .sl (nadd (len v1150) 1) (lapp (flat (eInt .i64) v1150) [(.lit (.int .i64 r1154))]) (len (α := Int) (appL v1150 [r1154])) (flat (eInt .i64) (appL v1150 [r1154])), .test (leqm [(.lit (.bool false))] 1 1) true, .test (apok (len v1151) 1 1) true, .sl (nadd (len v1151) 1) (lapp (flat eBool v1151) [(.lit (.bool false))]) (len (α := Bool) (appL v1151 [false])) (flat eBool (appL v1151 [false])), .int (wadd .i64 v1152 1) (wadd .i64 v1152 1)] := ⟨h1153, (F96_ok K a1136 v1152 _ h1155), (leads_ok (by simp only [leadsAny, List.any_cons, List.any_nil, RV.leads, RC.leads, leadsT, hasSl_lit, Bool.or_false, flat_ns (eInt_ns _), flat_ns eBool_ns, flat_ns eStr_ns, flat_ns eGJob_ns, flat_ns eGEdge_ns, flat_ns eGAsked_ns, flat_ns eGMsg_ns, flat_ns eGrule_ns, flat_ns eGA199_ns, flat_ns eGA202_ns])), rfl, h1156, (app_ok (enc := (eInt .i64)) (v1150 : List Int) [r1154]), rfl, h1157, (app_ok (enc := eBool) (v1151 : List Bool) [false]), rfl, trivial⟩
      have h0 := ih _ _ _ _ hF
      have hn := fun ex ts' => loop_nextC (h := hn108) (l := 0) (c := c108_0) (ts := F108_l0_0_S a1135 a1136 v1150 v1151 v1152) (ts1 := (F108_l0_0_S a1135 a1136 (appL v1150 [r1154]) (appL v1151 [false]) (wadd .i64 v1152 1))) (ex := ex) (ts' := ts') pz (by kernel_rfl)
      exact hn _ _ h0
    have hr := Option.some.inj hF
    subst hr
    have pz : HoldAll E H hn108 [.test (ilt v1152 a1135.N) false] := ⟨h1153, trivial⟩
    exact loop_endC (h := hn108) (l := 0) (c := c108_0) (ts := F108_l0_0_S a1135 a1136 v1150 v1151 v1152) (ts' := F108_l0_0_X0 a1135 a1136 (v1150, v1151)) (ex := (.exit 0)) pz (by kernel_rfl) trivial

def F108 (K : Nat) (a1135 : GGraph) (a1136 : GJob) : Option (GState) :=
  (F108_l0_0 K a1135 a1136 K [] [] 0).bind fun w1163 =>
  some (GState.mk 0 w1163.1 w1163.2 [])
theorem F108_ok (K : Nat) (a1135 : GGraph) (a1136 : GJob) (r : GState) (hF : F108 K a1135 a1136 = some r) : Evt E H 108 [.agg (eGGraph a1135), .agg (eGJob a1136)] (F108_res r) := by
  rw [F108] at hF
  refine bind_some hF (fun w1163 h1161 hF => ?_)
  have hr := Option.some.inj hF
  subst hr
  have pz : HoldAll E H hn108 [.loop 0 c108_0 (F108_l0_0_S a1135 a1136 [] [] 0) (.exit 0) (F108_l0_0_X0 a1135 a1136 w1163)] := ⟨(F108_l0_0_ok K a1135 a1136 K [] [] 0 _ h1161), trivial⟩
  exact fn_playC hn108 (f := 108) (ads := [.agg (eGGraph a1135), .agg (eGJob a1136)]) (r := F108_res (GState.mk 0 w1163.1 w1163.2 [])) pz (by kernel_rfl) (by kernel_rfl)

end Go.Proofs.Ytnjanliihnadjaa.Tm

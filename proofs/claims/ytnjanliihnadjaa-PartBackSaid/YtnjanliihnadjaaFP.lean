/- Printed by program: what each function computes, and that the machine answers so. Conditions: none. -/
import Derived.Test.YtnjanliihnadjaaTy
import Derived.Test.YtnjanliihnadjaaTab
import Derived.Test.YtnjanliihnadjaaKn
import Derived.Test.YtnjanliihnadjaaFG
import Derived.KernelRfl
set_option linter.unusedVariables false
set_option linter.unusedSimpArgs false
namespace Go.Proofs.Ytnjanliihnadjaa.Tm
open Go
/-! ### haywain/haywainref04.Check -/
noncomputable def hn59 : Hint := { H 59 with nt := 51, prot := 0 }
def F59_res (r1126 : Int) : Res := ⟨[(.one (.im (.lit (.int .i64 r1126))))], []⟩
def F59 (K : Nat) (a1051 : GGraph) (a1052 : GJob) : Option (Int) :=
  (F65 K a1051).bind fun r1107 =>
  bif (ieq r1107 0) then
    (bif (ilt a1052.Prog 1) then
      (some 1)
    else
    bif (ilt 5 a1052.Prog) then
      (some 1)
    else
    bif (ilt a1052.Source 0) then
      (some 1)
    else
    bif (ile a1051.N a1052.Source) then
      (some 1)
    else
    bif (ilt a1052.Limit 0) then
      (some 1)
    else
    bif (ilt 40 a1052.Limit) then
      (some 1)
    else
    bif (ilt a1052.Parts 1) then
      (some 1)
    else
    bif (ilt 6 a1052.Parts) then
      (some 1)
    else
    some 0)
  else
  some r1107
theorem F59_ok (K : Nat) (a1051 : GGraph) (a1052 : GJob) (r : Int) (hF : F59 K a1051 a1052 = some r) : Evt E H 59 [.agg (eGGraph a1051), .agg (eGJob a1052)] (F59_res r) := by
  rw [F59] at hF
  refine bind_some hF (fun r1107 h1108 hF => ?_)
  refine cond_some hF (fun h1109 hF => ?_) (fun h1109 hF => ?_)
  ·
    have pq1118 : ∀ {l : List Cond}, HoldAll E H hn59 l → HoldAll E H hn59 (.call 65 [.agg (eGGraph a1051)] (F65_res r1107) :: .test (leadsAny (Res.mk [(.one (.im (.lit (.int .i64 r1107))))] [])) false :: .test (ine r1107 0) false :: l) := fun z => ⟨(F65_ok K a1051 _ h1108), (leads_ok (by simp only [leadsAny, List.any_cons, List.any_nil, RV.leads, RC.leads, leadsT, hasSl_lit, Bool.or_false, flat_ns (eInt_ns _), flat_ns eBool_ns, flat_ns eStr_ns, flat_ns eGJob_ns, flat_ns eGEdge_ns, flat_ns eGAsked_ns, flat_ns eGMsg_ns, flat_ns eGrule_ns, flat_ns eGA199_ns, flat_ns eGA202_ns])), (ine_t h1109), z⟩
    refine cond_some hF (fun h1110 hF => ?_) (fun h1110 hF => ?_)
    ·
      have hr := Option.some.inj hF
      subst hr
      have pz : HoldAll E H hn59 [.test (beqb (ilt a1052.Prog 1) false) false, .test (beqb (ilt a1052.Prog 1) false) false, .test (beqb (ilt a1052.Prog 1) false) false, .test (ilt a1052.Prog 1) true, .test (beqb true false) false, .test (beqb true false) false, .test (beqb true false) false, .test true true, .test (beqb true false) false, .test (beqb true false) false, .test (beqb true false) false, .test (beqb true false) false, .test (beqb true false) false, .test true true, .test (beqb true false) false, .test (beqb true false) false, .test (beqb true false) false, .test true true, .test (beqb true false) false, .test (beqb true false) false, .test (beqb true false) false, .test true true, .test (beqb true false) false, .test (beqb true false) false, .test (beqb true false) false, .test true true, .test (beqb true false) false, .test (beqb true false) false, .test (beqb true false) false, .test true true, .test true true] := ⟨(beqb_ft h1110), (beqb_ft h1110), (beqb_ft h1110), h1110, (beqb_ft rfl), (beqb_ft rfl), (beqb_ft rfl), rfl, (beqb_ft rfl), (beqb_ft rfl), (beqb_ft rfl), (beqb_ft rfl), (beqb_ft rfl), rfl, (beqb_ft rfl), (beqb_ft rfl), (beqb_ft rfl), rfl, (beqb_ft rfl), (beqb_ft rfl), (beqb_ft rfl), rfl, (beqb_ft rfl), (beqb_ft rfl), (beqb_ft rfl), rfl, (beqb_ft rfl), (beqb_ft rfl), (beqb_ft rfl), rfl, rfl, trivial⟩
      exact fn_playC hn59 (f := 59) (ads := [.agg (eGGraph a1051), .agg (eGJob a1052)]) (r := F59_res 1) (pq1118 pz) (by kernel_rfl) (by kernel_rfl)
    have pq1119 : ∀ {l : List Cond}, HoldAll E H hn59 l → HoldAll E H hn59 (.test (beqb (ilt a1052.Prog 1) false) true :: .test (beqb (ilt a1052.Prog 1) false) true :: .test (beqb (ilt a1052.Prog 1) false) true :: .test (ilt a1052.Prog 1) false :: l) := fun z => ⟨(beqb_ff h1110), (beqb_ff h1110), (beqb_ff h1110), h1110, z⟩
    refine cond_some hF (fun h1111 hF => ?_) (fun h1111 hF => ?_)
    ·
      have hr := Option.some.inj hF
      subst hr
      have pz : HoldAll E H hn59 [.test (beqb (igt a1052.Prog 5) false) false, .test (beqb (igt a1052.Prog 5) false) false, .test (beqb (igt a1052.Prog 5) false) false, .test (igt a1052.Prog 5) true, .test (beqb true false) false, .test (beqb true false) false, .test (beqb true false) false, .test (beqb true false) false, .test (beqb true false) false, .test true true, .test (beqb true false) false, .test (beqb true false) false, .test (beqb true false) false, .test true true, .test (beqb true false) false, .test (beqb true false) false, .test (beqb true false) false, .test true true, .test (beqb true false) false, .test (beqb true false) false, .test (beqb true false) false, .test true true, .test (beqb true false) false, .test (beqb true false) false, .test (beqb true false) false, .test true true, .test true true] := ⟨(beqb_ft (igt_eq h1111)), (beqb_ft (igt_eq h1111)), (beqb_ft (igt_eq h1111)), (igt_eq h1111), (beqb_ft rfl), (beqb_ft rfl), (beqb_ft rfl), (beqb_ft rfl), (beqb_ft rfl), rfl, (beqb_ft rfl), (beqb_ft rfl), (beqb_ft rfl), rfl, (beqb_ft rfl), (beqb_ft rfl), (beqb_ft rfl), rfl, (beqb_ft rfl), (beqb_ft rfl), (beqb_ft rfl), rfl, (beqb_ft rfl), (beqb_ft rfl), (beqb_ft rfl), rfl, rfl, trivial⟩
      exact fn_playC hn59 (f := 59) (ads := [.agg (eGGraph a1051), .agg (eGJob a1052)]) (r := F59_res 1) (pq1118 (pq1119 pz)) (by kernel_rfl) (by kernel_rfl)
    have pq1120 : ∀ {l : List Cond}, HoldAll E H hn59 l → HoldAll E H hn59 (.test (beqb (igt a1052.Prog 5) false) true :: .test (beqb (igt a1052.Prog 5) false) true :: .test (beqb (igt a1052.Prog 5) false) true :: .test (igt a1052.Prog 5) false :: l) := fun z => ⟨(beqb_ff (igt_eq h1111)), (beqb_ff (igt_eq h1111)), (beqb_ff (igt_eq h1111)), (igt_eq h1111), z⟩
    refine cond_some hF (fun h1112 hF => ?_) (fun h1112 hF => ?_)
    ·
      have hr := Option.some.inj hF
      subst hr
      have pz : HoldAll E H hn59 [.test (beqb (ilt a1052.Source 0) false) false, .test (beqb (ilt a1052.Source 0) false) false, .test (beqb (ilt a1052.Source 0) false) false, .test (beqb (ilt a1052.Source 0) false) false, .test (beqb (ilt a1052.Source 0) false) false, .test (ilt a1052.Source 0) true, .test (beqb true false) false, .test (beqb true false) false, .test (beqb true false) false, .test true true, .test (beqb true false) false, .test (beqb true false) false, .test (beqb true false) false, .test true true, .test (beqb true false) false, .test (beqb true false) false, .test (beqb true false) false, .test true true, .test (beqb true false) false, .test (beqb true false) false, .test (beqb true false) false, .test true true, .test true true] := ⟨(beqb_ft h1112), (beqb_ft h1112), (beqb_ft h1112), (beqb_ft h1112), (beqb_ft h1112), h1112, (beqb_ft rfl), (beqb_ft rfl), (beqb_ft rfl), rfl, (beqb_ft rfl), (beqb_ft rfl), (beqb_ft rfl), rfl, (beqb_ft rfl), (beqb_ft rfl), (beqb_ft rfl), rfl, (beqb_ft rfl), (beqb_ft rfl), (beqb_ft rfl), rfl, rfl, trivial⟩
      exact fn_playC hn59 (f := 59) (ads := [.agg (eGGraph a1051), .agg (eGJob a1052)]) (r := F59_res 1) (pq1118 (pq1119 (pq1120 pz))) (by kernel_rfl) (by kernel_rfl)
    have pq1121 : ∀ {l : List Cond}, HoldAll E H hn59 l → HoldAll E H hn59 (.test (beqb (ilt a1052.Source 0) false) true :: .test (beqb (ilt a1052.Source 0) false) true :: .test (beqb (ilt a1052.Source 0) false) true :: .test (beqb (ilt a1052.Source 0) false) true :: .test (beqb (ilt a1052.Source 0) false) true :: .test (ilt a1052.Source 0) false :: l) := fun z => ⟨(beqb_ff h1112), (beqb_ff h1112), (beqb_ff h1112), (beqb_ff h1112), (beqb_ff h1112), h1112, z⟩
    refine cond_some hF (fun h1113 hF => ?_) (fun h1113 hF => ?_)
    ·
      have hr := Option.some.inj hF
      subst hr
      have pz : HoldAll E H hn59 [.test (beqb (ige a1052.Source a1051.N) false) false, .test (beqb (ige a1052.Source a1051.N) false) false, .test (beqb (ige a1052.Source a1051.N) false) false, .test (ige a1052.Source a1051.N) true, .test (beqb true false) false, .test (beqb true false) false, .test (beqb true false) false, .test true true, .test (beqb true false) false, .test (beqb true false) false, .test (beqb true false) false, .test true true, .test (beqb true false) false, .test (beqb true false) false, .test (beqb true false) false, .test true true, .test true true] := ⟨(beqb_ft (ige_eq h1113)), (beqb_ft (ige_eq h1113)), (beqb_ft (ige_eq h1113)), (ige_eq h1113), (beqb_ft rfl), (beqb_ft rfl), (beqb_ft rfl), rfl, (beqb_ft rfl), (beqb_ft rfl), (beqb_ft rfl), rfl, (beqb_ft rfl), (beqb_ft rfl), (beqb_ft rfl), rfl, rfl, trivial⟩
      exact fn_playC hn59 (f := 59) (ads := [.agg (eGGraph a1051), .agg (eGJob a1052)]) (r := F59_res 1) (pq1118 (pq1119 (pq1120 (pq1121 pz)))) (by kernel_rfl) (by kernel_rfl)
    have pq1122 : ∀ {l : List Cond}, HoldAll E H hn59 l → HoldAll E H hn59 (.test (beqb (ige a1052.Source a1051.N) false) true :: .test (beqb (ige a1052.Source a1051.N) false) true :: .test (beqb (ige a1052.Source a1051.N) false) true :: .test (ige a1052.Source a1051.N) false :: l) := fun z => ⟨(beqb_ff (ige_eq h1113)), (beqb_ff (ige_eq h1113)), (beqb_ff (ige_eq h1113)), (ige_eq h1113), z⟩
    refine cond_some hF (fun h1114 hF => ?_) (fun h1114 hF => ?_)
    ·
      have hr := Option.some.inj hF
      subst hr
      have pz : HoldAll E H hn59 [.test (beqb (ilt a1052.Limit 0) false) false, .test (beqb (ilt a1052.Limit 0) false) false, .test (beqb (ilt a1052.Limit 0) false) false, .test (ilt a1052.Limit 0) true, .test (beqb true false) false, .test (beqb true false) false, .test (beqb true false) false, .test true true, .test (beqb true false) false, .test (beqb true false) false, .test (beqb true false) false, .test true true, .test true true] := ⟨(beqb_ft h1114), (beqb_ft h1114), (beqb_ft h1114), h1114, (beqb_ft rfl), (beqb_ft rfl), (beqb_ft rfl), rfl, (beqb_ft rfl), (beqb_ft rfl), (beqb_ft rfl), rfl, rfl, trivial⟩
      exact fn_playC hn59 (f := 59) (ads := [.agg (eGGraph a1051), .agg (eGJob a1052)]) (r := F59_res 1) (pq1118 (pq1119 (pq1120 (pq1121 (pq1122 pz))))) (by kernel_rfl) (by kernel_rfl)
    have pq1123 : ∀ {l : List Cond}, HoldAll E H hn59 l → HoldAll E H hn59 (.test (beqb (ilt a1052.Limit 0) false) true :: .test (beqb (ilt a1052.Limit 0) false) true :: .test (beqb (ilt a1052.Limit 0) false) true :: .test (ilt a1052.Limit 0) false :: l) := fun z => ⟨(beqb_ff h1114), (beqb_ff h1114), (beqb_ff h1114), h1114, z⟩
    refine cond_some hF (fun h1115 hF => ?_) (fun h1115 hF => ?_)
    ·
      have hr := Option.some.inj hF
      subst hr
      have pz : HoldAll E H hn59 [.test (beqb (igt a1052.Limit 40) false) false, .test (beqb (igt a1052.Limit 40) false) false, .test (beqb (igt a1052.Limit 40) false) false, .test (igt a1052.Limit 40) true, .test (beqb true false) false, .test (beqb true false) false, .test (beqb true false) false, .test true true, .test true true] := ⟨(beqb_ft (igt_eq h1115)), (beqb_ft (igt_eq h1115)), (beqb_ft (igt_eq h1115)), (igt_eq h1115), (beqb_ft rfl), (beqb_ft rfl), (beqb_ft rfl), rfl, rfl, trivial⟩
      exact fn_playC hn59 (f := 59) (ads := [.agg (eGGraph a1051), .agg (eGJob a1052)]) (r := F59_res 1) (pq1118 (pq1119 (pq1120 (pq1121 (pq1122 (pq1123 pz)))))) (by kernel_rfl) (by kernel_rfl)
    have pq1124 : ∀ {l : List Cond}, HoldAll E H hn59 l → HoldAll E H hn59 (.test (beqb (igt a1052.Limit 40) false) true :: .test (beqb (igt a1052.Limit 40) false) true :: .test (beqb (igt a1052.Limit 40) false) true :: .test (igt a1052.Limit 40) false :: l) := fun z => ⟨(beqb_ff (igt_eq h1115)), (beqb_ff (igt_eq h1115)), (beqb_ff (igt_eq h1115)), (igt_eq h1115), z⟩
    refine cond_some hF (fun h1116 hF => ?_) (fun h1116 hF => ?_)
    ·
      have hr := Option.some.inj hF
      subst hr
      have pz : HoldAll E H hn59 [.test (beqb (ilt a1052.Parts 1) false) false, .test (beqb (ilt a1052.Parts 1) false) false, .test (beqb (ilt a1052.Parts 1) false) false, .test (ilt a1052.Parts 1) true, .test true true] := ⟨(beqb_ft h1116), (beqb_ft h1116), (beqb_ft h1116), h1116, rfl, trivial⟩
      exact fn_playC hn59 (f := 59) (ads := [.agg (eGGraph a1051), .agg (eGJob a1052)]) (r := F59_res 1) (pq1118 (pq1119 (pq1120 (pq1121 (pq1122 (pq1123 (pq1124 pz))))))) (by kernel_rfl) (by kernel_rfl)
    have pq1125 : ∀ {l : List Cond}, HoldAll E H hn59 l → HoldAll E H hn59 (.test (beqb (ilt a1052.Parts 1) false) true :: .test (beqb (ilt a1052.Parts 1) false) true :: .test (beqb (ilt a1052.Parts 1) false) true :: .test (ilt a1052.Parts 1) false :: l) := fun z => ⟨(beqb_ff h1116), (beqb_ff h1116), (beqb_ff h1116), h1116, z⟩
    refine cond_some hF (fun h1117 hF => ?_) (fun h1117 hF => ?_)
    ·
      have hr := Option.some.inj hF
      subst hr
      have pz : HoldAll E H hn59 [.test (igt a1052.Parts 6) true] := ⟨(igt_eq h1117), trivial⟩
      exact fn_playC hn59 (f := 59) (ads := [.agg (eGGraph a1051), .agg (eGJob a1052)]) (r := F59_res 1) (pq1118 (pq1119 (pq1120 (pq1121 (pq1122 (pq1123 (pq1124 (pq1125 pz)))))))) (by kernel_rfl) (by kernel_rfl)
    have hr := Option.some.inj hF
    subst hr
    have pz : HoldAll E H hn59 [.test (igt a1052.Parts 6) false] := ⟨(igt_eq h1117), trivial⟩
    exact fn_playC hn59 (f := 59) (ads := [.agg (eGGraph a1051), .agg (eGJob a1052)]) (r := F59_res 0) (pq1118 (pq1119 (pq1120 (pq1121 (pq1122 (pq1123 (pq1124 (pq1125 pz)))))))) (by kernel_rfl) (by kernel_rfl)
  have hr := Option.some.inj hF
  subst hr
  have pz : HoldAll E H hn59 [.call 65 [.agg (eGGraph a1051)] (F65_res r1107), .test (leadsAny (Res.mk [(.one (.im (.lit (.int .i64 r1107))))] [])) false, .test (ine r1107 0) true] := ⟨(F65_ok K a1051 _ h1108), (leads_ok (by simp only [leadsAny, List.any_cons, List.any_nil, RV.leads, RC.leads, leadsT, hasSl_lit, Bool.or_false, flat_ns (eInt_ns _), flat_ns eBool_ns, flat_ns eStr_ns, flat_ns eGJob_ns, flat_ns eGEdge_ns, flat_ns eGAsked_ns, flat_ns eGMsg_ns, flat_ns eGrule_ns, flat_ns eGA199_ns, flat_ns eGA202_ns])), (ine_f h1109), trivial⟩
  exact fn_playC hn59 (f := 59) (ads := [.agg (eGGraph a1051), .agg (eGJob a1052)]) (r := F59_res r1107) pz (by kernel_rfl) (by kernel_rfl)

/-! ### haywain/haywainref06.Right -/
noncomputable def hn88 : Hint := { H 88 with nt := 75, prot := 0 }
noncomputable def c88_0 : Code := loopOf E 88 0
def F88_res (r1227 : Bool) : Res := ⟨[(.one (.im (.lit (.bool r1227))))], []⟩
def F88_l0_0 (K : Nat) (a1185 : GGraph) (a1187 : GState) : Nat → Int → Option ((Unit) ⊕ (Unit))
  | 0, _ => none
  | k + 1, v1201 =>
    bif (ilt v1201 (nlen (len a1187.In))) then
      (bif (inr v1201 (len a1187.In)) then
      (elAt a1187.In v1201).bind fun x1204 =>
      bif (ilt x1204.To 0) then
        (some (.inl ()))
      else
      bif (ile a1185.N x1204.To) then
        (some (.inl ()))
      else
      bif (ilt 0 v1201) then
        (bif (inr (wsub .i64 v1201 1) (len a1187.In)) then
        (elAt a1187.In (wsub .i64 v1201 1)).bind fun x1210 =>
        bif (ile x1204.To x1210.To) then
          (some (.inl ()))
        else
        F88_l0_0 K a1185 a1187 k (wadd .i64 v1201 1)
        else none)
      else
      F88_l0_0 K a1185 a1187 k (wadd .i64 v1201 1)
      else none)
    else
    some (.inr ())
def F88_l0_0_S (a1185 : GGraph) (a1187 : GState) (v1201 : Int) : TS := .on [192, 193, 194, 320, 321, 322, 323, 324, 448, 449] [(192, ⟨(.box 62 2), 0, nob⟩), (193, ⟨.im, 0, (.lit (.int .i64 a1185.N))⟩), (194, ⟨.im, 0, (.sl (len a1185.Edges) (flat eGEdge a1185.Edges))⟩), (320, ⟨(.box 74 4), 0, nob⟩), (321, ⟨.im, 0, (.lit (.int .i64 a1187.Step))⟩), (322, ⟨.im, 0, (.sl (len a1187.Vals) (flat (eInt .i64) a1187.Vals))⟩), (323, ⟨.im, 0, (.sl (len a1187.Rest) (flat eBool a1187.Rest))⟩), (324, ⟨.im, 0, (.sl (len a1187.In) (flat eGMsg a1187.In))⟩), (448, ⟨.one, 0, nob⟩), (449, ⟨.im, 0, (.lit (.int .i64 v1201))⟩)]
def F88_l0_0_X0 (a1185 : GGraph) (a1187 : GState) (w1213 : Unit) : TS := .on [384, 385] [(384, ⟨.one, 0, nob⟩), (385, ⟨.im, 0, (.lit (.bool false))⟩)]
def F88_l0_0_X1 (a1185 : GGraph) (a1187 : GState) (w1214 : Unit) : TS := .on [] []
theorem F88_l0_0_ok (K : Nat) (a1185 : GGraph) (a1187 : GState) : ∀ (k : Nat) (v1201 : Int) (r : (Unit) ⊕ (Unit)), F88_l0_0 K a1185 a1187 k v1201 = some r → (Sum.elim (fun w => LoopEv E H hn88 0 c88_0 (F88_l0_0_S a1185 a1187 v1201) .ret (F88_l0_0_X0 a1185 a1187 w)) (fun w => LoopEv E H hn88 0 c88_0 (F88_l0_0_S a1185 a1187 v1201) (.exit 0) (F88_l0_0_X1 a1185 a1187 w))) r := by
  intro k
  induction k with
  | zero => intro v1201 r hF; cases hF
  | succ k ih =>
    intro v1201 r hF
    rw [F88_l0_0] at hF
    refine cond_some hF (fun h1202 hF => ?_) (fun h1202 hF => ?_)
    ·
      refine cond_some hF (fun h1203 hF => ?_) (fun _ hF => nomatch hF)
      refine bind_some hF (fun x1204 h1205 hF => ?_)
      have pq1215 : ∀ {l : List Cond}, HoldAll E H hn88 l → HoldAll E H hn88 (.int (nlen (len a1187.In)) (nlen (len a1187.In)) :: .test (ilt v1201 (nlen (len a1187.In))) true :: .test (inr v1201 (len a1187.In)) true :: .sub (flat eGMsg a1187.In) (nadd (nidx v1201 2) 0) 1 [(.lit (.int .i64 x1204.To))] :: l) := fun z => ⟨rfl, h1202, h1203, ⟨rfl, sub_flat eGMsg_len h1205 0 1 (by decide)⟩, z⟩
      refine cond_some hF (fun h1206 hF => ?_) (fun h1206 hF => ?_)
      ·
        have hr := Option.some.inj hF
        subst hr
        have pz : HoldAll E H hn88 [.test (beqb (ilt x1204.To 0) false) false, .test (beqb (ilt x1204.To 0) false) false, .test (beqb (ilt x1204.To 0) false) false, .test (beqb (ilt x1204.To 0) false) false, .test (ilt x1204.To 0) true, .test (beqb true false) false, .test (beqb true false) false, .test (beqb true false) false, .test (beqb true false) false, .test true true, .test true true] := ⟨(beqb_ft h1206), (beqb_ft h1206), (beqb_ft h1206), (beqb_ft h1206), h1206, (beqb_ft rfl), (beqb_ft rfl), (beqb_ft rfl), (beqb_ft rfl), rfl, rfl, trivial⟩
        exact loop_endC (h := hn88) (l := 0) (c := c88_0) (ts := F88_l0_0_S a1185 a1187 v1201) (ts' := F88_l0_0_X0 a1185 a1187 ()) (ex := .ret) (pq1215 pz) (by kernel_rfl) trivial
      have pq1216 : ∀ {l : List Cond}, HoldAll E H hn88 l → HoldAll E H hn88 (.test (beqb (ilt x1204.To 0) false) true :: .test (beqb (ilt x1204.To 0) false) true :: .test (beqb (ilt x1204.To 0) false) true :: .test (beqb (ilt x1204.To 0) false) true :: .test (ilt x1204.To 0) false :: l) := fun z => ⟨(beqb_ff h1206), (beqb_ff h1206), (beqb_ff h1206), (beqb_ff h1206), h1206, z⟩
      refine cond_some hF (fun h1207 hF => ?_) (fun h1207 hF => ?_)
      ·
        have hr := Option.some.inj hF
        subst hr
        have pz : HoldAll E H hn88 [.test (beqb (ige x1204.To a1185.N) false) false, .test (beqb (ige x1204.To a1185.N) false) false, .test (beqb (ige x1204.To a1185.N) false) false, .test (beqb (ige x1204.To a1185.N) false) false, .test (ige x1204.To a1185.N) true, .test true true] := ⟨(beqb_ft (ige_eq h1207)), (beqb_ft (ige_eq h1207)), (beqb_ft (ige_eq h1207)), (beqb_ft (ige_eq h1207)), (ige_eq h1207), rfl, trivial⟩
        exact loop_endC (h := hn88) (l := 0) (c := c88_0) (ts := F88_l0_0_S a1185 a1187 v1201) (ts' := F88_l0_0_X0 a1185 a1187 ()) (ex := .ret) (pq1215 (pq1216 pz)) (by kernel_rfl) trivial
      have pq1217 : ∀ {l : List Cond}, HoldAll E H hn88 l → HoldAll E H hn88 (.test (beqb (ige x1204.To a1185.N) false) true :: .test (beqb (ige x1204.To a1185.N) false) true :: .test (beqb (ige x1204.To a1185.N) false) true :: l) := fun z => ⟨(beqb_ff (ige_eq h1207)), (beqb_ff (ige_eq h1207)), (beqb_ff (ige_eq h1207)), z⟩
      refine cond_some hF (fun h1208 hF => ?_) (fun h1208 hF => ?_)
      ·
        refine cond_some hF (fun h1209 hF => ?_) (fun _ hF => nomatch hF)
        refine bind_some hF (fun x1210 h1211 hF => ?_)
        have pq1218 : ∀ {l : List Cond}, HoldAll E H hn88 l → HoldAll E H hn88 (.test (beqb (igt v1201 0) true) true :: .test (beqb (igt v1201 0) true) true :: .test (beqb (igt v1201 0) true) true :: .test (beqb (igt v1201 0) true) true :: .int (wsub .i64 v1201 1) (wsub .i64 v1201 1) :: .test (beqb (igt v1201 0) true) true :: .test (inr (wsub .i64 v1201 1) (len a1187.In)) true :: .test (beqb (igt v1201 0) true) true :: .test (beqb (igt v1201 0) true) true :: .sub (flat eGMsg a1187.In) (nadd (nidx (wsub .i64 v1201 1) 2) 0) 1 [(.lit (.int .i64 x1210.To))] :: .test (beqb (igt v1201 0) true) true :: .test (beqb (igt v1201 0) true) true :: .test (beqb (ige x1204.To a1185.N) false) true :: .test (igt v1201 0) true :: .test (ige x1204.To a1185.N) false :: l) := fun z => ⟨(beqb_t (igt_eq h1208)), (beqb_t (igt_eq h1208)), (beqb_t (igt_eq h1208)), (beqb_t (igt_eq h1208)), rfl, (beqb_t (igt_eq h1208)), h1209, (beqb_t (igt_eq h1208)), (beqb_t (igt_eq h1208)), ⟨rfl, sub_flat eGMsg_len h1211 0 1 (by decide)⟩, (beqb_t (igt_eq h1208)), (beqb_t (igt_eq h1208)), (beqb_ff (ige_eq h1207)), (igt_eq h1208), (ige_eq h1207), z⟩
        refine cond_some hF (fun h1212 hF => ?_) (fun h1212 hF => ?_)
        ·
          have hr := Option.some.inj hF
          subst hr
          have pz : HoldAll E H hn88 [.test (ige x1210.To x1204.To) true] := ⟨(ige_eq h1212), trivial⟩
          exact loop_endC (h := hn88) (l := 0) (c := c88_0) (ts := F88_l0_0_S a1185 a1187 v1201) (ts' := F88_l0_0_X0 a1185 a1187 ()) (ex := .ret) (pq1215 (pq1216 (pq1217 (pq1218 pz)))) (by kernel_rfl) trivial
        have pz : HoldAll E H hn88 [.test (ige x1210.To x1204.To) false, .int (wadd .i64 v1201 1) (wadd .i64 v1201 1)] := ⟨(ige_eq h1212), rfl, trivial⟩
        have h0 := ih _ _ hF
        have hn := fun ex ts' => loop_nextC (h := hn88) (l := 0) (c := c88_0) (ts := F88_l0_0_S a1185 a1187 v1201) (ts1 := (F88_l0_0_S a1185 a1187 (wadd .i64 v1201 1))) (ex := ex) (ts' := ts') (pq1215 (pq1216 (pq1217 (pq1218 pz)))) (by kernel_rfl)
        cases r with
        | inl w => exact hn _ _ h0
        | inr w => exact hn _ _ h0
      have pz : HoldAll E H hn88 [.test (beqb (igt v1201 0) true) false, .test (beqb (igt v1201 0) true) false, .test (beqb (igt v1201 0) true) false, .test (beqb (igt v1201 0) true) false, .test (beqb (igt v1201 0) true) false, .test (beqb (igt v1201 0) true) false, .test (beqb (igt v1201 0) true) false, .test (beqb (igt v1201 0) true) false, .test (beqb (igt v1201 0) true) false, .test (beqb (ige x1204.To a1185.N) false) true, .test (igt v1201 0) false, .test (ige x1204.To a1185.N) false, .test false false, .int (wadd .i64 v1201 1) (wadd .i64 v1201 1)] := ⟨(beqb_t (igt_eq h1208)), (beqb_t (igt_eq h1208)), (beqb_t (igt_eq h1208)), (beqb_t (igt_eq h1208)), (beqb_t (igt_eq h1208)), (beqb_t (igt_eq h1208)), (beqb_t (igt_eq h1208)), (beqb_t (igt_eq h1208)), (beqb_t (igt_eq h1208)), (beqb_ff (ige_eq h1207)), (igt_eq h1208), (ige_eq h1207), rfl, rfl, trivial⟩
      have h0 := ih _ _ hF
      have hn := fun ex ts' => loop_nextC (h := hn88) (l := 0) (c := c88_0) (ts := F88_l0_0_S a1185 a1187 v1201) (ts1 := (F88_l0_0_S a1185 a1187 (wadd .i64 v1201 1))) (ex := ex) (ts' := ts') (pq1215 (pq1216 (pq1217 pz))) (by kernel_rfl)
      cases r with
      | inl w => exact hn _ _ h0
      | inr w => exact hn _ _ h0
    have hr := Option.some.inj hF
    subst hr
    have pz : HoldAll E H hn88 [.int (nlen (len a1187.In)) (nlen (len a1187.In)), .test (ilt v1201 (nlen (len a1187.In))) false] := ⟨rfl, h1202, trivial⟩
    exact loop_endC (h := hn88) (l := 0) (c := c88_0) (ts := F88_l0_0_S a1185 a1187 v1201) (ts' := F88_l0_0_X1 a1185 a1187 ()) (ex := (.exit 0)) pz (by kernel_rfl) trivial

def F88 (K : Nat) (a1185 : GGraph) (a1186 : GJob) (a1187 : GState) : Option (Bool) :=
  (F59 K a1185 a1186).bind fun r1188 =>
  bif (ieq r1188 0) then
    (bif (ilt a1187.Step 0) then
      (some false)
    else
    bif (ilt 40 a1187.Step) then
      (some false)
    else
    bif (ieq (nlen (len a1187.Vals)) a1185.N) then
      (bif (ieq (nlen (len a1187.Rest)) a1185.N) then
        ((F88_l0_0 K a1185 a1187 K 0).bind fun y1220 =>
        Sum.elim (fun w1221 =>
          some false)
          (fun w1222 =>
          some true) y1220)
      else
      some false)
    else
    some false)
  else
  some false
theorem F88_ok (K : Nat) (a1185 : GGraph) (a1186 : GJob) (a1187 : GState) (r : Bool) (hF : F88 K a1185 a1186 a1187 = some r) : Evt E H 88 [.agg (eGGraph a1185), .agg (eGJob a1186), .agg (eGState a1187)] (F88_res r) := by
  rw [F88] at hF
  refine bind_some hF (fun r1188 h1189 hF => ?_)
  refine cond_some hF (fun h1190 hF => ?_) (fun h1190 hF => ?_)
  ·
    have pq1223 : ∀ {l : List Cond}, HoldAll E H hn88 l → HoldAll E H hn88 (.call 59 [.agg (eGGraph a1185), .agg (eGJob a1186)] (F59_res r1188) :: .test (leadsAny (Res.mk [(.one (.im (.lit (.int .i64 r1188))))] [])) false :: .test (beqb (ine r1188 0) false) true :: .test (beqb (ine r1188 0) false) true :: .test (beqb (ine r1188 0) false) true :: .test (ine r1188 0) false :: l) := fun z => ⟨(F59_ok K a1185 a1186 _ h1189), (leads_ok (by simp only [leadsAny, List.any_cons, List.any_nil, RV.leads, RC.leads, leadsT, hasSl_lit, Bool.or_false, flat_ns (eInt_ns _), flat_ns eBool_ns, flat_ns eStr_ns, flat_ns eGJob_ns, flat_ns eGEdge_ns, flat_ns eGAsked_ns, flat_ns eGMsg_ns, flat_ns eGrule_ns, flat_ns eGA199_ns, flat_ns eGA202_ns])), (beqb_ff (ine_t h1190)), (beqb_ff (ine_t h1190)), (beqb_ff (ine_t h1190)), (ine_t h1190), z⟩
    refine cond_some hF (fun h1191 hF => ?_) (fun h1191 hF => ?_)
    ·
      have hr := Option.some.inj hF
      subst hr
      have pz : HoldAll E H hn88 [.test (beqb (ilt a1187.Step 0) false) false, .test (beqb (ilt a1187.Step 0) false) false, .test (beqb (ilt a1187.Step 0) false) false, .test (ilt a1187.Step 0) true, .test (beqb true false) false, .test (beqb true false) false, .test (beqb true false) false, .test (beqb true false) false, .test (beqb true false) false, .test (beqb true false) false, .test true true, .test (beqb true false) false, .test (beqb true false) false, .test (beqb true false) false, .test (beqb true false) false, .test (beqb true false) false, .test (beqb true false) false, .test true true, .test true true] := ⟨(beqb_ft h1191), (beqb_ft h1191), (beqb_ft h1191), h1191, (beqb_ft rfl), (beqb_ft rfl), (beqb_ft rfl), (beqb_ft rfl), (beqb_ft rfl), (beqb_ft rfl), rfl, (beqb_ft rfl), (beqb_ft rfl), (beqb_ft rfl), (beqb_ft rfl), (beqb_ft rfl), (beqb_ft rfl), rfl, rfl, trivial⟩
      exact fn_playC hn88 (f := 88) (ads := [.agg (eGGraph a1185), .agg (eGJob a1186), .agg (eGState a1187)]) (r := F88_res false) (pq1223 pz) (by kernel_rfl) (by kernel_rfl)
    have pq1224 : ∀ {l : List Cond}, HoldAll E H hn88 l → HoldAll E H hn88 (.test (beqb (ilt a1187.Step 0) false) true :: .test (beqb (ilt a1187.Step 0) false) true :: .test (beqb (ilt a1187.Step 0) false) true :: .test (ilt a1187.Step 0) false :: l) := fun z => ⟨(beqb_ff h1191), (beqb_ff h1191), (beqb_ff h1191), h1191, z⟩
    refine cond_some hF (fun h1192 hF => ?_) (fun h1192 hF => ?_)
    ·
      have hr := Option.some.inj hF
      subst hr
      have pz : HoldAll E H hn88 [.test (beqb (igt a1187.Step 40) false) false, .test (beqb (igt a1187.Step 40) false) false, .test (beqb (igt a1187.Step 40) false) false, .test (beqb (igt a1187.Step 40) false) false, .test (beqb (igt a1187.Step 40) false) false, .test (beqb (igt a1187.Step 40) false) false, .test (igt a1187.Step 40) true, .test (beqb true false) false, .test (beqb true false) false, .test (beqb true false) false, .test (beqb true false) false, .test (beqb true false) false, .test (beqb true false) false, .test true true, .test true true] := ⟨(beqb_ft (igt_eq h1192)), (beqb_ft (igt_eq h1192)), (beqb_ft (igt_eq h1192)), (beqb_ft (igt_eq h1192)), (beqb_ft (igt_eq h1192)), (beqb_ft (igt_eq h1192)), (igt_eq h1192), (beqb_ft rfl), (beqb_ft rfl), (beqb_ft rfl), (beqb_ft rfl), (beqb_ft rfl), (beqb_ft rfl), rfl, rfl, trivial⟩
      exact fn_playC hn88 (f := 88) (ads := [.agg (eGGraph a1185), .agg (eGJob a1186), .agg (eGState a1187)]) (r := F88_res false) (pq1223 (pq1224 pz)) (by kernel_rfl) (by kernel_rfl)
    have pq1225 : ∀ {l : List Cond}, HoldAll E H hn88 l → HoldAll E H hn88 (.test (beqb (igt a1187.Step 40) false) true :: .test (beqb (igt a1187.Step 40) false) true :: .test (beqb (igt a1187.Step 40) false) true :: .int (nlen (len a1187.Vals)) (nlen (len a1187.Vals)) :: .test (beqb (igt a1187.Step 40) false) true :: .test (beqb (igt a1187.Step 40) false) true :: .test (beqb (igt a1187.Step 40) false) true :: .test (igt a1187.Step 40) false :: l) := fun z => ⟨(beqb_ff (igt_eq h1192)), (beqb_ff (igt_eq h1192)), (beqb_ff (igt_eq h1192)), rfl, (beqb_ff (igt_eq h1192)), (beqb_ff (igt_eq h1192)), (beqb_ff (igt_eq h1192)), (igt_eq h1192), z⟩
    refine cond_some hF (fun h1193 hF => ?_) (fun h1193 hF => ?_)
    ·
      have pq1226 : ∀ {l : List Cond}, HoldAll E H hn88 l → HoldAll E H hn88 (.test (beqb (ine (nlen (len a1187.Vals)) a1185.N) false) true :: .test (beqb (ine (nlen (len a1187.Vals)) a1185.N) false) true :: .test (beqb (ine (nlen (len a1187.Vals)) a1185.N) false) true :: .int (nlen (len a1187.Rest)) (nlen (len a1187.Rest)) :: .test (beqb (ine (nlen (len a1187.Vals)) a1185.N) false) true :: .test (beqb (ine (nlen (len a1187.Vals)) a1185.N) false) true :: .test (beqb (ine (nlen (len a1187.Vals)) a1185.N) false) true :: .test (ine (nlen (len a1187.Vals)) a1185.N) false :: l) := fun z => ⟨(beqb_ff (ine_t h1193)), (beqb_ff (ine_t h1193)), (beqb_ff (ine_t h1193)), rfl, (beqb_ff (ine_t h1193)), (beqb_ff (ine_t h1193)), (beqb_ff (ine_t h1193)), (ine_t h1193), z⟩
      refine cond_some hF (fun h1194 hF => ?_) (fun h1194 hF => ?_)
      ·
        refine bind_some hF (fun y1220 h1219 hF => ?_)
        refine sum_some hF (fun w1221 hx hF => ?_) (fun w1222 hx hF => ?_)
        ·
          subst hx
          have hr := Option.some.inj hF
          subst hr
          have pz : HoldAll E H hn88 [.test (ine (nlen (len a1187.Rest)) a1185.N) false, .loop 0 c88_0 (F88_l0_0_S a1185 a1187 0) .ret (F88_l0_0_X0 a1185 a1187 w1221)] := ⟨(ine_t h1194), (F88_l0_0_ok K a1185 a1187 K 0 _ h1219), trivial⟩
          exact fn_playC hn88 (f := 88) (ads := [.agg (eGGraph a1185), .agg (eGJob a1186), .agg (eGState a1187)]) (r := F88_res false) (pq1223 (pq1224 (pq1225 (pq1226 pz)))) (by kernel_rfl) (by kernel_rfl)
        subst hx
        have hr := Option.some.inj hF
        subst hr
        have pz : HoldAll E H hn88 [.test (ine (nlen (len a1187.Rest)) a1185.N) false, .loop 0 c88_0 (F88_l0_0_S a1185 a1187 0) (.exit 0) (F88_l0_0_X1 a1185 a1187 w1222)] := ⟨(ine_t h1194), (F88_l0_0_ok K a1185 a1187 K 0 _ h1219), trivial⟩
        exact fn_playC hn88 (f := 88) (ads := [.agg (eGGraph a1185), .agg (eGJob a1186), .agg (eGState a1187)]) (r := F88_res true) (pq1223 (pq1224 (pq1225 (pq1226 pz)))) (by kernel_rfl) (by kernel_rfl)
      have hr := Option.some.inj hF
      subst hr
      have pz : HoldAll E H hn88 [.test (ine (nlen (len a1187.Rest)) a1185.N) true] := ⟨(ine_f h1194), trivial⟩
      exact fn_playC hn88 (f := 88) (ads := [.agg (eGGraph a1185), .agg (eGJob a1186), .agg (eGState a1187)]) (r := F88_res false) (pq1223 (pq1224 (pq1225 (pq1226 pz)))) (by kernel_rfl) (by kernel_rfl)
    have hr := Option.some.inj hF
    subst hr
    have pz : HoldAll E H hn88 [.test (beqb (ine (nlen (len a1187.Vals)) a1185.N) false) false, .test (beqb (ine (nlen (len a1187.Vals)) a1185.N) false) false, .test (beqb (ine (nlen (len a1187.Vals)) a1185.N) false) false, .test (beqb (ine (nlen (len a1187.Vals)) a1185.N) false) false, .test (beqb (ine (nlen (len a1187.Vals)) a1185.N) false) false, .test (beqb (ine (nlen (len a1187.Vals)) a1185.N) false) false, .test (ine (nlen (len a1187.Vals)) a1185.N) true, .test true true] := ⟨(beqb_ft (ine_f h1193)), (beqb_ft (ine_f h1193)), (beqb_ft (ine_f h1193)), (beqb_ft (ine_f h1193)), (beqb_ft (ine_f h1193)), (beqb_ft (ine_f h1193)), (ine_f h1193), rfl, trivial⟩
    exact fn_playC hn88 (f := 88) (ads := [.agg (eGGraph a1185), .agg (eGJob a1186), .agg (eGState a1187)]) (r := F88_res false) (pq1223 (pq1224 (pq1225 pz))) (by kernel_rfl) (by kernel_rfl)
  have hr := Option.some.inj hF
  subst hr
  have pz : HoldAll E H hn88 [.call 59 [.agg (eGGraph a1185), .agg (eGJob a1186)] (F59_res r1188), .test (leadsAny (Res.mk [(.one (.im (.lit (.int .i64 r1188))))] [])) false, .test (beqb (ine r1188 0) false) false, .test (beqb (ine r1188 0) false) false, .test (beqb (ine r1188 0) false) false, .test (ine r1188 0) true, .test (beqb true false) false, .test (beqb true false) false, .test (beqb true false) false, .test true true, .test (beqb true false) false, .test (beqb true false) false, .test (beqb true false) false, .test (beqb true false) false, .test (beqb true false) false, .test (beqb true false) false, .test true true, .test (beqb true false) false, .test (beqb true false) false, .test (beqb true false) false, .test (beqb true false) false, .test (beqb true false) false, .test (beqb true false) false, .test true true, .test true true] := ⟨(F59_ok K a1185 a1186 _ h1189), (leads_ok (by simp only [leadsAny, List.any_cons, List.any_nil, RV.leads, RC.leads, leadsT, hasSl_lit, Bool.or_false, flat_ns (eInt_ns _), flat_ns eBool_ns, flat_ns eStr_ns, flat_ns eGJob_ns, flat_ns eGEdge_ns, flat_ns eGAsked_ns, flat_ns eGMsg_ns, flat_ns eGrule_ns, flat_ns eGA199_ns, flat_ns eGA202_ns])), (beqb_ft (ine_f h1190)), (beqb_ft (ine_f h1190)), (beqb_ft (ine_f h1190)), (ine_f h1190), (beqb_ft rfl), (beqb_ft rfl), (beqb_ft rfl), rfl, (beqb_ft rfl), (beqb_ft rfl), (beqb_ft rfl), (beqb_ft rfl), (beqb_ft rfl), (beqb_ft rfl), rfl, (beqb_ft rfl), (beqb_ft rfl), (beqb_ft rfl), (beqb_ft rfl), (beqb_ft rfl), (beqb_ft rfl), rfl, rfl, trivial⟩
  exact fn_playC hn88 (f := 88) (ads := [.agg (eGGraph a1185), .agg (eGJob a1186), .agg (eGState a1187)]) (r := F88_res false) pz (by kernel_rfl) (by kernel_rfl)

/-! ### haywain/prog.rules -/
noncomputable def hn143 : Hint := { H 143 with nt := 21, prot := 0 }
def F143_res (r3142 : Grule × Bool) : Res := ⟨[(.agg [(.im (.lit r3142.1.start_)), (.im (.lit r3142.1.better_)), (.im (.lit (.bool r3142.1.only_))), (.im (.lit r3142.1.send_))]), (.one (.im (.lit (.bool r3142.2))))], []⟩
def F143_res0 (r3142 : Grule × Bool) : Res := ⟨[(.agg [(.im (.lit (fnV 158))), (.im (.lit (fnV 159))), (.im (.lit (.bool r3142.1.only_))), (.im (.lit (fnV 160)))]), (.one (.im (.lit (.bool r3142.2))))], []⟩
def F143_res1 (r3142 : Grule × Bool) : Res := ⟨[(.agg [(.im (.lit (fnV 158))), (.im (.lit (fnV 159))), (.im (.lit (.bool r3142.1.only_))), (.im (.lit (fnV 161)))]), (.one (.im (.lit (.bool r3142.2))))], []⟩
def F143_res2 (r3142 : Grule × Bool) : Res := ⟨[(.agg [(.im (.lit (fnV 162))), (.im (.lit (fnV 159))), (.im (.lit (.bool r3142.1.only_))), (.im (.lit (fnV 163)))]), (.one (.im (.lit (.bool r3142.2))))], []⟩
def F143_res3 (r3142 : Grule × Bool) : Res := ⟨[(.agg [(.im (.lit (fnV 164))), (.im (.lit (fnV 165))), (.im (.lit (.bool r3142.1.only_))), (.im (.lit (fnV 163)))]), (.one (.im (.lit (.bool r3142.2))))], []⟩
def F143_res4 (r3142 : Grule × Bool) : Res := ⟨[(.agg [(.im (.lit (fnV 166))), (.im (.lit .nilFunc)), (.im (.lit (.bool r3142.1.only_))), (.im (.lit (fnV 163)))]), (.one (.im (.lit (.bool r3142.2))))], []⟩
def F143_res5 (r3142 : Grule × Bool) : Res := ⟨[(.agg [(.im (.lit .nilFunc)), (.im (.lit .nilFunc)), (.im (.lit (.bool r3142.1.only_))), (.im (.lit .nilFunc))]), (.one (.im (.lit (.bool r3142.2))))], []⟩
def F143 (K : Nat) (a3135 : Int) : Option (Grule × Bool) :=
  bif (ieq a3135 1) then
    (some ((Grule.mk (fnV 158) (fnV 159) true (fnV 160)), true))
  else
  bif (ieq a3135 3) then
    (some ((Grule.mk (fnV 158) (fnV 159) true (fnV 161)), true))
  else
  bif (ieq a3135 2) then
    (some ((Grule.mk (fnV 162) (fnV 159) false (fnV 163)), true))
  else
  bif (ieq a3135 4) then
    (some ((Grule.mk (fnV 164) (fnV 165) false (fnV 163)), true))
  else
  bif (ieq a3135 5) then
    (some ((Grule.mk (fnV 166) .nilFunc false (fnV 163)), true))
  else
  some ((Grule.mk .nilFunc .nilFunc false .nilFunc), false)
theorem F143_ok (K : Nat) (a3135 : Int) (r : Grule × Bool) (hF : F143 K a3135 = some r) : Evt E H 143 [.one (.lit (.int .i64 a3135))] (F143_res r) := by
  rw [F143] at hF
  refine cond_some hF (fun h3136 hF => ?_) (fun h3136 hF => ?_)
  ·
    have hr := Option.some.inj hF
    subst hr
    have pz : HoldAll E H hn143 [.test (ieq a3135 1) true] := ⟨h3136, trivial⟩
    exact fn_playC hn143 (f := 143) (ads := [.one (.lit (.int .i64 a3135))]) (r := F143_res ((Grule.mk (fnV 158) (fnV 159) true (fnV 160)), true)) pz (by kernel_rfl) (by kernel_rfl)
  refine cond_some hF (fun h3137 hF => ?_) (fun h3137 hF => ?_)
  ·
    have hr := Option.some.inj hF
    subst hr
    have pz : HoldAll E H hn143 [.test (ieq a3135 1) false, .test (ieq a3135 3) true] := ⟨h3136, h3137, trivial⟩
    exact fn_playC hn143 (f := 143) (ads := [.one (.lit (.int .i64 a3135))]) (r := F143_res ((Grule.mk (fnV 158) (fnV 159) true (fnV 161)), true)) pz (by kernel_rfl) (by kernel_rfl)
  refine cond_some hF (fun h3138 hF => ?_) (fun h3138 hF => ?_)
  ·
    have hr := Option.some.inj hF
    subst hr
    have pz : HoldAll E H hn143 [.test (ieq a3135 1) false, .test (ieq a3135 3) false, .test (ieq a3135 2) true] := ⟨h3136, h3137, h3138, trivial⟩
    exact fn_playC hn143 (f := 143) (ads := [.one (.lit (.int .i64 a3135))]) (r := F143_res ((Grule.mk (fnV 162) (fnV 159) false (fnV 163)), true)) pz (by kernel_rfl) (by kernel_rfl)
  have pq3141 : ∀ {l : List Cond}, HoldAll E H hn143 l → HoldAll E H hn143 (.test (ieq a3135 1) false :: .test (ieq a3135 3) false :: .test (ieq a3135 2) false :: l) := fun z => ⟨h3136, h3137, h3138, z⟩
  refine cond_some hF (fun h3139 hF => ?_) (fun h3139 hF => ?_)
  ·
    have hr := Option.some.inj hF
    subst hr
    have pz : HoldAll E H hn143 [.test (ieq a3135 4) true] := ⟨h3139, trivial⟩
    exact fn_playC hn143 (f := 143) (ads := [.one (.lit (.int .i64 a3135))]) (r := F143_res ((Grule.mk (fnV 164) (fnV 165) false (fnV 163)), true)) (pq3141 pz) (by kernel_rfl) (by kernel_rfl)
  refine cond_some hF (fun h3140 hF => ?_) (fun h3140 hF => ?_)
  ·
    have hr := Option.some.inj hF
    subst hr
    have pz : HoldAll E H hn143 [.test (ieq a3135 4) false, .test (ieq a3135 5) true] := ⟨h3139, h3140, trivial⟩
    exact fn_playC hn143 (f := 143) (ads := [.one (.lit (.int .i64 a3135))]) (r := F143_res ((Grule.mk (fnV 166) .nilFunc false (fnV 163)), true)) (pq3141 pz) (by kernel_rfl) (by kernel_rfl)
  have hr := Option.some.inj hF
  subst hr
  have pz : HoldAll E H hn143 [.test (ieq a3135 4) false, .test (ieq a3135 5) false] := ⟨h3139, h3140, trivial⟩
  exact fn_playC hn143 (f := 143) (ads := [.one (.lit (.int .i64 a3135))]) (r := F143_res ((Grule.mk .nilFunc .nilFunc false .nilFunc), false)) (pq3141 pz) (by kernel_rfl) (by kernel_rfl)

theorem F143_ok0 {ads : List AD} (r3142 : Grule × Bool) (e : areFns [r3142.1.start_, r3142.1.better_, r3142.1.send_] [158, 159, 160] = true) (h : Evt E H 143 ads (F143_res r3142)) : Evt E H 143 ads (F143_res0 r3142) := by
  obtain ⟨q0, e⟩ := areFns_cons e
  obtain ⟨q1, e⟩ := areFns_cons e
  obtain ⟨q2, e⟩ := areFns_cons e
  unfold F143_res at h
  rw [q0, q1, q2] at h
  exact h
theorem F143_ok1 {ads : List AD} (r3142 : Grule × Bool) (e : areFns [r3142.1.start_, r3142.1.better_, r3142.1.send_] [158, 159, 161] = true) (h : Evt E H 143 ads (F143_res r3142)) : Evt E H 143 ads (F143_res1 r3142) := by
  obtain ⟨q0, e⟩ := areFns_cons e
  obtain ⟨q1, e⟩ := areFns_cons e
  obtain ⟨q2, e⟩ := areFns_cons e
  unfold F143_res at h
  rw [q0, q1, q2] at h
  exact h
theorem F143_ok2 {ads : List AD} (r3142 : Grule × Bool) (e : areFns [r3142.1.start_, r3142.1.better_, r3142.1.send_] [162, 159, 163] = true) (h : Evt E H 143 ads (F143_res r3142)) : Evt E H 143 ads (F143_res2 r3142) := by
  obtain ⟨q0, e⟩ := areFns_cons e
  obtain ⟨q1, e⟩ := areFns_cons e
  obtain ⟨q2, e⟩ := areFns_cons e
  unfold F143_res at h
  rw [q0, q1, q2] at h
  exact h
theorem F143_ok3 {ads : List AD} (r3142 : Grule × Bool) (e : areFns [r3142.1.start_, r3142.1.better_, r3142.1.send_] [164, 165, 163] = true) (h : Evt E H 143 ads (F143_res r3142)) : Evt E H 143 ads (F143_res3 r3142) := by
  obtain ⟨q0, e⟩ := areFns_cons e
  obtain ⟨q1, e⟩ := areFns_cons e
  obtain ⟨q2, e⟩ := areFns_cons e
  unfold F143_res at h
  rw [q0, q1, q2] at h
  exact h
theorem F143_ok4 {ads : List AD} (r3142 : Grule × Bool) (e : areFns [r3142.1.start_, r3142.1.better_, r3142.1.send_] [166, 0, 163] = true) (h : Evt E H 143 ads (F143_res r3142)) : Evt E H 143 ads (F143_res4 r3142) := by
  obtain ⟨q0, e⟩ := areFns_cons e
  obtain ⟨q1, e⟩ := areFns_cons e
  obtain ⟨q2, e⟩ := areFns_cons e
  unfold F143_res at h
  rw [q0, q1, q2] at h
  exact h
theorem F143_ok5 {ads : List AD} (r3142 : Grule × Bool) (e : areFns [r3142.1.start_, r3142.1.better_, r3142.1.send_] [0, 0, 0] = true) (h : Evt E H 143 ads (F143_res r3142)) : Evt E H 143 ads (F143_res5 r3142) := by
  obtain ⟨q0, e⟩ := areFns_cons e
  obtain ⟨q1, e⟩ := areFns_cons e
  obtain ⟨q2, e⟩ := areFns_cons e
  unfold F143_res at h
  rw [q0, q1, q2] at h
  exact h
/-! ### haywain/prog.Check -/
noncomputable def hn94 : Hint := { H 94 with nt := 53, prot := 0 }
def F94_res (r3230 : Int) : Res := ⟨[(.one (.im (.lit (.int .i64 r3230))))], []⟩
def F94 (K : Nat) (a3130 : GGraph) (a3131 : GJob) : Option (Int) :=
  (F64 K a3130).bind fun r3132 =>
  bif (ieq r3132 0) then
    ((F143 K a3131.Prog).bind fun r3143 =>
    bif (areFns [r3143.1.start_, r3143.1.better_, r3143.1.send_] [158, 159, 160]) then
      (bif r3143.2 then
        (bif (ilt a3131.Source 0) then
          (some 1)
        else
        bif (ile a3130.N a3131.Source) then
          (some 1)
        else
        bif (ilt a3131.Limit 0) then
          (some 1)
        else
        bif (ilt 40 a3131.Limit) then
          (some 1)
        else
        bif (ilt a3131.Parts 1) then
          (some 1)
        else
        bif (ilt 6 a3131.Parts) then
          (some 1)
        else
        some 0)
      else
      some 1)
    else
    bif (areFns [r3143.1.start_, r3143.1.better_, r3143.1.send_] [158, 159, 161]) then
      (bif r3143.2 then
        (bif (ilt a3131.Source 0) then
          (some 1)
        else
        bif (ile a3130.N a3131.Source) then
          (some 1)
        else
        bif (ilt a3131.Limit 0) then
          (some 1)
        else
        bif (ilt 40 a3131.Limit) then
          (some 1)
        else
        bif (ilt a3131.Parts 1) then
          (some 1)
        else
        bif (ilt 6 a3131.Parts) then
          (some 1)
        else
        some 0)
      else
      some 1)
    else
    bif (areFns [r3143.1.start_, r3143.1.better_, r3143.1.send_] [162, 159, 163]) then
      (bif r3143.2 then
        (bif (ilt a3131.Source 0) then
          (some 1)
        else
        bif (ile a3130.N a3131.Source) then
          (some 1)
        else
        bif (ilt a3131.Limit 0) then
          (some 1)
        else
        bif (ilt 40 a3131.Limit) then
          (some 1)
        else
        bif (ilt a3131.Parts 1) then
          (some 1)
        else
        bif (ilt 6 a3131.Parts) then
          (some 1)
        else
        some 0)
      else
      some 1)
    else
    bif (areFns [r3143.1.start_, r3143.1.better_, r3143.1.send_] [164, 165, 163]) then
      (bif r3143.2 then
        (bif (ilt a3131.Source 0) then
          (some 1)
        else
        bif (ile a3130.N a3131.Source) then
          (some 1)
        else
        bif (ilt a3131.Limit 0) then
          (some 1)
        else
        bif (ilt 40 a3131.Limit) then
          (some 1)
        else
        bif (ilt a3131.Parts 1) then
          (some 1)
        else
        bif (ilt 6 a3131.Parts) then
          (some 1)
        else
        some 0)
      else
      some 1)
    else
    bif (areFns [r3143.1.start_, r3143.1.better_, r3143.1.send_] [166, 0, 163]) then
      (bif r3143.2 then
        (bif (ilt a3131.Source 0) then
          (some 1)
        else
        bif (ile a3130.N a3131.Source) then
          (some 1)
        else
        bif (ilt a3131.Limit 0) then
          (some 1)
        else
        bif (ilt 40 a3131.Limit) then
          (some 1)
        else
        bif (ilt a3131.Parts 1) then
          (some 1)
        else
        bif (ilt 6 a3131.Parts) then
          (some 1)
        else
        some 0)
      else
      some 1)
    else
    bif (areFns [r3143.1.start_, r3143.1.better_, r3143.1.send_] [0, 0, 0]) then
    bif r3143.2 then
      (bif (ilt a3131.Source 0) then
        (some 1)
      else
      bif (ile a3130.N a3131.Source) then
        (some 1)
      else
      bif (ilt a3131.Limit 0) then
        (some 1)
      else
      bif (ilt 40 a3131.Limit) then
        (some 1)
      else
      bif (ilt a3131.Parts 1) then
        (some 1)
      else
      bif (ilt 6 a3131.Parts) then
        (some 1)
      else
      some 0)
    else
    some 1
    else none)
  else
  some r3132
theorem F94_ok (K : Nat) (a3130 : GGraph) (a3131 : GJob) (r : Int) (hF : F94 K a3130 a3131 = some r) : Evt E H 94 [.agg (eGGraph a3130), .agg (eGJob a3131)] (F94_res r) := by
  rw [F94] at hF
  refine bind_some hF (fun r3132 h3133 hF => ?_)
  refine cond_some hF (fun h3134 hF => ?_) (fun h3134 hF => ?_)
  ·
    refine bind_some hF (fun r3143 h3144 hF => ?_)
    have pq3193 : ∀ {l : List Cond}, HoldAll E H hn94 l → HoldAll E H hn94 (.call 64 [.agg (eGGraph a3130)] (F64_res r3132) :: .test (leadsAny (Res.mk [(.one (.im (.lit (.int .i64 r3132))))] [])) false :: .test (ine r3132 0) false :: l) := fun z => ⟨(F64_ok K a3130 _ h3133), (leads_ok (by simp only [leadsAny, List.any_cons, List.any_nil, RV.leads, RC.leads, leadsT, hasSl_lit, Bool.or_false, flat_ns (eInt_ns _), flat_ns eBool_ns, flat_ns eStr_ns, flat_ns eGJob_ns, flat_ns eGEdge_ns, flat_ns eGAsked_ns, flat_ns eGMsg_ns, flat_ns eGrule_ns, flat_ns eGA199_ns, flat_ns eGA202_ns])), (ine_t h3134), z⟩
    refine cond_some hF (fun h3145 hF => ?_) (fun h3145 hF => ?_)
    ·
      refine cond_some hF (fun h3146 hF => ?_) (fun h3146 hF => ?_)
      ·
        have pq3194 : ∀ {l : List Cond}, HoldAll E H hn94 l → HoldAll E H hn94 (.call 143 [.one (.lit (.int .i64 a3131.Prog))] (F143_res0 r3143) :: .test (leadsAny (Res.mk [(.agg [(.im (.lit (fnV 158))), (.im (.lit (fnV 159))), (.im (.lit (.bool r3143.1.only_))), (.im (.lit (fnV 160)))]), (.one (.im (.lit (.bool r3143.2))))] [])) false :: .test (beqb (bnot r3143.2) false) true :: .test (beqb (bnot r3143.2) false) true :: .test (beqb (bnot r3143.2) false) true :: .test (bnot r3143.2) false :: l) := fun z => ⟨(F143_ok0 _ h3145 (F143_ok K a3131.Prog _ h3144)), (leads_ok (by simp only [leadsAny, List.any_cons, List.any_nil, RV.leads, RC.leads, leadsT, hasSl_lit, Bool.or_false, flat_ns (eInt_ns _), flat_ns eBool_ns, flat_ns eStr_ns, flat_ns eGJob_ns, flat_ns eGEdge_ns, flat_ns eGAsked_ns, flat_ns eGMsg_ns, flat_ns eGrule_ns, flat_ns eGA199_ns, flat_ns eGA202_ns])), (beqb_ff (bnot_t h3146)), (beqb_ff (bnot_t h3146)), (beqb_ff (bnot_t h3146)), (bnot_t h3146), z⟩
        refine cond_some hF (fun h3147 hF => ?_) (fun h3147 hF => ?_)
        ·
          have hr := Option.some.inj hF
          subst hr
          have pz : HoldAll E H hn94 [.test (beqb (ilt a3131.Source 0) false) false, .test (beqb (ilt a3131.Source 0) false) false, .test (beqb (ilt a3131.Source 0) false) false, .test (beqb (ilt a3131.Source 0) false) false, .test (beqb (ilt a3131.Source 0) false) false, .test (ilt a3131.Source 0) true, .test (beqb true false) false, .test (beqb true false) false, .test (beqb true false) false, .test true true, .test (beqb true false) false, .test (beqb true false) false, .test (beqb true false) false, .test true true, .test (beqb true false) false, .test (beqb true false) false, .test (beqb true false) false, .test true true, .test (beqb true false) false, .test (beqb true false) false, .test (beqb true false) false, .test true true, .test true true] := ⟨(beqb_ft h3147), (beqb_ft h3147), (beqb_ft h3147), (beqb_ft h3147), (beqb_ft h3147), h3147, (beqb_ft rfl), (beqb_ft rfl), (beqb_ft rfl), rfl, (beqb_ft rfl), (beqb_ft rfl), (beqb_ft rfl), rfl, (beqb_ft rfl), (beqb_ft rfl), (beqb_ft rfl), rfl, (beqb_ft rfl), (beqb_ft rfl), (beqb_ft rfl), rfl, rfl, trivial⟩
          exact fn_playC hn94 (f := 94) (ads := [.agg (eGGraph a3130), .agg (eGJob a3131)]) (r := F94_res 1) (pq3193 (pq3194 pz)) (by kernel_rfl) (by kernel_rfl)
        have pq3195 : ∀ {l : List Cond}, HoldAll E H hn94 l → HoldAll E H hn94 (.test (beqb (ilt a3131.Source 0) false) true :: .test (beqb (ilt a3131.Source 0) false) true :: .test (beqb (ilt a3131.Source 0) false) true :: .test (beqb (ilt a3131.Source 0) false) true :: .test (beqb (ilt a3131.Source 0) false) true :: .test (ilt a3131.Source 0) false :: l) := fun z => ⟨(beqb_ff h3147), (beqb_ff h3147), (beqb_ff h3147), (beqb_ff h3147), (beqb_ff h3147), h3147, z⟩
        refine cond_some hF (fun h3148 hF => ?_) (fun h3148 hF => ?_)
        ·
          have hr := Option.some.inj hF
          subst hr
          have pz : HoldAll E H hn94 [.test (beqb (ige a3131.Source a3130.N) false) false, .test (beqb (ige a3131.Source a3130.N) false) false, .test (beqb (ige a3131.Source a3130.N) false) false, .test (ige a3131.Source a3130.N) true, .test (beqb true false) false, .test (beqb true false) false, .test (beqb true false) false, .test true true, .test (beqb true false) false, .test (beqb true false) false, .test (beqb true false) false, .test true true, .test (beqb true false) false, .test (beqb true false) false, .test (beqb true false) false, .test true true, .test true true] := ⟨(beqb_ft (ige_eq h3148)), (beqb_ft (ige_eq h3148)), (beqb_ft (ige_eq h3148)), (ige_eq h3148), (beqb_ft rfl), (beqb_ft rfl), (beqb_ft rfl), rfl, (beqb_ft rfl), (beqb_ft rfl), (beqb_ft rfl), rfl, (beqb_ft rfl), (beqb_ft rfl), (beqb_ft rfl), rfl, rfl, trivial⟩
          exact fn_playC hn94 (f := 94) (ads := [.agg (eGGraph a3130), .agg (eGJob a3131)]) (r := F94_res 1) (pq3193 (pq3194 (pq3195 pz))) (by kernel_rfl) (by kernel_rfl)
        have pq3196 : ∀ {l : List Cond}, HoldAll E H hn94 l → HoldAll E H hn94 (.test (beqb (ige a3131.Source a3130.N) false) true :: .test (beqb (ige a3131.Source a3130.N) false) true :: .test (beqb (ige a3131.Source a3130.N) false) true :: .test (ige a3131.Source a3130.N) false :: l) := fun z => ⟨(beqb_ff (ige_eq h3148)), (beqb_ff (ige_eq h3148)), (beqb_ff (ige_eq h3148)), (ige_eq h3148), z⟩
        refine cond_some hF (fun h3149 hF => ?_) (fun h3149 hF => ?_)
        ·
          have hr := Option.some.inj hF
          subst hr
          have pz : HoldAll E H hn94 [.test (beqb (ilt a3131.Limit 0) false) false, .test (beqb (ilt a3131.Limit 0) false) false, .test (beqb (ilt a3131.Limit 0) false) false, .test (ilt a3131.Limit 0) true, .test (beqb true false) false, .test (beqb true false) false, .test (beqb true false) false, .test true true, .test (beqb true false) false, .test (beqb true false) false, .test (beqb true false) false, .test true true, .test true true] := ⟨(beqb_ft h3149), (beqb_ft h3149), (beqb_ft h3149), h3149, (beqb_ft rfl), (beqb_ft rfl), (beqb_ft rfl), rfl, (beqb_ft rfl), (beqb_ft rfl), (beqb_ft rfl), rfl, rfl, trivial⟩
          exact fn_playC hn94 (f := 94) (ads := [.agg (eGGraph a3130), .agg (eGJob a3131)]) (r := F94_res 1) (pq3193 (pq3194 (pq3195 (pq3196 pz)))) (by kernel_rfl) (by kernel_rfl)
        have pq3197 : ∀ {l : List Cond}, HoldAll E H hn94 l → HoldAll E H hn94 (.test (beqb (ilt a3131.Limit 0) false) true :: .test (beqb (ilt a3131.Limit 0) false) true :: .test (beqb (ilt a3131.Limit 0) false) true :: .test (ilt a3131.Limit 0) false :: l) := fun z => ⟨(beqb_ff h3149), (beqb_ff h3149), (beqb_ff h3149), h3149, z⟩
        refine cond_some hF (fun h3150 hF => ?_) (fun h3150 hF => ?_)
        ·
          have hr := Option.some.inj hF
          subst hr
          have pz : HoldAll E H hn94 [.test (beqb (igt a3131.Limit 40) false) false, .test (beqb (igt a3131.Limit 40) false) false, .test (beqb (igt a3131.Limit 40) false) false, .test (igt a3131.Limit 40) true, .test (beqb true false) false, .test (beqb true false) false, .test (beqb true false) false, .test true true, .test true true] := ⟨(beqb_ft (igt_eq h3150)), (beqb_ft (igt_eq h3150)), (beqb_ft (igt_eq h3150)), (igt_eq h3150), (beqb_ft rfl), (beqb_ft rfl), (beqb_ft rfl), rfl, rfl, trivial⟩
          exact fn_playC hn94 (f := 94) (ads := [.agg (eGGraph a3130), .agg (eGJob a3131)]) (r := F94_res 1) (pq3193 (pq3194 (pq3195 (pq3196 (pq3197 pz))))) (by kernel_rfl) (by kernel_rfl)
        have pq3198 : ∀ {l : List Cond}, HoldAll E H hn94 l → HoldAll E H hn94 (.test (beqb (igt a3131.Limit 40) false) true :: .test (beqb (igt a3131.Limit 40) false) true :: .test (beqb (igt a3131.Limit 40) false) true :: .test (igt a3131.Limit 40) false :: l) := fun z => ⟨(beqb_ff (igt_eq h3150)), (beqb_ff (igt_eq h3150)), (beqb_ff (igt_eq h3150)), (igt_eq h3150), z⟩
        refine cond_some hF (fun h3151 hF => ?_) (fun h3151 hF => ?_)
        ·
          have hr := Option.some.inj hF
          subst hr
          have pz : HoldAll E H hn94 [.test (beqb (ilt a3131.Parts 1) false) false, .test (beqb (ilt a3131.Parts 1) false) false, .test (beqb (ilt a3131.Parts 1) false) false, .test (ilt a3131.Parts 1) true, .test true true] := ⟨(beqb_ft h3151), (beqb_ft h3151), (beqb_ft h3151), h3151, rfl, trivial⟩
          exact fn_playC hn94 (f := 94) (ads := [.agg (eGGraph a3130), .agg (eGJob a3131)]) (r := F94_res 1) (pq3193 (pq3194 (pq3195 (pq3196 (pq3197 (pq3198 pz)))))) (by kernel_rfl) (by kernel_rfl)
        have pq3199 : ∀ {l : List Cond}, HoldAll E H hn94 l → HoldAll E H hn94 (.test (beqb (ilt a3131.Parts 1) false) true :: .test (beqb (ilt a3131.Parts 1) false) true :: .test (beqb (ilt a3131.Parts 1) false) true :: .test (ilt a3131.Parts 1) false :: l) := fun z => ⟨(beqb_ff h3151), (beqb_ff h3151), (beqb_ff h3151), h3151, z⟩
        refine cond_some hF (fun h3152 hF => ?_) (fun h3152 hF => ?_)
        ·
          have hr := Option.some.inj hF
          subst hr
          have pz : HoldAll E H hn94 [.test (igt a3131.Parts 6) true] := ⟨(igt_eq h3152), trivial⟩
          exact fn_playC hn94 (f := 94) (ads := [.agg (eGGraph a3130), .agg (eGJob a3131)]) (r := F94_res 1) (pq3193 (pq3194 (pq3195 (pq3196 (pq3197 (pq3198 (pq3199 pz))))))) (by kernel_rfl) (by kernel_rfl)
        have hr := Option.some.inj hF
        subst hr
        have pz : HoldAll E H hn94 [.test (igt a3131.Parts 6) false] := ⟨(igt_eq h3152), trivial⟩
        exact fn_playC hn94 (f := 94) (ads := [.agg (eGGraph a3130), .agg (eGJob a3131)]) (r := F94_res 0) (pq3193 (pq3194 (pq3195 (pq3196 (pq3197 (pq3198 (pq3199 pz))))))) (by kernel_rfl) (by kernel_rfl)
      have hr := Option.some.inj hF
      subst hr
      have pz : HoldAll E H hn94 [.call 143 [.one (.lit (.int .i64 a3131.Prog))] (F143_res0 r3143), .test (leadsAny (Res.mk [(.agg [(.im (.lit (fnV 158))), (.im (.lit (fnV 159))), (.im (.lit (.bool r3143.1.only_))), (.im (.lit (fnV 160)))]), (.one (.im (.lit (.bool r3143.2))))] [])) false, .test (beqb (bnot r3143.2) false) false, .test (beqb (bnot r3143.2) false) false, .test (beqb (bnot r3143.2) false) false, .test (bnot r3143.2) true, .test (beqb true false) false, .test (beqb true false) false, .test (beqb true false) false, .test (beqb true false) false, .test (beqb true false) false, .test true true, .test (beqb true false) false, .test (beqb true false) false, .test (beqb true false) false, .test true true, .test (beqb true false) false, .test (beqb true false) false, .test (beqb true false) false, .test true true, .test (beqb true false) false, .test (beqb true false) false, .test (beqb true false) false, .test true true, .test (beqb true false) false, .test (beqb true false) false, .test (beqb true false) false, .test true true, .test true true] := ⟨(F143_ok0 _ h3145 (F143_ok K a3131.Prog _ h3144)), (leads_ok (by simp only [leadsAny, List.any_cons, List.any_nil, RV.leads, RC.leads, leadsT, hasSl_lit, Bool.or_false, flat_ns (eInt_ns _), flat_ns eBool_ns, flat_ns eStr_ns, flat_ns eGJob_ns, flat_ns eGEdge_ns, flat_ns eGAsked_ns, flat_ns eGMsg_ns, flat_ns eGrule_ns, flat_ns eGA199_ns, flat_ns eGA202_ns])), (beqb_ft (bnot_f h3146)), (beqb_ft (bnot_f h3146)), (beqb_ft (bnot_f h3146)), (bnot_f h3146), (beqb_ft rfl), (beqb_ft rfl), (beqb_ft rfl), (beqb_ft rfl), (beqb_ft rfl), rfl, (beqb_ft rfl), (beqb_ft rfl), (beqb_ft rfl), rfl, (beqb_ft rfl), (beqb_ft rfl), (beqb_ft rfl), rfl, (beqb_ft rfl), (beqb_ft rfl), (beqb_ft rfl), rfl, (beqb_ft rfl), (beqb_ft rfl), (beqb_ft rfl), rfl, rfl, trivial⟩
      exact fn_playC hn94 (f := 94) (ads := [.agg (eGGraph a3130), .agg (eGJob a3131)]) (r := F94_res 1) (pq3193 pz) (by kernel_rfl) (by kernel_rfl)
    refine cond_some hF (fun h3153 hF => ?_) (fun h3153 hF => ?_)
    ·
      refine cond_some hF (fun h3154 hF => ?_) (fun h3154 hF => ?_)
      ·
        have pq3200 : ∀ {l : List Cond}, HoldAll E H hn94 l → HoldAll E H hn94 (.call 143 [.one (.lit (.int .i64 a3131.Prog))] (F143_res1 r3143) :: .test (leadsAny (Res.mk [(.agg [(.im (.lit (fnV 158))), (.im (.lit (fnV 159))), (.im (.lit (.bool r3143.1.only_))), (.im (.lit (fnV 161)))]), (.one (.im (.lit (.bool r3143.2))))] [])) false :: .test (beqb (bnot r3143.2) false) true :: .test (beqb (bnot r3143.2) false) true :: .test (beqb (bnot r3143.2) false) true :: .test (bnot r3143.2) false :: l) := fun z => ⟨(F143_ok1 _ h3153 (F143_ok K a3131.Prog _ h3144)), (leads_ok (by simp only [leadsAny, List.any_cons, List.any_nil, RV.leads, RC.leads, leadsT, hasSl_lit, Bool.or_false, flat_ns (eInt_ns _), flat_ns eBool_ns, flat_ns eStr_ns, flat_ns eGJob_ns, flat_ns eGEdge_ns, flat_ns eGAsked_ns, flat_ns eGMsg_ns, flat_ns eGrule_ns, flat_ns eGA199_ns, flat_ns eGA202_ns])), (beqb_ff (bnot_t h3154)), (beqb_ff (bnot_t h3154)), (beqb_ff (bnot_t h3154)), (bnot_t h3154), z⟩
        refine cond_some hF (fun h3155 hF => ?_) (fun h3155 hF => ?_)
        ·
          have hr := Option.some.inj hF
          subst hr
          have pz : HoldAll E H hn94 [.test (beqb (ilt a3131.Source 0) false) false, .test (beqb (ilt a3131.Source 0) false) false, .test (beqb (ilt a3131.Source 0) false) false, .test (beqb (ilt a3131.Source 0) false) false, .test (beqb (ilt a3131.Source 0) false) false, .test (ilt a3131.Source 0) true, .test (beqb true false) false, .test (beqb true false) false, .test (beqb true false) false, .test true true, .test (beqb true false) false, .test (beqb true false) false, .test (beqb true false) false, .test true true, .test (beqb true false) false, .test (beqb true false) false, .test (beqb true false) false, .test true true, .test (beqb true false) false, .test (beqb true false) false, .test (beqb true false) false, .test true true, .test true true] := ⟨(beqb_ft h3155), (beqb_ft h3155), (beqb_ft h3155), (beqb_ft h3155), (beqb_ft h3155), h3155, (beqb_ft rfl), (beqb_ft rfl), (beqb_ft rfl), rfl, (beqb_ft rfl), (beqb_ft rfl), (beqb_ft rfl), rfl, (beqb_ft rfl), (beqb_ft rfl), (beqb_ft rfl), rfl, (beqb_ft rfl), (beqb_ft rfl), (beqb_ft rfl), rfl, rfl, trivial⟩
          exact fn_playC hn94 (f := 94) (ads := [.agg (eGGraph a3130), .agg (eGJob a3131)]) (r := F94_res 1) (pq3193 (pq3200 pz)) (by kernel_rfl) (by kernel_rfl)
        have pq3201 : ∀ {l : List Cond}, HoldAll E H hn94 l → HoldAll E H hn94 (.test (beqb (ilt a3131.Source 0) false) true :: .test (beqb (ilt a3131.Source 0) false) true :: .test (beqb (ilt a3131.Source 0) false) true :: .test (beqb (ilt a3131.Source 0) false) true :: .test (beqb (ilt a3131.Source 0) false) true :: .test (ilt a3131.Source 0) false :: l) := fun z => ⟨(beqb_ff h3155), (beqb_ff h3155), (beqb_ff h3155), (beqb_ff h3155), (beqb_ff h3155), h3155, z⟩
        refine cond_some hF (fun h3156 hF => ?_) (fun h3156 hF => ?_)
        ·
          have hr := Option.some.inj hF
          subst hr
          have pz : HoldAll E H hn94 [.test (beqb (ige a3131.Source a3130.N) false) false, .test (beqb (ige a3131.Source a3130.N) false) false, .test (beqb (ige a3131.Source a3130.N) false) false, .test (ige a3131.Source a3130.N) true, .test (beqb true false) false, .test (beqb true false) false, .test (beqb true false) false, .test true true, .test (beqb true false) false, .test (beqb true false) false, .test (beqb true false) false, .test true true, .test (beqb true false) false, .test (beqb true false) false, .test (beqb true false) false, .test true true, .test true true] := ⟨(beqb_ft (ige_eq h3156)), (beqb_ft (ige_eq h3156)), (beqb_ft (ige_eq h3156)), (ige_eq h3156), (beqb_ft rfl), (beqb_ft rfl), (beqb_ft rfl), rfl, (beqb_ft rfl), (beqb_ft rfl), (beqb_ft rfl), rfl, (beqb_ft rfl), (beqb_ft rfl), (beqb_ft rfl), rfl, rfl, trivial⟩
          exact fn_playC hn94 (f := 94) (ads := [.agg (eGGraph a3130), .agg (eGJob a3131)]) (r := F94_res 1) (pq3193 (pq3200 (pq3201 pz))) (by kernel_rfl) (by kernel_rfl)
        have pq3202 : ∀ {l : List Cond}, HoldAll E H hn94 l → HoldAll E H hn94 (.test (beqb (ige a3131.Source a3130.N) false) true :: .test (beqb (ige a3131.Source a3130.N) false) true :: .test (beqb (ige a3131.Source a3130.N) false) true :: .test (ige a3131.Source a3130.N) false :: l) := fun z => ⟨(beqb_ff (ige_eq h3156)), (beqb_ff (ige_eq h3156)), (beqb_ff (ige_eq h3156)), (ige_eq h3156), z⟩
        refine cond_some hF (fun h3157 hF => ?_) (fun h3157 hF => ?_)
        ·
          have hr := Option.some.inj hF
          subst hr
          have pz : HoldAll E H hn94 [.test (beqb (ilt a3131.Limit 0) false) false, .test (beqb (ilt a3131.Limit 0) false) false, .test (beqb (ilt a3131.Limit 0) false) false, .test (ilt a3131.Limit 0) true, .test (beqb true false) false, .test (beqb true false) false, .test (beqb true false) false, .test true true, .test (beqb true false) false, .test (beqb true false) false, .test (beqb true false) false, .test true true, .test true true] := ⟨(beqb_ft h3157), (beqb_ft h3157), (beqb_ft h3157), h3157, (beqb_ft rfl), (beqb_ft rfl), (beqb_ft rfl), rfl, (beqb_ft rfl), (beqb_ft rfl), (beqb_ft rfl), rfl, rfl, trivial⟩
          exact fn_playC hn94 (f := 94) (ads := [.agg (eGGraph a3130), .agg (eGJob a3131)]) (r := F94_res 1) (pq3193 (pq3200 (pq3201 (pq3202 pz)))) (by kernel_rfl) (by kernel_rfl)
        have pq3203 : ∀ {l : List Cond}, HoldAll E H hn94 l → HoldAll E H hn94 (.test (beqb (ilt a3131.Limit 0) false) true :: .test (beqb (ilt a3131.Limit 0) false) true :: .test (beqb (ilt a3131.Limit 0) false) true :: .test (ilt a3131.Limit 0) false :: l) := fun z => ⟨(beqb_ff h3157), (beqb_ff h3157), (beqb_ff h3157), h3157, z⟩
        refine cond_some hF (fun h3158 hF => ?_) (fun h3158 hF => ?_)
        ·
          have hr := Option.some.inj hF
          subst hr
          have pz : HoldAll E H hn94 [.test (beqb (igt a3131.Limit 40) false) false, .test (beqb (igt a3131.Limit 40) false) false, .test (beqb (igt a3131.Limit 40) false) false, .test (igt a3131.Limit 40) true, .test (beqb true false) false, .test (beqb true false) false, .test (beqb true false) false, .test true true, .test true true] := ⟨(beqb_ft (igt_eq h3158)), (beqb_ft (igt_eq h3158)), (beqb_ft (igt_eq h3158)), (igt_eq h3158), (beqb_ft rfl), (beqb_ft rfl), (beqb_ft rfl), rfl, rfl, trivial⟩
          exact fn_playC hn94 (f := 94) (ads := [.agg (eGGraph a3130), .agg (eGJob a3131)]) (r := F94_res 1) (pq3193 (pq3200 (pq3201 (pq3202 (pq3203 pz))))) (by kernel_rfl) (by kernel_rfl)
        have pq3204 : ∀ {l : List Cond}, HoldAll E H hn94 l → HoldAll E H hn94 (.test (beqb (igt a3131.Limit 40) false) true :: .test (beqb (igt a3131.Limit 40) false) true :: .test (beqb (igt a3131.Limit 40) false) true :: .test (igt a3131.Limit 40) false :: l) := fun z => ⟨(beqb_ff (igt_eq h3158)), (beqb_ff (igt_eq h3158)), (beqb_ff (igt_eq h3158)), (igt_eq h3158), z⟩
        refine cond_some hF (fun h3159 hF => ?_) (fun h3159 hF => ?_)
        ·
          have hr := Option.some.inj hF
          subst hr
          have pz : HoldAll E H hn94 [.test (beqb (ilt a3131.Parts 1) false) false, .test (beqb (ilt a3131.Parts 1) false) false, .test (beqb (ilt a3131.Parts 1) false) false, .test (ilt a3131.Parts 1) true, .test true true] := ⟨(beqb_ft h3159), (beqb_ft h3159), (beqb_ft h3159), h3159, rfl, trivial⟩
          exact fn_playC hn94 (f := 94) (ads := [.agg (eGGraph a3130), .agg (eGJob a3131)]) (r := F94_res 1) (pq3193 (pq3200 (pq3201 (pq3202 (pq3203 (pq3204 pz)))))) (by kernel_rfl) (by kernel_rfl)
        have pq3205 : ∀ {l : List Cond}, HoldAll E H hn94 l → HoldAll E H hn94 (.test (beqb (ilt a3131.Parts 1) false) true :: .test (beqb (ilt a3131.Parts 1) false) true :: .test (beqb (ilt a3131.Parts 1) false) true :: .test (ilt a3131.Parts 1) false :: l) := fun z => ⟨(beqb_ff h3159), (beqb_ff h3159), (beqb_ff h3159), h3159, z⟩
        refine cond_some hF (fun h3160 hF => ?_) (fun h3160 hF => ?_)
        ·
          have hr := Option.some.inj hF
          subst hr
          have pz : HoldAll E H hn94 [.test (igt a3131.Parts 6) true] := ⟨(igt_eq h3160), trivial⟩
          exact fn_playC hn94 (f := 94) (ads := [.agg (eGGraph a3130), .agg (eGJob a3131)]) (r := F94_res 1) (pq3193 (pq3200 (pq3201 (pq3202 (pq3203 (pq3204 (pq3205 pz))))))) (by kernel_rfl) (by kernel_rfl)
        have hr := Option.some.inj hF
        subst hr
        have pz : HoldAll E H hn94 [.test (igt a3131.Parts 6) false] := ⟨(igt_eq h3160), trivial⟩
        exact fn_playC hn94 (f := 94) (ads := [.agg (eGGraph a3130), .agg (eGJob a3131)]) (r := F94_res 0) (pq3193 (pq3200 (pq3201 (pq3202 (pq3203 (pq3204 (pq3205 pz))))))) (by kernel_rfl) (by kernel_rfl)
      have hr := Option.some.inj hF
      subst hr
      have pz : HoldAll E H hn94 [.call 143 [.one (.lit (.int .i64 a3131.Prog))] (F143_res1 r3143), .test (leadsAny (Res.mk [(.agg [(.im (.lit (fnV 158))), (.im (.lit (fnV 159))), (.im (.lit (.bool r3143.1.only_))), (.im (.lit (fnV 161)))]), (.one (.im (.lit (.bool r3143.2))))] [])) false, .test (beqb (bnot r3143.2) false) false, .test (beqb (bnot r3143.2) false) false, .test (beqb (bnot r3143.2) false) false, .test (bnot r3143.2) true, .test (beqb true false) false, .test (beqb true false) false, .test (beqb true false) false, .test (beqb true false) false, .test (beqb true false) false, .test true true, .test (beqb true false) false, .test (beqb true false) false, .test (beqb true false) false, .test true true, .test (beqb true false) false, .test (beqb true false) false, .test (beqb true false) false, .test true true, .test (beqb true false) false, .test (beqb true false) false, .test (beqb true false) false, .test true true, .test (beqb true false) false, .test (beqb true false) false, .test (beqb true false) false, .test true true, .test true true] := ⟨(F143_ok1 _ h3153 (F143_ok K a3131.Prog _ h3144)), (leads_ok (by simp only [leadsAny, List.any_cons, List.any_nil, RV.leads, RC.leads, leadsT, hasSl_lit, Bool.or_false, flat_ns (eInt_ns _), flat_ns eBool_ns, flat_ns eStr_ns, flat_ns eGJob_ns, flat_ns eGEdge_ns, flat_ns eGAsked_ns, flat_ns eGMsg_ns, flat_ns eGrule_ns, flat_ns eGA199_ns, flat_ns eGA202_ns])), (beqb_ft (bnot_f h3154)), (beqb_ft (bnot_f h3154)), (beqb_ft (bnot_f h3154)), (bnot_f h3154), (beqb_ft rfl), (beqb_ft rfl), (beqb_ft rfl), (beqb_ft rfl), (beqb_ft rfl), rfl, (beqb_ft rfl), (beqb_ft rfl), (beqb_ft rfl), rfl, (beqb_ft rfl), (beqb_ft rfl), (beqb_ft rfl), rfl, (beqb_ft rfl), (beqb_ft rfl), (beqb_ft rfl), rfl, (beqb_ft rfl), (beqb_ft rfl), (beqb_ft rfl), rfl, rfl, trivial⟩
      exact fn_playC hn94 (f := 94) (ads := [.agg (eGGraph a3130), .agg (eGJob a3131)]) (r := F94_res 1) (pq3193 pz) (by kernel_rfl) (by kernel_rfl)
    refine cond_some hF (fun h3161 hF => ?_) (fun h3161 hF => ?_)
    ·
      refine cond_some hF (fun h3162 hF => ?_) (fun h3162 hF => ?_)
      ·
        have pq3206 : ∀ {l : List Cond}, HoldAll E H hn94 l → HoldAll E H hn94 (.call 143 [.one (.lit (.int .i64 a3131.Prog))] (F143_res2 r3143) :: .test (leadsAny (Res.mk [(.agg [(.im (.lit (fnV 162))), (.im (.lit (fnV 159))), (.im (.lit (.bool r3143.1.only_))), (.im (.lit (fnV 163)))]), (.one (.im (.lit (.bool r3143.2))))] [])) false :: .test (beqb (bnot r3143.2) false) true :: .test (beqb (bnot r3143.2) false) true :: .test (beqb (bnot r3143.2) false) true :: .test (bnot r3143.2) false :: l) := fun z => ⟨(F143_ok2 _ h3161 (F143_ok K a3131.Prog _ h3144)), (leads_ok (by simp only [leadsAny, List.any_cons, List.any_nil, RV.leads, RC.leads, leadsT, hasSl_lit, Bool.or_false, flat_ns (eInt_ns _), flat_ns eBool_ns, flat_ns eStr_ns, flat_ns eGJob_ns, flat_ns eGEdge_ns, flat_ns eGAsked_ns, flat_ns eGMsg_ns, flat_ns eGrule_ns, flat_ns eGA199_ns, flat_ns eGA202_ns])), (beqb_ff (bnot_t h3162)), (beqb_ff (bnot_t h3162)), (beqb_ff (bnot_t h3162)), (bnot_t h3162), z⟩
        refine cond_some hF (fun h3163 hF => ?_) (fun h3163 hF => ?_)
        ·
          have hr := Option.some.inj hF
          subst hr
          have pz : HoldAll E H hn94 [.test (beqb (ilt a3131.Source 0) false) false, .test (beqb (ilt a3131.Source 0) false) false, .test (beqb (ilt a3131.Source 0) false) false, .test (beqb (ilt a3131.Source 0) false) false, .test (beqb (ilt a3131.Source 0) false) false, .test (ilt a3131.Source 0) true, .test (beqb true false) false, .test (beqb true false) false, .test (beqb true false) false, .test true true, .test (beqb true false) false, .test (beqb true false) false, .test (beqb true false) false, .test true true, .test (beqb true false) false, .test (beqb true false) false, .test (beqb true false) false, .test true true, .test (beqb true false) false, .test (beqb true false) false, .test (beqb true false) false, .test true true, .test true true] := ⟨(beqb_ft h3163), (beqb_ft h3163), (beqb_ft h3163), (beqb_ft h3163), (beqb_ft h3163), h3163, (beqb_ft rfl), (beqb_ft rfl), (beqb_ft rfl), rfl, (beqb_ft rfl), (beqb_ft rfl), (beqb_ft rfl), rfl, (beqb_ft rfl), (beqb_ft rfl), (beqb_ft rfl), rfl, (beqb_ft rfl), (beqb_ft rfl), (beqb_ft rfl), rfl, rfl, trivial⟩
          exact fn_playC hn94 (f := 94) (ads := [.agg (eGGraph a3130), .agg (eGJob a3131)]) (r := F94_res 1) (pq3193 (pq3206 pz)) (by kernel_rfl) (by kernel_rfl)
        have pq3207 : ∀ {l : List Cond}, HoldAll E H hn94 l → HoldAll E H hn94 (.test (beqb (ilt a3131.Source 0) false) true :: .test (beqb (ilt a3131.Source 0) false) true :: .test (beqb (ilt a3131.Source 0) false) true :: .test (beqb (ilt a3131.Source 0) false) true :: .test (beqb (ilt a3131.Source 0) false) true :: .test (ilt a3131.Source 0) false :: l) := fun z => ⟨(beqb_ff h3163), (beqb_ff h3163), (beqb_ff h3163), (beqb_ff h3163), (beqb_ff h3163), h3163, z⟩
        refine cond_some hF (fun h3164 hF => ?_) (fun h3164 hF => ?_)
        ·
          have hr := Option.some.inj hF
          subst hr
          have pz : HoldAll E H hn94 [.test (beqb (ige a3131.Source a3130.N) false) false, .test (beqb (ige a3131.Source a3130.N) false) false, .test (beqb (ige a3131.Source a3130.N) false) false, .test (ige a3131.Source a3130.N) true, .test (beqb true false) false, .test (beqb true false) false, .test (beqb true false) false, .test true true, .test (beqb true false) false, .test (beqb true false) false, .test (beqb true false) false, .test true true, .test (beqb true false) false, .test (beqb true false) false, .test (beqb true false) false, .test true true, .test true true] := ⟨(beqb_ft (ige_eq h3164)), (beqb_ft (ige_eq h3164)), (beqb_ft (ige_eq h3164)), (ige_eq h3164), (beqb_ft rfl), (beqb_ft rfl), (beqb_ft rfl), rfl, (beqb_ft rfl), (beqb_ft rfl), (beqb_ft rfl), rfl, (beqb_ft rfl), (beqb_ft rfl), (beqb_ft rfl), rfl, rfl, trivial⟩
          exact fn_playC hn94 (f := 94) (ads := [.agg (eGGraph a3130), .agg (eGJob a3131)]) (r := F94_res 1) (pq3193 (pq3206 (pq3207 pz))) (by kernel_rfl) (by kernel_rfl)
        have pq3208 : ∀ {l : List Cond}, HoldAll E H hn94 l → HoldAll E H hn94 (.test (beqb (ige a3131.Source a3130.N) false) true :: .test (beqb (ige a3131.Source a3130.N) false) true :: .test (beqb (ige a3131.Source a3130.N) false) true :: .test (ige a3131.Source a3130.N) false :: l) := fun z => ⟨(beqb_ff (ige_eq h3164)), (beqb_ff (ige_eq h3164)), (beqb_ff (ige_eq h3164)), (ige_eq h3164), z⟩
        refine cond_some hF (fun h3165 hF => ?_) (fun h3165 hF => ?_)
        ·
          have hr := Option.some.inj hF
          subst hr
          have pz : HoldAll E H hn94 [.test (beqb (ilt a3131.Limit 0) false) false, .test (beqb (ilt a3131.Limit 0) false) false, .test (beqb (ilt a3131.Limit 0) false) false, .test (ilt a3131.Limit 0) true, .test (beqb true false) false, .test (beqb true false) false, .test (beqb true false) false, .test true true, .test (beqb true false) false, .test (beqb true false) false, .test (beqb true false) false, .test true true, .test true true] := ⟨(beqb_ft h3165), (beqb_ft h3165), (beqb_ft h3165), h3165, (beqb_ft rfl), (beqb_ft rfl), (beqb_ft rfl), rfl, (beqb_ft rfl), (beqb_ft rfl), (beqb_ft rfl), rfl, rfl, trivial⟩
          exact fn_playC hn94 (f := 94) (ads := [.agg (eGGraph a3130), .agg (eGJob a3131)]) (r := F94_res 1) (pq3193 (pq3206 (pq3207 (pq3208 pz)))) (by kernel_rfl) (by kernel_rfl)
        have pq3209 : ∀ {l : List Cond}, HoldAll E H hn94 l → HoldAll E H hn94 (.test (beqb (ilt a3131.Limit 0) false) true :: .test (beqb (ilt a3131.Limit 0) false) true :: .test (beqb (ilt a3131.Limit 0) false) true :: .test (ilt a3131.Limit 0) false :: l) := fun z => ⟨(beqb_ff h3165), (beqb_ff h3165), (beqb_ff h3165), h3165, z⟩
        refine cond_some hF (fun h3166 hF => ?_) (fun h3166 hF => ?_)
        ·
          have hr := Option.some.inj hF
          subst hr
          have pz : HoldAll E H hn94 [.test (beqb (igt a3131.Limit 40) false) false, .test (beqb (igt a3131.Limit 40) false) false, .test (beqb (igt a3131.Limit 40) false) false, .test (igt a3131.Limit 40) true, .test (beqb true false) false, .test (beqb true false) false, .test (beqb true false) false, .test true true, .test true true] := ⟨(beqb_ft (igt_eq h3166)), (beqb_ft (igt_eq h3166)), (beqb_ft (igt_eq h3166)), (igt_eq h3166), (beqb_ft rfl), (beqb_ft rfl), (beqb_ft rfl), rfl, rfl, trivial⟩
          exact fn_playC hn94 (f := 94) (ads := [.agg (eGGraph a3130), .agg (eGJob a3131)]) (r := F94_res 1) (pq3193 (pq3206 (pq3207 (pq3208 (pq3209 pz))))) (by kernel_rfl) (by kernel_rfl)
        have pq3210 : ∀ {l : List Cond}, HoldAll E H hn94 l → HoldAll E H hn94 (.test (beqb (igt a3131.Limit 40) false) true :: .test (beqb (igt a3131.Limit 40) false) true :: .test (beqb (igt a3131.Limit 40) false) true :: .test (igt a3131.Limit 40) false :: l) := fun z => ⟨(beqb_ff (igt_eq h3166)), (beqb_ff (igt_eq h3166)), (beqb_ff (igt_eq h3166)), (igt_eq h3166), z⟩
        refine cond_some hF (fun h3167 hF => ?_) (fun h3167 hF => ?_)
        ·
          have hr := Option.some.inj hF
          subst hr
          have pz : HoldAll E H hn94 [.test (beqb (ilt a3131.Parts 1) false) false, .test (beqb (ilt a3131.Parts 1) false) false, .test (beqb (ilt a3131.Parts 1) false) false, .test (ilt a3131.Parts 1) true, .test true true] := ⟨(beqb_ft h3167), (beqb_ft h3167), (beqb_ft h3167), h3167, rfl, trivial⟩
          exact fn_playC hn94 (f := 94) (ads := [.agg (eGGraph a3130), .agg (eGJob a3131)]) (r := F94_res 1) (pq3193 (pq3206 (pq3207 (pq3208 (pq3209 (pq3210 pz)))))) (by kernel_rfl) (by kernel_rfl)
        have pq3211 : ∀ {l : List Cond}, HoldAll E H hn94 l → HoldAll E H hn94 (.test (beqb (ilt a3131.Parts 1) false) true :: .test (beqb (ilt a3131.Parts 1) false) true :: .test (beqb (ilt a3131.Parts 1) false) true :: .test (ilt a3131.Parts 1) false :: l) := fun z => ⟨(beqb_ff h3167), (beqb_ff h3167), (beqb_ff h3167), h3167, z⟩
        refine cond_some hF (fun h3168 hF => ?_) (fun h3168 hF => ?_)
        ·
          have hr := Option.some.inj hF
          subst hr
          have pz : HoldAll E H hn94 [.test (igt a3131.Parts 6) true] := ⟨(igt_eq h3168), trivial⟩
          exact fn_playC hn94 (f := 94) (ads := [.agg (eGGraph a3130), .agg (eGJob a3131)]) (r := F94_res 1) (pq3193 (pq3206 (pq3207 (pq3208 (pq3209 (pq3210 (pq3211 pz))))))) (by kernel_rfl) (by kernel_rfl)
        have hr := Option.some.inj hF
        subst hr
        have pz : HoldAll E H hn94 [.test (igt a3131.Parts 6) false] := ⟨(igt_eq h3168), trivial⟩
        exact fn_playC hn94 (f := 94) (ads := [.agg (eGGraph a3130), .agg (eGJob a3131)]) (r := F94_res 0) (pq3193 (pq3206 (pq3207 (pq3208 (pq3209 (pq3210 (pq3211 pz))))))) (by kernel_rfl) (by kernel_rfl)
      have hr := Option.some.inj hF
      subst hr
      have pz : HoldAll E H hn94 [.call 143 [.one (.lit (.int .i64 a3131.Prog))] (F143_res2 r3143), .test (leadsAny (Res.mk [(.agg [(.im (.lit (fnV 162))), (.im (.lit (fnV 159))), (.im (.lit (.bool r3143.1.only_))), (.im (.lit (fnV 163)))]), (.one (.im (.lit (.bool r3143.2))))] [])) false, .test (beqb (bnot r3143.2) false) false, .test (beqb (bnot r3143.2) false) false, .test (beqb (bnot r3143.2) false) false, .test (bnot r3143.2) true, .test (beqb true false) false, .test (beqb true false) false, .test (beqb true false) false, .test (beqb true false) false, .test (beqb true false) false, .test true true, .test (beqb true false) false, .test (beqb true false) false, .test (beqb true false) false, .test true true, .test (beqb true false) false, .test (beqb true false) false, .test (beqb true false) false, .test true true, .test (beqb true false) false, .test (beqb true false) false, .test (beqb true false) false, .test true true, .test (beqb true false) false, .test (beqb true false) false, .test (beqb true false) false, .test true true, .test true true] := ⟨(F143_ok2 _ h3161 (F143_ok K a3131.Prog _ h3144)), (leads_ok (by simp only [leadsAny, List.any_cons, List.any_nil, RV.leads, RC.leads, leadsT, hasSl_lit, Bool.or_false, flat_ns (eInt_ns _), flat_ns eBool_ns, flat_ns eStr_ns, flat_ns eGJob_ns, flat_ns eGEdge_ns, flat_ns eGAsked_ns, flat_ns eGMsg_ns, flat_ns eGrule_ns, flat_ns eGA199_ns, flat_ns eGA202_ns])), (beqb_ft (bnot_f h3162)), (beqb_ft (bnot_f h3162)), (beqb_ft (bnot_f h3162)), (bnot_f h3162), (beqb_ft rfl), (beqb_ft rfl), (beqb_ft rfl), (beqb_ft rfl), (beqb_ft rfl), rfl, (beqb_ft rfl), (beqb_ft rfl), (beqb_ft rfl), rfl, (beqb_ft rfl), (beqb_ft rfl), (beqb_ft rfl), rfl, (beqb_ft rfl), (beqb_ft rfl), (beqb_ft rfl), rfl, (beqb_ft rfl), (beqb_ft rfl), (beqb_ft rfl), rfl, rfl, trivial⟩
      exact fn_playC hn94 (f := 94) (ads := [.agg (eGGraph a3130), .agg (eGJob a3131)]) (r := F94_res 1) (pq3193 pz) (by kernel_rfl) (by kernel_rfl)
    refine cond_some hF (fun h3169 hF => ?_) (fun h3169 hF => ?_)
    ·
      refine cond_some hF (fun h3170 hF => ?_) (fun h3170 hF => ?_)
      ·
        have pq3212 : ∀ {l : List Cond}, HoldAll E H hn94 l → HoldAll E H hn94 (.call 143 [.one (.lit (.int .i64 a3131.Prog))] (F143_res3 r3143) :: .test (leadsAny (Res.mk [(.agg [(.im (.lit (fnV 164))), (.im (.lit (fnV 165))), (.im (.lit (.bool r3143.1.only_))), (.im (.lit (fnV 163)))]), (.one (.im (.lit (.bool r3143.2))))] [])) false :: .test (beqb (bnot r3143.2) false) true :: .test (beqb (bnot r3143.2) false) true :: .test (beqb (bnot r3143.2) false) true :: .test (bnot r3143.2) false :: l) := fun z => ⟨(F143_ok3 _ h3169 (F143_ok K a3131.Prog _ h3144)), (leads_ok (by simp only [leadsAny, List.any_cons, List.any_nil, RV.leads, RC.leads, leadsT, hasSl_lit, Bool.or_false, flat_ns (eInt_ns _), flat_ns eBool_ns, flat_ns eStr_ns, flat_ns eGJob_ns, flat_ns eGEdge_ns, flat_ns eGAsked_ns, flat_ns eGMsg_ns, flat_ns eGrule_ns, flat_ns eGA199_ns, flat_ns eGA202_ns])), (beqb_ff (bnot_t h3170)), (beqb_ff (bnot_t h3170)), (beqb_ff (bnot_t h3170)), (bnot_t h3170), z⟩
        refine cond_some hF (fun h3171 hF => ?_) (fun h3171 hF => ?_)
        ·
          have hr := Option.some.inj hF
          subst hr
          have pz : HoldAll E H hn94 [.test (beqb (ilt a3131.Source 0) false) false, .test (beqb (ilt a3131.Source 0) false) false, .test (beqb (ilt a3131.Source 0) false) false, .test (beqb (ilt a3131.Source 0) false) false, .test (beqb (ilt a3131.Source 0) false) false, .test (ilt a3131.Source 0) true, .test (beqb true false) false, .test (beqb true false) false, .test (beqb true false) false, .test true true, .test (beqb true false) false, .test (beqb true false) false, .test (beqb true false) false, .test true true, .test (beqb true false) false, .test (beqb true false) false, .test (beqb true false) false, .test true true, .test (beqb true false) false, .test (beqb true false) false, .test (beqb true false) false, .test true true, .test true true] := ⟨(beqb_ft h3171), (beqb_ft h3171), (beqb_ft h3171), (beqb_ft h3171), (beqb_ft h3171), h3171, (beqb_ft rfl), (beqb_ft rfl), (beqb_ft rfl), rfl, (beqb_ft rfl), (beqb_ft rfl), (beqb_ft rfl), rfl, (beqb_ft rfl), (beqb_ft rfl), (beqb_ft rfl), rfl, (beqb_ft rfl), (beqb_ft rfl), (beqb_ft rfl), rfl, rfl, trivial⟩
          exact fn_playC hn94 (f := 94) (ads := [.agg (eGGraph a3130), .agg (eGJob a3131)]) (r := F94_res 1) (pq3193 (pq3212 pz)) (by kernel_rfl) (by kernel_rfl)
        have pq3213 : ∀ {l : List Cond}, HoldAll E H hn94 l → HoldAll E H hn94 (.test (beqb (ilt a3131.Source 0) false) true :: .test (beqb (ilt a3131.Source 0) false) true :: .test (beqb (ilt a3131.Source 0) false) true :: .test (beqb (ilt a3131.Source 0) false) true :: .test (beqb (ilt a3131.Source 0) false) true :: .test (ilt a3131.Source 0) false :: l) := fun z => ⟨(beqb_ff h3171), (beqb_ff h3171), (beqb_ff h3171), (beqb_ff h3171), (beqb_ff h3171), h3171, z⟩
        refine cond_some hF (fun h3172 hF => ?_) (fun h3172 hF => ?_)
        ·
          have hr := Option.some.inj hF
          subst hr
          have pz : HoldAll E H hn94 [.test (beqb (ige a3131.Source a3130.N) false) false, .test (beqb (ige a3131.Source a3130.N) false) false, .test (beqb (ige a3131.Source a3130.N) false) false, .test (ige a3131.Source a3130.N) true, .test (beqb true false) false, .test (beqb true false) false, .test (beqb true false) false, .test true true, .test (beqb true false) false, .test (beqb true false) false, .test (beqb true false) false, .test true true, .test (beqb true false) false, .test (beqb true false) false, .test (beqb true false) false, .test true true, .test true true] := ⟨(beqb_ft (ige_eq h3172)), (beqb_ft (ige_eq h3172)), (beqb_ft (ige_eq h3172)), (ige_eq h3172), (beqb_ft rfl), (beqb_ft rfl), (beqb_ft rfl), rfl, (beqb_ft rfl), (beqb_ft rfl), (beqb_ft rfl), rfl, (beqb_ft rfl), (beqb_ft rfl), (beqb_ft rfl), rfl, rfl, trivial⟩
          exact fn_playC hn94 (f := 94) (ads := [.agg (eGGraph a3130), .agg (eGJob a3131)]) (r := F94_res 1) (pq3193 (pq3212 (pq3213 pz))) (by kernel_rfl) (by kernel_rfl)
        have pq3214 : ∀ {l : List Cond}, HoldAll E H hn94 l → HoldAll E H hn94 (.test (beqb (ige a3131.Source a3130.N) false) true :: .test (beqb (ige a3131.Source a3130.N) false) true :: .test (beqb (ige a3131.Source a3130.N) false) true :: .test (ige a3131.Source a3130.N) false :: l) := fun z => ⟨(beqb_ff (ige_eq h3172)), (beqb_ff (ige_eq h3172)), (beqb_ff (ige_eq h3172)), (ige_eq h3172), z⟩
        refine cond_some hF (fun h3173 hF => ?_) (fun h3173 hF => ?_)
        ·
          have hr := Option.some.inj hF
          subst hr
          have pz : HoldAll E H hn94 [.test (beqb (ilt a3131.Limit 0) false) false, .test (beqb (ilt a3131.Limit 0) false) false, .test (beqb (ilt a3131.Limit 0) false) false, .test (ilt a3131.Limit 0) true, .test (beqb true false) false, .test (beqb true false) false, .test (beqb true false) false, .test true true, .test (beqb true false) false, .test (beqb true false) false, .test (beqb true false) false, .test true true, .test true true] := ⟨(beqb_ft h3173), (beqb_ft h3173), (beqb_ft h3173), h3173, (beqb_ft rfl), (beqb_ft rfl), (beqb_ft rfl), rfl, (beqb_ft rfl), (beqb_ft rfl), (beqb_ft rfl), rfl, rfl, trivial⟩
          exact fn_playC hn94 (f := 94) (ads := [.agg (eGGraph a3130), .agg (eGJob a3131)]) (r := F94_res 1) (pq3193 (pq3212 (pq3213 (pq3214 pz)))) (by kernel_rfl) (by kernel_rfl)
        have pq3215 : ∀ {l : List Cond}, HoldAll E H hn94 l → HoldAll E H hn94 (.test (beqb (ilt a3131.Limit 0) false) true :: .test (beqb (ilt a3131.Limit 0) false) true :: .test (beqb (ilt a3131.Limit 0) false) true :: .test (ilt a3131.Limit 0) false :: l) := fun z => ⟨(beqb_ff h3173), (beqb_ff h3173), (beqb_ff h3173), h3173, z⟩
        refine cond_some hF (fun h3174 hF => ?_) (fun h3174 hF => ?_)
        ·
          have hr := Option.some.inj hF
          subst hr
          have pz : HoldAll E H hn94 [.test (beqb (igt a3131.Limit 40) false) false, .test (beqb (igt a3131.Limit 40) false) false, .test (beqb (igt a3131.Limit 40) false) false, .test (igt a3131.Limit 40) true, .test (beqb true false) false, .test (beqb true false) false, .test (beqb true false) false, .test true true, .test true true] := ⟨(beqb_ft (igt_eq h3174)), (beqb_ft (igt_eq h3174)), (beqb_ft (igt_eq h3174)), (igt_eq h3174), (beqb_ft rfl), (beqb_ft rfl), (beqb_ft rfl), rfl, rfl, trivial⟩
          exact fn_playC hn94 (f := 94) (ads := [.agg (eGGraph a3130), .agg (eGJob a3131)]) (r := F94_res 1) (pq3193 (pq3212 (pq3213 (pq3214 (pq3215 pz))))) (by kernel_rfl) (by kernel_rfl)
        have pq3216 : ∀ {l : List Cond}, HoldAll E H hn94 l → HoldAll E H hn94 (.test (beqb (igt a3131.Limit 40) false) true :: .test (beqb (igt a3131.Limit 40) false) true :: .test (beqb (igt a3131.Limit 40) false) true :: .test (igt a3131.Limit 40) false :: l) := fun z => ⟨(beqb_ff (igt_eq h3174)), (beqb_ff (igt_eq h3174)), (beqb_ff (igt_eq h3174)), (igt_eq h3174), z⟩
        refine cond_some hF (fun h3175 hF => ?_) (fun h3175 hF => ?_)
        ·
          have hr := Option.some.inj hF
          subst hr
          have pz : HoldAll E H hn94 [.test (beqb (ilt a3131.Parts 1) false) false, .test (beqb (ilt a3131.Parts 1) false) false, .test (beqb (ilt a3131.Parts 1) false) false, .test (ilt a3131.Parts 1) true, .test true true] := ⟨(beqb_ft h3175), (beqb_ft h3175), (beqb_ft h3175), h3175, rfl, trivial⟩
          exact fn_playC hn94 (f := 94) (ads := [.agg (eGGraph a3130), .agg (eGJob a3131)]) (r := F94_res 1) (pq3193 (pq3212 (pq3213 (pq3214 (pq3215 (pq3216 pz)))))) (by kernel_rfl) (by kernel_rfl)
        have pq3217 : ∀ {l : List Cond}, HoldAll E H hn94 l → HoldAll E H hn94 (.test (beqb (ilt a3131.Parts 1) false) true :: .test (beqb (ilt a3131.Parts 1) false) true :: .test (beqb (ilt a3131.Parts 1) false) true :: .test (ilt a3131.Parts 1) false :: l) := fun z => ⟨(beqb_ff h3175), (beqb_ff h3175), (beqb_ff h3175), h3175, z⟩
        refine cond_some hF (fun h3176 hF => ?_) (fun h3176 hF => ?_)
        ·
          have hr := Option.some.inj hF
          subst hr
          have pz : HoldAll E H hn94 [.test (igt a3131.Parts 6) true] := ⟨(igt_eq h3176), trivial⟩
          exact fn_playC hn94 (f := 94) (ads := [.agg (eGGraph a3130), .agg (eGJob a3131)]) (r := F94_res 1) (pq3193 (pq3212 (pq3213 (pq3214 (pq3215 (pq3216 (pq3217 pz))))))) (by kernel_rfl) (by kernel_rfl)
        have hr := Option.some.inj hF
        subst hr
        have pz : HoldAll E H hn94 [.test (igt a3131.Parts 6) false] := ⟨(igt_eq h3176), trivial⟩
        exact fn_playC hn94 (f := 94) (ads := [.agg (eGGraph a3130), .agg (eGJob a3131)]) (r := F94_res 0) (pq3193 (pq3212 (pq3213 (pq3214 (pq3215 (pq3216 (pq3217 pz))))))) (by kernel_rfl) (by kernel_rfl)
      have hr := Option.some.inj hF
      subst hr
      have pz : HoldAll E H hn94 [.call 143 [.one (.lit (.int .i64 a3131.Prog))] (F143_res3 r3143), .test (leadsAny (Res.mk [(.agg [(.im (.lit (fnV 164))), (.im (.lit (fnV 165))), (.im (.lit (.bool r3143.1.only_))), (.im (.lit (fnV 163)))]), (.one (.im (.lit (.bool r3143.2))))] [])) false, .test (beqb (bnot r3143.2) false) false, .test (beqb (bnot r3143.2) false) false, .test (beqb (bnot r3143.2) false) false, .test (bnot r3143.2) true, .test (beqb true false) false, .test (beqb true false) false, .test (beqb true false) false, .test (beqb true false) false, .test (beqb true false) false, .test true true, .test (beqb true false) false, .test (beqb true false) false, .test (beqb true false) false, .test true true, .test (beqb true false) false, .test (beqb true false) false, .test (beqb true false) false, .test true true, .test (beqb true false) false, .test (beqb true false) false, .test (beqb true false) false, .test true true, .test (beqb true false) false, .test (beqb true false) false, .test (beqb true false) false, .test true true, .test true true] := ⟨(F143_ok3 _ h3169 (F143_ok K a3131.Prog _ h3144)), (leads_ok (by simp only [leadsAny, List.any_cons, List.any_nil, RV.leads, RC.leads, leadsT, hasSl_lit, Bool.or_false, flat_ns (eInt_ns _), flat_ns eBool_ns, flat_ns eStr_ns, flat_ns eGJob_ns, flat_ns eGEdge_ns, flat_ns eGAsked_ns, flat_ns eGMsg_ns, flat_ns eGrule_ns, flat_ns eGA199_ns, flat_ns eGA202_ns])), (beqb_ft (bnot_f h3170)), (beqb_ft (bnot_f h3170)), (beqb_ft (bnot_f h3170)), (bnot_f h3170), (beqb_ft rfl), (beqb_ft rfl), (beqb_ft rfl), (beqb_ft rfl), (beqb_ft rfl), rfl, (beqb_ft rfl), (beqb_ft rfl), (beqb_ft rfl), rfl, (beqb_ft rfl), (beqb_ft rfl), (beqb_ft rfl), rfl, (beqb_ft rfl), (beqb_ft rfl), (beqb_ft rfl), rfl, (beqb_ft rfl), (beqb_ft rfl), (beqb_ft rfl), rfl, rfl, trivial⟩
      exact fn_playC hn94 (f := 94) (ads := [.agg (eGGraph a3130), .agg (eGJob a3131)]) (r := F94_res 1) (pq3193 pz) (by kernel_rfl) (by kernel_rfl)
    refine cond_some hF (fun h3177 hF => ?_) (fun h3177 hF => ?_)
    ·
      refine cond_some hF (fun h3178 hF => ?_) (fun h3178 hF => ?_)
      ·
        have pq3218 : ∀ {l : List Cond}, HoldAll E H hn94 l → HoldAll E H hn94 (.call 143 [.one (.lit (.int .i64 a3131.Prog))] (F143_res4 r3143) :: .test (leadsAny (Res.mk [(.agg [(.im (.lit (fnV 166))), (.im (.lit .nilFunc)), (.im (.lit (.bool r3143.1.only_))), (.im (.lit (fnV 163)))]), (.one (.im (.lit (.bool r3143.2))))] [])) false :: .test (beqb (bnot r3143.2) false) true :: .test (beqb (bnot r3143.2) false) true :: .test (beqb (bnot r3143.2) false) true :: .test (bnot r3143.2) false :: l) := fun z => ⟨(F143_ok4 _ h3177 (F143_ok K a3131.Prog _ h3144)), (leads_ok (by simp only [leadsAny, List.any_cons, List.any_nil, RV.leads, RC.leads, leadsT, hasSl_lit, Bool.or_false, flat_ns (eInt_ns _), flat_ns eBool_ns, flat_ns eStr_ns, flat_ns eGJob_ns, flat_ns eGEdge_ns, flat_ns eGAsked_ns, flat_ns eGMsg_ns, flat_ns eGrule_ns, flat_ns eGA199_ns, flat_ns eGA202_ns])), (beqb_ff (bnot_t h3178)), (beqb_ff (bnot_t h3178)), (beqb_ff (bnot_t h3178)), (bnot_t h3178), z⟩
        refine cond_some hF (fun h3179 hF => ?_) (fun h3179 hF => ?_)
        ·
          have hr := Option.some.inj hF
          subst hr
          have pz : HoldAll E H hn94 [.test (beqb (ilt a3131.Source 0) false) false, .test (beqb (ilt a3131.Source 0) false) false, .test (beqb (ilt a3131.Source 0) false) false, .test (beqb (ilt a3131.Source 0) false) false, .test (beqb (ilt a3131.Source 0) false) false, .test (ilt a3131.Source 0) true, .test (beqb true false) false, .test (beqb true false) false, .test (beqb true false) false, .test true true, .test (beqb true false) false, .test (beqb true false) false, .test (beqb true false) false, .test true true, .test (beqb true false) false, .test (beqb true false) false, .test (beqb true false) false, .test true true, .test (beqb true false) false, .test (beqb true false) false, .test (beqb true false) false, .test true true, .test true true] := ⟨(beqb_ft h3179), (beqb_ft h3179), (beqb_ft h3179), (beqb_ft h3179), (beqb_ft h3179), h3179, (beqb_ft rfl), (beqb_ft rfl), (beqb_ft rfl), rfl, (beqb_ft rfl), (beqb_ft rfl), (beqb_ft rfl), rfl, (beqb_ft rfl), (beqb_ft rfl), (beqb_ft rfl), rfl, (beqb_ft rfl), (beqb_ft rfl), (beqb_ft rfl), rfl, rfl, trivial⟩
          exact fn_playC hn94 (f := 94) (ads := [.agg (eGGraph a3130), .agg (eGJob a3131)]) (r := F94_res 1) (pq3193 (pq3218 pz)) (by kernel_rfl) (by kernel_rfl)
        have pq3219 : ∀ {l : List Cond}, HoldAll E H hn94 l → HoldAll E H hn94 (.test (beqb (ilt a3131.Source 0) false) true :: .test (beqb (ilt a3131.Source 0) false) true :: .test (beqb (ilt a3131.Source 0) false) true :: .test (beqb (ilt a3131.Source 0) false) true :: .test (beqb (ilt a3131.Source 0) false) true :: .test (ilt a3131.Source 0) false :: l) := fun z => ⟨(beqb_ff h3179), (beqb_ff h3179), (beqb_ff h3179), (beqb_ff h3179), (beqb_ff h3179), h3179, z⟩
        refine cond_some hF (fun h3180 hF => ?_) (fun h3180 hF => ?_)
        ·
          have hr := Option.some.inj hF
          subst hr
          have pz : HoldAll E H hn94 [.test (beqb (ige a3131.Source a3130.N) false) false, .test (beqb (ige a3131.Source a3130.N) false) false, .test (beqb (ige a3131.Source a3130.N) false) false, .test (ige a3131.Source a3130.N) true, .test (beqb true false) false, .test (beqb true false) false, .test (beqb true false) false, .test true true, .test (beqb true false) false, .test (beqb true false) false, .test (beqb true false) false, .test true true, .test (beqb true false) false, .test (beqb true false) false, .test (beqb true false) false, .test true true, .test true true] := ⟨(beqb_ft (ige_eq h3180)), (beqb_ft (ige_eq h3180)), (beqb_ft (ige_eq h3180)), (ige_eq h3180), (beqb_ft rfl), (beqb_ft rfl), (beqb_ft rfl), rfl, (beqb_ft rfl), (beqb_ft rfl), (beqb_ft rfl), rfl, (beqb_ft rfl), (beqb_ft rfl), (beqb_ft rfl), rfl, rfl, trivial⟩
          exact fn_playC hn94 (f := 94) (ads := [.agg (eGGraph a3130), .agg (eGJob a3131)]) (r := F94_res 1) (pq3193 (pq3218 (pq3219 pz))) (by kernel_rfl) (by kernel_rfl)
        have pq3220 : ∀ {l : List Cond}, HoldAll E H hn94 l → HoldAll E H hn94 (.test (beqb (ige a3131.Source a3130.N) false) true :: .test (beqb (ige a3131.Source a3130.N) false) true :: .test (beqb (ige a3131.Source a3130.N) false) true :: .test (ige a3131.Source a3130.N) false :: l) := fun z => ⟨(beqb_ff (ige_eq h3180)), (beqb_ff (ige_eq h3180)), (beqb_ff (ige_eq h3180)), (ige_eq h3180), z⟩
        refine cond_some hF (fun h3181 hF => ?_) (fun h3181 hF => ?_)
        ·
          have hr := Option.some.inj hF
          subst hr
          have pz : HoldAll E H hn94 [.test (beqb (ilt a3131.Limit 0) false) false, .test (beqb (ilt a3131.Limit 0) false) false, .test (beqb (ilt a3131.Limit 0) false) false, .test (ilt a3131.Limit 0) true, .test (beqb true false) false, .test (beqb true false) false, .test (beqb true false) false, .test true true, .test (beqb true false) false, .test (beqb true false) false, .test (beqb true false) false, .test true true, .test true true] := ⟨(beqb_ft h3181), (beqb_ft h3181), (beqb_ft h3181), h3181, (beqb_ft rfl), (beqb_ft rfl), (beqb_ft rfl), rfl, (beqb_ft rfl), (beqb_ft rfl), (beqb_ft rfl), rfl, rfl, trivial⟩
          exact fn_playC hn94 (f := 94) (ads := [.agg (eGGraph a3130), .agg (eGJob a3131)]) (r := F94_res 1) (pq3193 (pq3218 (pq3219 (pq3220 pz)))) (by kernel_rfl) (by kernel_rfl)
        have pq3221 : ∀ {l : List Cond}, HoldAll E H hn94 l → HoldAll E H hn94 (.test (beqb (ilt a3131.Limit 0) false) true :: .test (beqb (ilt a3131.Limit 0) false) true :: .test (beqb (ilt a3131.Limit 0) false) true :: .test (ilt a3131.Limit 0) false :: l) := fun z => ⟨(beqb_ff h3181), (beqb_ff h3181), (beqb_ff h3181), h3181, z⟩
        refine cond_some hF (fun h3182 hF => ?_) (fun h3182 hF => ?_)
        ·
          have hr := Option.some.inj hF
          subst hr
          have pz : HoldAll E H hn94 [.test (beqb (igt a3131.Limit 40) false) false, .test (beqb (igt a3131.Limit 40) false) false, .test (beqb (igt a3131.Limit 40) false) false, .test (igt a3131.Limit 40) true, .test (beqb true false) false, .test (beqb true false) false, .test (beqb true false) false, .test true true, .test true true] := ⟨(beqb_ft (igt_eq h3182)), (beqb_ft (igt_eq h3182)), (beqb_ft (igt_eq h3182)), (igt_eq h3182), (beqb_ft rfl), (beqb_ft rfl), (beqb_ft rfl), rfl, rfl, trivial⟩
          exact fn_playC hn94 (f := 94) (ads := [.agg (eGGraph a3130), .agg (eGJob a3131)]) (r := F94_res 1) (pq3193 (pq3218 (pq3219 (pq3220 (pq3221 pz))))) (by kernel_rfl) (by kernel_rfl)
        have pq3222 : ∀ {l : List Cond}, HoldAll E H hn94 l → HoldAll E H hn94 (.test (beqb (igt a3131.Limit 40) false) true :: .test (beqb (igt a3131.Limit 40) false) true :: .test (beqb (igt a3131.Limit 40) false) true :: .test (igt a3131.Limit 40) false :: l) := fun z => ⟨(beqb_ff (igt_eq h3182)), (beqb_ff (igt_eq h3182)), (beqb_ff (igt_eq h3182)), (igt_eq h3182), z⟩
        refine cond_some hF (fun h3183 hF => ?_) (fun h3183 hF => ?_)
        ·
          have hr := Option.some.inj hF
          subst hr
          have pz : HoldAll E H hn94 [.test (beqb (ilt a3131.Parts 1) false) false, .test (beqb (ilt a3131.Parts 1) false) false, .test (beqb (ilt a3131.Parts 1) false) false, .test (ilt a3131.Parts 1) true, .test true true] := ⟨(beqb_ft h3183), (beqb_ft h3183), (beqb_ft h3183), h3183, rfl, trivial⟩
          exact fn_playC hn94 (f := 94) (ads := [.agg (eGGraph a3130), .agg (eGJob a3131)]) (r := F94_res 1) (pq3193 (pq3218 (pq3219 (pq3220 (pq3221 (pq3222 pz)))))) (by kernel_rfl) (by kernel_rfl)
        have pq3223 : ∀ {l : List Cond}, HoldAll E H hn94 l → HoldAll E H hn94 (.test (beqb (ilt a3131.Parts 1) false) true :: .test (beqb (ilt a3131.Parts 1) false) true :: .test (beqb (ilt a3131.Parts 1) false) true :: .test (ilt a3131.Parts 1) false :: l) := fun z => ⟨(beqb_ff h3183), (beqb_ff h3183), (beqb_ff h3183), h3183, z⟩
        refine cond_some hF (fun h3184 hF => ?_) (fun h3184 hF => ?_)
        ·
          have hr := Option.some.inj hF
          subst hr
          have pz : HoldAll E H hn94 [.test (igt a3131.Parts 6) true] := ⟨(igt_eq h3184), trivial⟩
          exact fn_playC hn94 (f := 94) (ads := [.agg (eGGraph a3130), .agg (eGJob a3131)]) (r := F94_res 1) (pq3193 (pq3218 (pq3219 (pq3220 (pq3221 (pq3222 (pq3223 pz))))))) (by kernel_rfl) (by kernel_rfl)
        have hr := Option.some.inj hF
        subst hr
        have pz : HoldAll E H hn94 [.test (igt a3131.Parts 6) false] := ⟨(igt_eq h3184), trivial⟩
        exact fn_playC hn94 (f := 94) (ads := [.agg (eGGraph a3130), .agg (eGJob a3131)]) (r := F94_res 0) (pq3193 (pq3218 (pq3219 (pq3220 (pq3221 (pq3222 (pq3223 pz))))))) (by kernel_rfl) (by kernel_rfl)
      have hr := Option.some.inj hF
      subst hr
      have pz : HoldAll E H hn94 [.call 143 [.one (.lit (.int .i64 a3131.Prog))] (F143_res4 r3143), .test (leadsAny (Res.mk [(.agg [(.im (.lit (fnV 166))), (.im (.lit .nilFunc)), (.im (.lit (.bool r3143.1.only_))), (.im (.lit (fnV 163)))]), (.one (.im (.lit (.bool r3143.2))))] [])) false, .test (beqb (bnot r3143.2) false) false, .test (beqb (bnot r3143.2) false) false, .test (beqb (bnot r3143.2) false) false, .test (bnot r3143.2) true, .test (beqb true false) false, .test (beqb true false) false, .test (beqb true false) false, .test (beqb true false) false, .test (beqb true false) false, .test true true, .test (beqb true false) false, .test (beqb true false) false, .test (beqb true false) false, .test true true, .test (beqb true false) false, .test (beqb true false) false, .test (beqb true false) false, .test true true, .test (beqb true false) false, .test (beqb true false) false, .test (beqb true false) false, .test true true, .test (beqb true false) false, .test (beqb true false) false, .test (beqb true false) false, .test true true, .test true true] := ⟨(F143_ok4 _ h3177 (F143_ok K a3131.Prog _ h3144)), (leads_ok (by simp only [leadsAny, List.any_cons, List.any_nil, RV.leads, RC.leads, leadsT, hasSl_lit, Bool.or_false, flat_ns (eInt_ns _), flat_ns eBool_ns, flat_ns eStr_ns, flat_ns eGJob_ns, flat_ns eGEdge_ns, flat_ns eGAsked_ns, flat_ns eGMsg_ns, flat_ns eGrule_ns, flat_ns eGA199_ns, flat_ns eGA202_ns])), (beqb_ft (bnot_f h3178)), (beqb_ft (bnot_f h3178)), (beqb_ft (bnot_f h3178)), (bnot_f h3178), (beqb_ft rfl), (beqb_ft rfl), (beqb_ft rfl), (beqb_ft rfl), (beqb_ft rfl), rfl, (beqb_ft rfl), (beqb_ft rfl), (beqb_ft rfl), rfl, (beqb_ft rfl), (beqb_ft rfl), (beqb_ft rfl), rfl, (beqb_ft rfl), (beqb_ft rfl), (beqb_ft rfl), rfl, (beqb_ft rfl), (beqb_ft rfl), (beqb_ft rfl), rfl, rfl, trivial⟩
      exact fn_playC hn94 (f := 94) (ads := [.agg (eGGraph a3130), .agg (eGJob a3131)]) (r := F94_res 1) (pq3193 pz) (by kernel_rfl) (by kernel_rfl)
    refine cond_some hF (fun h3185 hF => ?_) (fun _ hF => nomatch hF)
    refine cond_some hF (fun h3186 hF => ?_) (fun h3186 hF => ?_)
    ·
      have pq3224 : ∀ {l : List Cond}, HoldAll E H hn94 l → HoldAll E H hn94 (.call 143 [.one (.lit (.int .i64 a3131.Prog))] (F143_res5 r3143) :: .test (leadsAny (Res.mk [(.agg [(.im (.lit .nilFunc)), (.im (.lit .nilFunc)), (.im (.lit (.bool r3143.1.only_))), (.im (.lit .nilFunc))]), (.one (.im (.lit (.bool r3143.2))))] [])) false :: .test (beqb (bnot r3143.2) false) true :: .test (beqb (bnot r3143.2) false) true :: .test (beqb (bnot r3143.2) false) true :: .test (bnot r3143.2) false :: l) := fun z => ⟨(F143_ok5 _ h3185 (F143_ok K a3131.Prog _ h3144)), (leads_ok (by simp only [leadsAny, List.any_cons, List.any_nil, RV.leads, RC.leads, leadsT, hasSl_lit, Bool.or_false, flat_ns (eInt_ns _), flat_ns eBool_ns, flat_ns eStr_ns, flat_ns eGJob_ns, flat_ns eGEdge_ns, flat_ns eGAsked_ns, flat_ns eGMsg_ns, flat_ns eGrule_ns, flat_ns eGA199_ns, flat_ns eGA202_ns])), (beqb_ff (bnot_t h3186)), (beqb_ff (bnot_t h3186)), (beqb_ff (bnot_t h3186)), (bnot_t h3186), z⟩
      refine cond_some hF (fun h3187 hF => ?_) (fun h3187 hF => ?_)
      ·
        have hr := Option.some.inj hF
        subst hr
        have pz : HoldAll E H hn94 [.test (beqb (ilt a3131.Source 0) false) false, .test (beqb (ilt a3131.Source 0) false) false, .test (beqb (ilt a3131.Source 0) false) false, .test (beqb (ilt a3131.Source 0) false) false, .test (beqb (ilt a3131.Source 0) false) false, .test (ilt a3131.Source 0) true, .test (beqb true false) false, .test (beqb true false) false, .test (beqb true false) false, .test true true, .test (beqb true false) false, .test (beqb true false) false, .test (beqb true false) false, .test true true, .test (beqb true false) false, .test (beqb true false) false, .test (beqb true false) false, .test true true, .test (beqb true false) false, .test (beqb true false) false, .test (beqb true false) false, .test true true, .test true true] := ⟨(beqb_ft h3187), (beqb_ft h3187), (beqb_ft h3187), (beqb_ft h3187), (beqb_ft h3187), h3187, (beqb_ft rfl), (beqb_ft rfl), (beqb_ft rfl), rfl, (beqb_ft rfl), (beqb_ft rfl), (beqb_ft rfl), rfl, (beqb_ft rfl), (beqb_ft rfl), (beqb_ft rfl), rfl, (beqb_ft rfl), (beqb_ft rfl), (beqb_ft rfl), rfl, rfl, trivial⟩
        exact fn_playC hn94 (f := 94) (ads := [.agg (eGGraph a3130), .agg (eGJob a3131)]) (r := F94_res 1) (pq3193 (pq3224 pz)) (by kernel_rfl) (by kernel_rfl)
      have pq3225 : ∀ {l : List Cond}, HoldAll E H hn94 l → HoldAll E H hn94 (.test (beqb (ilt a3131.Source 0) false) true :: .test (beqb (ilt a3131.Source 0) false) true :: .test (beqb (ilt a3131.Source 0) false) true :: .test (beqb (ilt a3131.Source 0) false) true :: .test (beqb (ilt a3131.Source 0) false) true :: .test (ilt a3131.Source 0) false :: l) := fun z => ⟨(beqb_ff h3187), (beqb_ff h3187), (beqb_ff h3187), (beqb_ff h3187), (beqb_ff h3187), h3187, z⟩
      refine cond_some hF (fun h3188 hF => ?_) (fun h3188 hF => ?_)
      ·
        have hr := Option.some.inj hF
        subst hr
        have pz : HoldAll E H hn94 [.test (beqb (ige a3131.Source a3130.N) false) false, .test (beqb (ige a3131.Source a3130.N) false) false, .test (beqb (ige a3131.Source a3130.N) false) false, .test (ige a3131.Source a3130.N) true, .test (beqb true false) false, .test (beqb true false) false, .test (beqb true false) false, .test true true, .test (beqb true false) false, .test (beqb true false) false, .test (beqb true false) false, .test true true, .test (beqb true false) false, .test (beqb true false) false, .test (beqb true false) false, .test true true, .test true true] := ⟨(beqb_ft (ige_eq h3188)), (beqb_ft (ige_eq h3188)), (beqb_ft (ige_eq h3188)), (ige_eq h3188), (beqb_ft rfl), (beqb_ft rfl), (beqb_ft rfl), rfl, (beqb_ft rfl), (beqb_ft rfl), (beqb_ft rfl), rfl, (beqb_ft rfl), (beqb_ft rfl), (beqb_ft rfl), rfl, rfl, trivial⟩
        exact fn_playC hn94 (f := 94) (ads := [.agg (eGGraph a3130), .agg (eGJob a3131)]) (r := F94_res 1) (pq3193 (pq3224 (pq3225 pz))) (by kernel_rfl) (by kernel_rfl)
      have pq3226 : ∀ {l : List Cond}, HoldAll E H hn94 l → HoldAll E H hn94 (.test (beqb (ige a3131.Source a3130.N) false) true :: .test (beqb (ige a3131.Source a3130.N) false) true :: .test (beqb (ige a3131.Source a3130.N) false) true :: .test (ige a3131.Source a3130.N) false :: l) := fun z => ⟨(beqb_ff (ige_eq h3188)), (beqb_ff (ige_eq h3188)), (beqb_ff (ige_eq h3188)), (ige_eq h3188), z⟩
      refine cond_some hF (fun h3189 hF => ?_) (fun h3189 hF => ?_)
      ·
        have hr := Option.some.inj hF
        subst hr
        have pz : HoldAll E H hn94 [.test (beqb (ilt a3131.Limit 0) false) false, .test (beqb (ilt a3131.Limit 0) false) false, .test (beqb (ilt a3131.Limit 0) false) false, .test (ilt a3131.Limit 0) true, .test (beqb true false) false, .test (beqb true false) false, .test (beqb true false) false, .test true true, .test (beqb true false) false, .test (beqb true false) false, .test (beqb true false) false, .test true true, .test true true] := ⟨(beqb_ft h3189), (beqb_ft h3189), (beqb_ft h3189), h3189, (beqb_ft rfl), (beqb_ft rfl), (beqb_ft rfl), rfl, (beqb_ft rfl), (beqb_ft rfl), (beqb_ft rfl), rfl, rfl, trivial⟩
        exact fn_playC hn94 (f := 94) (ads := [.agg (eGGraph a3130), .agg (eGJob a3131)]) (r := F94_res 1) (pq3193 (pq3224 (pq3225 (pq3226 pz)))) (by kernel_rfl) (by kernel_rfl)
      have pq3227 : ∀ {l : List Cond}, HoldAll E H hn94 l → HoldAll E H hn94 (.test (beqb (ilt a3131.Limit 0) false) true :: .test (beqb (ilt a3131.Limit 0) false) true :: .test (beqb (ilt a3131.Limit 0) false) true :: .test (ilt a3131.Limit 0) false :: l) := fun z => ⟨(beqb_ff h3189), (beqb_ff h3189), (beqb_ff h3189), h3189, z⟩
      refine cond_some hF (fun h3190 hF => ?_) (fun h3190 hF => ?_)
      ·
        have hr := Option.some.inj hF
        subst hr
        have pz : HoldAll E H hn94 [.test (beqb (igt a3131.Limit 40) false) false, .test (beqb (igt a3131.Limit 40) false) false, .test (beqb (igt a3131.Limit 40) false) false, .test (igt a3131.Limit 40) true, .test (beqb true false) false, .test (beqb true false) false, .test (beqb true false) false, .test true true, .test true true] := ⟨(beqb_ft (igt_eq h3190)), (beqb_ft (igt_eq h3190)), (beqb_ft (igt_eq h3190)), (igt_eq h3190), (beqb_ft rfl), (beqb_ft rfl), (beqb_ft rfl), rfl, rfl, trivial⟩
        exact fn_playC hn94 (f := 94) (ads := [.agg (eGGraph a3130), .agg (eGJob a3131)]) (r := F94_res 1) (pq3193 (pq3224 (pq3225 (pq3226 (pq3227 pz))))) (by kernel_rfl) (by kernel_rfl)
      have pq3228 : ∀ {l : List Cond}, HoldAll E H hn94 l → HoldAll E H hn94 (.test (beqb (igt a3131.Limit 40) false) true :: .test (beqb (igt a3131.Limit 40) false) true :: .test (beqb (igt a3131.Limit 40) false) true :: .test (igt a3131.Limit 40) false :: l) := fun z => ⟨(beqb_ff (igt_eq h3190)), (beqb_ff (igt_eq h3190)), (beqb_ff (igt_eq h3190)), (igt_eq h3190), z⟩
      refine cond_some hF (fun h3191 hF => ?_) (fun h3191 hF => ?_)
      ·
        have hr := Option.some.inj hF
        subst hr
        have pz : HoldAll E H hn94 [.test (beqb (ilt a3131.Parts 1) false) false, .test (beqb (ilt a3131.Parts 1) false) false, .test (beqb (ilt a3131.Parts 1) false) false, .test (ilt a3131.Parts 1) true, .test true true] := ⟨(beqb_ft h3191), (beqb_ft h3191), (beqb_ft h3191), h3191, rfl, trivial⟩
        exact fn_playC hn94 (f := 94) (ads := [.agg (eGGraph a3130), .agg (eGJob a3131)]) (r := F94_res 1) (pq3193 (pq3224 (pq3225 (pq3226 (pq3227 (pq3228 pz)))))) (by kernel_rfl) (by kernel_rfl)
      have pq3229 : ∀ {l : List Cond}, HoldAll E H hn94 l → HoldAll E H hn94 (.test (beqb (ilt a3131.Parts 1) false) true :: .test (beqb (ilt a3131.Parts 1) false) true :: .test (beqb (ilt a3131.Parts 1) false) true :: .test (ilt a3131.Parts 1) false :: l) := fun z => ⟨(beqb_ff h3191), (beqb_ff h3191), (beqb_ff h3191), h3191, z⟩
      refine cond_some hF (fun h3192 hF => ?_) (fun h3192 hF => ?_)
      ·
        have hr := Option.some.inj hF
        subst hr
        have pz : HoldAll E H hn94 [.test (igt a3131.Parts 6) true] := ⟨(igt_eq h3192), trivial⟩
        exact fn_playC hn94 (f := 94) (ads := [.agg (eGGraph a3130), .agg (eGJob a3131)]) (r := F94_res 1) (pq3193 (pq3224 (pq3225 (pq3226 (pq3227 (pq3228 (pq3229 pz))))))) (by kernel_rfl) (by kernel_rfl)
      have hr := Option.some.inj hF
      subst hr
      have pz : HoldAll E H hn94 [.test (igt a3131.Parts 6) false] := ⟨(igt_eq h3192), trivial⟩
      exact fn_playC hn94 (f := 94) (ads := [.agg (eGGraph a3130), .agg (eGJob a3131)]) (r := F94_res 0) (pq3193 (pq3224 (pq3225 (pq3226 (pq3227 (pq3228 (pq3229 pz))))))) (by kernel_rfl) (by kernel_rfl)
    have hr := Option.some.inj hF
    subst hr
    have pz : HoldAll E H hn94 [.call 143 [.one (.lit (.int .i64 a3131.Prog))] (F143_res5 r3143), .test (leadsAny (Res.mk [(.agg [(.im (.lit .nilFunc)), (.im (.lit .nilFunc)), (.im (.lit (.bool r3143.1.only_))), (.im (.lit .nilFunc))]), (.one (.im (.lit (.bool r3143.2))))] [])) false, .test (beqb (bnot r3143.2) false) false, .test (beqb (bnot r3143.2) false) false, .test (beqb (bnot r3143.2) false) false, .test (bnot r3143.2) true, .test (beqb true false) false, .test (beqb true false) false, .test (beqb true false) false, .test (beqb true false) false, .test (beqb true false) false, .test true true, .test (beqb true false) false, .test (beqb true false) false, .test (beqb true false) false, .test true true, .test (beqb true false) false, .test (beqb true false) false, .test (beqb true false) false, .test true true, .test (beqb true false) false, .test (beqb true false) false, .test (beqb true false) false, .test true true, .test (beqb true false) false, .test (beqb true false) false, .test (beqb true false) false, .test true true, .test true true] := ⟨(F143_ok5 _ h3185 (F143_ok K a3131.Prog _ h3144)), (leads_ok (by simp only [leadsAny, List.any_cons, List.any_nil, RV.leads, RC.leads, leadsT, hasSl_lit, Bool.or_false, flat_ns (eInt_ns _), flat_ns eBool_ns, flat_ns eStr_ns, flat_ns eGJob_ns, flat_ns eGEdge_ns, flat_ns eGAsked_ns, flat_ns eGMsg_ns, flat_ns eGrule_ns, flat_ns eGA199_ns, flat_ns eGA202_ns])), (beqb_ft (bnot_f h3186)), (beqb_ft (bnot_f h3186)), (beqb_ft (bnot_f h3186)), (bnot_f h3186), (beqb_ft rfl), (beqb_ft rfl), (beqb_ft rfl), (beqb_ft rfl), (beqb_ft rfl), rfl, (beqb_ft rfl), (beqb_ft rfl), (beqb_ft rfl), rfl, (beqb_ft rfl), (beqb_ft rfl), (beqb_ft rfl), rfl, (beqb_ft rfl), (beqb_ft rfl), (beqb_ft rfl), rfl, (beqb_ft rfl), (beqb_ft rfl), (beqb_ft rfl), rfl, rfl, trivial⟩
    exact fn_playC hn94 (f := 94) (ads := [.agg (eGGraph a3130), .agg (eGJob a3131)]) (r := F94_res 1) (pq3193 pz) (by kernel_rfl) (by kernel_rfl)
  have hr := Option.some.inj hF
  subst hr
  have pz : HoldAll E H hn94 [.call 64 [.agg (eGGraph a3130)] (F64_res r3132), .test (leadsAny (Res.mk [(.one (.im (.lit (.int .i64 r3132))))] [])) false, .test (ine r3132 0) true] := ⟨(F64_ok K a3130 _ h3133), (leads_ok (by simp only [leadsAny, List.any_cons, List.any_nil, RV.leads, RC.leads, leadsT, hasSl_lit, Bool.or_false, flat_ns (eInt_ns _), flat_ns eBool_ns, flat_ns eStr_ns, flat_ns eGJob_ns, flat_ns eGEdge_ns, flat_ns eGAsked_ns, flat_ns eGMsg_ns, flat_ns eGrule_ns, flat_ns eGA199_ns, flat_ns eGA202_ns])), (ine_f h3134), trivial⟩
  exact fn_playC hn94 (f := 94) (ads := [.agg (eGGraph a3130), .agg (eGJob a3131)]) (r := F94_res r3132) pz (by kernel_rfl) (by kernel_rfl)

/-! ### haywain/seq.Right -/
noncomputable def hn104 : Hint := { H 104 with nt := 61, prot := 0 }
noncomputable def c104_0 : Code := loopOf E 104 0
def F104_res (r3470 : Bool) : Res := ⟨[(.one (.im (.lit (.bool r3470))))], []⟩
def F104_l0_0 (K : Nat) (a3434 : GGraph) (a3436 : GState) : Nat → Int → Int → Option ((Unit) ⊕ (Unit))
  | 0, _, _ => none
  | k + 1, v3450, v3451 =>
    bif (ilt v3451 (nlen (len a3436.In))) then
      (bif (inr v3451 (len a3436.In)) then
      (elAt a3436.In v3451).bind fun x3454 =>
      bif (ile x3454.To v3450) then
        (some (.inl ()))
      else
      bif (ile a3434.N x3454.To) then
        (some (.inl ()))
      else
      F104_l0_0 K a3434 a3436 k x3454.To (wadd .i64 v3451 1)
      else none)
    else
    some (.inr ())
def F104_l0_0_S (a3434 : GGraph) (a3436 : GState) (v3450 : Int) (v3451 : Int) : TS := .on [192, 193, 194, 320, 321, 322, 323, 324, 448, 449, 2560, 2624, 2625, 2688, 2689, 2752, 2753] [(192, ⟨(.box 62 2), 0, nob⟩), (193, ⟨.im, 0, (.lit (.int .i64 a3434.N))⟩), (194, ⟨.im, 0, (.sl (len a3434.Edges) (flat eGEdge a3434.Edges))⟩), (320, ⟨(.box 74 4), 0, nob⟩), (321, ⟨.im, 0, (.lit (.int .i64 a3436.Step))⟩), (322, ⟨.im, 0, (.sl (len a3436.Vals) (flat (eInt .i64) a3436.Vals))⟩), (323, ⟨.im, 0, (.sl (len a3436.Rest) (flat eBool a3436.Rest))⟩), (324, ⟨.im, 0, (.sl (len a3436.In) (flat eGMsg a3436.In))⟩), (448, ⟨.one, 0, nob⟩), (449, ⟨.im, 0, (.lit (.int .i64 v3450))⟩), (2560, ⟨(.ad 5 0 3), 0, nob⟩), (2624, ⟨.one, 0, nob⟩), (2625, ⟨.im, 0, (.sl (len a3436.In) (flat eGMsg a3436.In))⟩), (2688, ⟨.one, 0, nob⟩), (2689, ⟨.im, 0, (.lit (.int .i64 (nlen (len a3436.In))))⟩), (2752, ⟨.one, 0, nob⟩), (2753, ⟨.im, 0, (.lit (.int .i64 v3451))⟩)]
def F104_l0_0_X0 (a3434 : GGraph) (a3436 : GState) (w3458 : Unit) : TS := .on [384, 385] [(384, ⟨.one, 0, nob⟩), (385, ⟨.im, 0, (.lit (.bool false))⟩)]
def F104_l0_0_X1 (a3434 : GGraph) (a3436 : GState) (w3459 : Unit) : TS := .on [] []
theorem F104_l0_0_ok (K : Nat) (a3434 : GGraph) (a3436 : GState) : ∀ (k : Nat) (v3450 : Int) (v3451 : Int) (r : (Unit) ⊕ (Unit)), F104_l0_0 K a3434 a3436 k v3450 v3451 = some r → (Sum.elim (fun w => LoopEv E H hn104 0 c104_0 (F104_l0_0_S a3434 a3436 v3450 v3451) .ret (F104_l0_0_X0 a3434 a3436 w)) (fun w => LoopEv E H hn104 0 c104_0 (F104_l0_0_S a3434 a3436 v3450 v3451) (.exit 0) (F104_l0_0_X1 a3434 a3436 w))) r := by
  intro k
  induction k with
  | zero => intro v3450 v3451 r hF; cases hF
  | succ k ih =>
    intro v3450 v3451 r hF
    rw [F104_l0_0] at hF
    refine cond_some hF (fun h3452 hF => ?_) (fun h3452 hF => ?_)
    ·
      refine cond_some hF (fun h3453 hF => ?_) (fun _ hF => nomatch hF)
      refine bind_some hF (fun x3454 h3455 hF => ?_)
      have pq3460 : ∀ {l : List Cond}, HoldAll E H hn104 l → HoldAll E H hn104 (.test (ilt v3451 (nlen (len a3436.In))) true :: .test (inr v3451 (len a3436.In)) true :: .sub (flat eGMsg a3436.In) (nidx v3451 2) 2 [(.lit (.int .i64 x3454.To)), (.lit (.int .i64 x3454.V))] :: l) := fun z => ⟨h3452, h3453, ⟨rfl, sub_flat0 eGMsg_len h3455 2 (by decide)⟩, z⟩
      refine cond_some hF (fun h3456 hF => ?_) (fun h3456 hF => ?_)
      ·
        have hr := Option.some.inj hF
        subst hr
        have pz : HoldAll E H hn104 [.test (beqb (ile x3454.To v3450) false) false, .test (beqb (ile x3454.To v3450) false) false, .test (beqb (ile x3454.To v3450) false) false, .test (beqb (ile x3454.To v3450) false) false, .test (beqb (ile x3454.To v3450) false) false, .test (ile x3454.To v3450) true, .test true true] := ⟨(beqb_ft h3456), (beqb_ft h3456), (beqb_ft h3456), (beqb_ft h3456), (beqb_ft h3456), h3456, rfl, trivial⟩
        exact loop_endC (h := hn104) (l := 0) (c := c104_0) (ts := F104_l0_0_S a3434 a3436 v3450 v3451) (ts' := F104_l0_0_X0 a3434 a3436 ()) (ex := .ret) (pq3460 pz) (by kernel_rfl) trivial
      have pq3461 : ∀ {l : List Cond}, HoldAll E H hn104 l → HoldAll E H hn104 (.test (beqb (ile x3454.To v3450) false) true :: .test (beqb (ile x3454.To v3450) false) true :: .test (beqb (ile x3454.To v3450) false) true :: .test (beqb (ile x3454.To v3450) false) true :: .test (beqb (ile x3454.To v3450) false) true :: .test (ile x3454.To v3450) false :: l) := fun z => ⟨(beqb_ff h3456), (beqb_ff h3456), (beqb_ff h3456), (beqb_ff h3456), (beqb_ff h3456), h3456, z⟩
      refine cond_some hF (fun h3457 hF => ?_) (fun h3457 hF => ?_)
      ·
        have hr := Option.some.inj hF
        subst hr
        have pz : HoldAll E H hn104 [.test (ige x3454.To a3434.N) true] := ⟨(ige_eq h3457), trivial⟩
        exact loop_endC (h := hn104) (l := 0) (c := c104_0) (ts := F104_l0_0_S a3434 a3436 v3450 v3451) (ts' := F104_l0_0_X0 a3434 a3436 ()) (ex := .ret) (pq3460 (pq3461 pz)) (by kernel_rfl) trivial
      have pz : HoldAll E H hn104 [.test (ige x3454.To a3434.N) false, .int (wadd .i64 v3451 1) (wadd .i64 v3451 1)] := ⟨(ige_eq h3457), rfl, trivial⟩
      have h0 := ih _ _ _ hF
      have hn := fun ex ts' => loop_nextC (h := hn104) (l := 0) (c := c104_0) (ts := F104_l0_0_S a3434 a3436 v3450 v3451) (ts1 := (F104_l0_0_S a3434 a3436 x3454.To (wadd .i64 v3451 1))) (ex := ex) (ts' := ts') (pq3460 (pq3461 pz)) (by kernel_rfl)
      cases r with
      | inl w => exact hn _ _ h0
      | inr w => exact hn _ _ h0
    have hr := Option.some.inj hF
    subst hr
    have pz : HoldAll E H hn104 [.test (ilt v3451 (nlen (len a3436.In))) false] := ⟨h3452, trivial⟩
    exact loop_endC (h := hn104) (l := 0) (c := c104_0) (ts := F104_l0_0_S a3434 a3436 v3450 v3451) (ts' := F104_l0_0_X1 a3434 a3436 ()) (ex := (.exit 0)) pz (by kernel_rfl) trivial

def F104 (K : Nat) (a3434 : GGraph) (a3435 : GJob) (a3436 : GState) : Option (Bool) :=
  (F94 K a3434 a3435).bind fun r3437 =>
  bif (ieq r3437 0) then
    (bif (ilt a3436.Step 0) then
      (some false)
    else
    bif (ilt 40 a3436.Step) then
      (some false)
    else
    bif (ieq (nlen (len a3436.Vals)) a3434.N) then
      (bif (ieq (nlen (len a3436.Rest)) a3434.N) then
        ((F104_l0_0 K a3434 a3436 K (-1) 0).bind fun y3463 =>
        Sum.elim (fun w3464 =>
          some false)
          (fun w3465 =>
          some true) y3463)
      else
      some false)
    else
    some false)
  else
  some false
theorem F104_ok (K : Nat) (a3434 : GGraph) (a3435 : GJob) (a3436 : GState) (r : Bool) (hF : F104 K a3434 a3435 a3436 = some r) : Evt E H 104 [.agg (eGGraph a3434), .agg (eGJob a3435), .agg (eGState a3436)] (F104_res r) := by
  rw [F104] at hF
  refine bind_some hF (fun r3437 h3438 hF => ?_)
  refine cond_some hF (fun h3439 hF => ?_) (fun h3439 hF => ?_)
  ·
    have pq3466 : ∀ {l : List Cond}, HoldAll E H hn104 l → HoldAll E H hn104 (.call 94 [.agg (eGGraph a3434), .agg (eGJob a3435)] (F94_res r3437) :: .test (leadsAny (Res.mk [(.one (.im (.lit (.int .i64 r3437))))] [])) false :: .test (beqb (ine r3437 0) false) true :: .test (beqb (ine r3437 0) false) true :: .test (beqb (ine r3437 0) false) true :: .test (ine r3437 0) false :: l) := fun z => ⟨(F94_ok K a3434 a3435 _ h3438), (leads_ok (by simp only [leadsAny, List.any_cons, List.any_nil, RV.leads, RC.leads, leadsT, hasSl_lit, Bool.or_false, flat_ns (eInt_ns _), flat_ns eBool_ns, flat_ns eStr_ns, flat_ns eGJob_ns, flat_ns eGEdge_ns, flat_ns eGAsked_ns, flat_ns eGMsg_ns, flat_ns eGrule_ns, flat_ns eGA199_ns, flat_ns eGA202_ns])), (beqb_ff (ine_t h3439)), (beqb_ff (ine_t h3439)), (beqb_ff (ine_t h3439)), (ine_t h3439), z⟩
    refine cond_some hF (fun h3440 hF => ?_) (fun h3440 hF => ?_)
    ·
      have hr := Option.some.inj hF
      subst hr
      have pz : HoldAll E H hn104 [.test (beqb (ilt a3436.Step 0) false) false, .test (beqb (ilt a3436.Step 0) false) false, .test (beqb (ilt a3436.Step 0) false) false, .test (ilt a3436.Step 0) true, .test (beqb true false) false, .test (beqb true false) false, .test (beqb true false) false, .test (beqb true false) false, .test (beqb true false) false, .test (beqb true false) false, .test true true, .test (beqb true false) false, .test (beqb true false) false, .test (beqb true false) false, .test (beqb true false) false, .test (beqb true false) false, .test (beqb true false) false, .test true true, .test true true] := ⟨(beqb_ft h3440), (beqb_ft h3440), (beqb_ft h3440), h3440, (beqb_ft rfl), (beqb_ft rfl), (beqb_ft rfl), (beqb_ft rfl), (beqb_ft rfl), (beqb_ft rfl), rfl, (beqb_ft rfl), (beqb_ft rfl), (beqb_ft rfl), (beqb_ft rfl), (beqb_ft rfl), (beqb_ft rfl), rfl, rfl, trivial⟩
      exact fn_playC hn104 (f := 104) (ads := [.agg (eGGraph a3434), .agg (eGJob a3435), .agg (eGState a3436)]) (r := F104_res false) (pq3466 pz) (by kernel_rfl) (by kernel_rfl)
    have pq3467 : ∀ {l : List Cond}, HoldAll E H hn104 l → HoldAll E H hn104 (.test (beqb (ilt a3436.Step 0) false) true :: .test (beqb (ilt a3436.Step 0) false) true :: .test (beqb (ilt a3436.Step 0) false) true :: .test (ilt a3436.Step 0) false :: l) := fun z => ⟨(beqb_ff h3440), (beqb_ff h3440), (beqb_ff h3440), h3440, z⟩
    refine cond_some hF (fun h3441 hF => ?_) (fun h3441 hF => ?_)
    ·
      have hr := Option.some.inj hF
      subst hr
      have pz : HoldAll E H hn104 [.test (beqb (igt a3436.Step 40) false) false, .test (beqb (igt a3436.Step 40) false) false, .test (beqb (igt a3436.Step 40) false) false, .test (beqb (igt a3436.Step 40) false) false, .test (beqb (igt a3436.Step 40) false) false, .test (beqb (igt a3436.Step 40) false) false, .test (igt a3436.Step 40) true, .test (beqb true false) false, .test (beqb true false) false, .test (beqb true false) false, .test (beqb true false) false, .test (beqb true false) false, .test (beqb true false) false, .test true true, .test true true] := ⟨(beqb_ft (igt_eq h3441)), (beqb_ft (igt_eq h3441)), (beqb_ft (igt_eq h3441)), (beqb_ft (igt_eq h3441)), (beqb_ft (igt_eq h3441)), (beqb_ft (igt_eq h3441)), (igt_eq h3441), (beqb_ft rfl), (beqb_ft rfl), (beqb_ft rfl), (beqb_ft rfl), (beqb_ft rfl), (beqb_ft rfl), rfl, rfl, trivial⟩
      exact fn_playC hn104 (f := 104) (ads := [.agg (eGGraph a3434), .agg (eGJob a3435), .agg (eGState a3436)]) (r := F104_res false) (pq3466 (pq3467 pz)) (by kernel_rfl) (by kernel_rfl)
    have pq3468 : ∀ {l : List Cond}, HoldAll E H hn104 l → HoldAll E H hn104 (.test (beqb (igt a3436.Step 40) false) true :: .test (beqb (igt a3436.Step 40) false) true :: .test (beqb (igt a3436.Step 40) false) true :: .int (nlen (len a3436.Vals)) (nlen (len a3436.Vals)) :: .test (beqb (igt a3436.Step 40) false) true :: .test (beqb (igt a3436.Step 40) false) true :: .test (beqb (igt a3436.Step 40) false) true :: .test (igt a3436.Step 40) false :: l) := fun z => ⟨(beqb_ff (igt_eq h3441)), (beqb_ff (igt_eq h3441)), (beqb_ff (igt_eq h3441)), rfl, (beqb_ff (igt_eq h3441)), (beqb_ff (igt_eq h3441)), (beqb_ff (igt_eq h3441)), (igt_eq h3441), z⟩
    refine cond_some hF (fun h3442 hF => ?_) (fun h3442 hF => ?_)
    ·
      have pq3469 : ∀ {l : List Cond}, HoldAll E H hn104 l → HoldAll E H hn104 (.test (beqb (ine (nlen (len a3436.Vals)) a3434.N) false) true :: .test (beqb (ine (nlen (len a3436.Vals)) a3434.N) false) true :: .test (beqb (ine (nlen (len a3436.Vals)) a3434.N) false) true :: .int (nlen (len a3436.Rest)) (nlen (len a3436.Rest)) :: .test (beqb (ine (nlen (len a3436.Vals)) a3434.N) false) true :: .test (beqb (ine (nlen (len a3436.Vals)) a3434.N) false) true :: .test (beqb (ine (nlen (len a3436.Vals)) a3434.N) false) true :: .test (ine (nlen (len a3436.Vals)) a3434.N) false :: l) := fun z => ⟨(beqb_ff (ine_t h3442)), (beqb_ff (ine_t h3442)), (beqb_ff (ine_t h3442)), rfl, (beqb_ff (ine_t h3442)), (beqb_ff (ine_t h3442)), (beqb_ff (ine_t h3442)), (ine_t h3442), z⟩
      refine cond_some hF (fun h3443 hF => ?_) (fun h3443 hF => ?_)
      ·
        refine bind_some hF (fun y3463 h3462 hF => ?_)
        refine sum_some hF (fun w3464 hx hF => ?_) (fun w3465 hx hF => ?_)
        ·
          subst hx
          have hr := Option.some.inj hF
          subst hr
          have pz : HoldAll E H hn104 [.test (ine (nlen (len a3436.Rest)) a3434.N) false, .int (nlen (len a3436.In)) (nlen (len a3436.In)), .loop 0 c104_0 (F104_l0_0_S a3434 a3436 (-1) 0) .ret (F104_l0_0_X0 a3434 a3436 w3464)] := ⟨(ine_t h3443), rfl, (F104_l0_0_ok K a3434 a3436 K (-1) 0 _ h3462), trivial⟩
          exact fn_playC hn104 (f := 104) (ads := [.agg (eGGraph a3434), .agg (eGJob a3435), .agg (eGState a3436)]) (r := F104_res false) (pq3466 (pq3467 (pq3468 (pq3469 pz)))) (by kernel_rfl) (by kernel_rfl)
        subst hx
        have hr := Option.some.inj hF
        subst hr
        have pz : HoldAll E H hn104 [.test (ine (nlen (len a3436.Rest)) a3434.N) false, .int (nlen (len a3436.In)) (nlen (len a3436.In)), .loop 0 c104_0 (F104_l0_0_S a3434 a3436 (-1) 0) (.exit 0) (F104_l0_0_X1 a3434 a3436 w3465)] := ⟨(ine_t h3443), rfl, (F104_l0_0_ok K a3434 a3436 K (-1) 0 _ h3462), trivial⟩
        exact fn_playC hn104 (f := 104) (ads := [.agg (eGGraph a3434), .agg (eGJob a3435), .agg (eGState a3436)]) (r := F104_res true) (pq3466 (pq3467 (pq3468 (pq3469 pz)))) (by kernel_rfl) (by kernel_rfl)
      have hr := Option.some.inj hF
      subst hr
      have pz : HoldAll E H hn104 [.test (ine (nlen (len a3436.Rest)) a3434.N) true] := ⟨(ine_f h3443), trivial⟩
      exact fn_playC hn104 (f := 104) (ads := [.agg (eGGraph a3434), .agg (eGJob a3435), .agg (eGState a3436)]) (r := F104_res false) (pq3466 (pq3467 (pq3468 (pq3469 pz)))) (by kernel_rfl) (by kernel_rfl)
    have hr := Option.some.inj hF
    subst hr
    have pz : HoldAll E H hn104 [.test (beqb (ine (nlen (len a3436.Vals)) a3434.N) false) false, .test (beqb (ine (nlen (len a3436.Vals)) a3434.N) false) false, .test (beqb (ine (nlen (len a3436.Vals)) a3434.N) false) false, .test (beqb (ine (nlen (len a3436.Vals)) a3434.N) false) false, .test (beqb (ine (nlen (len a3436.Vals)) a3434.N) false) false, .test (beqb (ine (nlen (len a3436.Vals)) a3434.N) false) false, .test (ine (nlen (len a3436.Vals)) a3434.N) true, .test true true] := ⟨(beqb_ft (ine_f h3442)), (beqb_ft (ine_f h3442)), (beqb_ft (ine_f h3442)), (beqb_ft (ine_f h3442)), (beqb_ft (ine_f h3442)), (beqb_ft (ine_f h3442)), (ine_f h3442), rfl, trivial⟩
    exact fn_playC hn104 (f := 104) (ads := [.agg (eGGraph a3434), .agg (eGJob a3435), .agg (eGState a3436)]) (r := F104_res false) (pq3466 (pq3467 (pq3468 pz))) (by kernel_rfl) (by kernel_rfl)
  have hr := Option.some.inj hF
  subst hr
  have pz : HoldAll E H hn104 [.call 94 [.agg (eGGraph a3434), .agg (eGJob a3435)] (F94_res r3437), .test (leadsAny (Res.mk [(.one (.im (.lit (.int .i64 r3437))))] [])) false, .test (beqb (ine r3437 0) false) false, .test (beqb (ine r3437 0) false) false, .test (beqb (ine r3437 0) false) false, .test (ine r3437 0) true, .test (beqb true false) false, .test (beqb true false) false, .test (beqb true false) false, .test true true, .test (beqb true false) false, .test (beqb true false) false, .test (beqb true false) false, .test (beqb true false) false, .test (beqb true false) false, .test (beqb true false) false, .test true true, .test (beqb true false) false, .test (beqb true false) false, .test (beqb true false) false, .test (beqb true false) false, .test (beqb true false) false, .test (beqb true false) false, .test true true, .test true true] := ⟨(F94_ok K a3434 a3435 _ h3438), (leads_ok (by simp only [leadsAny, List.any_cons, List.any_nil, RV.leads, RC.leads, leadsT, hasSl_lit, Bool.or_false, flat_ns (eInt_ns _), flat_ns eBool_ns, flat_ns eStr_ns, flat_ns eGJob_ns, flat_ns eGEdge_ns, flat_ns eGAsked_ns, flat_ns eGMsg_ns, flat_ns eGrule_ns, flat_ns eGA199_ns, flat_ns eGA202_ns])), (beqb_ft (ine_f h3439)), (beqb_ft (ine_f h3439)), (beqb_ft (ine_f h3439)), (ine_f h3439), (beqb_ft rfl), (beqb_ft rfl), (beqb_ft rfl), rfl, (beqb_ft rfl), (beqb_ft rfl), (beqb_ft rfl), (beqb_ft rfl), (beqb_ft rfl), (beqb_ft rfl), rfl, (beqb_ft rfl), (beqb_ft rfl), (beqb_ft rfl), (beqb_ft rfl), (beqb_ft rfl), (beqb_ft rfl), rfl, rfl, trivial⟩
  exact fn_playC hn104 (f := 104) (ads := [.agg (eGGraph a3434), .agg (eGJob a3435), .agg (eGState a3436)]) (r := F104_res false) pz (by kernel_rfl) (by kernel_rfl)

end Go.Proofs.Ytnjanliihnadjaa.Tm

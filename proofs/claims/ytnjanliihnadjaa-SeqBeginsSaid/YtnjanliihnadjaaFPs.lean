/- Printed by program: what each function computes, and that the machine answers so. Conditions: none. -/
import Derived.Test.YtnjanliihnadjaaTy
import Derived.Test.YtnjanliihnadjaaTab
import Derived.Test.YtnjanliihnadjaaKn
import Derived.Test.YtnjanliihnadjaaFP
import Derived.KernelRfl
set_option linter.unusedVariables false
set_option linter.unusedSimpArgs false
namespace Go.Proofs.Ytnjanliihnadjaa.Tm
open Go
/-! ### haywain/haywainref06.Right -/
noncomputable def hn88 : Hint := { H 88 with nt := 75, prot := 0 }
noncomputable def c88_0 : Code := loopOf E 88 0
def F88_res (r1227 : Bool) : Res := ⟨[(.one (.im (.lit (.bool r1227))))], []⟩
def F88_l0_0 (K : Nat) (a1185 : GGraph) (a1187 : GState) : Nat → Int → Option ((Unit) ⊕ (Unit))
  | 0, _ => none
  | k + 1, v1201 =>
    bif (ilt v1201 (nlen (len a1187.In))) then
      (bif (inr v1201 (len a1187.In)) then
      (elAt a1187.In v1201).bind fun x1204 =>
      bif (ilt x1204.To 0) then
        (some (.inl ()))
      else
      bif (ile a1185.N x1204.To) then
        (some (.inl ()))
      else
      bif (ilt 0 v1201) then
        (bif (inr (wsub .i64 v1201 1) (len a1187.In)) then
        (elAt a1187.In (wsub .i64 v1201 1)).bind fun x1210 =>
        bif (ile x1204.To x1210.To) then
          (some (.inl ()))
        else
        F88_l0_0 K a1185 a1187 k (wadd .i64 v1201 1)
        else none)
      else
      F88_l0_0 K a1185 a1187 k (wadd .i64 v1201 1)
      else none)
    else
    some (.inr ())
def F88_l0_0_S (a1185 : GGraph) (a1187 : GState) (v1201 : Int) : TS := .on [192, 193, 194, 320, 321, 322, 323, 324, 448, 449] [(192, ⟨(.box 62 2), 0, nob⟩), (193, ⟨.im, 0, (.lit (.int .i64 a1185.N))⟩), (194, ⟨.im, 0, (.sl (len a1185.Edges) (flat eGEdge a1185.Edges))⟩), (320, ⟨(.box 74 4), 0, nob⟩), (321, ⟨.im, 0, (.lit (.int .i64 a1187.Step))⟩), (322, ⟨.im, 0, (.sl (len a1187.Vals) (flat (eInt .i64) a1187.Vals))⟩), (323, ⟨.im, 0, (.sl (len a1187.Rest) (flat eBool a1187.Rest))⟩), (324, ⟨.im, 0, (.sl (len a1187.In) (flat eGMsg a1187.In))⟩), (448, ⟨.one, 0, nob⟩), (449, ⟨.im, 0, (.lit (.int .i64 v1201))⟩)]
def F88_l0_0_X0 (a1185 : GGraph) (a1187 : GState) (w1213 : Unit) : TS := .on [384, 385] [(384, ⟨.one, 0, nob⟩), (385, ⟨.im, 0, (.lit (.bool false))⟩)]
def F88_l0_0_X1 (a1185 : GGraph) (a1187 : GState) (w1214 : Unit) : TS := .on [] []
theorem F88_l0_0_ok (K : Nat) (a1185 : GGraph) (a1187 : GState) : ∀ (k : Nat) (v1201 : Int) (r : (Unit) ⊕ (Unit)), F88_l0_0 K a1185 a1187 k v1201 = some r → (Sum.elim (fun w => LoopEv E H hn88 0 c88_0 (F88_l0_0_S a1185 a1187 v1201) .ret (F88_l0_0_X0 a1185 a1187 w)) (fun w => LoopEv E H hn88 0 c88_0 (F88_l0_0_S a1185 a1187 v1201) (.exit 0) (F88_l0_0_X1 a1185 a1187 w))) r := by
  intro k
  induction k with
  | zero => intro v1201 r hF; cases hF
  | succ k ih =>
    intro v1201 r hF
    rw [F88_l0_0] at hF
    refine cond_some hF (fun h1202 hF => ?_) (fun h1202 hF => ?_)
    ·
      refine cond_some hF (fun h1203 hF => ?_) (fun _ hF => nomatch hF)
      refine bind_some hF (fun x1204 h1205 hF => ?_)
      have pq1215 : ∀ {l : List Cond}, HoldAll E H hn88 l → HoldAll E H hn88 (.int (nlen (len a1187.In)) (nlen (len a1187.In)) :: .test (ilt v1201 (nlen (len a1187.In))) true :: .test (inr v1201 (len a1187.In)) true :: .sub (flat eGMsg a1187.In) (nadd (nidx v1201 2) 0) 1 [(.lit (.int .i64 x1204.To))] :: l) := fun z => ⟨rfl, h1202, h1203, ⟨rfl, sub_flat eGMsg_len h1205 0 1 (by decide)⟩, z⟩
      refine cond_some hF (fun h1206 hF => ?_) (fun h1206 hF => ?_)
      ·
        have hr := Option.some.inj hF
        subst hr
        have pz : HoldAll E H hn88 [.test (beqb (ilt x1204.To 0) false) false, .test (beqb (ilt x1204.To 0) false) false, .test (beqb (ilt x1204.To 0) false) false, .test (beqb (ilt x1204.To 0) false) false, .test (ilt x1204.To 0) true, .test (beqb true false) false, .test (beqb true false) false, .test (beqb true false) false, .test (beqb true false) false, .test true true, .test true true] := ⟨(beqb_ft h1206), (beqb_ft h1206), (beqb_ft h1206), (beqb_ft h1206), h1206, (beqb_ft rfl), (beqb_ft rfl), (beqb_ft rfl), (beqb_ft rfl), rfl, rfl, trivial⟩
        exact loop_endC (h := hn88) (l := 0) (c := c88_0) (ts := F88_l0_0_S a1185 a1187 v1201) (ts' := F88_l0_0_X0 a1185 a1187 ()) (ex := .ret) (pq1215 pz) (by kernel_rfl) trivial
      have pq1216 : ∀ {l : List Cond}, HoldAll E H hn88 l → HoldAll E H hn88 (.test (beqb (ilt x1204.To 0) false) true :: .test (beqb (ilt x1204.To 0) false) true :: .test (beqb (ilt x1204.To 0) false) true :: .test (beqb (ilt x1204.To 0) false) true :: .test (ilt x1204.To 0) false :: l) := fun z => ⟨(beqb_ff h1206), (beqb_ff h1206), (beqb_ff h1206), (beqb_ff h1206), h1206, z⟩
      refine cond_some hF (fun h1207 hF => ?_) (fun h1207 hF => ?_)
      ·
        have hr := Option.some.inj hF
        subst hr
        have pz : HoldAll E H hn88 [.test (beqb (ige x1204.To a1185.N) false) false, .test (beqb (ige x1204.To a1185.N) false) false, .test (beqb (ige x1204.To a1185.N) false) false, .test (beqb (ige x1204.To a1185.N) false) false, .test (ige x1204.To a1185.N) true, .test true true] := ⟨(beqb_ft (ige_eq h1207)), (beqb_ft (ige_eq h1207)), (beqb_ft (ige_eq h1207)), (beqb_ft (ige_eq h1207)), (ige_eq h1207), rfl, trivial⟩
        exact loop_endC (h := hn88) (l := 0) (c := c88_0) (ts := F88_l0_0_S a1185 a1187 v1201) (ts' := F88_l0_0_X0 a1185 a1187 ()) (ex := .ret) (pq1215 (pq1216 pz)) (by kernel_rfl) trivial
      have pq1217 : ∀ {l : List Cond}, HoldAll E H hn88 l → HoldAll E H hn88 (.test (beqb (ige x1204.To a1185.N) false) true :: .test (beqb (ige x1204.To a1185.N) false) true :: .test (beqb (ige x1204.To a1185.N) false) true :: l) := fun z => ⟨(beqb_ff (ige_eq h1207)), (beqb_ff (ige_eq h1207)), (beqb_ff (ige_eq h1207)), z⟩
      refine cond_some hF (fun h1208 hF => ?_) (fun h1208 hF => ?_)
      ·
        refine cond_some hF (fun h1209 hF => ?_) (fun _ hF => nomatch hF)
        refine bind_some hF (fun x1210 h1211 hF => ?_)
        have pq1218 : ∀ {l : List Cond}, HoldAll E H hn88 l → HoldAll E H hn88 (.test (beqb (igt v1201 0) true) true :: .test (beqb (igt v1201 0) true) true :: .test (beqb (igt v1201 0) true) true :: .test (beqb (igt v1201 0) true) true :: .int (wsub .i64 v1201 1) (wsub .i64 v1201 1) :: .test (beqb (igt v1201 0) true) true :: .test (inr (wsub .i64 v1201 1) (len a1187.In)) true :: .test (beqb (igt v1201 0) true) true :: .test (beqb (igt v1201 0) true) true :: .sub (flat eGMsg a1187.In) (nadd (nidx (wsub .i64 v1201 1) 2) 0) 1 [(.lit (.int .i64 x1210.To))] :: .test (beqb (igt v1201 0) true) true :: .test (beqb (igt v1201 0) true) true :: .test (beqb (ige x1204.To a1185.N) false) true :: .test (igt v1201 0) true :: .test (ige x1204.To a1185.N) false :: l) := fun z => ⟨(beqb_t (igt_eq h1208)), (beqb_t (igt_eq h1208)), (beqb_t (igt_eq h1208)), (beqb_t (igt_eq h1208)), rfl, (beqb_t (igt_eq h1208)), h1209, (beqb_t (igt_eq h1208)), (beqb_t (igt_eq h1208)), ⟨rfl, sub_flat eGMsg_len h1211 0 1 (by decide)⟩, (beqb_t (igt_eq h1208)), (beqb_t (igt_eq h1208)), (beqb_ff (ige_eq h1207)), (igt_eq h1208), (ige_eq h1207), z⟩
        refine cond_some hF (fun h1212 hF => ?_) (fun h1212 hF => ?_)
        ·
          have hr := Option.some.inj hF
          subst hr
          have pz : HoldAll E H hn88 [.test (ige x1210.To x1204.To) true] := ⟨(ige_eq h1212), trivial⟩
          exact loop_endC (h := hn88) (l := 0) (c := c88_0) (ts := F88_l0_0_S a1185 a1187 v1201) (ts' := F88_l0_0_X0 a1185 a1187 ()) (ex := .ret) (pq1215 (pq1216 (pq1217 (pq1218 pz)))) (by kernel_rfl) trivial
        have pz : HoldAll E H hn88 [.test (ige x1210.To x1204.To) false, .int (wadd .i64 v1201 1) (wadd .i64 v1201 1)] := ⟨(ige_eq h1212), rfl, trivial⟩
        have h0 := ih _ _ hF
        have hn := fun ex ts' => loop_nextC (h := hn88) (l := 0) (c := c88_0) (ts := F88_l0_0_S a1185 a1187 v1201) (ts1 := (F88_l0_0_S a1185 a1187 (wadd .i64 v1201 1))) (ex := ex) (ts' := ts') (pq1215 (pq1216 (pq1217 (pq1218 pz)))) (by kernel_rfl)
        cases r with
        | inl w => exact hn _ _ h0
        | inr w => exact hn _ _ h0
      have pz : HoldAll E H hn88 [.test (beqb (igt v1201 0) true) false, .test (beqb (igt v1201 0) true) false, .test (beqb (igt v1201 0) true) false, .test (beqb (igt v1201 0) true) false, .test (beqb (igt v1201 0) true) false, .test (beqb (igt v1201 0) true) false, .test (beqb (igt v1201 0) true) false, .test (beqb (igt v1201 0) true) false, .test (beqb (igt v1201 0) true) false, .test (beqb (ige x1204.To a1185.N) false) true, .test (igt v1201 0) false, .test (ige x1204.To a1185.N) false, .test false false, .int (wadd .i64 v1201 1) (wadd .i64 v1201 1)] := ⟨(beqb_t (igt_eq h1208)), (beqb_t (igt_eq h1208)), (beqb_t (igt_eq h1208)), (beqb_t (igt_eq h1208)), (beqb_t (igt_eq h1208)), (beqb_t (igt_eq h1208)), (beqb_t (igt_eq h1208)), (beqb_t (igt_eq h1208)), (beqb_t (igt_eq h1208)), (beqb_ff (ige_eq h1207)), (igt_eq h1208), (ige_eq h1207), rfl, rfl, trivial⟩
      have h0 := ih _ _ hF
      have hn := fun ex ts' => loop_nextC (h := hn88) (l := 0) (c := c88_0) (ts := F88_l0_0_S a1185 a1187 v1201) (ts1 := (F88_l0_0_S a1185 a1187 (wadd .i64 v1201 1))) (ex := ex) (ts' := ts') (pq1215 (pq1216 (pq1217 pz))) (by kernel_rfl)
      cases r with
      | inl w => exact hn _ _ h0
      | inr w => exact hn _ _ h0
    have hr := Option.some.inj hF
    subst hr
    have pz : HoldAll E H hn88 [.int (nlen (len a1187.In)) (nlen (len a1187.In)), .test (ilt v1201 (nlen (len a1187.In))) false] := ⟨rfl, h1202, trivial⟩
    exact loop_endC (h := hn88) (l := 0) (c := c88_0) (ts := F88_l0_0_S a1185 a1187 v1201) (ts' := F88_l0_0_X1 a1185 a1187 ()) (ex := (.exit 0)) pz (by kernel_rfl) trivial

def F88 (K : Nat) (a1185 : GGraph) (a1186 : GJob) (a1187 : GState) : Option (Bool) :=
  (F59 K a1185 a1186).bind fun r1188 =>
  bif (ieq r1188 0) then
    (bif (ilt a1187.Step 0) then
      (some false)
    else
    bif (ilt 40 a1187.Step) then
      (some false)
    else
    bif (ieq (nlen (len a1187.Vals)) a1185.N) then
      (bif (ieq (nlen (len a1187.Rest)) a1185.N) then
        ((F88_l0_0 K a1185 a1187 K 0).bind fun y1220 =>
        Sum.elim (fun w1221 =>
          some false)
          (fun w1222 =>
          some true) y1220)
      else
      some false)
    else
    some false)
  else
  some false
theorem F88_ok (K : Nat) (a1185 : GGraph) (a1186 : GJob) (a1187 : GState) (r : Bool) (hF : F88 K a1185 a1186 a1187 = some r) : Evt E H 88 [.agg (eGGraph a1185), .agg (eGJob a1186), .agg (eGState a1187)] (F88_res r) := by
  rw [F88] at hF
  refine bind_some hF (fun r1188 h1189 hF => ?_)
  refine cond_some hF (fun h1190 hF => ?_) (fun h1190 hF => ?_)
  ·
    have pq1223 : ∀ {l : List Cond}, HoldAll E H hn88 l → HoldAll E H hn88 (.call 59 [.agg (eGGraph a1185), .agg (eGJob a1186)] (F59_res r1188) :: .test (leadsAny (Res.mk [(.one (.im (.lit (.int .i64 r1188))))] [])) false :: .test (beqb (ine r1188 0) false) true :: .test (beqb (ine r1188 0) false) true :: .test (beqb (ine r1188 0) false) true :: .test (ine r1188 0) false :: l) := fun z => ⟨(F59_ok K a1185 a1186 _ h1189), (leads_ok (by simp only [leadsAny, List.any_cons, List.any_nil, RV.leads, RC.leads, leadsT, hasSl_lit, Bool.or_false, flat_ns (eInt_ns _), flat_ns eBool_ns, flat_ns eStr_ns, flat_ns eGJob_ns, flat_ns eGEdge_ns, flat_ns eGAsked_ns, flat_ns eGMsg_ns, flat_ns eGrule_ns, flat_ns eGA199_ns, flat_ns eGA202_ns])), (beqb_ff (ine_t h1190)), (beqb_ff (ine_t h1190)), (beqb_ff (ine_t h1190)), (ine_t h1190), z⟩
    refine cond_some hF (fun h1191 hF => ?_) (fun h1191 hF => ?_)
    ·
      have hr := Option.some.inj hF
      subst hr
      have pz : HoldAll E H hn88 [.test (beqb (ilt a1187.Step 0) false) false, .test (beqb (ilt a1187.Step 0) false) false, .test (beqb (ilt a1187.Step 0) false) false, .test (ilt a1187.Step 0) true, .test (beqb true false) false, .test (beqb true false) false, .test (beqb true false) false, .test (beqb true false) false, .test (beqb true false) false, .test (beqb true false) false, .test true true, .test (beqb true false) false, .test (beqb true false) false, .test (beqb true false) false, .test (beqb true false) false, .test (beqb true false) false, .test (beqb true false) false, .test true true, .test true true] := ⟨(beqb_ft h1191), (beqb_ft h1191), (beqb_ft h1191), h1191, (beqb_ft rfl), (beqb_ft rfl), (beqb_ft rfl), (beqb_ft rfl), (beqb_ft rfl), (beqb_ft rfl), rfl, (beqb_ft rfl), (beqb_ft rfl), (beqb_ft rfl), (beqb_ft rfl), (beqb_ft rfl), (beqb_ft rfl), rfl, rfl, trivial⟩
      exact fn_playC hn88 (f := 88) (ads := [.agg (eGGraph a1185), .agg (eGJob a1186), .agg (eGState a1187)]) (r := F88_res false) (pq1223 pz) (by kernel_rfl) (by kernel_rfl)
    have pq1224 : ∀ {l : List Cond}, HoldAll E H hn88 l → HoldAll E H hn88 (.test (beqb (ilt a1187.Step 0) false) true :: .test (beqb (ilt a1187.Step 0) false) true :: .test (beqb (ilt a1187.Step 0) false) true :: .test (ilt a1187.Step 0) false :: l) := fun z => ⟨(beqb_ff h1191), (beqb_ff h1191), (beqb_ff h1191), h1191, z⟩
    refine cond_some hF (fun h1192 hF => ?_) (fun h1192 hF => ?_)
    ·
      have hr := Option.some.inj hF
      subst hr
      have pz : HoldAll E H hn88 [.test (beqb (igt a1187.Step 40) false) false, .test (beqb (igt a1187.Step 40) false) false, .test (beqb (igt a1187.Step 40) false) false, .test (beqb (igt a1187.Step 40) false) false, .test (beqb (igt a1187.Step 40) false) false, .test (beqb (igt a1187.Step 40) false) false, .test (igt a1187.Step 40) true, .test (beqb true false) false, .test (beqb true false) false, .test (beqb true false) false, .test (beqb true false) false, .test (beqb true false) false, .test (beqb true false) false, .test true true, .test true true] := ⟨(beqb_ft (igt_eq h1192)), (beqb_ft (igt_eq h1192)), (beqb_ft (igt_eq h1192)), (beqb_ft (igt_eq h1192)), (beqb_ft (igt_eq h1192)), (beqb_ft (igt_eq h1192)), (igt_eq h1192), (beqb_ft rfl), (beqb_ft rfl), (beqb_ft rfl), (beqb_ft rfl), (beqb_ft rfl), (beqb_ft rfl), rfl, rfl, trivial⟩
      exact fn_playC hn88 (f := 88) (ads := [.agg (eGGraph a1185), .agg (eGJob a1186), .agg (eGState a1187)]) (r := F88_res false) (pq1223 (pq1224 pz)) (by kernel_rfl) (by kernel_rfl)
    have pq1225 : ∀ {l : List Cond}, HoldAll E H hn88 l → HoldAll E H hn88 (.test (beqb (igt a1187.Step 40) false) true :: .test (beqb (igt a1187.Step 40) false) true :: .test (beqb (igt a1187.Step 40) false) true :: .int (nlen (len a1187.Vals)) (nlen (len a1187.Vals)) :: .test (beqb (igt a1187.Step 40) false) true :: .test (beqb (igt a1187.Step 40) false) true :: .test (beqb (igt a1187.Step 40) false) true :: .test (igt a1187.Step 40) false :: l) := fun z => ⟨(beqb_ff (igt_eq h1192)), (beqb_ff (igt_eq h1192)), (beqb_ff (igt_eq h1192)), rfl, (beqb_ff (igt_eq h1192)), (beqb_ff (igt_eq h1192)), (beqb_ff (igt_eq h1192)), (igt_eq h1192), z⟩
    refine cond_some hF (fun h1193 hF => ?_) (fun h1193 hF => ?_)
    ·
      have pq1226 : ∀ {l : List Cond}, HoldAll E H hn88 l → HoldAll E H hn88 (.test (beqb (ine (nlen (len a1187.Vals)) a1185.N) false) true :: .test (beqb (ine (nlen (len a1187.Vals)) a1185.N) false) true :: .test (beqb (ine (nlen (len a1187.Vals)) a1185.N) false) true :: .int (nlen (len a1187.Rest)) (nlen (len a1187.Rest)) :: .test (beqb (ine (nlen (len a1187.Vals)) a1185.N) false) true :: .test (beqb (ine (nlen (len a1187.Vals)) a1185.N) false) true :: .test (beqb (ine (nlen (len a1187.Vals)) a1185.N) false) true :: .test (ine (nlen (len a1187.Vals)) a1185.N) false :: l) := fun z => ⟨(beqb_ff (ine_t h1193)), (beqb_ff (ine_t h1193)), (beqb_ff (ine_t h1193)), rfl, (beqb_ff (ine_t h1193)), (beqb_ff (ine_t h1193)), (beqb_ff (ine_t h1193)), (ine_t h1193), z⟩
      refine cond_some hF (fun h1194 hF => ?_) (fun h1194 hF => ?_)
      ·
        refine bind_some hF (fun y1220 h1219 hF => ?_)
        refine sum_some hF (fun w1221 hx hF => ?_) (fun w1222 hx hF => ?_)
        ·
          subst hx
          have hr := Option.some.inj hF
          subst hr
          have pz : HoldAll E H hn88 [.test (ine (nlen (len a1187.Rest)) a1185.N) false, .loop 0 c88_0 (F88_l0_0_S a1185 a1187 0) .ret (F88_l0_0_X0 a1185 a1187 w1221)] := ⟨(ine_t h1194), (F88_l0_0_ok K a1185 a1187 K 0 _ h1219), trivial⟩
          exact fn_playC hn88 (f := 88) (ads := [.agg (eGGraph a1185), .agg (eGJob a1186), .agg (eGState a1187)]) (r := F88_res false) (pq1223 (pq1224 (pq1225 (pq1226 pz)))) (by kernel_rfl) (by kernel_rfl)
        subst hx
        have hr := Option.some.inj hF
        subst hr
        have pz : HoldAll E H hn88 [.test (ine (nlen (len a1187.Rest)) a1185.N) false, .loop 0 c88_0 (F88_l0_0_S a1185 a1187 0) (.exit 0) (F88_l0_0_X1 a1185 a1187 w1222)] := ⟨(ine_t h1194), (F88_l0_0_ok K a1185 a1187 K 0 _ h1219), trivial⟩
        exact fn_playC hn88 (f := 88) (ads := [.agg (eGGraph a1185), .agg (eGJob a1186), .agg (eGState a1187)]) (r := F88_res true) (pq1223 (pq1224 (pq1225 (pq1226 pz)))) (by kernel_rfl) (by kernel_rfl)
      have hr := Option.some.inj hF
      subst hr
      have pz : HoldAll E H hn88 [.test (ine (nlen (len a1187.Rest)) a1185.N) true] := ⟨(ine_f h1194), trivial⟩
      exact fn_playC hn88 (f := 88) (ads := [.agg (eGGraph a1185), .agg (eGJob a1186), .agg (eGState a1187)]) (r := F88_res false) (pq1223 (pq1224 (pq1225 (pq1226 pz)))) (by kernel_rfl) (by kernel_rfl)
    have hr := Option.some.inj hF
    subst hr
    have pz : HoldAll E H hn88 [.test (beqb (ine (nlen (len a1187.Vals)) a1185.N) false) false, .test (beqb (ine (nlen (len a1187.Vals)) a1185.N) false) false, .test (beqb (ine (nlen (len a1187.Vals)) a1185.N) false) false, .test (beqb (ine (nlen (len a1187.Vals)) a1185.N) false) false, .test (beqb (ine (nlen (len a1187.Vals)) a1185.N) false) false, .test (beqb (ine (nlen (len a1187.Vals)) a1185.N) false) false, .test (ine (nlen (len a1187.Vals)) a1185.N) true, .test true true] := ⟨(beqb_ft (ine_f h1193)), (beqb_ft (ine_f h1193)), (beqb_ft (ine_f h1193)), (beqb_ft (ine_f h1193)), (beqb_ft (ine_f h1193)), (beqb_ft (ine_f h1193)), (ine_f h1193), rfl, trivial⟩
    exact fn_playC hn88 (f := 88) (ads := [.agg (eGGraph a1185), .agg (eGJob a1186), .agg (eGState a1187)]) (r := F88_res false) (pq1223 (pq1224 (pq1225 pz))) (by kernel_rfl) (by kernel_rfl)
  have hr := Option.some.inj hF
  subst hr
  have pz : HoldAll E H hn88 [.call 59 [.agg (eGGraph a1185), .agg (eGJob a1186)] (F59_res r1188), .test (leadsAny (Res.mk [(.one (.im (.lit (.int .i64 r1188))))] [])) false, .test (beqb (ine r1188 0) false) false, .test (beqb (ine r1188 0) false) false, .test (beqb (ine r1188 0) false) false, .test (ine r1188 0) true, .test (beqb true false) false, .test (beqb true false) false, .test (beqb true false) false, .test true true, .test (beqb true false) false, .test (beqb true false) false, .test (beqb true false) false, .test (beqb true false) false, .test (beqb true false) false, .test (beqb true false) false, .test true true, .test (beqb true false) false, .test (beqb true false) false, .test (beqb true false) false, .test (beqb true false) false, .test (beqb true false) false, .test (beqb true false) false, .test true true, .test true true] := ⟨(F59_ok K a1185 a1186 _ h1189), (leads_ok (by simp only [leadsAny, List.any_cons, List.any_nil, RV.leads, RC.leads, leadsT, hasSl_lit, Bool.or_false, flat_ns (eInt_ns _), flat_ns eBool_ns, flat_ns eStr_ns, flat_ns eGJob_ns, flat_ns eGEdge_ns, flat_ns eGAsked_ns, flat_ns eGMsg_ns, flat_ns eGrule_ns, flat_ns eGA199_ns, flat_ns eGA202_ns])), (beqb_ft (ine_f h1190)), (beqb_ft (ine_f h1190)), (beqb_ft (ine_f h1190)), (ine_f h1190), (beqb_ft rfl), (beqb_ft rfl), (beqb_ft rfl), rfl, (beqb_ft rfl), (beqb_ft rfl), (beqb_ft rfl), (beqb_ft rfl), (beqb_ft rfl), (beqb_ft rfl), rfl, (beqb_ft rfl), (beqb_ft rfl), (beqb_ft rfl), (beqb_ft rfl), (beqb_ft rfl), (beqb_ft rfl), rfl, rfl, trivial⟩
  exact fn_playC hn88 (f := 88) (ads := [.agg (eGGraph a1185), .agg (eGJob a1186), .agg (eGState a1187)]) (r := F88_res false) pz (by kernel_rfl) (by kernel_rfl)

/-! ### haywain/seq.Right -/
noncomputable def hn104 : Hint := { H 104 with nt := 61, prot := 0 }
noncomputable def c104_0 : Code := loopOf E 104 0
def F104_res (r3470 : Bool) : Res := ⟨[(.one (.im (.lit (.bool r3470))))], []⟩
def F104_l0_0 (K : Nat) (a3434 : GGraph) (a3436 : GState) : Nat → Int → Int → Option ((Unit) ⊕ (Unit))
  | 0, _, _ => none
  | k + 1, v3450, v3451 =>
    bif (ilt v3451 (nlen (len a3436.In))) then
      (bif (inr v3451 (len a3436.In)) then
      (elAt a3436.In v3451).bind fun x3454 =>
      bif (ile x3454.To v3450) then
        (some (.inl ()))
      else
      bif (ile a3434.N x3454.To) then
        (some (.inl ()))
      else
      F104_l0_0 K a3434 a3436 k x3454.To (wadd .i64 v3451 1)
      else none)
    else
    some (.inr ())
def F104_l0_0_S (a3434 : GGraph) (a3436 : GState) (v3450 : Int) (v3451 : Int) : TS := .on [192, 193, 194, 320, 321, 322, 323, 324, 448, 449, 2560, 2624, 2625, 2688, 2689, 2752, 2753] [(192, ⟨(.box 62 2), 0, nob⟩), (193, ⟨.im, 0, (.lit (.int .i64 a3434.N))⟩), (194, ⟨.im, 0, (.sl (len a3434.Edges) (flat eGEdge a3434.Edges))⟩), (320, ⟨(.box 74 4), 0, nob⟩), (321, ⟨.im, 0, (.lit (.int .i64 a3436.Step))⟩), (322, ⟨.im, 0, (.sl (len a3436.Vals) (flat (eInt .i64) a3436.Vals))⟩), (323, ⟨.im, 0, (.sl (len a3436.Rest) (flat eBool a3436.Rest))⟩), (324, ⟨.im, 0, (.sl (len a3436.In) (flat eGMsg a3436.In))⟩), (448, ⟨.one, 0, nob⟩), (449, ⟨.im, 0, (.lit (.int .i64 v3450))⟩), (2560, ⟨(.ad 5 0 3), 0, nob⟩), (2624, ⟨.one, 0, nob⟩), (2625, ⟨.im, 0, (.sl (len a3436.In) (flat eGMsg a3436.In))⟩), (2688, ⟨.one, 0, nob⟩), (2689, ⟨.im, 0, (.lit (.int .i64 (nlen (len a3436.In))))⟩), (2752, ⟨.one, 0, nob⟩), (2753, ⟨.im, 0, (.lit (.int .i64 v3451))⟩)]
def F104_l0_0_X0 (a3434 : GGraph) (a3436 : GState) (w3458 : Unit) : TS := .on [384, 385] [(384, ⟨.one, 0, nob⟩), (385, ⟨.im, 0, (.lit (.bool false))⟩)]
def F104_l0_0_X1 (a3434 : GGraph) (a3436 : GState) (w3459 : Unit) : TS := .on [] []
theorem F104_l0_0_ok (K : Nat) (a3434 : GGraph) (a3436 : GState) : ∀ (k : Nat) (v3450 : Int) (v3451 : Int) (r : (Unit) ⊕ (Unit)), F104_l0_0 K a3434 a3436 k v3450 v3451 = some r → (Sum.elim (fun w => LoopEv E H hn104 0 c104_0 (F104_l0_0_S a3434 a3436 v3450 v3451) .ret (F104_l0_0_X0 a3434 a3436 w)) (fun w => LoopEv E H hn104 0 c104_0 (F104_l0_0_S a3434 a3436 v3450 v3451) (.exit 0) (F104_l0_0_X1 a3434 a3436 w))) r := by
  intro k
  induction k with
  | zero => intro v3450 v3451 r hF; cases hF
  | succ k ih =>
    intro v3450 v3451 r hF
    rw [F104_l0_0] at hF
    refine cond_some hF (fun h3452 hF => ?_) (fun h3452 hF => ?_)
    ·
      refine cond_some hF (fun h3453 hF => ?_) (fun _ hF => nomatch hF)
      refine bind_some hF (fun x3454 h3455 hF => ?_)
      have pq3460 : ∀ {l : List Cond}, HoldAll E H hn104 l → HoldAll E H hn104 (.test (ilt v3451 (nlen (len a3436.In))) true :: .test (inr v3451 (len a3436.In)) true :: .sub (flat eGMsg a3436.In) (nidx v3451 2) 2 [(.lit (.int .i64 x3454.To)), (.lit (.int .i64 x3454.V))] :: l) := fun z => ⟨h3452, h3453, ⟨rfl, sub_flat0 eGMsg_len h3455 2 (by decide)⟩, z⟩
      refine cond_some hF (fun h3456 hF => ?_) (fun h3456 hF => ?_)
      ·
        have hr := Option.some.inj hF
        subst hr
        have pz : HoldAll E H hn104 [.test (beqb (ile x3454.To v3450) false) false, .test (beqb (ile x3454.To v3450) false) false, .test (beqb (ile x3454.To v3450) false) false, .test (beqb (ile x3454.To v3450) false) false, .test (beqb (ile x3454.To v3450) false) false, .test (ile x3454.To v3450) true, .test true true] := ⟨(beqb_ft h3456), (beqb_ft h3456), (beqb_ft h3456), (beqb_ft h3456), (beqb_ft h3456), h3456, rfl, trivial⟩
        exact loop_endC (h := hn104) (l := 0) (c := c104_0) (ts := F104_l0_0_S a3434 a3436 v3450 v3451) (ts' := F104_l0_0_X0 a3434 a3436 ()) (ex := .ret) (pq3460 pz) (by kernel_rfl) trivial
      have pq3461 : ∀ {l : List Cond}, HoldAll E H hn104 l → HoldAll E H hn104 (.test (beqb (ile x3454.To v3450) false) true :: .test (beqb (ile x3454.To v3450) false) true :: .test (beqb (ile x3454.To v3450) false) true :: .test (beqb (ile x3454.To v3450) false) true :: .test (beqb (ile x3454.To v3450) false) true :: .test (ile x3454.To v3450) false :: l) := fun z => ⟨(beqb_ff h3456), (beqb_ff h3456), (beqb_ff h3456), (beqb_ff h3456), (beqb_ff h3456), h3456, z⟩
      refine cond_some hF (fun h3457 hF => ?_) (fun h3457 hF => ?_)
      ·
        have hr := Option.some.inj hF
        subst hr
        have pz : HoldAll E H hn104 [.test (ige x3454.To a3434.N) true] := ⟨(ige_eq h3457), trivial⟩
        exact loop_endC (h := hn104) (l := 0) (c := c104_0) (ts := F104_l0_0_S a3434 a3436 v3450 v3451) (ts' := F104_l0_0_X0 a3434 a3436 ()) (ex := .ret) (pq3460 (pq3461 pz)) (by kernel_rfl) trivial
      have pz : HoldAll E H hn104 [.test (ige x3454.To a3434.N) false, .int (wadd .i64 v3451 1) (wadd .i64 v3451 1)] := ⟨(ige_eq h3457), rfl, trivial⟩
      have h0 := ih _ _ _ hF
      have hn := fun ex ts' => loop_nextC (h := hn104) (l := 0) (c := c104_0) (ts := F104_l0_0_S a3434 a3436 v3450 v3451) (ts1 := (F104_l0_0_S a3434 a3436 x3454.To (wadd .i64 v3451 1))) (ex := ex) (ts' := ts') (pq3460 (pq3461 pz)) (by kernel_rfl)
      cases r with
      | inl w => exact hn _ _ h0
      | inr w => exact hn _ _ h0
    have hr := Option.some.inj hF
    subst hr
    have pz : HoldAll E H hn104 [.test (ilt v3451 (nlen (len a3436.In))) false] := ⟨h3452, trivial⟩
    exact loop_endC (h := hn104) (l := 0) (c := c104_0) (ts := F104_l0_0_S a3434 a3436 v3450 v3451) (ts' := F104_l0_0_X1 a3434 a3436 ()) (ex := (.exit 0)) pz (by kernel_rfl) trivial

def F104 (K : Nat) (a3434 : GGraph) (a3435 : GJob) (a3436 : GState) : Option (Bool) :=
  (F94 K a3434 a3435).bind fun r3437 =>
  bif (ieq r3437 0) then
    (bif (ilt a3436.Step 0) then
      (some false)
    else
    bif (ilt 40 a3436.Step) then
      (some false)
    else
    bif (ieq (nlen (len a3436.Vals)) a3434.N) then
      (bif (ieq (nlen (len a3436.Rest)) a3434.N) then
        ((F104_l0_0 K a3434 a3436 K (-1) 0).bind fun y3463 =>
        Sum.elim (fun w3464 =>
          some false)
          (fun w3465 =>
          some true) y3463)
      else
      some false)
    else
    some false)
  else
  some false
theorem F104_ok (K : Nat) (a3434 : GGraph) (a3435 : GJob) (a3436 : GState) (r : Bool) (hF : F104 K a3434 a3435 a3436 = some r) : Evt E H 104 [.agg (eGGraph a3434), .agg (eGJob a3435), .agg (eGState a3436)] (F104_res r) := by
  rw [F104] at hF
  refine bind_some hF (fun r3437 h3438 hF => ?_)
  refine cond_some hF (fun h3439 hF => ?_) (fun h3439 hF => ?_)
  ·
    have pq3466 : ∀ {l : List Cond}, HoldAll E H hn104 l → HoldAll E H hn104 (.call 94 [.agg (eGGraph a3434), .agg (eGJob a3435)] (F94_res r3437) :: .test (leadsAny (Res.mk [(.one (.im (.lit (.int .i64 r3437))))] [])) false :: .test (beqb (ine r3437 0) false) true :: .test (beqb (ine r3437 0) false) true :: .test (beqb (ine r3437 0) false) true :: .test (ine r3437 0) false :: l) := fun z => ⟨(F94_ok K a3434 a3435 _ h3438), (leads_ok (by simp only [leadsAny, List.any_cons, List.any_nil, RV.leads, RC.leads, leadsT, hasSl_lit, Bool.or_false, flat_ns (eInt_ns _), flat_ns eBool_ns, flat_ns eStr_ns, flat_ns eGJob_ns, flat_ns eGEdge_ns, flat_ns eGAsked_ns, flat_ns eGMsg_ns, flat_ns eGrule_ns, flat_ns eGA199_ns, flat_ns eGA202_ns])), (beqb_ff (ine_t h3439)), (beqb_ff (ine_t h3439)), (beqb_ff (ine_t h3439)), (ine_t h3439), z⟩
    refine cond_some hF (fun h3440 hF => ?_) (fun h3440 hF => ?_)
    ·
      have hr := Option.some.inj hF
      subst hr
      have pz : HoldAll E H hn104 [.test (beqb (ilt a3436.Step 0) false) false, .test (beqb (ilt a3436.Step 0) false) false, .test (beqb (ilt a3436.Step 0) false) false, .test (ilt a3436.Step 0) true, .test (beqb true false) false, .test (beqb true false) false, .test (beqb true false) false, .test (beqb true false) false, .test (beqb true false) false, .test (beqb true false) false, .test true true, .test (beqb true false) false, .test (beqb true false) false, .test (beqb true false) false, .test (beqb true false) false, .test (beqb true false) false, .test (beqb true false) false, .test true true, .test true true] := ⟨(beqb_ft h3440), (beqb_ft h3440), (beqb_ft h3440), h3440, (beqb_ft rfl), (beqb_ft rfl), (beqb_ft rfl), (beqb_ft rfl), (beqb_ft rfl), (beqb_ft rfl), rfl, (beqb_ft rfl), (beqb_ft rfl), (beqb_ft rfl), (beqb_ft rfl), (beqb_ft rfl), (beqb_ft rfl), rfl, rfl, trivial⟩
      exact fn_playC hn104 (f := 104) (ads := [.agg (eGGraph a3434), .agg (eGJob a3435), .agg (eGState a3436)]) (r := F104_res false) (pq3466 pz) (by kernel_rfl) (by kernel_rfl)
    have pq3467 : ∀ {l : List Cond}, HoldAll E H hn104 l → HoldAll E H hn104 (.test (beqb (ilt a3436.Step 0) false) true :: .test (beqb (ilt a3436.Step 0) false) true :: .test (beqb (ilt a3436.Step 0) false) true :: .test (ilt a3436.Step 0) false :: l) := fun z => ⟨(beqb_ff h3440), (beqb_ff h3440), (beqb_ff h3440), h3440, z⟩
    refine cond_some hF (fun h3441 hF => ?_) (fun h3441 hF => ?_)
    ·
      have hr := Option.some.inj hF
      subst hr
      have pz : HoldAll E H hn104 [.test (beqb (igt a3436.Step 40) false) false, .test (beqb (igt a3436.Step 40) false) false, .test (beqb (igt a3436.Step 40) false) false, .test (beqb (igt a3436.Step 40) false) false, .test (beqb (igt a3436.Step 40) false) false, .test (beqb (igt a3436.Step 40) false) false, .test (igt a3436.Step 40) true, .test (beqb true false) false, .test (beqb true false) false, .test (beqb true false) false, .test (beqb true false) false, .test (beqb true false) false, .test (beqb true false) false, .test true true, .test true true] := ⟨(beqb_ft (igt_eq h3441)), (beqb_ft (igt_eq h3441)), (beqb_ft (igt_eq h3441)), (beqb_ft (igt_eq h3441)), (beqb_ft (igt_eq h3441)), (beqb_ft (igt_eq h3441)), (igt_eq h3441), (beqb_ft rfl), (beqb_ft rfl), (beqb_ft rfl), (beqb_ft rfl), (beqb_ft rfl), (beqb_ft rfl), rfl, rfl, trivial⟩
      exact fn_playC hn104 (f := 104) (ads := [.agg (eGGraph a3434), .agg (eGJob a3435), .agg (eGState a3436)]) (r := F104_res false) (pq3466 (pq3467 pz)) (by kernel_rfl) (by kernel_rfl)
    have pq3468 : ∀ {l : List Cond}, HoldAll E H hn104 l → HoldAll E H hn104 (.test (beqb (igt a3436.Step 40) false) true :: .test (beqb (igt a3436.Step 40) false) true :: .test (beqb (igt a3436.Step 40) false) true :: .int (nlen (len a3436.Vals)) (nlen (len a3436.Vals)) :: .test (beqb (igt a3436.Step 40) false) true :: .test (beqb (igt a3436.Step 40) false) true :: .test (beqb (igt a3436.Step 40) false) true :: .test (igt a3436.Step 40) false :: l) := fun z => ⟨(beqb_ff (igt_eq h3441)), (beqb_ff (igt_eq h3441)), (beqb_ff (igt_eq h3441)), rfl, (beqb_ff (igt_eq h3441)), (beqb_ff (igt_eq h3441)), (beqb_ff (igt_eq h3441)), (igt_eq h3441), z⟩
    refine cond_some hF (fun h3442 hF => ?_) (fun h3442 hF => ?_)
    ·
      have pq3469 : ∀ {l : List Cond}, HoldAll E H hn104 l → HoldAll E H hn104 (.test (beqb (ine (nlen (len a3436.Vals)) a3434.N) false) true :: .test (beqb (ine (nlen (len a3436.Vals)) a3434.N) false) true :: .test (beqb (ine (nlen (len a3436.Vals)) a3434.N) false) true :: .int (nlen (len a3436.Rest)) (nlen (len a3436.Rest)) :: .test (beqb (ine (nlen (len a3436.Vals)) a3434.N) false) true :: .test (beqb (ine (nlen (len a3436.Vals)) a3434.N) false) true :: .test (beqb (ine (nlen (len a3436.Vals)) a3434.N) false) true :: .test (ine (nlen (len a3436.Vals)) a3434.N) false :: l) := fun z => ⟨(beqb_ff (ine_t h3442)), (beqb_ff (ine_t h3442)), (beqb_ff (ine_t h3442)), rfl, (beqb_ff (ine_t h3442)), (beqb_ff (ine_t h3442)), (beqb_ff (ine_t h3442)), (ine_t h3442), z⟩
      refine cond_some hF (fun h3443 hF => ?_) (fun h3443 hF => ?_)
      ·
        refine bind_some hF (fun y3463 h3462 hF => ?_)
        refine sum_some hF (fun w3464 hx hF => ?_) (fun w3465 hx hF => ?_)
        ·
          subst hx
          have hr := Option.some.inj hF
          subst hr
          have pz : HoldAll E H hn104 [.test (ine (nlen (len a3436.Rest)) a3434.N) false, .int (nlen (len a3436.In)) (nlen (len a3436.In)), .loop 0 c104_0 (F104_l0_0_S a3434 a3436 (-1) 0) .ret (F104_l0_0_X0 a3434 a3436 w3464)] := ⟨(ine_t h3443), rfl, (F104_l0_0_ok K a3434 a3436 K (-1) 0 _ h3462), trivial⟩
          exact fn_playC hn104 (f := 104) (ads := [.agg (eGGraph a3434), .agg (eGJob a3435), .agg (eGState a3436)]) (r := F104_res false) (pq3466 (pq3467 (pq3468 (pq3469 pz)))) (by kernel_rfl) (by kernel_rfl)
        subst hx
        have hr := Option.some.inj hF
        subst hr
        have pz : HoldAll E H hn104 [.test (ine (nlen (len a3436.Rest)) a3434.N) false, .int (nlen (len a3436.In)) (nlen (len a3436.In)), .loop 0 c104_0 (F104_l0_0_S a3434 a3436 (-1) 0) (.exit 0) (F104_l0_0_X1 a3434 a3436 w3465)] := ⟨(ine_t h3443), rfl, (F104_l0_0_ok K a3434 a3436 K (-1) 0 _ h3462), trivial⟩
        exact fn_playC hn104 (f := 104) (ads := [.agg (eGGraph a3434), .agg (eGJob a3435), .agg (eGState a3436)]) (r := F104_res true) (pq3466 (pq3467 (pq3468 (pq3469 pz)))) (by kernel_rfl) (by kernel_rfl)
      have hr := Option.some.inj hF
      subst hr
      have pz : HoldAll E H hn104 [.test (ine (nlen (len a3436.Rest)) a3434.N) true] := ⟨(ine_f h3443), trivial⟩
      exact fn_playC hn104 (f := 104) (ads := [.agg (eGGraph a3434), .agg (eGJob a3435), .agg (eGState a3436)]) (r := F104_res false) (pq3466 (pq3467 (pq3468 (pq3469 pz)))) (by kernel_rfl) (by kernel_rfl)
    have hr := Option.some.inj hF
    subst hr
    have pz : HoldAll E H hn104 [.test (beqb (ine (nlen (len a3436.Vals)) a3434.N) false) false, .test (beqb (ine (nlen (len a3436.Vals)) a3434.N) false) false, .test (beqb (ine (nlen (len a3436.Vals)) a3434.N) false) false, .test (beqb (ine (nlen (len a3436.Vals)) a3434.N) false) false, .test (beqb (ine (nlen (len a3436.Vals)) a3434.N) false) false, .test (beqb (ine (nlen (len a3436.Vals)) a3434.N) false) false, .test (ine (nlen (len a3436.Vals)) a3434.N) true, .test true true] := ⟨(beqb_ft (ine_f h3442)), (beqb_ft (ine_f h3442)), (beqb_ft (ine_f h3442)), (beqb_ft (ine_f h3442)), (beqb_ft (ine_f h3442)), (beqb_ft (ine_f h3442)), (ine_f h3442), rfl, trivial⟩
    exact fn_playC hn104 (f := 104) (ads := [.agg (eGGraph a3434), .agg (eGJob a3435), .agg (eGState a3436)]) (r := F104_res false) (pq3466 (pq3467 (pq3468 pz))) (by kernel_rfl) (by kernel_rfl)
  have hr := Option.some.inj hF
  subst hr
  have pz : HoldAll E H hn104 [.call 94 [.agg (eGGraph a3434), .agg (eGJob a3435)] (F94_res r3437), .test (leadsAny (Res.mk [(.one (.im (.lit (.int .i64 r3437))))] [])) false, .test (beqb (ine r3437 0) false) false, .test (beqb (ine r3437 0) false) false, .test (beqb (ine r3437 0) false) false, .test (ine r3437 0) true, .test (beqb true false) false, .test (beqb true false) false, .test (beqb true false) false, .test true true, .test (beqb true false) false, .test (beqb true false) false, .test (beqb true false) false, .test (beqb true false) false, .test (beqb true false) false, .test (beqb true false) false, .test true true, .test (beqb true false) false, .test (beqb true false) false, .test (beqb true false) false, .test (beqb true false) false, .test (beqb true false) false, .test (beqb true false) false, .test true true, .test true true] := ⟨(F94_ok K a3434 a3435 _ h3438), (leads_ok (by simp only [leadsAny, List.any_cons, List.any_nil, RV.leads, RC.leads, leadsT, hasSl_lit, Bool.or_false, flat_ns (eInt_ns _), flat_ns eBool_ns, flat_ns eStr_ns, flat_ns eGJob_ns, flat_ns eGEdge_ns, flat_ns eGAsked_ns, flat_ns eGMsg_ns, flat_ns eGrule_ns, flat_ns eGA199_ns, flat_ns eGA202_ns])), (beqb_ft (ine_f h3439)), (beqb_ft (ine_f h3439)), (beqb_ft (ine_f h3439)), (ine_f h3439), (beqb_ft rfl), (beqb_ft rfl), (beqb_ft rfl), rfl, (beqb_ft rfl), (beqb_ft rfl), (beqb_ft rfl), (beqb_ft rfl), (beqb_ft rfl), (beqb_ft rfl), rfl, (beqb_ft rfl), (beqb_ft rfl), (beqb_ft rfl), (beqb_ft rfl), (beqb_ft rfl), (beqb_ft rfl), rfl, rfl, trivial⟩
  exact fn_playC hn104 (f := 104) (ads := [.agg (eGGraph a3434), .agg (eGJob a3435), .agg (eGState a3436)]) (r := F104_res false) pz (by kernel_rfl) (by kernel_rfl)

end Go.Proofs.Ytnjanliihnadjaa.Tm

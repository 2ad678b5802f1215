/- What the row of WorkHomes leans on: printed functions and plain laws. Conditions: none. -/
import Derived.Test.YtnjanliihnadjaaTy
import Derived.Test.YtnjanliihnadjaaTab
import Derived.Test.YtnjanliihnadjaaKn
import Derived.Test.YtnjanliihnadjaaWf
import Derived.IntWalk
import Derived.KernelRfl
import Derived.OpenShut
import Derived.Test.YtnjanliihnadjaaBWorkHomes2
set_option linter.unusedVariables false
set_option linter.unusedSimpArgs false
namespace Go.Proofs.Ytnjanliihnadjaa.Tm
open Go
theorem F116_l2_2_ok (K : Nat) (v1 : Int) (v2 : Int) (v3 : Int) (v4 : Int) (v5 : Int) (v6 : Int) (v7 : List Int) (v8 : List Bool) (v9 : List GMsg) (v10 : List GMsg) (v11 : List GMsg) (v12 : List GMsg) (v13 : List GMsg) (v14 : List GMsg) : ∀ (k : Nat) (v15 : List (List GMsg)) (v16 : Int) (r : (Int) ⊕ (List (List GMsg))), F116_l2_2 K v1 v2 v3 v4 v5 v6 v7 v8 v9 v10 v11 v12 v13 v14 k v15 v16 = some r → (Sum.elim (fun w => LoopEv E H hn116 4 c116_2 (F116_l2_2_S v1 v2 v3 v4 v5 v6 v7 v8 v9 v10 v11 v12 v13 v14 v15 v16) .ret (F116_l2_2_X0 v1 v2 v3 v4 v5 v6 v7 v8 v9 v10 v11 v12 v13 v14 w)) (fun w => LoopEv E H hn116 4 c116_2 (F116_l2_2_S v1 v2 v3 v4 v5 v6 v7 v8 v9 v10 v11 v12 v13 v14 v15 v16) (.exit 4) (F116_l2_2_X1 v1 v2 v3 v4 v5 v6 v7 v8 v9 v10 v11 v12 v13 v14 w))) r := by
 intro k
 induction k with
 | zero => intro v15 v16 r hF; cases hF
 | succ k ih =>
  intro v15 v16 r hF
  rw [F116_l2_2] at hF
  refine cond_some hF (fun h17 hF => ?_) (fun h17 hF => ?_)
  ·
   refine cond_some hF (fun h18 hF => ?_) (fun h18 hF => ?_)
   ·
    refine bind_some hF (fun r19 h20 hF => ?_)
    have q48 : PQ hn116 fun l => (.test (ilt v16 v4) true :: .test (ieq v16 0) true :: .call 150 [.one (.lit (.int .i64 v1)), .one (.sl (len v9) (flat eGMsg v9))] (F150_res r19) :: .test (leadsAny (Res.mk [(.one (.own 130 (.sl (len r19.1) (flat eGMsg r19.1)))), (.one (.im (.lit (.int .i64 r19.2))))] [])) false :: l) := fun z => ⟨h17, h18, (F150_ok K v1 v9 _ h20), (leads_ok (by simp [leadsAny, RV.leads, RC.leads, leadsT, hasSl_lit, flat_ns eGMsg_ns])), z⟩
    refine cond_some hF (fun h21 hF => ?_) (fun h21 hF => ?_)
    ·
     refine cond_some hF (fun h22 hF => ?_) (fun _ hF => nomatch hF)
     have pz : HoldAll E H hn116 [.test (ine r19.2 0) false, .test (leqm [(.sl (len r19.1) (flat eGMsg r19.1))] 1 1) true, .test (apok (len v15) 1 24) true, .sl (nadd (len v15) 1) (lapp (flat (eSl eGMsg) v15) [(.sl (len r19.1) (flat eGMsg r19.1))]) (len (α := List GMsg) (appL v15 [r19.1])) (flat (eSl eGMsg) (appL v15 [r19.1])), .int (wadd .i64 v16 1) (wadd .i64 v16 1)] := ⟨(ine_t h21), rfl, h22, (app_ok (enc := (eSl eGMsg)) (v15 : List (List GMsg)) [r19.1]), rfl, trivial⟩
     have h0 := ih _ _ _ hF
     have hn := fun ex ts' => loop_nextC (h := hn116) (l := 4) (c := c116_2) (ts := F116_l2_2_S v1 v2 v3 v4 v5 v6 v7 v8 v9 v10 v11 v12 v13 v14 v15 v16) (ts1 := (F116_l2_2_S v1 v2 v3 v4 v5 v6 v7 v8 v9 v10 v11 v12 v13 v14 (appL v15 [r19.1]) (wadd .i64 v16 1))) (ex := ex) (ts' := ts') (q48 pz) (by kernel_rfl)
     cases r with
     | inl w => exact hn _ _ h0
     | inr w => exact hn _ _ h0
    obtain rfl := Option.some.inj hF
    have pz : HoldAll E H hn116 [.test (ine r19.2 0) true] := ⟨(ine_f h21), trivial⟩
    exact loop_endC (h := hn116) (l := 4) (c := c116_2) (ts := F116_l2_2_S v1 v2 v3 v4 v5 v6 v7 v8 v9 v10 v11 v12 v13 v14 v15 v16) (ts' := F116_l2_2_X0 v1 v2 v3 v4 v5 v6 v7 v8 v9 v10 v11 v12 v13 v14 r19.2) (ex := .ret) (q48 pz) (by kernel_rfl) trivial
   refine cond_some hF (fun h23 hF => ?_) (fun h23 hF => ?_)
   ·
    refine bind_some hF (fun r24 h25 hF => ?_)
    have q49 : PQ hn116 fun l => (.test (ilt v16 v4) true :: .test (ieq v16 0) false :: .test (ieq v16 1) true :: .call 150 [.one (.lit (.int .i64 v1)), .one (.sl (len v10) (flat eGMsg v10))] (F150_res r24) :: .test (leadsAny (Res.mk [(.one (.own 130 (.sl (len r24.1) (flat eGMsg r24.1)))), (.one (.im (.lit (.int .i64 r24.2))))] [])) false :: l) := fun z => ⟨h17, h18, h23, (F150_ok K v1 v10 _ h25), (leads_ok (by simp [leadsAny, RV.leads, RC.leads, leadsT, hasSl_lit, flat_ns eGMsg_ns])), z⟩
    refine cond_some hF (fun h26 hF => ?_) (fun h26 hF => ?_)
    ·
     refine cond_some hF (fun h27 hF => ?_) (fun _ hF => nomatch hF)
     have pz : HoldAll E H hn116 [.test (ine r24.2 0) false, .test (leqm [(.sl (len r24.1) (flat eGMsg r24.1))] 1 1) true, .test (apok (len v15) 1 24) true, .sl (nadd (len v15) 1) (lapp (flat (eSl eGMsg) v15) [(.sl (len r24.1) (flat eGMsg r24.1))]) (len (α := List GMsg) (appL v15 [r24.1])) (flat (eSl eGMsg) (appL v15 [r24.1])), .int (wadd .i64 v16 1) (wadd .i64 v16 1)] := ⟨(ine_t h26), rfl, h27, (app_ok (enc := (eSl eGMsg)) (v15 : List (List GMsg)) [r24.1]), rfl, trivial⟩
     have h0 := ih _ _ _ hF
     have hn := fun ex ts' => loop_nextC (h := hn116) (l := 4) (c := c116_2) (ts := F116_l2_2_S v1 v2 v3 v4 v5 v6 v7 v8 v9 v10 v11 v12 v13 v14 v15 v16) (ts1 := (F116_l2_2_S v1 v2 v3 v4 v5 v6 v7 v8 v9 v10 v11 v12 v13 v14 (appL v15 [r24.1]) (wadd .i64 v16 1))) (ex := ex) (ts' := ts') (q49 pz) (by kernel_rfl)
     cases r with
     | inl w => exact hn _ _ h0
     | inr w => exact hn _ _ h0
    obtain rfl := Option.some.inj hF
    have pz : HoldAll E H hn116 [.test (ine r24.2 0) true] := ⟨(ine_f h26), trivial⟩
    exact loop_endC (h := hn116) (l := 4) (c := c116_2) (ts := F116_l2_2_S v1 v2 v3 v4 v5 v6 v7 v8 v9 v10 v11 v12 v13 v14 v15 v16) (ts' := F116_l2_2_X0 v1 v2 v3 v4 v5 v6 v7 v8 v9 v10 v11 v12 v13 v14 r24.2) (ex := .ret) (q49 pz) (by kernel_rfl) trivial
   have q50 : PQ hn116 fun l => (.test (ilt v16 v4) true :: .test (ieq v16 0) false :: .test (ieq v16 1) false :: l) := fun z => ⟨h17, h18, h23, z⟩
   refine cond_some hF (fun h28 hF => ?_) (fun h28 hF => ?_)
   ·
    refine bind_some hF (fun r29 h30 hF => ?_)
    have q51 : PQ hn116 fun l => (.test (ieq v16 2) true :: .call 150 [.one (.lit (.int .i64 v1)), .one (.sl (len v11) (flat eGMsg v11))] (F150_res r29) :: .test (leadsAny (Res.mk [(.one (.own 130 (.sl (len r29.1) (flat eGMsg r29.1)))), (.one (.im (.lit (.int .i64 r29.2))))] [])) false :: l) := fun z => ⟨h28, (F150_ok K v1 v11 _ h30), (leads_ok (by simp [leadsAny, RV.leads, RC.leads, leadsT, hasSl_lit, flat_ns eGMsg_ns])), z⟩
    refine cond_some hF (fun h31 hF => ?_) (fun h31 hF => ?_)
    ·
     refine cond_some hF (fun h32 hF => ?_) (fun _ hF => nomatch hF)
     have pz : HoldAll E H hn116 [.test (ine r29.2 0) false, .test (leqm [(.sl (len r29.1) (flat eGMsg r29.1))] 1 1) true, .test (apok (len v15) 1 24) true, .sl (nadd (len v15) 1) (lapp (flat (eSl eGMsg) v15) [(.sl (len r29.1) (flat eGMsg r29.1))]) (len (α := List GMsg) (appL v15 [r29.1])) (flat (eSl eGMsg) (appL v15 [r29.1])), .int (wadd .i64 v16 1) (wadd .i64 v16 1)] := ⟨(ine_t h31), rfl, h32, (app_ok (enc := (eSl eGMsg)) (v15 : List (List GMsg)) [r29.1]), rfl, trivial⟩
     have h0 := ih _ _ _ hF
     have hn := fun ex ts' => loop_nextC (h := hn116) (l := 4) (c := c116_2) (ts := F116_l2_2_S v1 v2 v3 v4 v5 v6 v7 v8 v9 v10 v11 v12 v13 v14 v15 v16) (ts1 := (F116_l2_2_S v1 v2 v3 v4 v5 v6 v7 v8 v9 v10 v11 v12 v13 v14 (appL v15 [r29.1]) (wadd .i64 v16 1))) (ex := ex) (ts' := ts') (q50 (q51 pz)) (by kernel_rfl)
     cases r with
     | inl w => exact hn _ _ h0
     | inr w => exact hn _ _ h0
    obtain rfl := Option.some.inj hF
    have pz : HoldAll E H hn116 [.test (ine r29.2 0) true] := ⟨(ine_f h31), trivial⟩
    exact loop_endC (h := hn116) (l := 4) (c := c116_2) (ts := F116_l2_2_S v1 v2 v3 v4 v5 v6 v7 v8 v9 v10 v11 v12 v13 v14 v15 v16) (ts' := F116_l2_2_X0 v1 v2 v3 v4 v5 v6 v7 v8 v9 v10 v11 v12 v13 v14 r29.2) (ex := .ret) (q50 (q51 pz)) (by kernel_rfl) trivial
   refine cond_some hF (fun h33 hF => ?_) (fun h33 hF => ?_)
   ·
    refine bind_some hF (fun r34 h35 hF => ?_)
    have q52 : PQ hn116 fun l => (.test (ieq v16 2) false :: .test (ieq v16 3) true :: .call 150 [.one (.lit (.int .i64 v1)), .one (.sl (len v12) (flat eGMsg v12))] (F150_res r34) :: .test (leadsAny (Res.mk [(.one (.own 130 (.sl (len r34.1) (flat eGMsg r34.1)))), (.one (.im (.lit (.int .i64 r34.2))))] [])) false :: l) := fun z => ⟨h28, h33, (F150_ok K v1 v12 _ h35), (leads_ok (by simp [leadsAny, RV.leads, RC.leads, leadsT, hasSl_lit, flat_ns eGMsg_ns])), z⟩
    refine cond_some hF (fun h36 hF => ?_) (fun h36 hF => ?_)
    ·
     refine cond_some hF (fun h37 hF => ?_) (fun _ hF => nomatch hF)
     have pz : HoldAll E H hn116 [.test (ine r34.2 0) false, .test (leqm [(.sl (len r34.1) (flat eGMsg r34.1))] 1 1) true, .test (apok (len v15) 1 24) true, .sl (nadd (len v15) 1) (lapp (flat (eSl eGMsg) v15) [(.sl (len r34.1) (flat eGMsg r34.1))]) (len (α := List GMsg) (appL v15 [r34.1])) (flat (eSl eGMsg) (appL v15 [r34.1])), .int (wadd .i64 v16 1) (wadd .i64 v16 1)] := ⟨(ine_t h36), rfl, h37, (app_ok (enc := (eSl eGMsg)) (v15 : List (List GMsg)) [r34.1]), rfl, trivial⟩
     have h0 := ih _ _ _ hF
     have hn := fun ex ts' => loop_nextC (h := hn116) (l := 4) (c := c116_2) (ts := F116_l2_2_S v1 v2 v3 v4 v5 v6 v7 v8 v9 v10 v11 v12 v13 v14 v15 v16) (ts1 := (F116_l2_2_S v1 v2 v3 v4 v5 v6 v7 v8 v9 v10 v11 v12 v13 v14 (appL v15 [r34.1]) (wadd .i64 v16 1))) (ex := ex) (ts' := ts') (q50 (q52 pz)) (by kernel_rfl)
     cases r with
     | inl w => exact hn _ _ h0
     | inr w => exact hn _ _ h0
    obtain rfl := Option.some.inj hF
    have pz : HoldAll E H hn116 [.test (ine r34.2 0) true] := ⟨(ine_f h36), trivial⟩
    exact loop_endC (h := hn116) (l := 4) (c := c116_2) (ts := F116_l2_2_S v1 v2 v3 v4 v5 v6 v7 v8 v9 v10 v11 v12 v13 v14 v15 v16) (ts' := F116_l2_2_X0 v1 v2 v3 v4 v5 v6 v7 v8 v9 v10 v11 v12 v13 v14 r34.2) (ex := .ret) (q50 (q52 pz)) (by kernel_rfl) trivial
   refine cond_some hF (fun h38 hF => ?_) (fun h38 hF => ?_)
   ·
    refine bind_some hF (fun r39 h40 hF => ?_)
    have q53 : PQ hn116 fun l => (.test (ieq v16 2) false :: .test (ieq v16 3) false :: .test (ieq v16 4) true :: .call 150 [.one (.lit (.int .i64 v1)), .one (.sl (len v13) (flat eGMsg v13))] (F150_res r39) :: .test (leadsAny (Res.mk [(.one (.own 130 (.sl (len r39.1) (flat eGMsg r39.1)))), (.one (.im (.lit (.int .i64 r39.2))))] [])) false :: l) := fun z => ⟨h28, h33, h38, (F150_ok K v1 v13 _ h40), (leads_ok (by simp [leadsAny, RV.leads, RC.leads, leadsT, hasSl_lit, flat_ns eGMsg_ns])), z⟩
    refine cond_some hF (fun h41 hF => ?_) (fun h41 hF => ?_)
    ·
     refine cond_some hF (fun h42 hF => ?_) (fun _ hF => nomatch hF)
     have pz : HoldAll E H hn116 [.test (ine r39.2 0) false, .test (leqm [(.sl (len r39.1) (flat eGMsg r39.1))] 1 1) true, .test (apok (len v15) 1 24) true, .sl (nadd (len v15) 1) (lapp (flat (eSl eGMsg) v15) [(.sl (len r39.1) (flat eGMsg r39.1))]) (len (α := List GMsg) (appL v15 [r39.1])) (flat (eSl eGMsg) (appL v15 [r39.1])), .int (wadd .i64 v16 1) (wadd .i64 v16 1)] := ⟨(ine_t h41), rfl, h42, (app_ok (enc := (eSl eGMsg)) (v15 : List (List GMsg)) [r39.1]), rfl, trivial⟩
     have h0 := ih _ _ _ hF
     have hn := fun ex ts' => loop_nextC (h := hn116) (l := 4) (c := c116_2) (ts := F116_l2_2_S v1 v2 v3 v4 v5 v6 v7 v8 v9 v10 v11 v12 v13 v14 v15 v16) (ts1 := (F116_l2_2_S v1 v2 v3 v4 v5 v6 v7 v8 v9 v10 v11 v12 v13 v14 (appL v15 [r39.1]) (wadd .i64 v16 1))) (ex := ex) (ts' := ts') (q50 (q53 pz)) (by kernel_rfl)
     cases r with
     | inl w => exact hn _ _ h0
     | inr w => exact hn _ _ h0
    obtain rfl := Option.some.inj hF
    have pz : HoldAll E H hn116 [.test (ine r39.2 0) true] := ⟨(ine_f h41), trivial⟩
    exact loop_endC (h := hn116) (l := 4) (c := c116_2) (ts := F116_l2_2_S v1 v2 v3 v4 v5 v6 v7 v8 v9 v10 v11 v12 v13 v14 v15 v16) (ts' := F116_l2_2_X0 v1 v2 v3 v4 v5 v6 v7 v8 v9 v10 v11 v12 v13 v14 r39.2) (ex := .ret) (q50 (q53 pz)) (by kernel_rfl) trivial
   refine cond_some hF (fun h43 hF => ?_) (fun _ hF => nomatch hF)
   refine bind_some hF (fun r44 h45 hF => ?_)
   have q54 : PQ hn116 fun l => (.test (ieq v16 2) false :: .test (ieq v16 3) false :: .test (ieq v16 4) false :: .test (ieq v16 5) true :: .call 150 [.one (.lit (.int .i64 v1)), .one (.sl (len v14) (flat eGMsg v14))] (F150_res r44) :: .test (leadsAny (Res.mk [(.one (.own 130 (.sl (len r44.1) (flat eGMsg r44.1)))), (.one (.im (.lit (.int .i64 r44.2))))] [])) false :: l) := fun z => ⟨h28, h33, h38, h43, (F150_ok K v1 v14 _ h45), (leads_ok (by simp [leadsAny, RV.leads, RC.leads, leadsT, hasSl_lit, flat_ns eGMsg_ns])), z⟩
   refine cond_some hF (fun h46 hF => ?_) (fun h46 hF => ?_)
   ·
    refine cond_some hF (fun h47 hF => ?_) (fun _ hF => nomatch hF)
    have pz : HoldAll E H hn116 [.test (ine r44.2 0) false, .test (leqm [(.sl (len r44.1) (flat eGMsg r44.1))] 1 1) true, .test (apok (len v15) 1 24) true, .sl (nadd (len v15) 1) (lapp (flat (eSl eGMsg) v15) [(.sl (len r44.1) (flat eGMsg r44.1))]) (len (α := List GMsg) (appL v15 [r44.1])) (flat (eSl eGMsg) (appL v15 [r44.1])), .int (wadd .i64 v16 1) (wadd .i64 v16 1)] := ⟨(ine_t h46), rfl, h47, (app_ok (enc := (eSl eGMsg)) (v15 : List (List GMsg)) [r44.1]), rfl, trivial⟩
    have h0 := ih _ _ _ hF
    have hn := fun ex ts' => loop_nextC (h := hn116) (l := 4) (c := c116_2) (ts := F116_l2_2_S v1 v2 v3 v4 v5 v6 v7 v8 v9 v10 v11 v12 v13 v14 v15 v16) (ts1 := (F116_l2_2_S v1 v2 v3 v4 v5 v6 v7 v8 v9 v10 v11 v12 v13 v14 (appL v15 [r44.1]) (wadd .i64 v16 1))) (ex := ex) (ts' := ts') (q50 (q54 pz)) (by kernel_rfl)
    cases r with
    | inl w => exact hn _ _ h0
    | inr w => exact hn _ _ h0
   obtain rfl := Option.some.inj hF
   have pz : HoldAll E H hn116 [.test (ine r44.2 0) true] := ⟨(ine_f h46), trivial⟩
   exact loop_endC (h := hn116) (l := 4) (c := c116_2) (ts := F116_l2_2_S v1 v2 v3 v4 v5 v6 v7 v8 v9 v10 v11 v12 v13 v14 v15 v16) (ts' := F116_l2_2_X0 v1 v2 v3 v4 v5 v6 v7 v8 v9 v10 v11 v12 v13 v14 r44.2) (ex := .ret) (q50 (q54 pz)) (by kernel_rfl) trivial
  obtain rfl := Option.some.inj hF
  have pz : HoldAll E H hn116 [.test (ilt v16 v4) false] := ⟨h17, trivial⟩
  exact loop_endC (h := hn116) (l := 4) (c := c116_2) (ts := F116_l2_2_S v1 v2 v3 v4 v5 v6 v7 v8 v9 v10 v11 v12 v13 v14 v15 v16) (ts' := F116_l2_2_X1 v1 v2 v3 v4 v5 v6 v7 v8 v9 v10 v11 v12 v13 v14 v15) (ex := (.exit 4)) pz (by kernel_rfl) trivial
def F116 (K : Nat) (a1 : GGraph) (a2 : GJob) (a3 : GPart) : Option (GPart × List (List GMsg) × Int) :=
 (F94 K a1 a2).bind fun r4 =>
 bif (ieq r4 0) then
  ((F80 K a1 a2 a3).bind fun r5 =>
  bif r5 then
   (bif (ieq a3.Step 40) then
    (some ((GPart.mk 0 0 [] [] []), ([], 6)))
   else
   (F116_l0_0 K a1.N a1.Edges a2.Prog a2.Source a2.Limit a2.Parts a3.P a3.Step a3.Vals a3.Rest a3.In K [] [] [] [] [] [] [] [] 0).bind fun y6 =>
   Sum.elim (fun w7 =>
    some ((GPart.mk 0 0 [] [] []), ([], w7)))
    (fun w8 =>
    (F116_l2_2 K a2.Prog a2.Source a2.Limit a2.Parts a3.P (wadd .i64 a3.Step 1) w8.1 w8.2.1 w8.2.2.1 w8.2.2.2.1 w8.2.2.2.2.1 w8.2.2.2.2.2.1 w8.2.2.2.2.2.2.1 w8.2.2.2.2.2.2.2 K [] 0).bind fun y9 =>
    Sum.elim (fun w10 =>
     some ((GPart.mk 0 0 [] [] []), ([], w10)))
     (fun w11 =>
     some ((GPart.mk a3.P (wadd .i64 a3.Step 1) w8.1 w8.2.1 []), (w11, 0))) y9) y6)
  else
  some ((GPart.mk 0 0 [] [] []), ([], 1)))
 else
 some ((GPart.mk 0 0 [] [] []), ([], r4))
theorem F116_ok (K : Nat) (a1 : GGraph) (a2 : GJob) (a3 : GPart) (r : GPart × List (List GMsg) × Int) (hF : F116 K a1 a2 a3 = some r) : Evt E H 116 [.agg (eGGraph a1), .agg (eGJob a2), .agg (eGPart a3)] (F116_res r) := by
 rw [F116] at hF
 refine bind_some hF (fun r4 h5 hF => ?_)
 refine cond_some hF (fun h6 hF => ?_) (fun h6 hF => ?_)
 ·
  refine bind_some hF (fun r7 h8 hF => ?_)
  have q19 : PQ hn116 fun l => (.call 94 [.agg (eGGraph a1), .agg (eGJob a2)] (F94_res r4) :: .test (leadsAny (Res.mk [(.one (.im (.lit (.int .i64 r4))))] [])) false :: .test (ine r4 0) false :: .call 80 [.agg (eGGraph a1), .agg (eGJob a2), .agg (eGPart a3)] (F80_res r7) :: .test (leadsAny (Res.mk [(.one (.im (.lit (.bool r7))))] [])) false :: l) := fun z => ⟨(F94_ok K a1 a2 _ h5), (leads_ok (by simp [leadsAny, RV.leads, RC.leads, leadsT, hasSl_lit, flat_ns eGJob_ns])), (ine_t h6), (F80_ok K a1 a2 a3 _ h8), (leads_ok (by simp [leadsAny, RV.leads, RC.leads, leadsT, hasSl_lit, flat_ns eGJob_ns])), z⟩
  refine cond_some hF (fun h9 hF => ?_) (fun h9 hF => ?_)
  ·
   refine cond_some hF (fun h10 hF => ?_) (fun h10 hF => ?_)
   ·
    obtain rfl := Option.some.inj hF
    have pz : HoldAll E H hn116 [.test (bnot r7) false, .test (ieq a3.Step 40) true] := ⟨(bnot_t h9), h10, trivial⟩
    exact fn_playC hn116 (r := F116_res ((GPart.mk 0 0 [] [] []), ([], 6))) (q19 pz) (by kernel_rfl) (by kernel_rfl)
   have q20 : PQ hn116 fun l => (.test (bnot r7) false :: .test (ieq a3.Step 40) false :: .int (wadd .i64 a3.Step 1) (wadd .i64 a3.Step 1) :: .int (nlen (len a3.Vals)) (nlen (len a3.Vals)) :: l) := fun z => ⟨(bnot_t h9), h10, rfl, rfl, z⟩
   refine bind_some hF (fun y12 h11 hF => ?_)
   refine sum_some hF (fun w13 hx hF => ?_) (fun w14 hx hF => ?_)
   ·
    subst hx
    obtain rfl := Option.some.inj hF
    have pz : HoldAll E H hn116 [.loop 0 c116_0 (F116_l0_0_S a1.N a1.Edges a2.Prog a2.Source a2.Limit a2.Parts a3.P a3.Step a3.Vals a3.Rest a3.In [] [] [] [] [] [] [] [] 0) .ret (F116_l0_0_X0 a1.N a1.Edges a2.Prog a2.Source a2.Limit a2.Parts a3.P a3.Step a3.Vals a3.Rest a3.In w13)] := ⟨(F116_l0_0_ok K a1.N a1.Edges a2.Prog a2.Source a2.Limit a2.Parts a3.P a3.Step a3.Vals a3.Rest a3.In K [] [] [] [] [] [] [] [] 0 _ h11), trivial⟩
    exact fn_playC hn116 (r := F116_res ((GPart.mk 0 0 [] [] []), ([], w13))) (q19 (q20 pz)) (by kernel_rfl) (by kernel_rfl)
   subst hx
   refine bind_some hF (fun y16 h15 hF => ?_)
   refine sum_some hF (fun w17 hx hF => ?_) (fun w18 hx hF => ?_)
   ·
    subst hx
    obtain rfl := Option.some.inj hF
    have pz : HoldAll E H hn116 [.loop 0 c116_0 (F116_l0_0_S a1.N a1.Edges a2.Prog a2.Source a2.Limit a2.Parts a3.P a3.Step a3.Vals a3.Rest a3.In [] [] [] [] [] [] [] [] 0) (.exit 0) (F116_l0_0_X1 a1.N a1.Edges a2.Prog a2.Source a2.Limit a2.Parts a3.P a3.Step a3.Vals a3.Rest a3.In w14), .loop 4 c116_2 (F116_l2_2_S a2.Prog a2.Source a2.Limit a2.Parts a3.P (wadd .i64 a3.Step 1) w14.1 w14.2.1 w14.2.2.1 w14.2.2.2.1 w14.2.2.2.2.1 w14.2.2.2.2.2.1 w14.2.2.2.2.2.2.1 w14.2.2.2.2.2.2.2 [] 0) .ret (F116_l2_2_X0 a2.Prog a2.Source a2.Limit a2.Parts a3.P (wadd .i64 a3.Step 1) w14.1 w14.2.1 w14.2.2.1 w14.2.2.2.1 w14.2.2.2.2.1 w14.2.2.2.2.2.1 w14.2.2.2.2.2.2.1 w14.2.2.2.2.2.2.2 w17)] := ⟨(F116_l0_0_ok K a1.N a1.Edges a2.Prog a2.Source a2.Limit a2.Parts a3.P a3.Step a3.Vals a3.Rest a3.In K [] [] [] [] [] [] [] [] 0 _ h11), (F116_l2_2_ok K a2.Prog a2.Source a2.Limit a2.Parts a3.P (wadd .i64 a3.Step 1) w14.1 w14.2.1 w14.2.2.1 w14.2.2.2.1 w14.2.2.2.2.1 w14.2.2.2.2.2.1 w14.2.2.2.2.2.2.1 w14.2.2.2.2.2.2.2 K [] 0 _ h15), trivial⟩
    exact fn_playC hn116 (r := F116_res ((GPart.mk 0 0 [] [] []), ([], w17))) (q19 (q20 pz)) (by kernel_rfl) (by kernel_rfl)
   subst hx
   obtain rfl := Option.some.inj hF
   have pz : HoldAll E H hn116 [.loop 0 c116_0 (F116_l0_0_S a1.N a1.Edges a2.Prog a2.Source a2.Limit a2.Parts a3.P a3.Step a3.Vals a3.Rest a3.In [] [] [] [] [] [] [] [] 0) (.exit 0) (F116_l0_0_X1 a1.N a1.Edges a2.Prog a2.Source a2.Limit a2.Parts a3.P a3.Step a3.Vals a3.Rest a3.In w14), .loop 4 c116_2 (F116_l2_2_S a2.Prog a2.Source a2.Limit a2.Parts a3.P (wadd .i64 a3.Step 1) w14.1 w14.2.1 w14.2.2.1 w14.2.2.2.1 w14.2.2.2.2.1 w14.2.2.2.2.2.1 w14.2.2.2.2.2.2.1 w14.2.2.2.2.2.2.2 [] 0) (.exit 4) (F116_l2_2_X1 a2.Prog a2.Source a2.Limit a2.Parts a3.P (wadd .i64 a3.Step 1) w14.1 w14.2.1 w14.2.2.1 w14.2.2.2.1 w14.2.2.2.2.1 w14.2.2.2.2.2.1 w14.2.2.2.2.2.2.1 w14.2.2.2.2.2.2.2 w18)] := ⟨(F116_l0_0_ok K a1.N a1.Edges a2.Prog a2.Source a2.Limit a2.Parts a3.P a3.Step a3.Vals a3.Rest a3.In K [] [] [] [] [] [] [] [] 0 _ h11), (F116_l2_2_ok K a2.Prog a2.Source a2.Limit a2.Parts a3.P (wadd .i64 a3.Step 1) w14.1 w14.2.1 w14.2.2.1 w14.2.2.2.1 w14.2.2.2.2.1 w14.2.2.2.2.2.1 w14.2.2.2.2.2.2.1 w14.2.2.2.2.2.2.2 K [] 0 _ h15), trivial⟩
   exact fn_playC hn116 (r := F116_res ((GPart.mk a3.P (wadd .i64 a3.Step 1) w14.1 w14.2.1 []), (w18, 0))) (q19 (q20 pz)) (by kernel_rfl) (by kernel_rfl)
  obtain rfl := Option.some.inj hF
  have pz : HoldAll E H hn116 [.test (bnot r7) true] := ⟨(bnot_f h9), trivial⟩
  exact fn_playC hn116 (r := F116_res ((GPart.mk 0 0 [] [] []), ([], 1))) (q19 pz) (by kernel_rfl) (by kernel_rfl)
 obtain rfl := Option.some.inj hF
 have pz : HoldAll E H hn116 [.call 94 [.agg (eGGraph a1), .agg (eGJob a2)] (F94_res r4), .test (leadsAny (Res.mk [(.one (.im (.lit (.int .i64 r4))))] [])) false, .test (ine r4 0) true] := ⟨(F94_ok K a1 a2 _ h5), (leads_ok (by simp [leadsAny, RV.leads, RC.leads, leadsT, hasSl_lit, flat_ns eGJob_ns])), (ine_f h6), trivial⟩
 exact fn_playC hn116 (r := F116_res ((GPart.mk 0 0 [] [] []), ([], r4))) pz (by kernel_rfl) (by kernel_rfl)
abbrev B6 := List GMsg × List GMsg × List GMsg × List GMsg × List GMsg × List GMsg
abbrev S8 := List Int × List Bool × B6
def boxes (j : GJob) (c : List GMsg) : B6 := (toS j c 0, toS j c 1, toS j c 2, toS j c 3, toS j c 4, toS j c 5)
theorem toS_one (j : GJob) (m : GMsg) (q : Int) : toS j [m] q = bif ieq (homeS j m.To) q then [m] else [] := by
 rw [toS, List.filter_cons]
 cases ieq (homeS j m.To) q <;> rfl
def stA (K : Nat) (j : GJob) (m : GMsg) (s : B6) (c : B6 → Option B6) : Option B6 :=
 (F75 K j m.To).bind fun r =>
 bif (ieq r 0) then (bif (apok (len s.1) 1 16) then c (appL s.1 [m], s.2.1, s.2.2.1, s.2.2.2.1, s.2.2.2.2.1, s.2.2.2.2.2) else none) else
 bif (ieq r 1) then (bif (apok (len s.2.1) 1 16) then c (s.1, appL s.2.1 [m], s.2.2.1, s.2.2.2.1, s.2.2.2.2.1, s.2.2.2.2.2) else none) else
 bif (ieq r 2) then (bif (apok (len s.2.2.1) 1 16) then c (s.1, s.2.1, appL s.2.2.1 [m], s.2.2.2.1, s.2.2.2.2.1, s.2.2.2.2.2) else none) else
 bif (ieq r 3) then (bif (apok (len s.2.2.2.1) 1 16) then c (s.1, s.2.1, s.2.2.1, appL s.2.2.2.1 [m], s.2.2.2.2.1, s.2.2.2.2.2) else none) else
 bif (ieq r 4) then (bif (apok (len s.2.2.2.2.1) 1 16) then c (s.1, s.2.1, s.2.2.1, s.2.2.2.1, appL s.2.2.2.2.1 [m], s.2.2.2.2.2) else none) else
 bif (ieq r 5) then bif (apok (len s.2.2.2.2.2) 1 16) then c (s.1, s.2.1, s.2.2.1, s.2.2.2.1, s.2.2.2.2.1, appL s.2.2.2.2.2 [m]) else none else none
theorem route_step {K : Nat} (j : GJob) (m : GMsg) (c : List GMsg) (hl : c.length ≤ 3000) (h0 : 0 ≤ homeS j m.To) (h5 : homeS j m.To ≤ 5) (k : B6 → Option B6) : stA K j m (boxes j c) k = k (boxes j (c ++ [m])) := by
 have ap : ∀ q : Int, apok (len (toS j c q)) 1 16 = true := fun q => by
   have := toS_len j c q
   exact decide_eq_true ⟨by show (toS j c q).length + 1 ≤ _; omega, by show ((toS j c q).length + 1) * 16 ≤ _; omega⟩
 rw [stA, F75_spec, Option.bind_some, boxes, boxes]
 simp only [toS_app, toS_one, ap, cond_true]
 generalize homeS j m.To = q at *
 rcases (by omega : q = 0 ∨ q = 1 ∨ q = 2 ∨ q = 3 ∨ q = 4 ∨ q = 5) with rfl | rfl | rfl | rfl | rfl | rfl <;> simp [ieq, appL]
theorem route_go {K : Nat} (j : GJob) : ∀ (l : List GMsg) (c : List GMsg), c.length + l.length ≤ 3000 → (∀ m ∈ l, 0 ≤ homeS j m.To ∧ homeS j m.To ≤ 5) → goL (stA K j) (fun s => some s) l (boxes j c) = some (boxes j (c ++ l)) := by
 intro l
 induction l with
 | nil => intro c _ _; rw [goL, List.append_nil]
 | cons m l ih =>
   intro c hl hh
   simp only [List.length_cons] at hl
   obtain ⟨h0, h5⟩ := hh m List.mem_cons_self
   rw [goL, route_step j m c (by omega) h0 h5, ih (c ++ [m]) (by simp only [List.length_append, List.length_singleton]; omega) (fun y hy => hh y (List.mem_cons_of_mem _ hy)), List.append_assoc]; rfl
theorem route {K : Nat} (g : GGraph) (j : GJob) (x : GPart) (a : List Int) (b : List Bool) (v : Int) (r : Bool) (l : List GMsg) (i : Int) (c : List GMsg) (hl : c.length + l.length ≤ 3000) (hK : l.length < K) (hh : ∀ m ∈ l, 0 ≤ homeS j m.To ∧ homeS j m.To ≤ 5) :
   F116_l1_1 K g.N g.Edges j.Prog j.Source j.Limit j.Parts x.P x.Step x.Vals x.Rest x.In a b v r l i K (toS j c 0) (toS j c 1) (toS j c 2) (toS j c 3) (toS j c 4) (toS j c 5) 0 = some (boxes j (c ++ l)) := by
 have h := scanL (l := l) (L := fun k (s : B6) p => F116_l1_1 K g.N g.Edges j.Prog j.Source j.Limit j.Parts x.P x.Step x.Vals x.Rest x.In a b v r l i k s.1 s.2.1 s.2.2.1 s.2.2.2.1 s.2.2.2.2.1 s.2.2.2.2.2 p) (stA K j) (fun s => some s) (fun k s p _ => rfl) (by omega) (K := K) hK (boxes j c)
 rw [route_go j l c hl hh] at h
 exact h
def st116 (K : Nat) (g : GGraph) (j : GJob) (x : GPart) (i : Nat) (y : Int) (s : S8) (c : S8 → Option (Int ⊕ S8)) : Option (Int ⊕ S8) :=
 (F149 K x.In (wadd .i64 x.P (wmul .i64 (i : Int) j.Parts))).bind fun r6057 =>
 bif (inr (i : Int) (len x.Rest)) then
 (elAt x.Rest (i : Int)).bind fun x6060 =>
 bif x6060 then
   (bif r6057.2 then
     ((F99 K g j x.Step (wadd .i64 x.P (wmul .i64 (i : Int) j.Parts)) y r6057.1 r6057.2).bind fun r6064 =>
     bif (ieq r6064.2.2.2 0) then
       ((F116_l1_1 K g.N g.Edges j.Prog j.Source j.Limit j.Parts x.P x.Step x.Vals x.Rest x.In s.1 s.2.1 r6064.1 r6064.2.2.1 r6064.2.1 (i : Int) K s.2.2.1 s.2.2.2.1 s.2.2.2.2.1 s.2.2.2.2.2.1 s.2.2.2.2.2.2.1 s.2.2.2.2.2.2.2 0).bind fun w6149 =>
       bif (apok (len s.1) 1 8) then
       bif (apok (len s.2.1) 1 1) then
       c (appL s.1 [r6064.1], appL s.2.1 [r6064.2.2.1], w6149)
       else none
       else none)
     else
     some (.inl r6064.2.2.2))
   else
   bif (apok (len s.1) 1 8) then
   bif (apok (len s.2.1) 1 1) then
   c (appL s.1 [y], appL s.2.1 [true], s.2.2)
   else none
   else none)
 else
 (F99 K g j x.Step (wadd .i64 x.P (wmul .i64 (i : Int) j.Parts)) y r6057.1 r6057.2).bind fun r6160 =>
 bif (ieq r6160.2.2.2 0) then
   ((F116_l1_1 K g.N g.Edges j.Prog j.Source j.Limit j.Parts x.P x.Step x.Vals x.Rest x.In s.1 s.2.1 r6160.1 r6160.2.2.1 r6160.2.1 (i : Int) K s.2.2.1 s.2.2.2.1 s.2.2.2.2.1 s.2.2.2.2.2.1 s.2.2.2.2.2.2.1 s.2.2.2.2.2.2.2 0).bind fun w6193 =>
   bif (apok (len s.1) 1 8) then
   bif (apok (len s.2.1) 1 1) then
   c (appL s.1 [r6160.1], appL s.2.1 [r6160.2.2.1], w6193)
   else none
   else none)
 else
 some (.inl r6160.2.2.2)
 else none
theorem progL_get (n m : Nat) : ∀ (k v i : Nat) (h : i < (progL k n m v).length), (progL k n m v)[i] = v + i * m := by
 intro k
 induction k with
 | zero => intro v i h; exact absurd h (Nat.not_lt_zero _)
 | succ k ih =>
   intro v i h
   by_cases hv : v < n
   · have e : progL (k + 1) n m v = v :: progL k n m (v + m) := by rw [progL, if_pos hv]
     simp only [e] at h ⊢
     cases i with
     | zero => simp
     | succ i =>
       have h' : i < (progL k n m (v + m)).length := by simpa using h
       rw [List.getElem_cons_succ, ih (v + m) i h', Nat.succ_mul]; omega
   · have e : progL (k + 1) n m v = [] := by rw [progL, if_neg hv]
     simp only [e, List.length_nil] at h
     exact absurd h (Nat.not_lt_zero _)
theorem verts_at {g : GGraph} {j : GJob} (h1 : 1 ≤ j.Parts) (h6 : j.Parts ≤ 6) (hn : g.N ≤ 24) {p : Int} (hp : 0 ≤ p ∧ p < j.Parts) (i : Nat) (h : i < (vertsS g j p).length) : (((vertsS g j p)[i] : Nat) : Int) = p + (i : Int) * j.Parts := by
 obtain ⟨q, rfl⟩ := Int.eq_ofNat_of_zero_le hp.1
 have e : vertsS g j (q : Int) = progL 30 g.N.toNat j.Parts.toNat q := (prog_verts (by omega) (by omega) (by omega) (by omega)).symm
 simp only [e] at h ⊢
 rw [progL_get]
 have : ((j.Parts.toNat : Nat) : Int) = j.Parts := by omega
 rw [Int.natCast_add, Int.natCast_mul, this]
def boxT (j : GJob) : Int ⊕ Tri → Int ⊕ S8
 | .inl e => .inl e
 | .inr w => .inr (w.1, w.2.1, boxes j w.2.2)
theorem home_in {j : GJob} (h1 : 1 ≤ j.Parts) (h6 : j.Parts ≤ 6) {v : Int} (h0 : 0 ≤ v) : homeS j v = v % j.Parts ∧ 0 ≤ homeS j v ∧ homeS j v ≤ 5 := by
 have hm0 : 0 ≤ v % j.Parts := Int.emod_nonneg _ (by omega)
 have hm1 : v % j.Parts < j.Parts := Int.emod_lt_of_pos _ (by omega)
 have e : homeS j v = v % j.Parts := by rw [homeS, ilt_f.2 h0, ilt_f.2 h1, ilt_f.2 h6]; rfl
 rw [e]; exact ⟨rfl, hm0, by omega⟩
theorem go116 {K : Nat} (hK : 3000 ≤ K) (g : GGraph) (j : GJob) (x : GPart) (hR : partRight g j x = true) (hn : niceP x) (hin : x.In.length ≤ 300) : ∀ (n i : Nat) (a : List Int) (b : List Bool) (c : List GMsg), i + n = x.Vals.length → keepP g i a b c →
   goI (st116 K g j x) (fun s => some (.inr s)) i (x.Vals.drop i) (a, b, boxes j c) = some (boxT j (doA g j x ((vertsS g j x.P).drop i) i a b c)) := by
 obtain ⟨hc, p1, p2, p3, p4, p5, p6, _⟩ := partRight_ok hR
 obtain ⟨hg, _, _, _, _, _, _, p7, p8⟩ := jcheck_ok hc
 obtain ⟨g1, g2, g3, _⟩ := gcheck_ok hg
 have hvl := verts_len g j g2 x.P
 rw [countS] at p5 p6
 intro n
 induction n with
 | zero =>
   intro i a b c hi _
   have e1 : x.Vals.drop i = [] := List.drop_eq_nil_of_le (by omega)
   have e2 : (vertsS g j x.P).drop i = [] := List.drop_eq_nil_of_le (by omega)
   rw [e1, e2]; rfl
 | succ n ih =>
   intro i a b c hi h
   have hlc := h.lc
   obtain ⟨v, hv⟩ : ∃ v, (vertsS g j x.P)[i]'(by omega) = v := ⟨_, rfl⟩
   have hat0 := verts_at p7 p8 g2 ⟨p1, p2⟩ i (by omega)
   rw [hv] at hat0
   have hd2 : (vertsS g j x.P).drop i = v :: (vertsS g j x.P).drop (i + 1) := by rw [List.drop_eq_getElem_cons (by omega : i < (vertsS g j x.P).length), hv]
   have hvm : v ∈ vertsS g j x.P := hv ▸ List.getElem_mem _
   have hvn := ((mem_verts p7).1 hvm).1
   have hd1 : x.Vals.drop i = x.Vals.getD i 0 :: x.Vals.drop (i + 1) := by
     rw [List.drop_eq_getElem_cons (by omega : i < x.Vals.length), List.getD_eq_getElem?_getD, List.getElem?_eq_getElem (by omega : i < x.Vals.length)]; rfl
   have hv0 : 0 ≤ (i : Int) * j.Parts := Int.mul_nonneg (by omega) (by omega)
   have e1 : wmul .i64 (i : Int) j.Parts = (i : Int) * j.Parts := wmul_ok (by unfold i64; omega)
   have e2 : wadd .i64 x.P ((i : Int) * j.Parts) = (v : Int) := by rw [wadd_i64 (by unfold i64; omega)]; omega
   have hnx := keepP_next (j := j) hn v h
   obtain ⟨la, lb, _, _, _, _⟩ := h
   obtain ⟨o3, o4⟩ := onep_outs (g := g) (j := j) (x := x) (i := i) (v := v)
   obtain ⟨r1, r2⟩ := elAt_get (l := x.Rest) (i := i) (by omega) false
   have a1 : apok (len a) 1 8 = true := decide_eq_true ⟨by show a.length + 1 ≤ _; omega, by show (a.length + 1) * 8 ≤ _; omega⟩
   have a2 : apok (len b) 1 1 = true := decide_eq_true ⟨by show b.length + 1 ≤ _; omega, by show (b.length + 1) * 1 ≤ _; omega⟩
   have hx : i64 (x.Vals.getD i 0) := by
     rw [List.getD_eq_getElem?_getD]
     cases hq : x.Vals[i]? with
     | none => show i64 0; unfold i64; omega
     | some y => exact hn.1 y (List.mem_of_getElem? hq)
   have hat := atS_i64 (l := x.In) (v := (v : Int)) hn.2
   have nx := ih (i + 1) _ _ _ (by omega) hnx
   have f99 := F99_spec (K := K) (by omega) g j x.Step (v : Int) (atS x.In (v : Int)).2 hx hat
   have hro := fun (aa : List Int) (bb : List Bool) (vv : Int) (rr : Bool) => route (K := K) g j x aa bb vv rr (oneP g j x i v).2.1 (i : Int) c (by omega) (by omega) (fun m hm => (home_in p7 p8 (o4 m hm).1).2)
   rw [hd1, hd2, goI, st116, doA, e1, e2, F149_spec x.In (v : Int) (by omega) (by omega), r1, r2]
   simp only [cond_true, Option.bind_some, f99, a1, a2]
   have eb : ∀ c, (boxes j c).1 = toS j c 0 ∧ (boxes j c).2.1 = toS j c 1 ∧ (boxes j c).2.2.1 = toS j c 2 ∧ (boxes j c).2.2.2.1 = toS j c 3 ∧ (boxes j c).2.2.2.2.1 = toS j c 4 ∧ (boxes j c).2.2.2.2.2 = toS j c 5 := fun c => ⟨rfl, rfl, rfl, rfl, rfl, rfl⟩
   obtain ⟨q0, q1, q2, q3, q4, q5⟩ := eb c
   rw [q0, q1, q2, q3, q4, q5]
   cases hs : (atS x.In (v : Int)).2
   · cases hy : x.Rest.getD i false
     · have hT : oneP g j x i v = turnS g j x.Step (v : Int) (x.Vals.getD i 0) (atS x.In (v : Int)).1 false := by rw [oneP, hy, hs]; rfl
       rw [hT] at nx hro ⊢
       simp only [cond_false, cond_true, hro, Option.bind_some]
       cases ieq (turnS g j x.Step (v : Int) (x.Vals.getD i 0) (atS x.In (v : Int)).1 false).2.2.2 0
       · rfl
       · exact nx
     · have hT : oneP g j x i v = (x.Vals.getD i 0, [], true, 0) := by rw [oneP, hy, hs]; rfl
       rw [hT] at nx ⊢
       simp only [List.append_nil] at nx ⊢
       exact nx
   · have hT : oneP g j x i v = turnS g j x.Step (v : Int) (x.Vals.getD i 0) (atS x.In (v : Int)).1 true := by rw [oneP, hs, Bool.not_true, Bool.and_false]; rfl
     rw [hT] at nx hro ⊢
     simp only [cond_false, cond_true, hro, Option.bind_some]
     cases x.Rest.getD i false <;> cases ieq (turnS g j x.Step (v : Int) (x.Vals.getD i 0) (atS x.In (v : Int)).1 true).2.2.2 0 <;> first | rfl | exact nx
def st116b (K : Nat) (j : GJob) (s : B6) (q : Nat) (d : List (List GMsg)) (c : List (List GMsg) → Option (Int ⊕ List (List GMsg))) : Option (Int ⊕ List (List GMsg)) :=
 bif (ieq (q : Int) 0) then ((F150 K j.Prog s.1).bind fun r => bif (ieq r.2 0) then (bif (apok (len d) 1 24) then c (appL d [r.1]) else none) else some (.inl r.2)) else
 bif (ieq (q : Int) 1) then ((F150 K j.Prog s.2.1).bind fun r => bif (ieq r.2 0) then (bif (apok (len d) 1 24) then c (appL d [r.1]) else none) else some (.inl r.2)) else
 bif (ieq (q : Int) 2) then ((F150 K j.Prog s.2.2.1).bind fun r => bif (ieq r.2 0) then (bif (apok (len d) 1 24) then c (appL d [r.1]) else none) else some (.inl r.2)) else
 bif (ieq (q : Int) 3) then ((F150 K j.Prog s.2.2.2.1).bind fun r => bif (ieq r.2 0) then (bif (apok (len d) 1 24) then c (appL d [r.1]) else none) else some (.inl r.2)) else
 bif (ieq (q : Int) 4) then ((F150 K j.Prog s.2.2.2.2.1).bind fun r => bif (ieq r.2 0) then (bif (apok (len d) 1 24) then c (appL d [r.1]) else none) else some (.inl r.2)) else
 bif (ieq (q : Int) 5) then (F150 K j.Prog s.2.2.2.2.2).bind fun r => bif (ieq r.2 0) then (bif (apok (len d) 1 24) then c (appL d [r.1]) else none) else some (.inl r.2) else none
theorem tell_step {K : Nat} (hK : 3000 ≤ K) (j : GJob) (c : List GMsg) (hl : c.length ≤ 2000) (hv : ∀ m ∈ c, i64 m.V) (q : Nat) (hq : q < 6) (d : List (List GMsg)) (hd : d.length ≤ 6) (k : List (List GMsg) → Option (Int ⊕ List (List GMsg))) :
   st116b K j (boxes j c) q d k = bif ieq (boxS j.Prog (toS j c (q : Int))).2 0 then k (d ++ [(boxS j.Prog (toS j c (q : Int))).1]) else some (.inl (boxS j.Prog (toS j c (q : Int))).2) := by
 have ap : apok (len d) 1 24 = true := decide_eq_true ⟨by show d.length + 1 ≤ _; omega, by show (d.length + 1) * 24 ≤ _; omega⟩
 have hlen := fun q => toS_len j c q
 have f := fun (q : Int) => F150_spec (K := K) j.Prog (toS j c q) (fun m hm => hv m (toS_mem hm).1) (by have := hlen q; omega) (by have := hlen q; omega)
 rw [st116b, boxes]
 simp only [f, Option.bind_some, ap, cond_true]
 rcases (by omega : q = 0 ∨ q = 1 ∨ q = 2 ∨ q = 3 ∨ q = 4 ∨ q = 5) with rfl | rfl | rfl | rfl | rfl | rfl <;> rfl
theorem go116b {K : Nat} (hK : 3000 ≤ K) (j : GJob) (c : List GMsg) (hl : c.length ≤ 2000) (hv : ∀ m ∈ c, i64 m.V) : ∀ (l : List Nat) (d : List (List GMsg)), (∀ q ∈ l, q < 6) → d.length + l.length ≤ 6 →
   goL (st116b K j (boxes j c)) (fun d => some (.inr d)) l d = some (tellS j c l d) := by
 intro l
 induction l with
 | nil => intro d _ _; rfl
 | cons q l ih =>
   intro d hq hd
   simp only [List.length_cons] at hd
   rw [goL, tell_step hK j c hl hv q (hq q List.mem_cons_self) d (by omega), tellS, ih _ (fun y hy => hq y (List.mem_cons_of_mem _ hy)) (by simp only [List.length_append, List.length_singleton]; omega)]
   cases ieq (boxS j.Prog (toS j c (q : Int))).2 0 <;> rfl
theorem F116_spec {K : Nat} (hK : 3000 ≤ K) (g : GGraph) (j : GJob) (x : GPart) (hn : niceP x) (hin : x.In.length ≤ 300) (hp : i64 x.P) : F116 K g j x = some (doS g j x) := by
 rw [F116, F94_spec (by omega), F80_spec (by omega) g j x (by omega) (by omega) hp, Option.bind_some, Option.bind_some, doS]
 cases hc : ieq (jcheck g j) 0
 · rfl
 · cases hR : partRight g j x
   · rfl
   · cases h40 : ieq x.Step 40
     · obtain ⟨_, p1, p2, p3, p4, p5, p6, _⟩ := partRight_ok hR
       obtain ⟨hg, _, _, _, _, _, _, p7, p8⟩ := jcheck_ok hc
       obtain ⟨g1, g2, g3, _⟩ := gcheck_ok hg
       have hvl := verts_len g j g2 x.P
       rw [countS] at p5 p6
       have h := scanI (l := x.Vals) (L := fun k (s : S8) i => F116_l0_0 K g.N g.Edges j.Prog j.Source j.Limit j.Parts x.P x.Step x.Vals x.Rest x.In k s.1 s.2.1 s.2.2.1 s.2.2.2.1 s.2.2.2.2.1 s.2.2.2.2.2.1 s.2.2.2.2.2.2.1 s.2.2.2.2.2.2.2 i) (st116 K g j x) (fun s => some (.inr s)) (fun k s i _ => rfl) (by omega) K ([], [], boxes j []) 0 (by omega) (by omega)
       have h' : F116_l0_0 K g.N g.Edges j.Prog j.Source j.Limit j.Parts x.P x.Step x.Vals x.Rest x.In K [] [] [] [] [] [] [] [] 0 = some (boxT j (doA g j x (vertsS g j x.P) 0 [] [] [])) := by
         rw [show F116_l0_0 K g.N g.Edges j.Prog j.Source j.Limit j.Parts x.P x.Step x.Vals x.Rest x.In K [] [] [] [] [] [] [] [] 0 = _ from h]
         have := go116 hK g j x hR hn hin x.Vals.length 0 [] [] [] (by omega) (keepP0 g)
         rwa [List.drop_zero] at this
       simp only [cond_true, cond_false, h', Option.bind_some]
       cases hA : doA g j x (vertsS g j x.P) 0 [] [] [] with
       | inl e => rfl
       | inr w =>
         have kw := doA_keep hn _ 0 [] [] [] (keepP0 g) w hA
         have hwl := kw.lc
         have hw : wadd .i64 x.Step 1 = x.Step + 1 := wadd_i64 (by unfold i64; omega)
         have t := scanN (N := j.Parts) (L := fun k d i => F116_l2_2 K j.Prog j.Source j.Limit j.Parts x.P (x.Step + 1) w.1 w.2.1 (toS j w.2.2 0) (toS j w.2.2 1) (toS j w.2.2 2) (toS j w.2.2 3) (toS j w.2.2 4) (toS j w.2.2 5) k d i) (fun q d c => st116b K j (boxes j w.2.2) q d c) (fun d => some (.inr d)) (fun k d i _ => rfl) (by omega) (K := K) (by omega) []
         have t' : F116_l2_2 K j.Prog j.Source j.Limit j.Parts x.P (x.Step + 1) w.1 w.2.1 (toS j w.2.2 0) (toS j w.2.2 1) (toS j w.2.2 2) (toS j w.2.2 3) (toS j w.2.2 4) (toS j w.2.2 5) K [] 0 = some (tellS j w.2.2 (List.range j.Parts.toNat) []) := by
           rw [show F116_l2_2 K j.Prog j.Source j.Limit j.Parts x.P (x.Step + 1) w.1 w.2.1 (toS j w.2.2 0) (toS j w.2.2 1) (toS j w.2.2 2) (toS j w.2.2 3) (toS j w.2.2 4) (toS j w.2.2 5) K [] 0 = _ from t]
           exact go116b hK j w.2.2 (by omega) kw.vc _ [] (fun q hq => by have := List.mem_range.1 hq; omega) (by rw [List.length_range]; simp only [List.length_nil]; omega)
         simp only [boxT, Sum.elim_inr, boxes, hw, t', Option.bind_some, doB]
         cases tellS j w.2.2 (List.range j.Parts.toNat) [] <;> rfl
     · rfl
noncomputable def hn37 : Hint := { H 37 with nt := 131, prot := 0 }
noncomputable def c37_0 : Code := loopOf E 37 0
noncomputable def c37_1 : Code := loopOf E 37 1
def F37_res (r1 : Bool) : Res := ⟨[(.one (.im (.lit (.bool r1))))], []⟩
def F37_l1_1 (K : Nat) (a1 : GGraph) (a2 : GJob) (r3 : GPart × List (List GMsg) × Int) (v4 : Int) : Nat → Int → Option ((Unit) ⊕ (Unit))
 | 0, _ => none
 | k + 1, v5 =>
  bif (inr v4 (len r3.2.1)) then
  (elAt r3.2.1 v4).bind fun x6 =>
  bif (ilt v5 (nlen (len x6))) then
   (bif (inr v5 (len x6)) then
   (elAt x6 v5).bind fun x7 =>
   bif (ilt x7.To 0) then
    (some (.inl ()))
   else
   bif (ile a1.N x7.To) then
    (some (.inl ()))
   else
   bif (izero a2.Parts) then none else
   bif (ieq (wrem x7.To a2.Parts) v4) then
    (bif (ilt 0 v5) then
     (bif (inr (wsub .i64 v5 1) (len x6)) then
     (elAt x6 (wsub .i64 v5 1)).bind fun x8 =>
     bif (ile x7.To x8.To) then
      (some (.inl ()))
     else
     F37_l1_1 K a1 a2 r3 v4 k (wadd .i64 v5 1)
     else none)
    else
    F37_l1_1 K a1 a2 r3 v4 k (wadd .i64 v5 1))
   else
   some (.inl ())
   else none)
  else
  some (.inr ())
  else none
def F37_l1_1_S (a1 : GGraph) (a2 : GJob) (r3 : GPart × List (List GMsg) × Int) (v4 : Int) (v5 : Int) : TS := .on [192, 193, 194, 256, 257, 258, 259, 260, 512, 513, 640, 641, 704, 705] [(192, ⟨(.box 62 2), 0, nob⟩), (193, ⟨.im, 0, (.lit (.int .i64 a1.N))⟩), (194, ⟨.im, 0, (.sl (len a1.Edges) (flat eGEdge a1.Edges))⟩), (256, ⟨(.box 64 4), 0, nob⟩), (257, ⟨.im, 0, (.lit (.int .i64 a2.Prog))⟩), (258, ⟨.im, 0, (.lit (.int .i64 a2.Source))⟩), (259, ⟨.im, 0, (.lit (.int .i64 a2.Limit))⟩), (260, ⟨.im, 0, (.lit (.int .i64 a2.Parts))⟩), (512, ⟨.one, 0, nob⟩), (513, ⟨(.own 40), 0, (.sl (len r3.2.1) (flat (eSl eGMsg) r3.2.1))⟩), (640, ⟨.one, 0, nob⟩), (641, ⟨.im, 0, (.lit (.int .i64 v4))⟩), (704, ⟨.one, 0, nob⟩), (705, ⟨.im, 0, (.lit (.int .i64 v5))⟩)]
def F37_l1_1_X0 (a1 : GGraph) (a2 : GJob) (r3 : GPart × List (List GMsg) × Int) (v4 : Int) (w5 : Unit) : TS := .on [384, 385] [(384, ⟨.one, 0, nob⟩), (385, ⟨.im, 0, (.lit (.bool false))⟩)]
def F37_l1_1_X1 (a1 : GGraph) (a2 : GJob) (r3 : GPart × List (List GMsg) × Int) (v4 : Int) (w5 : Unit) : TS := .on [192, 193, 194, 256, 257, 258, 259, 260, 512, 513, 640, 641] [(192, ⟨(.box 62 2), 0, nob⟩), (193, ⟨.im, 0, (.lit (.int .i64 a1.N))⟩), (194, ⟨.im, 0, (.sl (len a1.Edges) (flat eGEdge a1.Edges))⟩), (256, ⟨(.box 64 4), 0, nob⟩), (257, ⟨.im, 0, (.lit (.int .i64 a2.Prog))⟩), (258, ⟨.im, 0, (.lit (.int .i64 a2.Source))⟩), (259, ⟨.im, 0, (.lit (.int .i64 a2.Limit))⟩), (260, ⟨.im, 0, (.lit (.int .i64 a2.Parts))⟩), (512, ⟨.one, 0, nob⟩), (513, ⟨(.own 40), 0, (.sl (len r3.2.1) (flat (eSl eGMsg) r3.2.1))⟩), (640, ⟨.one, 0, nob⟩), (641, ⟨.im, 0, (.lit (.int .i64 v4))⟩)]
theorem F37_l1_1_ok (K : Nat) (a1 : GGraph) (a2 : GJob) (r3 : GPart × List (List GMsg) × Int) (v4 : Int) : ∀ (k : Nat) (v5 : Int) (r : (Unit) ⊕ (Unit)), F37_l1_1 K a1 a2 r3 v4 k v5 = some r → (Sum.elim (fun w => LoopEv E H hn37 2 c37_1 (F37_l1_1_S a1 a2 r3 v4 v5) .ret (F37_l1_1_X0 a1 a2 r3 v4 w)) (fun w => LoopEv E H hn37 2 c37_1 (F37_l1_1_S a1 a2 r3 v4 v5) (.exit 2) (F37_l1_1_X1 a1 a2 r3 v4 w))) r := by
 intro k
 induction k with
 | zero => intro v5 r hF; cases hF
 | succ k ih =>
  intro v5 r hF
  rw [F37_l1_1] at hF
  refine cond_some hF (fun h6 hF => ?_) (fun _ hF => nomatch hF)
  refine bind_some hF (fun x7 h8 hF => ?_)
  have q22 : PQ hn37 fun l => (.test (inr v4 (len r3.2.1)) true :: .sub (flat (eSl eGMsg) r3.2.1) (nidx v4 1) 1 [(.sl (len x7) (flat eGMsg x7))] :: .int (nlen (len x7)) (nlen (len x7)) :: l) := fun z => ⟨h6, ⟨rfl, sub_flat0 (eSl_len _) h8 1 (by decide)⟩, rfl, z⟩
  refine cond_some hF (fun h9 hF => ?_) (fun h9 hF => ?_)
  ·
   refine cond_some hF (fun h10 hF => ?_) (fun _ hF => nomatch hF)
   refine bind_some hF (fun x11 h12 hF => ?_)
   have q23 : PQ hn37 fun l => (.test (ilt v5 (nlen (len x7))) true :: .test (inr v4 (len r3.2.1)) true :: .sub (flat (eSl eGMsg) r3.2.1) (nidx v4 1) 1 [(.sl (len x7) (flat eGMsg x7))] :: .test (inr v5 (len x7)) true :: .sub (flat eGMsg x7) (nadd (nidx v5 2) 0) 1 [(.lit (.int .i64 x11.To))] :: l) := fun z => ⟨h9, h6, ⟨rfl, sub_flat0 (eSl_len _) h8 1 (by decide)⟩, h10, ⟨rfl, sub_flat eGMsg_len h12 0 1 (by decide)⟩, z⟩
   refine cond_some hF (fun h13 hF => ?_) (fun h13 hF => ?_)
   ·
    obtain rfl := Option.some.inj hF
    have pz : HoldAll E H hn37 [.test (beqb (ilt x11.To 0) false) false, .test (beqb (ilt x11.To 0) false) false, .test (beqb (ilt x11.To 0) false) false, .test (beqb (ilt x11.To 0) false) false, .test (ilt x11.To 0) true, .test (beqb true false) false, .test (beqb true false) false, .test (beqb true false) false, .test (beqb true false) false, .test (beqb true false) false, .test (beqb true false) false, .test true true, .test (beqb true false) false, .test (beqb true false) false, .test (beqb true false) false, .test (beqb true false) false, .test true true, .test true true] := ⟨(beqb_ft h13), (beqb_ft h13), (beqb_ft h13), (beqb_ft h13), h13, (beqb_ft rfl), (beqb_ft rfl), (beqb_ft rfl), (beqb_ft rfl), (beqb_ft rfl), (beqb_ft rfl), rfl, (beqb_ft rfl), (beqb_ft rfl), (beqb_ft rfl), (beqb_ft rfl), rfl, rfl, trivial⟩
    exact loop_endC (h := hn37) (l := 2) (c := c37_1) (ts := F37_l1_1_S a1 a2 r3 v4 v5) (ts' := F37_l1_1_X0 a1 a2 r3 v4 ()) (ex := .ret) (q22 (q23 pz)) (by kernel_rfl) trivial
   have q24 : PQ hn37 fun l => (.test (beqb (ilt x11.To 0) false) true :: .test (beqb (ilt x11.To 0) false) true :: .test (beqb (ilt x11.To 0) false) true :: .test (beqb (ilt x11.To 0) false) true :: .test (ilt x11.To 0) false :: l) := fun z => ⟨(beqb_ff h13), (beqb_ff h13), (beqb_ff h13), (beqb_ff h13), h13, z⟩
   refine cond_some hF (fun h14 hF => ?_) (fun h14 hF => ?_)
   ·
    obtain rfl := Option.some.inj hF
    have pz : HoldAll E H hn37 [.test (beqb (ige x11.To a1.N) false) false, .test (beqb (ige x11.To a1.N) false) false, .test (beqb (ige x11.To a1.N) false) false, .test (beqb (ige x11.To a1.N) false) false, .test (beqb (ige x11.To a1.N) false) false, .test (beqb (ige x11.To a1.N) false) false, .test (ige x11.To a1.N) true, .test (beqb true false) false, .test (beqb true false) false, .test (beqb true false) false, .test (beqb true false) false, .test true true, .test true true] := ⟨(beqb_ft (ige_eq h14)), (beqb_ft (ige_eq h14)), (beqb_ft (ige_eq h14)), (beqb_ft (ige_eq h14)), (beqb_ft (ige_eq h14)), (beqb_ft (ige_eq h14)), (ige_eq h14), (beqb_ft rfl), (beqb_ft rfl), (beqb_ft rfl), (beqb_ft rfl), rfl, rfl, trivial⟩
    exact loop_endC (h := hn37) (l := 2) (c := c37_1) (ts := F37_l1_1_S a1 a2 r3 v4 v5) (ts' := F37_l1_1_X0 a1 a2 r3 v4 ()) (ex := .ret) (q22 (q23 (q24 pz))) (by kernel_rfl) trivial
   refine cond_some hF (fun _ hF => nomatch hF) (fun h15 hF => ?_)
   have q25 : PQ hn37 fun l => (.test (beqb (ige x11.To a1.N) false) true :: .test (beqb (ige x11.To a1.N) false) true :: .test (beqb (ige x11.To a1.N) false) true :: .test (beqb (ige x11.To a1.N) false) true :: .test (izero a2.Parts) false :: .int (wrem x11.To a2.Parts) (wrem x11.To a2.Parts) :: .test (beqb (ige x11.To a1.N) false) true :: .test (beqb (ige x11.To a1.N) false) true :: .test (ige x11.To a1.N) false :: l) := fun z => ⟨(beqb_ff (ige_eq h14)), (beqb_ff (ige_eq h14)), (beqb_ff (ige_eq h14)), (beqb_ff (ige_eq h14)), h15, rfl, (beqb_ff (ige_eq h14)), (beqb_ff (ige_eq h14)), (ige_eq h14), z⟩
   refine cond_some hF (fun h16 hF => ?_) (fun h16 hF => ?_)
   ·
    have q26 : PQ hn37 fun l => (.test (beqb (ine (wrem x11.To a2.Parts) v4) false) true :: .test (beqb (ine (wrem x11.To a2.Parts) v4) false) true :: .test (beqb (ine (wrem x11.To a2.Parts) v4) false) true :: l) := fun z => ⟨(beqb_ff (ine_t h16)), (beqb_ff (ine_t h16)), (beqb_ff (ine_t h16)), z⟩
    refine cond_some hF (fun h17 hF => ?_) (fun h17 hF => ?_)
    ·
     refine cond_some hF (fun h18 hF => ?_) (fun _ hF => nomatch hF)
     refine bind_some hF (fun x19 h20 hF => ?_)
     have q27 : PQ hn37 fun l => (.test (beqb (igt v5 0) true) true :: .test (beqb (igt v5 0) true) true :: .test (beqb (igt v5 0) true) true :: .test (inr v4 (len r3.2.1)) true :: .test (beqb (igt v5 0) true) true :: .sub (flat (eSl eGMsg) r3.2.1) (nidx v4 1) 1 [(.sl (len x7) (flat eGMsg x7))] :: .test (beqb (igt v5 0) true) true :: .test (beqb (igt v5 0) true) true :: .int (wsub .i64 v5 1) (wsub .i64 v5 1) :: .test (beqb (igt v5 0) true) true :: .test (inr (wsub .i64 v5 1) (len x7)) true :: .test (beqb (igt v5 0) true) true :: .test (beqb (igt v5 0) true) true :: .sub (flat eGMsg x7) (nadd (nidx (wsub .i64 v5 1) 2) 0) 1 [(.lit (.int .i64 x19.To))] :: .test (beqb (igt v5 0) true) true :: .test (beqb (igt v5 0) true) true :: .test (beqb (ine (wrem x11.To a2.Parts) v4) false) true :: .test (igt v5 0) true :: .test (ine (wrem x11.To a2.Parts) v4) false :: l) := fun z => ⟨(beqb_t (igt_eq h17)), (beqb_t (igt_eq h17)), (beqb_t (igt_eq h17)), h6, (beqb_t (igt_eq h17)), ⟨rfl, sub_flat0 (eSl_len _) h8 1 (by decide)⟩, (beqb_t (igt_eq h17)), (beqb_t (igt_eq h17)), rfl, (beqb_t (igt_eq h17)), h18, (beqb_t (igt_eq h17)), (beqb_t (igt_eq h17)), ⟨rfl, sub_flat eGMsg_len h20 0 1 (by decide)⟩, (beqb_t (igt_eq h17)), (beqb_t (igt_eq h17)), (beqb_ff (ine_t h16)), (igt_eq h17), (ine_t h16), z⟩
     refine cond_some hF (fun h21 hF => ?_) (fun h21 hF => ?_)
     ·
      obtain rfl := Option.some.inj hF
      have pz : HoldAll E H hn37 [.test (ige x19.To x11.To) true] := ⟨(ige_eq h21), trivial⟩
      exact loop_endC (h := hn37) (l := 2) (c := c37_1) (ts := F37_l1_1_S a1 a2 r3 v4 v5) (ts' := F37_l1_1_X0 a1 a2 r3 v4 ()) (ex := .ret) (q22 (q23 (q24 (q25 (q26 (q27 pz)))))) (by kernel_rfl) trivial
     have pz : HoldAll E H hn37 [.test (ige x19.To x11.To) false, .int (wadd .i64 v5 1) (wadd .i64 v5 1)] := ⟨(ige_eq h21), rfl, trivial⟩
     have h0 := ih _ _ hF
     have hn := fun ex ts' => loop_nextC (h := hn37) (l := 2) (c := c37_1) (ts := F37_l1_1_S a1 a2 r3 v4 v5) (ts1 := (F37_l1_1_S a1 a2 r3 v4 (wadd .i64 v5 1))) (ex := ex) (ts' := ts') (q22 (q23 (q24 (q25 (q26 (q27 pz)))))) (by kernel_rfl)
     cases r with
     | inl w => exact hn _ _ h0
     | inr w => exact hn _ _ h0
    have pz : HoldAll E H hn37 [.test (beqb (igt v5 0) true) false, .test (beqb (igt v5 0) true) false, .test (beqb (igt v5 0) true) false, .test (beqb (igt v5 0) true) false, .test (beqb (igt v5 0) true) false, .test (beqb (igt v5 0) true) false, .test (beqb (igt v5 0) true) false, .test (beqb (igt v5 0) true) false, .test (beqb (igt v5 0) true) false, .test (beqb (igt v5 0) true) false, .test (beqb (igt v5 0) true) false, .test (beqb (ine (wrem x11.To a2.Parts) v4) false) true, .test (igt v5 0) false, .test (ine (wrem x11.To a2.Parts) v4) false, .test false false, .int (wadd .i64 v5 1) (wadd .i64 v5 1)] := ⟨(beqb_t (igt_eq h17)), (beqb_t (igt_eq h17)), (beqb_t (igt_eq h17)), (beqb_t (igt_eq h17)), (beqb_t (igt_eq h17)), (beqb_t (igt_eq h17)), (beqb_t (igt_eq h17)), (beqb_t (igt_eq h17)), (beqb_t (igt_eq h17)), (beqb_t (igt_eq h17)), (beqb_t (igt_eq h17)), (beqb_ff (ine_t h16)), (igt_eq h17), (ine_t h16), rfl, rfl, trivial⟩
    have h0 := ih _ _ hF
    have hn := fun ex ts' => loop_nextC (h := hn37) (l := 2) (c := c37_1) (ts := F37_l1_1_S a1 a2 r3 v4 v5) (ts1 := (F37_l1_1_S a1 a2 r3 v4 (wadd .i64 v5 1))) (ex := ex) (ts' := ts') (q22 (q23 (q24 (q25 (q26 pz))))) (by kernel_rfl)
    cases r with
    | inl w => exact hn _ _ h0
    | inr w => exact hn _ _ h0
   obtain rfl := Option.some.inj hF
   have pz : HoldAll E H hn37 [.test (beqb (ine (wrem x11.To a2.Parts) v4) false) false, .test (beqb (ine (wrem x11.To a2.Parts) v4) false) false, .test (beqb (ine (wrem x11.To a2.Parts) v4) false) false, .test (beqb (ine (wrem x11.To a2.Parts) v4) false) false, .test (ine (wrem x11.To a2.Parts) v4) true, .test true true] := ⟨(beqb_ft (ine_f h16)), (beqb_ft (ine_f h16)), (beqb_ft (ine_f h16)), (beqb_ft (ine_f h16)), (ine_f h16), rfl, trivial⟩
   exact loop_endC (h := hn37) (l := 2) (c := c37_1) (ts := F37_l1_1_S a1 a2 r3 v4 v5) (ts' := F37_l1_1_X0 a1 a2 r3 v4 ()) (ex := .ret) (q22 (q23 (q24 (q25 pz)))) (by kernel_rfl) trivial
  obtain rfl := Option.some.inj hF
  have pz : HoldAll E H hn37 [.test (ilt v5 (nlen (len x7))) false] := ⟨h9, trivial⟩
  exact loop_endC (h := hn37) (l := 2) (c := c37_1) (ts := F37_l1_1_S a1 a2 r3 v4 v5) (ts' := F37_l1_1_X1 a1 a2 r3 v4 ()) (ex := (.exit 2)) (q22 pz) (by kernel_rfl) trivial
def F37_l0_0 (K : Nat) (a1 : GGraph) (a2 : GJob) (r3 : GPart × List (List GMsg) × Int) : Nat → Int → Option ((Unit) ⊕ (Unit))
 | 0, _ => none
 | k + 1, v4 =>
  bif (ilt v4 (nlen (len r3.2.1))) then
   ((F37_l1_1 K a1 a2 r3 v4 K 0).bind fun y5 =>
   Sum.elim (fun w6 =>
    some (.inl ()))
    (fun w7 =>
    F37_l0_0 K a1 a2 r3 k (wadd .i64 v4 1)) y5)
  else
  some (.inr ())
def F37_l0_0_S (a1 : GGraph) (a2 : GJob) (r3 : GPart × List (List GMsg) × Int) (v4 : Int) : TS := .on [192, 193, 194, 256, 257, 258, 259, 260, 512, 513, 640, 641] [(192, ⟨(.box 62 2), 0, nob⟩), (193, ⟨.im, 0, (.lit (.int .i64 a1.N))⟩), (194, ⟨.im, 0, (.sl (len a1.Edges) (flat eGEdge a1.Edges))⟩), (256, ⟨(.box 64 4), 0, nob⟩), (257, ⟨.im, 0, (.lit (.int .i64 a2.Prog))⟩), (258, ⟨.im, 0, (.lit (.int .i64 a2.Source))⟩), (259, ⟨.im, 0, (.lit (.int .i64 a2.Limit))⟩), (260, ⟨.im, 0, (.lit (.int .i64 a2.Parts))⟩), (512, ⟨.one, 0, nob⟩), (513, ⟨(.own 40), 0, (.sl (len r3.2.1) (flat (eSl eGMsg) r3.2.1))⟩), (640, ⟨.one, 0, nob⟩), (641, ⟨.im, 0, (.lit (.int .i64 v4))⟩)]
def F37_l0_0_X0 (a1 : GGraph) (a2 : GJob) (r3 : GPart × List (List GMsg) × Int) (w4 : Unit) : TS := .on [384, 385] [(384, ⟨.one, 0, nob⟩), (385, ⟨.im, 0, (.lit (.bool false))⟩)]
def F37_l0_0_X1 (a1 : GGraph) (a2 : GJob) (r3 : GPart × List (List GMsg) × Int) (w4 : Unit) : TS := .on [] []
theorem F37_l0_0_ok (K : Nat) (a1 : GGraph) (a2 : GJob) (r3 : GPart × List (List GMsg) × Int) : ∀ (k : Nat) (v4 : Int) (r : (Unit) ⊕ (Unit)), F37_l0_0 K a1 a2 r3 k v4 = some r → (Sum.elim (fun w => LoopEv E H hn37 0 c37_0 (F37_l0_0_S a1 a2 r3 v4) .ret (F37_l0_0_X0 a1 a2 r3 w)) (fun w => LoopEv E H hn37 0 c37_0 (F37_l0_0_S a1 a2 r3 v4) (.exit 0) (F37_l0_0_X1 a1 a2 r3 w))) r := by
 intro k
 induction k with
 | zero => intro v4 r hF; cases hF
 | succ k ih =>
  intro v4 r hF
  rw [F37_l0_0] at hF
  refine cond_some hF (fun h5 hF => ?_) (fun h5 hF => ?_)
  ·
   refine bind_some hF (fun y7 h6 hF => ?_)
   refine sum_some hF (fun w8 hx hF => ?_) (fun w9 hx hF => ?_)
   ·
    subst hx
    obtain rfl := Option.some.inj hF
    have pz : HoldAll E H hn37 [.int (nlen (len r3.2.1)) (nlen (len r3.2.1)), .test (ilt v4 (nlen (len r3.2.1))) true, .loop 2 c37_1 (F37_l1_1_S a1 a2 r3 v4 0) .ret (F37_l1_1_X0 a1 a2 r3 v4 w8)] := ⟨rfl, h5, (F37_l1_1_ok K a1 a2 r3 v4 K 0 _ h6), trivial⟩
    exact loop_endC (h := hn37) (l := 0) (c := c37_0) (ts := F37_l0_0_S a1 a2 r3 v4) (ts' := F37_l0_0_X0 a1 a2 r3 ()) (ex := .ret) pz (by kernel_rfl) trivial
   subst hx
   have pz : HoldAll E H hn37 [.int (nlen (len r3.2.1)) (nlen (len r3.2.1)), .test (ilt v4 (nlen (len r3.2.1))) true, .loop 2 c37_1 (F37_l1_1_S a1 a2 r3 v4 0) (.exit 2) (F37_l1_1_X1 a1 a2 r3 v4 w9), .int (wadd .i64 v4 1) (wadd .i64 v4 1)] := ⟨rfl, h5, (F37_l1_1_ok K a1 a2 r3 v4 K 0 _ h6), rfl, trivial⟩
   have h0 := ih _ _ hF
   have hn := fun ex ts' => loop_nextC (h := hn37) (l := 0) (c := c37_0) (ts := F37_l0_0_S a1 a2 r3 v4) (ts1 := (F37_l0_0_S a1 a2 r3 (wadd .i64 v4 1))) (ex := ex) (ts' := ts') pz (by kernel_rfl)
   cases r with
   | inl w => exact hn _ _ h0
   | inr w => exact hn _ _ h0
  obtain rfl := Option.some.inj hF
  have pz : HoldAll E H hn37 [.int (nlen (len r3.2.1)) (nlen (len r3.2.1)), .test (ilt v4 (nlen (len r3.2.1))) false] := ⟨rfl, h5, trivial⟩
  exact loop_endC (h := hn37) (l := 0) (c := c37_0) (ts := F37_l0_0_S a1 a2 r3 v4) (ts' := F37_l0_0_X1 a1 a2 r3 ()) (ex := (.exit 0)) pz (by kernel_rfl) trivial
def F37 (K : Nat) (a1 : GGraph) (a2 : GJob) (a3 : GPart) : Option (Bool) :=
 (F113 K a1).bind fun r4 =>
 bif r4 then
  (some true)
 else
 (F114 K a3).bind fun r5 =>
 bif r5 then
  (some true)
 else
 (F116 K a1 a2 a3).bind fun r6 =>
 bif (ieq r6.2.2 0) then
  (bif (ieq (nlen (len r6.2.1)) a2.Parts) then
   ((F81 K a1 a2 r6.1).bind fun r7 =>
   bif r7 then
    (bif (ieq (nlen (len r6.1.In)) 0) then
     (bif (ieq r6.1.Step (wadd .i64 a3.Step 1)) then
      (bif (ieq r6.1.P a3.P) then
       ((F37_l0_0 K a1 a2 r6 K 0).bind fun y8 =>
       Sum.elim (fun w9 =>
        some false)
        (fun w10 =>
        some true) y8)
      else
      some false)
     else
     some false)
    else
    some false)
   else
   some false)
  else
  some false)
 else
 bif (ieq (nlen (len r6.2.1)) 0) then
  ((F118 K r6.1 (GPart.mk 0 0 [] [] [])).bind fun r11 =>
  bif r11 then
   (some true)
  else
  some false)
 else
 some false
theorem F37_ok (K : Nat) (a1 : GGraph) (a2 : GJob) (a3 : GPart) (r : Bool) (hF : F37 K a1 a2 a3 = some r) : Evt E H 37 [.agg (eGGraph a1), .agg (eGJob a2), .agg (eGPart a3)] (F37_res r) := by
 rw [F37] at hF
 refine bind_some hF (fun r4 h5 hF => ?_)
 refine cond_some hF (fun h6 hF => ?_) (fun h6 hF => ?_)
 ·
  obtain rfl := Option.some.inj hF
  have pz : HoldAll E H hn37 [.call 113 [.agg (eGGraph a1)] (F113_res r4), .test (leadsAny (Res.mk [(.one (.im (.lit (.bool r4))))] [])) false, .test (beqb r4 false) false, .test (beqb r4 false) false, .test r4 true, .test true true, .call 115 [] (Res.mk [(.one (.im (.lit (.bool true))))] []), .test (leadsAny (Res.mk [(.one (.im (.lit (.bool true))))] [])) false] := ⟨(F113_ok K a1 _ h5), (leads_ok (by simp [leadsAny, RV.leads, RC.leads, leadsT, hasSl_lit])), (beqb_ft h6), (beqb_ft h6), h6, rfl, knows115, (leads_ok (by simp [leadsAny, RV.leads, RC.leads, leadsT, hasSl_lit])), trivial⟩
  exact fn_playC hn37 (r := F37_res true) pz (by kernel_rfl) (by kernel_rfl)
 refine bind_some hF (fun r7 h8 hF => ?_)
 have q28 : PQ hn37 fun l => (.call 113 [.agg (eGGraph a1)] (F113_res r4) :: .test (leadsAny (Res.mk [(.one (.im (.lit (.bool r4))))] [])) false :: .test (beqb r4 false) true :: .test (beqb r4 false) true :: .call 114 [.agg (eGPart a3)] (F114_res r7) :: .test (leadsAny (Res.mk [(.one (.im (.lit (.bool r7))))] [])) false :: .test r4 false :: l) := fun z => ⟨(F113_ok K a1 _ h5), (leads_ok (by simp [leadsAny, RV.leads, RC.leads, leadsT, hasSl_lit])), (beqb_ff h6), (beqb_ff h6), (F114_ok K a3 _ h8), (leads_ok (by simp [leadsAny, RV.leads, RC.leads, leadsT, hasSl_lit])), h6, z⟩
 refine cond_some hF (fun h9 hF => ?_) (fun h9 hF => ?_)
 ·
  obtain rfl := Option.some.inj hF
  have pz : HoldAll E H hn37 [.test r7 true, .call 115 [] (Res.mk [(.one (.im (.lit (.bool true))))] []), .test (leadsAny (Res.mk [(.one (.im (.lit (.bool true))))] [])) false] := ⟨h9, knows115, (leads_ok (by simp [leadsAny, RV.leads, RC.leads, leadsT, hasSl_lit])), trivial⟩
  exact fn_playC hn37 (r := F37_res true) (q28 pz) (by kernel_rfl) (by kernel_rfl)
 refine bind_some hF (fun r10 h11 hF => ?_)
 refine cond_some hF (fun h12 hF => ?_) (fun h12 hF => ?_)
 ·
  have q29 : PQ hn37 fun l => (.test r7 false :: .call 116 [.agg (eGGraph a1), .agg (eGJob a2), .agg (eGPart a3)] (F116_res r10) :: .test (ine r10.2.2 0) false :: .int (nlen (len r10.2.1)) (nlen (len r10.2.1)) :: l) := fun z => ⟨h9, (F116_ok K a1 a2 a3 _ h11), (ine_t h12), rfl, z⟩
  refine cond_some hF (fun h13 hF => ?_) (fun h13 hF => ?_)
  ·
   refine bind_some hF (fun r14 h15 hF => ?_)
   have q30 : PQ hn37 fun l => (.test (beqb (ine (nlen (len r10.2.1)) a2.Parts) false) true :: .test (beqb (ine (nlen (len r10.2.1)) a2.Parts) false) true :: .test (beqb (ine (nlen (len r10.2.1)) a2.Parts) false) true :: .test (beqb (ine (nlen (len r10.2.1)) a2.Parts) false) true :: .call 81 [.agg (eGGraph a1), .agg (eGJob a2), .agg (eGPart r10.1)] (F81_res r14) :: .test (leadsAny (Res.mk [(.one (.im (.lit (.bool r14))))] [])) false :: .test (beqb (ine (nlen (len r10.2.1)) a2.Parts) false) true :: .test (ine (nlen (len r10.2.1)) a2.Parts) false :: l) := fun z => ⟨(beqb_ff (ine_t h13)), (beqb_ff (ine_t h13)), (beqb_ff (ine_t h13)), (beqb_ff (ine_t h13)), (F81_ok K a1 a2 r10.1 _ h15), (leads_ok (by simp [leadsAny, RV.leads, RC.leads, leadsT, hasSl_lit, flat_ns eGJob_ns])), (beqb_ff (ine_t h13)), (ine_t h13), z⟩
   refine cond_some hF (fun h16 hF => ?_) (fun h16 hF => ?_)
   ·
    have q31 : PQ hn37 fun l => (.test (beqb (bnot r14) false) true :: .test (beqb (bnot r14) false) true :: .test (beqb (bnot r14) false) true :: .int (nlen (len r10.1.In)) (nlen (len r10.1.In)) :: .test (beqb (bnot r14) false) true :: .test (bnot r14) false :: l) := fun z => ⟨(beqb_ff (bnot_t h16)), (beqb_ff (bnot_t h16)), (beqb_ff (bnot_t h16)), rfl, (beqb_ff (bnot_t h16)), (bnot_t h16), z⟩
    refine cond_some hF (fun h17 hF => ?_) (fun h17 hF => ?_)
    ·
     have q32 : PQ hn37 fun l => (.test (beqb (ine (nlen (len r10.1.In)) 0) false) true :: .test (beqb (ine (nlen (len r10.1.In)) 0) false) true :: .test (beqb (ine (nlen (len r10.1.In)) 0) false) true :: .test (beqb (ine (nlen (len r10.1.In)) 0) false) true :: .test (beqb (ine (nlen (len r10.1.In)) 0) false) true :: .int (wadd .i64 a3.Step 1) (wadd .i64 a3.Step 1) :: .test (beqb (ine (nlen (len r10.1.In)) 0) false) true :: .test (ine (nlen (len r10.1.In)) 0) false :: l) := fun z => ⟨(beqb_ff (ine_t h17)), (beqb_ff (ine_t h17)), (beqb_ff (ine_t h17)), (beqb_ff (ine_t h17)), (beqb_ff (ine_t h17)), rfl, (beqb_ff (ine_t h17)), (ine_t h17), z⟩
     refine cond_some hF (fun h18 hF => ?_) (fun h18 hF => ?_)
     ·
      have q33 : PQ hn37 fun l => (.test (beqb (ine r10.1.Step (wadd .i64 a3.Step 1)) false) true :: .test (beqb (ine r10.1.Step (wadd .i64 a3.Step 1)) false) true :: .test (beqb (ine r10.1.Step (wadd .i64 a3.Step 1)) false) true :: .test (beqb (ine r10.1.Step (wadd .i64 a3.Step 1)) false) true :: .test (beqb (ine r10.1.Step (wadd .i64 a3.Step 1)) false) true :: .test (ine r10.1.Step (wadd .i64 a3.Step 1)) false :: l) := fun z => ⟨(beqb_ff (ine_t h18)), (beqb_ff (ine_t h18)), (beqb_ff (ine_t h18)), (beqb_ff (ine_t h18)), (beqb_ff (ine_t h18)), (ine_t h18), z⟩
      refine cond_some hF (fun h19 hF => ?_) (fun h19 hF => ?_)
      ·
       refine bind_some hF (fun y21 h20 hF => ?_)
       refine sum_some hF (fun w22 hx hF => ?_) (fun w23 hx hF => ?_)
       ·
        subst hx
        obtain rfl := Option.some.inj hF
        have pz : HoldAll E H hn37 [.test (ine r10.1.P a3.P) false, .loop 0 c37_0 (F37_l0_0_S a1 a2 r10 0) .ret (F37_l0_0_X0 a1 a2 r10 w22)] := ⟨(ine_t h19), (F37_l0_0_ok K a1 a2 r10 K 0 _ h20), trivial⟩
        exact fn_playC hn37 (r := F37_res false) (q28 (q29 (q30 (q31 (q32 (q33 pz)))))) (by kernel_rfl) (by kernel_rfl)
       subst hx
       obtain rfl := Option.some.inj hF
       have pz : HoldAll E H hn37 [.test (ine r10.1.P a3.P) false, .loop 0 c37_0 (F37_l0_0_S a1 a2 r10 0) (.exit 0) (F37_l0_0_X1 a1 a2 r10 w23), .call 115 [] (Res.mk [(.one (.im (.lit (.bool true))))] []), .test (leadsAny (Res.mk [(.one (.im (.lit (.bool true))))] [])) false] := ⟨(ine_t h19), (F37_l0_0_ok K a1 a2 r10 K 0 _ h20), knows115, (leads_ok (by simp [leadsAny, RV.leads, RC.leads, leadsT, hasSl_lit])), trivial⟩
       exact fn_playC hn37 (r := F37_res true) (q28 (q29 (q30 (q31 (q32 (q33 pz)))))) (by kernel_rfl) (by kernel_rfl)
      obtain rfl := Option.some.inj hF
      have pz : HoldAll E H hn37 [.test (ine r10.1.P a3.P) true] := ⟨(ine_f h19), trivial⟩
      exact fn_playC hn37 (r := F37_res false) (q28 (q29 (q30 (q31 (q32 (q33 pz)))))) (by kernel_rfl) (by kernel_rfl)
     obtain rfl := Option.some.inj hF
     have pz : HoldAll E H hn37 [.test (beqb (ine r10.1.Step (wadd .i64 a3.Step 1)) false) false, .test (beqb (ine r10.1.Step (wadd .i64 a3.Step 1)) false) false, .test (beqb (ine r10.1.Step (wadd .i64 a3.Step 1)) false) false, .test (beqb (ine r10.1.Step (wadd .i64 a3.Step 1)) false) false, .test (beqb (ine r10.1.Step (wadd .i64 a3.Step 1)) false) false, .test (ine r10.1.Step (wadd .i64 a3.Step 1)) true, .test true true] := ⟨(beqb_ft (ine_f h18)), (beqb_ft (ine_f h18)), (beqb_ft (ine_f h18)), (beqb_ft (ine_f h18)), (beqb_ft (ine_f h18)), (ine_f h18), rfl, trivial⟩
     exact fn_playC hn37 (r := F37_res false) (q28 (q29 (q30 (q31 (q32 pz))))) (by kernel_rfl) (by kernel_rfl)
    obtain rfl := Option.some.inj hF
    have pz : HoldAll E H hn37 [.test (beqb (ine (nlen (len r10.1.In)) 0) false) false, .test (beqb (ine (nlen (len r10.1.In)) 0) false) false, .test (beqb (ine (nlen (len r10.1.In)) 0) false) false, .test (beqb (ine (nlen (len r10.1.In)) 0) false) false, .test (beqb (ine (nlen (len r10.1.In)) 0) false) false, .test (beqb (ine (nlen (len r10.1.In)) 0) false) false, .test (ine (nlen (len r10.1.In)) 0) true, .test (beqb true false) false, .test (beqb true false) false, .test (beqb true false) false, .test (beqb true false) false, .test (beqb true false) false, .test true true, .test true true] := ⟨(beqb_ft (ine_f h17)), (beqb_ft (ine_f h17)), (beqb_ft (ine_f h17)), (beqb_ft (ine_f h17)), (beqb_ft (ine_f h17)), (beqb_ft (ine_f h17)), (ine_f h17), (beqb_ft rfl), (beqb_ft rfl), (beqb_ft rfl), (beqb_ft rfl), (beqb_ft rfl), rfl, rfl, trivial⟩
    exact fn_playC hn37 (r := F37_res false) (q28 (q29 (q30 (q31 pz)))) (by kernel_rfl) (by kernel_rfl)
   obtain rfl := Option.some.inj hF
   have pz : HoldAll E H hn37 [.test (beqb (bnot r14) false) false, .test (beqb (bnot r14) false) false, .test (beqb (bnot r14) false) false, .test (beqb (bnot r14) false) false, .test (bnot r14) true, .test (beqb true false) false, .test (beqb true false) false, .test (beqb true false) false, .test (beqb true false) false, .test (beqb true false) false, .test (beqb true false) false, .test true true, .test (beqb true false) false, .test (beqb true false) false, .test (beqb true false) false, .test (beqb true false) false, .test (beqb true false) false, .test true true, .test true true] := ⟨(beqb_ft (bnot_f h16)), (beqb_ft (bnot_f h16)), (beqb_ft (bnot_f h16)), (beqb_ft (bnot_f h16)), (bnot_f h16), (beqb_ft rfl), (beqb_ft rfl), (beqb_ft rfl), (beqb_ft rfl), (beqb_ft rfl), (beqb_ft rfl), rfl, (beqb_ft rfl), (beqb_ft rfl), (beqb_ft rfl), (beqb_ft rfl), (beqb_ft rfl), rfl, rfl, trivial⟩
   exact fn_playC hn37 (r := F37_res false) (q28 (q29 (q30 pz))) (by kernel_rfl) (by kernel_rfl)
  obtain rfl := Option.some.inj hF
  have pz : HoldAll E H hn37 [.test (beqb (ine (nlen (len r10.2.1)) a2.Parts) false) false, .test (beqb (ine (nlen (len r10.2.1)) a2.Parts) false) false, .test (beqb (ine (nlen (len r10.2.1)) a2.Parts) false) false, .test (beqb (ine (nlen (len r10.2.1)) a2.Parts) false) false, .test (beqb (ine (nlen (len r10.2.1)) a2.Parts) false) false, .test (ine (nlen (len r10.2.1)) a2.Parts) true, .test (beqb true false) false, .test (beqb true false) false, .test (beqb true false) false, .test (beqb true false) false, .test true true, .test (beqb true false) false, .test (beqb true false) false, .test (beqb true false) false, .test (beqb true false) false, .test (beqb true false) false, .test (beqb true false) false, .test true true, .test (beqb true false) false, .test (beqb true false) false, .test (beqb true false) false, .test (beqb true false) false, .test (beqb true false) false, .test true true, .test true true] := ⟨(beqb_ft (ine_f h13)), (beqb_ft (ine_f h13)), (beqb_ft (ine_f h13)), (beqb_ft (ine_f h13)), (beqb_ft (ine_f h13)), (ine_f h13), (beqb_ft rfl), (beqb_ft rfl), (beqb_ft rfl), (beqb_ft rfl), rfl, (beqb_ft rfl), (beqb_ft rfl), (beqb_ft rfl), (beqb_ft rfl), (beqb_ft rfl), (beqb_ft rfl), rfl, (beqb_ft rfl), (beqb_ft rfl), (beqb_ft rfl), (beqb_ft rfl), (beqb_ft rfl), rfl, rfl, trivial⟩
  exact fn_playC hn37 (r := F37_res false) (q28 (q29 pz)) (by kernel_rfl) (by kernel_rfl)
 have q34 : PQ hn37 fun l => (.test r7 false :: .call 116 [.agg (eGGraph a1), .agg (eGJob a2), .agg (eGPart a3)] (F116_res r10) :: .test (ine r10.2.2 0) true :: .int (nlen (len r10.2.1)) (nlen (len r10.2.1)) :: l) := fun z => ⟨h9, (F116_ok K a1 a2 a3 _ h11), (ine_f h12), rfl, z⟩
 refine cond_some hF (fun h24 hF => ?_) (fun h24 hF => ?_)
 ·
  refine bind_some hF (fun r25 h26 hF => ?_)
  have q35 : PQ hn37 fun l => (.test (beqb (ieq (nlen (len r10.2.1)) 0) true) true :: .test (beqb (ieq (nlen (len r10.2.1)) 0) true) true :: .test (beqb (ieq (nlen (len r10.2.1)) 0) true) true :: .call 118 [.agg (eGPart r10.1), .agg (eGPart (GPart.mk 0 0 [] [] []))] (F118_res r25) :: .test (leadsAny (Res.mk [(.one (.im (.lit (.bool r25))))] [])) false :: .test (ieq (nlen (len r10.2.1)) 0) true :: l) := fun z => ⟨(beqb_t h24), (beqb_t h24), (beqb_t h24), (F118_ok K r10.1 (GPart.mk 0 0 [] [] []) _ h26), (leads_ok (by simp [leadsAny, RV.leads, RC.leads, leadsT, hasSl_lit])), h24, z⟩
  refine cond_some hF (fun h27 hF => ?_) (fun h27 hF => ?_)
  ·
   obtain rfl := Option.some.inj hF
   have pz : HoldAll E H hn37 [.test (beqb r25 true) true, .call 115 [] (Res.mk [(.one (.im (.lit (.bool true))))] []), .test (leadsAny (Res.mk [(.one (.im (.lit (.bool true))))] [])) false, .test r25 true] := ⟨(beqb_t h27), knows115, (leads_ok (by simp [leadsAny, RV.leads, RC.leads, leadsT, hasSl_lit])), h27, trivial⟩
   exact fn_playC hn37 (r := F37_res true) (q28 (q34 (q35 pz))) (by kernel_rfl) (by kernel_rfl)
  obtain rfl := Option.some.inj hF
  have pz : HoldAll E H hn37 [.test (beqb r25 true) false, .test r25 false] := ⟨(beqb_t h27), h27, trivial⟩
  exact fn_playC hn37 (r := F37_res false) (q28 (q34 (q35 pz))) (by kernel_rfl) (by kernel_rfl)
 obtain rfl := Option.some.inj hF
 have pz : HoldAll E H hn37 [.test (beqb (ieq (nlen (len r10.2.1)) 0) true) false, .test (beqb (ieq (nlen (len r10.2.1)) 0) true) false, .test (beqb (ieq (nlen (len r10.2.1)) 0) true) false, .test (ieq (nlen (len r10.2.1)) 0) false, .test (beqb false true) false, .test false false] := ⟨(beqb_t h24), (beqb_t h24), (beqb_t h24), h24, (beqb_t rfl), rfl, trivial⟩
 exact fn_playC hn37 (r := F37_res false) (q28 (q34 pz)) (by kernel_rfl) (by kernel_rfl)
theorem doA_bad {g : GGraph} {j : GJob} {x : GPart} : ∀ (l : List Nat) (i : Nat) (a : List Int) (b : List Bool) (c : List GMsg) (e : Int), doA g j x l i a b c = .inl e → ieq e 0 = false := by
 intro l
 induction l with
 | nil => intro i a b c e h; cases h
 | cons v l ih =>
   intro i a b c e h
   rw [doA] at h
   cases hq : ieq (oneP g j x i v).2.2.2 0
   · rw [hq] at h
     injection h with h
     rw [← h]; exact hq
   · rw [hq] at h; exact ih _ _ _ _ _ h
theorem tell_cases {j : GJob} {c : List GMsg} : ∀ (l : List Nat) (d : List (List GMsg)), (∃ e, ieq e 0 = false ∧ tellS j c l d = .inl e) ∨ (tellS j c l d = .inr (d ++ l.map fun (q : Nat) => (boxS j.Prog (toS j c (q : Int))).1) ∧ ∀ q ∈ l, ieq (boxS j.Prog (toS j c (q : Int))).2 0 = true) := by
 intro l
 induction l with
 | nil => intro d; exact .inr ⟨by rw [tellS, List.map_nil, List.append_nil], fun q hq => absurd hq List.not_mem_nil⟩
 | cons q l ih =>
   intro d
   rw [tellS]
   cases hq : ieq (boxS j.Prog (toS j c (q : Int))).2 0
   · exact .inl ⟨_, hq, rfl⟩
   · rcases ih (d ++ [(boxS j.Prog (toS j c (q : Int))).1]) with h | ⟨h, h'⟩
     · exact .inl h
     · refine .inr ⟨by rw [cond_true, h]; simp, fun y hy => ?_⟩
       rcases List.mem_cons.1 hy with rfl | hy
       · exact hq
       · exact h' y hy
theorem do_cases (g : GGraph) (j : GJob) {x : GPart} (hn : niceP x) : (∃ e, ieq e 0 = false ∧ doS g j x = (zeroP, [], e)) ∨
   (ieq (jcheck g j) 0 = true ∧ partRight g j x = true ∧ ieq x.Step 40 = false ∧ ∃ w, doA g j x (vertsS g j x.P) 0 [] [] [] = .inr w ∧ keepP g (vertsS g j x.P).length w.1 w.2.1 w.2.2 ∧
     (∀ q < j.Parts.toNat, ieq (boxS j.Prog (toS j w.2.2 (q : Int))).2 0 = true) ∧
     doS g j x = (GPart.mk x.P (x.Step + 1) w.1 w.2.1 [], (List.range j.Parts.toNat).map (fun (q : Nat) => (boxS j.Prog (toS j w.2.2 (q : Int))).1), 0)) := by
 rw [doS]
 cases hc : ieq (jcheck g j) 0
 · exact .inl ⟨_, hc, rfl⟩
 · cases hR : partRight g j x
   · exact .inl ⟨_, rfl, rfl⟩
   · cases h40 : ieq x.Step 40
     · cases hA : doA g j x (vertsS g j x.P) 0 [] [] [] with
       | inl e => exact .inl ⟨e, doA_bad _ _ _ _ _ _ hA, rfl⟩
       | inr w =>
         have kw := doA_keep hn _ 0 [] [] [] (keepP0 g) w hA
         rw [Nat.zero_add] at kw
         rcases tell_cases (j := j) (c := w.2.2) (List.range j.Parts.toNat) [] with ⟨e, h1, h2⟩ | ⟨h, h'⟩
         · refine .inl ⟨e, h1, ?_⟩
           simp only [cond_true, cond_false, doB, h2, doC]
         · refine .inr ⟨rfl, rfl, rfl, w, rfl, kw, fun q hq => h' q (List.mem_range.2 hq), ?_⟩
           simp only [cond_true, cond_false, doB, h, doC, List.nil_append]
     · exact .inl ⟨_, rfl, rfl⟩
theorem do_fit {K : Nat} (hK : 3000 ≤ K) (g : GGraph) (j : GJob) {x : GPart} (hn : niceP x) : fitP K (doS g j x).1 ∧ (doS g j x).2.1.length ≤ 6 ∧ ∀ l ∈ (doS g j x).2.1, l.length ≤ 2000 := by
 have hz : fitP K zeroP := by refine ⟨⟨?_, ?_⟩, ⟨?_, ?_⟩, ?_, ?_⟩ <;> simp [zeroP] <;> omega
 rcases do_cases g j hn with ⟨e, _, h⟩ | ⟨hc, hR, _, w, _, kw, _, h⟩
 · rw [h]; exact ⟨hz, Nat.zero_le _, fun l hl => absurd hl List.not_mem_nil⟩
 · obtain ⟨hg, _, _, _, _, _, _, p7, p8⟩ := jcheck_ok hc
   obtain ⟨g1, g2, g3, _⟩ := gcheck_ok hg
   have hvl := verts_len g j g2 x.P
   have h1 := kw.la
   have h2 := kw.lb
   have h3 := kw.lc
   rw [h]
   refine ⟨⟨⟨by show w.1.length < _; omega, by show w.1.length < _; omega⟩, ⟨by show w.2.1.length < _; omega, by show w.2.1.length < _; omega⟩, by show 0 < 1000000; omega, by show 0 < K; omega⟩, ?_, fun l hl => ?_⟩
   · show ((List.range j.Parts.toNat).map _).length ≤ 6
     rw [List.length_map, List.length_range]; omega
   · obtain ⟨q, hq, rfl⟩ := List.mem_map.1 hl
     have := (boxS_ok (p := j.Prog) (l := toS j w.2.2 (q : Int)) fun m hm => kw.vc m (toS_mem hm).1).1
     have := toS_len j w.2.2 (q : Int)
     omega
theorem F37_in {K : Nat} (g : GGraph) (j : GJob) (r : Did) (q : Nat) (l : List GMsg) (hp : 1 ≤ j.Parts) (r1 : inr (q : Int) (len r.2.1) = true) (r2 : elAt r.2.1 (q : Int) = some l) (hl : l.length < 1000000) (hK : l.length < K)
   (hs : l.Pairwise (fun a b => a.To < b.To)) (ht : ∀ m ∈ l, 0 ≤ m.To ∧ m.To < g.N ∧ m.To % j.Parts = (q : Int)) : F37_l1_1 K g j r (q : Int) K 0 = some (.inr ()) := by
 let step : Nat → GMsg → Unit → (Unit → Option (Unit ⊕ Unit)) → Option (Unit ⊕ Unit) := fun i m _ c =>
     bif (ilt m.To 0) then (some (.inl ())) else bif (ile g.N m.To) then (some (.inl ())) else bif (izero j.Parts) then none else
     bif (ieq (wrem m.To j.Parts) (q : Int)) then
       (bif (ilt 0 (i : Int)) then
         (bif (inr (wsub .i64 (i : Int) 1) (len l)) then
         (elAt l (wsub .i64 (i : Int) 1)).bind fun d => bif (ile m.To d.To) then (some (.inl ())) else c ()
         else none)
       else c ())
     else some (.inl ())
 have hz : izero j.Parts = false := decide_eq_false (by omega)
 have h := scanI (l := l) (L := fun k (_ : Unit) i => F37_l1_1 K g j r (q : Int) k i) step (fun _ => some (.inr ())) (fun k st i hi => by
   show F37_l1_1 K g j r (q : Int) (k + 1) (i : Int) = _
   rw [F37_l1_1, r1, r2]; rfl) (by omega) K () 0 (by omega) (by omega)
 have hw : ∀ (t : List GMsg) (i : Nat), l.drop i = t → t.Pairwise (fun a b => a.To < b.To) → (∀ d, prevOf l i = some d → ∀ y ∈ t, d.To < y.To) → goI step (fun _ => some (.inr ())) i t () = some (.inr ()) := by
   intro t
   induction t with
   | nil => intro i _ _ _; rfl
   | cons m t ih =>
     intro i hr hs hp'
     obtain ⟨n1, n2, hi⟩ := prev_next hr
     obtain ⟨s1, s2⟩ := List.pairwise_cons.1 hs
     have hm : m ∈ l := List.mem_of_mem_drop (by rw [hr]; exact List.mem_cons_self)
     obtain ⟨t1, t2, t3⟩ := ht m hm
     have nx := ih (i + 1) n2 s2 (fun d hd y hy => by rw [n1] at hd; cases hd; exact s1 y hy)
     rw [goI]
     show (bif (ilt m.To 0) then (some (.inl ())) else bif (ile g.N m.To) then (some (.inl ())) else bif (izero j.Parts) then none else
     bif (ieq (wrem m.To j.Parts) (q : Int)) then
       (bif (ilt 0 (i : Int)) then
         (bif (inr (wsub .i64 (i : Int) 1) (len l)) then
         (elAt l (wsub .i64 (i : Int) 1)).bind fun d => bif (ile m.To d.To) then (some (.inl ())) else goI step (fun _ => some (.inr ())) (i + 1) t ()
         else none)
       else goI step (fun _ => some (.inr ())) (i + 1) t ())
     else some (.inl ())) = _
     rw [ilt_f.2 t1, ile_f.2 t2, hz, wrem_emod t1, ieq_iff.2 t3, nx]
     cases i with
     | zero => rfl
     | succ n =>
       obtain ⟨d, p1, p2, p3, p4⟩ := prev_at (l := l) (i := n + 1) (by omega) hi (by omega)
       have hd := hp' d p1 m List.mem_cons_self
       rw [ilt_iff.2 (by omega : (0 : Int) < ((n + 1 : Nat) : Int)), p2, p3, p4]
       simp only [cond_true, cond_false, Option.bind_some, ile_f.2 hd]
 have := hw l 0 rfl hs (fun d hd => by cases hd)
 rw [List.drop_zero, this] at h
 exact h
theorem F37_out {K : Nat} (hK : 3000 ≤ K) (g : GGraph) (j : GJob) (r : Did) (hp : 1 ≤ j.Parts) (h6 : r.2.1.length ≤ 6)
   (ht : ∀ (q : Nat) (h : q < r.2.1.length), r.2.1[q].length ≤ 2000 ∧ r.2.1[q].Pairwise (fun a b => a.To < b.To) ∧ ∀ m ∈ r.2.1[q], 0 ≤ m.To ∧ m.To < g.N ∧ m.To % j.Parts = (q : Int)) :
   ∀ (n k q : Nat), q + n = r.2.1.length → n < k → F37_l0_0 K g j r k (q : Int) = some (.inr ()) := by
 intro n
 induction n with
 | zero =>
   intro k q hq hk
   obtain ⟨k, rfl⟩ : ∃ p, k = p + 1 := ⟨k - 1, by omega⟩
   rw [F37_l0_0, ilt_f.2 (by show (r.2.1.length : Int) ≤ (q : Int); omega)]; rfl
 | succ n ih =>
   intro k q hq hk
   obtain ⟨k, rfl⟩ : ∃ p, k = p + 1 := ⟨k - 1, by omega⟩
   have hlt : q < r.2.1.length := by omega
   obtain ⟨h1, h2, h3⟩ := ht q hlt
   have e := F37_in (K := K) g j r q r.2.1[q] hp (decide_eq_true ⟨by omega, by show (q : Int) < (r.2.1.length : Int); omega⟩) (by rw [elAt_nat]; exact List.getElem?_eq_getElem hlt) (by omega) (by omega) h2 h3
   rw [F37_l0_0, ilt_iff.2 (by show (q : Int) < (r.2.1.length : Int); omega), cond_true, e, Option.bind_some, Sum.elim_inr, wadd_nat (by omega)]
   exact ih k (q + 1) (by omega) (by omega)
theorem law37 (g : GGraph) (j : GJob) (x : GPart) (_ : WGGraph g) (_ : WGJob j) (hx : WGPart x) : F37 3000 g j x = some true := by
 generalize hq : 3000 = K
 have hK : 3000 ≤ K := by omega
 rw [F37, F113, F114_spec, Option.bind_some, Option.bind_some]
 cases igt (nlen (len g.Edges)) 200
 · cases hb : broadP8 x
   · obtain ⟨b1, b2, b3⟩ := broadP8_f hb
     have hn := wf_niceP hx
     obtain ⟨f1, f2, f3⟩ := do_fit hK g j hn
     rw [cond_false, cond_false, F116_spec hK g j x hn b3 (i64_wf hx.1), Option.bind_some]
     rcases do_cases g j hn with ⟨e, h0, h⟩ | ⟨hc, hR, h40, w, hA, kw, hB, h⟩
     · have z : ieq (nlen (len ([] : List (List GMsg)))) 0 = true := rfl
       have s : F118 K zeroP zeroP = some true := same118 zeroP (by rw [h] at f1; exact f1)
       simp only [h, h0, cond_false, z, cond_true]
       rw [show GPart.mk 0 0 [] [] [] = zeroP from rfl, s]; rfl
     · obtain ⟨_, p1, p2, p3, p4, p5, p6, _⟩ := partRight_ok hR
       obtain ⟨hg, _, _, _, _, _, _, p7, p8⟩ := jcheck_ok hc
       obtain ⟨g1, g2, g3, _⟩ := gcheck_ok hg
       have h1 := kw.la
       have h2 := kw.lb
       have h3 := kw.lc
       have hvl := verts_len g j g2 x.P
       have hs := ieq_f.1 h40
       have hw : wadd .i64 x.Step 1 = x.Step + 1 := wadd_i64 (by unfold i64; omega)
       have hlen : (List.range j.Parts.toNat).map (fun (q : Nat) => (boxS j.Prog (toS j w.2.2 (q : Int))).1) = (doS g j x).2.1 := by rw [h]
       have c1 : ieq (nlen (len (doS g j x).2.1)) j.Parts = true := ieq_iff.2 (by
         rw [← hlen]
         show ((((List.range j.Parts.toNat).map _).length : Nat) : Int) = j.Parts
         rw [List.length_map, List.length_range]; omega)
       have c2 : partRight g j (doS g j x).1 = true := by
         rw [h, partRight]
         simp only [hc, ile_iff.2 p1, ilt_iff.2 p2, ile_iff.2 (show 0 ≤ x.Step + 1 by omega), ile_iff.2 (show x.Step + 1 ≤ 40 by omega), inOkS, Bool.true_and, Bool.and_true]
         rw [countS, h1, h2, ieq_refl]; rfl
       have hout := F37_out hK g j (doS g j x) p7 f2 (fun q hq => by
         have hq' : q < j.Parts.toNat := by
           rw [← hlen, List.length_map, List.length_range] at hq; exact hq
         have e : (doS g j x).2.1[q] = (boxS j.Prog (toS j w.2.2 (q : Int))).1 := by
           simp only [← hlen, List.getElem_map, List.getElem_range]
         obtain ⟨r1, r2⟩ := boxS_rise (p := j.Prog) (l := toS j w.2.2 (q : Int))
         refine ⟨f3 _ (List.getElem_mem hq), by rw [e]; exact r1, fun m hm => ?_⟩
         rw [e] at hm
         obtain ⟨s, hs, e'⟩ := r2 m hm
         obtain ⟨m1, m2⟩ := toS_mem hs
         obtain ⟨t1, t2⟩ := kw.vt s m1
         have := (home_in p7 p8 t1).1
         rw [← e']
         exact ⟨t1, t2, by omega⟩) (doS g j x).2.1.length K 0 (by omega) (by omega)
       have c4 : ieq (doS g j x).2.2 0 = true := by rw [h]; rfl
       have c5 : ieq (nlen (len (doS g j x).1.In)) 0 = true := by rw [h]; rfl
       have c6 : ieq (doS g j x).1.Step (wadd .i64 x.Step 1) = true := by rw [h, hw]; exact ieq_refl _
       have c7 : ieq (doS g j x).1.P x.P = true := by rw [h]; exact ieq_refl _
       have hout' : F37_l0_0 K g j (doS g j x) K 0 = some (.inr ()) := hout
       rw [c4, cond_true, c1, cond_true, F81_spec (by omega) g j _ f1.2.2.1 f1.2.2.2, c2, Option.bind_some, cond_true, c5, cond_true, c6, cond_true, c7, cond_true, hout']; rfl
   · rfl
 · rfl
end Go.Proofs.Ytnjanliihnadjaa.Tm

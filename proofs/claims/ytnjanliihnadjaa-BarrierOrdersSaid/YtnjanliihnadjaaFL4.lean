/- Printed by program: what each function computes, and that the machine answers so. Conditions: none. -/
import Derived.Test.YtnjanliihnadjaaTy
import Derived.Test.YtnjanliihnadjaaTab
import Derived.Test.YtnjanliihnadjaaKn
import Derived.Test.YtnjanliihnadjaaFA
import Derived.Test.YtnjanliihnadjaaFB
import Derived.KernelRfl
set_option linter.unusedVariables false
set_option linter.unusedSimpArgs false
namespace Go.Proofs.Ytnjanliihnadjaa.Tm
open Go
/-! ### haywain/haywainlaw19.BarrierPlays -/
noncomputable def hn4 : Hint := { H 4 with nt := 123, prot := 0 }
noncomputable def c4_0 : Code := loopOf E 4 0
def F4_res (r615 : Bool) : Res := ⟨[(.one (.im (.lit (.bool r615))))], []⟩
def F4_l0_0 (K : Nat) (a285 : List GAct) : Nat → Int → Int → Int → List GPart → Bool → Int → Int → Int → List GPart → Bool → Int → Option ((Unit) ⊕ (Unit))
  | 0, _, _, _, _, _, _, _, _, _, _, _ => none
  | k + 1, v549, v550, v551, v552, v553, v554, v555, v556, v557, v558, v559 =>
    bif (ilt v559 (nlen (len a285))) then
      (bif (ilt v559 20) then
        (bif (inr v559 (len a285)) then
        (elAt a285 v559).bind fun x563 =>
        (F47 K x563.X).bind fun r565 =>
        bif r565 then
          (F4_l0_0 K a285 k v549 v550 v551 v552 v553 v554 v555 v556 v557 v558 (wadd .i64 v559 1))
        else
        (F48 K (GBarrier.mk v549 v550 v551 v552 v553)).bind fun r568 =>
        (F49 K (GBarrier.mk v554 v555 v556 v557 v558)).bind fun r570 =>
        bif (beqb r568 r570) then
          ((F50 K (GBarrier.mk v549 v550 v551 v552 v553)).bind fun r573 =>
          (F51 K (GBarrier.mk v554 v555 v556 v557 v558)).bind fun r575 =>
          bif (beqb r573 r575) then
            (bif (ieq x563.Kind 0) then
              ((F52 K (GBarrier.mk v549 v550 v551 v552 v553) x563.Epoch x563.X).bind fun r579 =>
              (F53 K (GBarrier.mk v554 v555 v556 v557 v558) x563.Epoch x563.X).bind fun r581 =>
              bif (ieq r579.2 r581.2) then
                ((F44 K r579.1).bind fun r584 =>
                (F43 K r584 r581.1).bind fun r586 =>
                bif r586 then
                  (F4_l0_0 K a285 k r579.1.Epoch r579.1.Step r579.1.Parts r579.1.Came r579.1.Over r581.1.Epoch r581.1.Step r581.1.Parts r581.1.Came r581.1.Over (wadd .i64 v559 1))
                else
                some (.inl ()))
              else
              some (.inl ()))
            else
            (F54 K (GBarrier.mk v549 v550 v551 v552 v553) x563.Epoch x563.Step).bind fun r589 =>
            (F55 K (GBarrier.mk v554 v555 v556 v557 v558) x563.Epoch x563.Step).bind fun r591 =>
            bif (ieq r589.2 r591.2) then
              ((F44 K r589.1).bind fun r594 =>
              (F43 K r594 r591.1).bind fun r596 =>
              bif r596 then
                (F4_l0_0 K a285 k r589.1.Epoch r589.1.Step r589.1.Parts r589.1.Came r589.1.Over r591.1.Epoch r591.1.Step r591.1.Parts r591.1.Came r591.1.Over (wadd .i64 v559 1))
              else
              some (.inl ()))
            else
            some (.inl ()))
          else
          some (.inl ()))
        else
        some (.inl ())
        else none)
      else
      some (.inr ()))
    else
    some (.inr ())
def F4_l0_0_S (a285 : List GAct) (v549 : Int) (v550 : Int) (v551 : Int) (v552 : List GPart) (v553 : Bool) (v554 : Int) (v555 : Int) (v556 : Int) (v557 : List GPart) (v558 : Bool) (v559 : Int) : TS := .on [64, 65, 128, 129, 130, 131, 132, 133, 320, 321, 322, 323, 324, 325, 384, 385] [(64, ⟨.one, 0, nob⟩), (65, ⟨.im, 0, (.sl (len a285) (flat eGAct a285))⟩), (128, ⟨(.box 24 5), 0, nob⟩), (129, ⟨.im, 0, (.lit (.int .i64 v549))⟩), (130, ⟨.im, 0, (.lit (.int .i64 v550))⟩), (131, ⟨.im, 0, (.lit (.int .i64 v551))⟩), (132, ⟨.im, 0, (.sl (len v552) (flat eGPart v552))⟩), (133, ⟨.im, 0, (.lit (.bool v553))⟩), (320, ⟨(.box 28 5), 0, nob⟩), (321, ⟨.im, 0, (.lit (.int .i64 v554))⟩), (322, ⟨.im, 0, (.lit (.int .i64 v555))⟩), (323, ⟨.im, 0, (.lit (.int .i64 v556))⟩), (324, ⟨.im, 0, (.sl (len v557) (flat eGPart v557))⟩), (325, ⟨.im, 0, (.lit (.bool v558))⟩), (384, ⟨.one, 0, nob⟩), (385, ⟨.im, 0, (.lit (.int .i64 v559))⟩)]
def F4_l0_0_X0 (a285 : List GAct) (w599 : Unit) : TS := .on [256, 257] [(256, ⟨.one, 0, nob⟩), (257, ⟨.im, 0, (.lit (.bool false))⟩)]
def F4_l0_0_X1 (a285 : List GAct) (w600 : Unit) : TS := .on [] []
theorem F4_l0_0_ok (K : Nat) (a285 : List GAct) : ∀ (k : Nat) (v549 : Int) (v550 : Int) (v551 : Int) (v552 : List GPart) (v553 : Bool) (v554 : Int) (v555 : Int) (v556 : Int) (v557 : List GPart) (v558 : Bool) (v559 : Int) (r : (Unit) ⊕ (Unit)), F4_l0_0 K a285 k v549 v550 v551 v552 v553 v554 v555 v556 v557 v558 v559 = some r → (Sum.elim (fun w => LoopEv E H hn4 0 c4_0 (F4_l0_0_S a285 v549 v550 v551 v552 v553 v554 v555 v556 v557 v558 v559) .ret (F4_l0_0_X0 a285 w)) (fun w => LoopEv E H hn4 0 c4_0 (F4_l0_0_S a285 v549 v550 v551 v552 v553 v554 v555 v556 v557 v558 v559) (.exit 0) (F4_l0_0_X1 a285 w))) r := by
  intro k
  induction k with
  | zero => intro v549 v550 v551 v552 v553 v554 v555 v556 v557 v558 v559 r hF; cases hF
  | succ k ih =>
    intro v549 v550 v551 v552 v553 v554 v555 v556 v557 v558 v559 r hF
    rw [F4_l0_0] at hF
    refine cond_some hF (fun h560 hF => ?_) (fun h560 hF => ?_)
    ·
      have pq601 : ∀ {l : List Cond}, HoldAll E H hn4 l → HoldAll E H hn4 (.int (nlen (len a285)) (nlen (len a285)) :: .test (beqb (ilt v559 (nlen (len a285))) true) true :: .test (beqb (ilt v559 (nlen (len a285))) true) true :: .test (ilt v559 (nlen (len a285))) true :: l) := fun z => ⟨rfl, (beqb_t h560), (beqb_t h560), h560, z⟩
      refine cond_some hF (fun h561 hF => ?_) (fun h561 hF => ?_)
      ·
        refine cond_some hF (fun h562 hF => ?_) (fun _ hF => nomatch hF)
        refine bind_some hF (fun x563 h564 hF => ?_)
        refine bind_some hF (fun r565 h566 hF => ?_)
        have pq602 : ∀ {l : List Cond}, HoldAll E H hn4 l → HoldAll E H hn4 (.test (ilt v559 20) true :: .test (inr v559 (len a285)) true :: .sub (flat eGAct a285) (nadd (nidx v559 8) 3) 5 [(.lit (.int .i64 x563.X.P)), (.lit (.int .i64 x563.X.Step)), (.sl (len x563.X.Vals) (flat (eInt .i64) x563.X.Vals)), (.sl (len x563.X.Rest) (flat eBool x563.X.Rest)), (.sl (len x563.X.In) (flat eGMsg x563.X.In))] :: .call 47 [.agg (eGPart x563.X)] (F47_res r565) :: .test (leadsAny (Res.mk [(.one (.im (.lit (.bool r565))))] [])) false :: l) := fun z => ⟨h561, h562, ⟨rfl, sub_flat eGAct_len h564 3 5 (by decide)⟩, (F47_ok K x563.X _ h566), (leads_ok (by simp only [leadsAny, List.any_cons, List.any_nil, RV.leads, RC.leads, leadsT, hasSl_lit, Bool.or_false, flat_ns (eInt_ns _), flat_ns eBool_ns, flat_ns eStr_ns, flat_ns eGJob_ns, flat_ns eGEdge_ns, flat_ns eGAsked_ns, flat_ns eGMsg_ns, flat_ns eGrule_ns, flat_ns eGA199_ns, flat_ns eGA202_ns])), z⟩
        refine cond_some hF (fun h567 hF => ?_) (fun h567 hF => ?_)
        ·
          have pz : HoldAll E H hn4 [.test r565 true, .int (wadd .i64 v559 1) (wadd .i64 v559 1)] := ⟨h567, rfl, trivial⟩
          have h0 := ih _ _ _ _ _ _ _ _ _ _ _ _ hF
          have hn := fun ex ts' => loop_nextC (h := hn4) (l := 0) (c := c4_0) (ts := F4_l0_0_S a285 v549 v550 v551 v552 v553 v554 v555 v556 v557 v558 v559) (ts1 := (F4_l0_0_S a285 v549 v550 v551 v552 v553 v554 v555 v556 v557 v558 (wadd .i64 v559 1))) (ex := ex) (ts' := ts') (pq601 (pq602 pz)) (by kernel_rfl)
          cases r with
          | inl w => exact hn _ _ h0
          | inr w => exact hn _ _ h0
        refine bind_some hF (fun r568 h569 hF => ?_)
        refine bind_some hF (fun r570 h571 hF => ?_)
        have pq603 : ∀ {l : List Cond}, HoldAll E H hn4 l → HoldAll E H hn4 (.test r565 false :: .call 48 [.agg (eGBarrier (GBarrier.mk v549 v550 v551 v552 v553))] (F48_res r568) :: .test (leadsAny (Res.mk [(.one (.im (.lit (.bool r568))))] [])) false :: .call 49 [.agg (eGBarrier (GBarrier.mk v554 v555 v556 v557 v558))] (F49_res r570) :: .test (leadsAny (Res.mk [(.one (.im (.lit (.bool r570))))] [])) false :: l) := fun z => ⟨h567, (F48_ok K (GBarrier.mk v549 v550 v551 v552 v553) _ h569), (leads_ok (by simp only [leadsAny, List.any_cons, List.any_nil, RV.leads, RC.leads, leadsT, hasSl_lit, Bool.or_false, flat_ns (eInt_ns _), flat_ns eBool_ns, flat_ns eStr_ns, flat_ns eGJob_ns, flat_ns eGEdge_ns, flat_ns eGAsked_ns, flat_ns eGMsg_ns, flat_ns eGrule_ns, flat_ns eGA199_ns, flat_ns eGA202_ns])), (F49_ok K (GBarrier.mk v554 v555 v556 v557 v558) _ h571), (leads_ok (by simp only [leadsAny, List.any_cons, List.any_nil, RV.leads, RC.leads, leadsT, hasSl_lit, Bool.or_false, flat_ns (eInt_ns _), flat_ns eBool_ns, flat_ns eStr_ns, flat_ns eGJob_ns, flat_ns eGEdge_ns, flat_ns eGAsked_ns, flat_ns eGMsg_ns, flat_ns eGrule_ns, flat_ns eGA199_ns, flat_ns eGA202_ns])), z⟩
        refine cond_some hF (fun h572 hF => ?_) (fun h572 hF => ?_)
        ·
          refine bind_some hF (fun r573 h574 hF => ?_)
          refine bind_some hF (fun r575 h576 hF => ?_)
          have pq604 : ∀ {l : List Cond}, HoldAll E H hn4 l → HoldAll E H hn4 (.test (beqb (bnot (beqb r568 r570)) false) true :: .test (beqb (bnot (beqb r568 r570)) false) true :: .call 50 [.agg (eGBarrier (GBarrier.mk v549 v550 v551 v552 v553))] (F50_res r573) :: .test (leadsAny (Res.mk [(.one (.im (.lit (.bool r573))))] [])) false :: .test (beqb (bnot (beqb r568 r570)) false) true :: .test (beqb (bnot (beqb r568 r570)) false) true :: .call 51 [.agg (eGBarrier (GBarrier.mk v554 v555 v556 v557 v558))] (F51_res r575) :: .test (leadsAny (Res.mk [(.one (.im (.lit (.bool r575))))] [])) false :: .test (beqb (bnot (beqb r568 r570)) false) true :: .test (bnot (beqb r568 r570)) false :: l) := fun z => ⟨(beqb_ff (bnot_t h572)), (beqb_ff (bnot_t h572)), (F50_ok K (GBarrier.mk v549 v550 v551 v552 v553) _ h574), (leads_ok (by simp only [leadsAny, List.any_cons, List.any_nil, RV.leads, RC.leads, leadsT, hasSl_lit, Bool.or_false, flat_ns (eInt_ns _), flat_ns eBool_ns, flat_ns eStr_ns, flat_ns eGJob_ns, flat_ns eGEdge_ns, flat_ns eGAsked_ns, flat_ns eGMsg_ns, flat_ns eGrule_ns, flat_ns eGA199_ns, flat_ns eGA202_ns])), (beqb_ff (bnot_t h572)), (beqb_ff (bnot_t h572)), (F51_ok K (GBarrier.mk v554 v555 v556 v557 v558) _ h576), (leads_ok (by simp only [leadsAny, List.any_cons, List.any_nil, RV.leads, RC.leads, leadsT, hasSl_lit, Bool.or_false, flat_ns (eInt_ns _), flat_ns eBool_ns, flat_ns eStr_ns, flat_ns eGJob_ns, flat_ns eGEdge_ns, flat_ns eGAsked_ns, flat_ns eGMsg_ns, flat_ns eGrule_ns, flat_ns eGA199_ns, flat_ns eGA202_ns])), (beqb_ff (bnot_t h572)), (bnot_t h572), z⟩
          refine cond_some hF (fun h577 hF => ?_) (fun h577 hF => ?_)
          ·
            have pq605 : ∀ {l : List Cond}, HoldAll E H hn4 l → HoldAll E H hn4 (.test (bnot (beqb r573 r575)) false :: .test (inr v559 (len a285)) true :: .sub (flat eGAct a285) (nadd (nidx v559 8) 0) 1 [(.lit (.int .i64 x563.Kind))] :: l) := fun z => ⟨(bnot_t h577), h562, ⟨rfl, sub_flat eGAct_len h564 0 1 (by decide)⟩, z⟩
            refine cond_some hF (fun h578 hF => ?_) (fun h578 hF => ?_)
            ·
              refine bind_some hF (fun r579 h580 hF => ?_)
              refine bind_some hF (fun r581 h582 hF => ?_)
              have pq606 : ∀ {l : List Cond}, HoldAll E H hn4 l → HoldAll E H hn4 (.test (ieq x563.Kind 0) true :: .test (inr v559 (len a285)) true :: .sub (flat eGAct a285) (nadd (nidx v559 8) 1) 1 [(.lit (.int .i64 x563.Epoch))] :: .test (inr v559 (len a285)) true :: .sub (flat eGAct a285) (nadd (nidx v559 8) 3) 5 [(.lit (.int .i64 x563.X.P)), (.lit (.int .i64 x563.X.Step)), (.sl (len x563.X.Vals) (flat (eInt .i64) x563.X.Vals)), (.sl (len x563.X.Rest) (flat eBool x563.X.Rest)), (.sl (len x563.X.In) (flat eGMsg x563.X.In))] :: .call 52 [.agg (eGBarrier (GBarrier.mk v549 v550 v551 v552 v553)), .one (.lit (.int .i64 x563.Epoch)), .agg (eGPart x563.X)] (F52_res r579) :: .test (inr v559 (len a285)) true :: .sub (flat eGAct a285) (nadd (nidx v559 8) 1) 1 [(.lit (.int .i64 x563.Epoch))] :: .test (inr v559 (len a285)) true :: .sub (flat eGAct a285) (nadd (nidx v559 8) 3) 5 [(.lit (.int .i64 x563.X.P)), (.lit (.int .i64 x563.X.Step)), (.sl (len x563.X.Vals) (flat (eInt .i64) x563.X.Vals)), (.sl (len x563.X.Rest) (flat eBool x563.X.Rest)), (.sl (len x563.X.In) (flat eGMsg x563.X.In))] :: .call 53 [.agg (eGBarrier (GBarrier.mk v554 v555 v556 v557 v558)), .one (.lit (.int .i64 x563.Epoch)), .agg (eGPart x563.X)] (F53_res r581) :: l) := fun z => ⟨h578, h562, ⟨rfl, sub_flat eGAct_len h564 1 1 (by decide)⟩, h562, ⟨rfl, sub_flat eGAct_len h564 3 5 (by decide)⟩, (F52_ok K (GBarrier.mk v549 v550 v551 v552 v553) x563.Epoch x563.X _ h580), h562, ⟨rfl, sub_flat eGAct_len h564 1 1 (by decide)⟩, h562, ⟨rfl, sub_flat eGAct_len h564 3 5 (by decide)⟩, (F53_ok K (GBarrier.mk v554 v555 v556 v557 v558) x563.Epoch x563.X _ h582), z⟩
              refine cond_some hF (fun h583 hF => ?_) (fun h583 hF => ?_)
              ·
                refine bind_some hF (fun r584 h585 hF => ?_)
                refine bind_some hF (fun r586 h587 hF => ?_)
                have pq607 : ∀ {l : List Cond}, HoldAll E H hn4 l → HoldAll E H hn4 (.test (beqb (ine r579.2 r581.2) false) true :: .test (beqb (ine r579.2 r581.2) false) true :: .call 44 [.agg (eGBarrier r579.1)] (F44_res r584) :: .test (beqb (ine r579.2 r581.2) false) true :: .test (beqb (ine r579.2 r581.2) false) true :: .call 43 [.agg (eGBarrier r584), .agg (eGBarrier r581.1)] (F43_res r586) :: .test (leadsAny (Res.mk [(.one (.im (.lit (.bool r586))))] [])) false :: .test (beqb (ine r579.2 r581.2) false) true :: .test (ine r579.2 r581.2) false :: l) := fun z => ⟨(beqb_ff (ine_t h583)), (beqb_ff (ine_t h583)), (F44_ok K r579.1 _ h585), (beqb_ff (ine_t h583)), (beqb_ff (ine_t h583)), (F43_ok K r584 r581.1 _ h587), (leads_ok (by simp only [leadsAny, List.any_cons, List.any_nil, RV.leads, RC.leads, leadsT, hasSl_lit, Bool.or_false, flat_ns (eInt_ns _), flat_ns eBool_ns, flat_ns eStr_ns, flat_ns eGJob_ns, flat_ns eGEdge_ns, flat_ns eGAsked_ns, flat_ns eGMsg_ns, flat_ns eGrule_ns, flat_ns eGA199_ns, flat_ns eGA202_ns])), (beqb_ff (ine_t h583)), (ine_t h583), z⟩
                refine cond_some hF (fun h588 hF => ?_) (fun h588 hF => ?_)
                ·
                  have pz : HoldAll E H hn4 [.test (bnot r586) false, .int (wadd .i64 v559 1) (wadd .i64 v559 1)] := ⟨(bnot_t h588), rfl, trivial⟩
                  have h0 := ih _ _ _ _ _ _ _ _ _ _ _ _ hF
                  have hn := fun ex ts' => loop_nextC (h := hn4) (l := 0) (c := c4_0) (ts := F4_l0_0_S a285 v549 v550 v551 v552 v553 v554 v555 v556 v557 v558 v559) (ts1 := (F4_l0_0_S a285 r579.1.Epoch r579.1.Step r579.1.Parts r579.1.Came r579.1.Over r581.1.Epoch r581.1.Step r581.1.Parts r581.1.Came r581.1.Over (wadd .i64 v559 1))) (ex := ex) (ts' := ts') (pq601 (pq602 (pq603 (pq604 (pq605 (pq606 (pq607 pz))))))) (by kernel_rfl)
                  cases r with
                  | inl w => exact hn _ _ h0
                  | inr w => exact hn _ _ h0
                have hr := Option.some.inj hF
                subst hr
                have pz : HoldAll E H hn4 [.test (bnot r586) true] := ⟨(bnot_f h588), trivial⟩
                exact loop_endC (h := hn4) (l := 0) (c := c4_0) (ts := F4_l0_0_S a285 v549 v550 v551 v552 v553 v554 v555 v556 v557 v558 v559) (ts' := F4_l0_0_X0 a285 ()) (ex := .ret) (pq601 (pq602 (pq603 (pq604 (pq605 (pq606 (pq607 pz))))))) (by kernel_rfl) trivial
              have hr := Option.some.inj hF
              subst hr
              have pz : HoldAll E H hn4 [.test (beqb (ine r579.2 r581.2) false) false, .test (beqb (ine r579.2 r581.2) false) false, .test (beqb (ine r579.2 r581.2) false) false, .test (beqb (ine r579.2 r581.2) false) false, .test (beqb (ine r579.2 r581.2) false) false, .test (ine r579.2 r581.2) true, .test true true] := ⟨(beqb_ft (ine_f h583)), (beqb_ft (ine_f h583)), (beqb_ft (ine_f h583)), (beqb_ft (ine_f h583)), (beqb_ft (ine_f h583)), (ine_f h583), rfl, trivial⟩
              exact loop_endC (h := hn4) (l := 0) (c := c4_0) (ts := F4_l0_0_S a285 v549 v550 v551 v552 v553 v554 v555 v556 v557 v558 v559) (ts' := F4_l0_0_X0 a285 ()) (ex := .ret) (pq601 (pq602 (pq603 (pq604 (pq605 (pq606 pz)))))) (by kernel_rfl) trivial
            refine bind_some hF (fun r589 h590 hF => ?_)
            refine bind_some hF (fun r591 h592 hF => ?_)
            have pq608 : ∀ {l : List Cond}, HoldAll E H hn4 l → HoldAll E H hn4 (.test (ieq x563.Kind 0) false :: .test (inr v559 (len a285)) true :: .sub (flat eGAct a285) (nadd (nidx v559 8) 1) 1 [(.lit (.int .i64 x563.Epoch))] :: .test (inr v559 (len a285)) true :: .sub (flat eGAct a285) (nadd (nidx v559 8) 2) 1 [(.lit (.int .i64 x563.Step))] :: .call 54 [.agg (eGBarrier (GBarrier.mk v549 v550 v551 v552 v553)), .one (.lit (.int .i64 x563.Epoch)), .one (.lit (.int .i64 x563.Step))] (F54_res r589) :: .test (inr v559 (len a285)) true :: .sub (flat eGAct a285) (nadd (nidx v559 8) 1) 1 [(.lit (.int .i64 x563.Epoch))] :: .test (inr v559 (len a285)) true :: .sub (flat eGAct a285) (nadd (nidx v559 8) 2) 1 [(.lit (.int .i64 x563.Step))] :: .call 55 [.agg (eGBarrier (GBarrier.mk v554 v555 v556 v557 v558)), .one (.lit (.int .i64 x563.Epoch)), .one (.lit (.int .i64 x563.Step))] (F55_res r591) :: l) := fun z => ⟨h578, h562, ⟨rfl, sub_flat eGAct_len h564 1 1 (by decide)⟩, h562, ⟨rfl, sub_flat eGAct_len h564 2 1 (by decide)⟩, (F54_ok K (GBarrier.mk v549 v550 v551 v552 v553) x563.Epoch x563.Step _ h590), h562, ⟨rfl, sub_flat eGAct_len h564 1 1 (by decide)⟩, h562, ⟨rfl, sub_flat eGAct_len h564 2 1 (by decide)⟩, (F55_ok K (GBarrier.mk v554 v555 v556 v557 v558) x563.Epoch x563.Step _ h592), z⟩
            refine cond_some hF (fun h593 hF => ?_) (fun h593 hF => ?_)
            ·
              refine bind_some hF (fun r594 h595 hF => ?_)
              refine bind_some hF (fun r596 h597 hF => ?_)
              have pq609 : ∀ {l : List Cond}, HoldAll E H hn4 l → HoldAll E H hn4 (.test (beqb (ine r589.2 r591.2) false) true :: .test (beqb (ine r589.2 r591.2) false) true :: .call 44 [.agg (eGBarrier r589.1)] (F44_res r594) :: .test (beqb (ine r589.2 r591.2) false) true :: .test (beqb (ine r589.2 r591.2) false) true :: .call 43 [.agg (eGBarrier r594), .agg (eGBarrier r591.1)] (F43_res r596) :: .test (leadsAny (Res.mk [(.one (.im (.lit (.bool r596))))] [])) false :: .test (beqb (ine r589.2 r591.2) false) true :: .test (ine r589.2 r591.2) false :: l) := fun z => ⟨(beqb_ff (ine_t h593)), (beqb_ff (ine_t h593)), (F44_ok K r589.1 _ h595), (beqb_ff (ine_t h593)), (beqb_ff (ine_t h593)), (F43_ok K r594 r591.1 _ h597), (leads_ok (by simp only [leadsAny, List.any_cons, List.any_nil, RV.leads, RC.leads, leadsT, hasSl_lit, Bool.or_false, flat_ns (eInt_ns _), flat_ns eBool_ns, flat_ns eStr_ns, flat_ns eGJob_ns, flat_ns eGEdge_ns, flat_ns eGAsked_ns, flat_ns eGMsg_ns, flat_ns eGrule_ns, flat_ns eGA199_ns, flat_ns eGA202_ns])), (beqb_ff (ine_t h593)), (ine_t h593), z⟩
              refine cond_some hF (fun h598 hF => ?_) (fun h598 hF => ?_)
              ·
                have pz : HoldAll E H hn4 [.test (bnot r596) false, .int (wadd .i64 v559 1) (wadd .i64 v559 1)] := ⟨(bnot_t h598), rfl, trivial⟩
                have h0 := ih _ _ _ _ _ _ _ _ _ _ _ _ hF
                have hn := fun ex ts' => loop_nextC (h := hn4) (l := 0) (c := c4_0) (ts := F4_l0_0_S a285 v549 v550 v551 v552 v553 v554 v555 v556 v557 v558 v559) (ts1 := (F4_l0_0_S a285 r589.1.Epoch r589.1.Step r589.1.Parts r589.1.Came r589.1.Over r591.1.Epoch r591.1.Step r591.1.Parts r591.1.Came r591.1.Over (wadd .i64 v559 1))) (ex := ex) (ts' := ts') (pq601 (pq602 (pq603 (pq604 (pq605 (pq608 (pq609 pz))))))) (by kernel_rfl)
                cases r with
                | inl w => exact hn _ _ h0
                | inr w => exact hn _ _ h0
              have hr := Option.some.inj hF
              subst hr
              have pz : HoldAll E H hn4 [.test (bnot r596) true] := ⟨(bnot_f h598), trivial⟩
              exact loop_endC (h := hn4) (l := 0) (c := c4_0) (ts := F4_l0_0_S a285 v549 v550 v551 v552 v553 v554 v555 v556 v557 v558 v559) (ts' := F4_l0_0_X0 a285 ()) (ex := .ret) (pq601 (pq602 (pq603 (pq604 (pq605 (pq608 (pq609 pz))))))) (by kernel_rfl) trivial
            have hr := Option.some.inj hF
            subst hr
            have pz : HoldAll E H hn4 [.test (beqb (ine r589.2 r591.2) false) false, .test (beqb (ine r589.2 r591.2) false) false, .test (beqb (ine r589.2 r591.2) false) false, .test (beqb (ine r589.2 r591.2) false) false, .test (beqb (ine r589.2 r591.2) false) false, .test (ine r589.2 r591.2) true, .test true true] := ⟨(beqb_ft (ine_f h593)), (beqb_ft (ine_f h593)), (beqb_ft (ine_f h593)), (beqb_ft (ine_f h593)), (beqb_ft (ine_f h593)), (ine_f h593), rfl, trivial⟩
            exact loop_endC (h := hn4) (l := 0) (c := c4_0) (ts := F4_l0_0_S a285 v549 v550 v551 v552 v553 v554 v555 v556 v557 v558 v559) (ts' := F4_l0_0_X0 a285 ()) (ex := .ret) (pq601 (pq602 (pq603 (pq604 (pq605 (pq608 pz)))))) (by kernel_rfl) trivial
          have hr := Option.some.inj hF
          subst hr
          have pz : HoldAll E H hn4 [.test (bnot (beqb r573 r575)) true] := ⟨(bnot_f h577), trivial⟩
          exact loop_endC (h := hn4) (l := 0) (c := c4_0) (ts := F4_l0_0_S a285 v549 v550 v551 v552 v553 v554 v555 v556 v557 v558 v559) (ts' := F4_l0_0_X0 a285 ()) (ex := .ret) (pq601 (pq602 (pq603 (pq604 pz)))) (by kernel_rfl) trivial
        have hr := Option.some.inj hF
        subst hr
        have pz : HoldAll E H hn4 [.test (beqb (bnot (beqb r568 r570)) false) false, .test (beqb (bnot (beqb r568 r570)) false) false, .test (beqb (bnot (beqb r568 r570)) false) false, .test (beqb (bnot (beqb r568 r570)) false) false, .test (beqb (bnot (beqb r568 r570)) false) false, .test (bnot (beqb r568 r570)) true, .test true true] := ⟨(beqb_ft (bnot_f h572)), (beqb_ft (bnot_f h572)), (beqb_ft (bnot_f h572)), (beqb_ft (bnot_f h572)), (beqb_ft (bnot_f h572)), (bnot_f h572), rfl, trivial⟩
        exact loop_endC (h := hn4) (l := 0) (c := c4_0) (ts := F4_l0_0_S a285 v549 v550 v551 v552 v553 v554 v555 v556 v557 v558 v559) (ts' := F4_l0_0_X0 a285 ()) (ex := .ret) (pq601 (pq602 (pq603 pz))) (by kernel_rfl) trivial
      have hr := Option.some.inj hF
      subst hr
      have pz : HoldAll E H hn4 [.test (ilt v559 20) false] := ⟨h561, trivial⟩
      exact loop_endC (h := hn4) (l := 0) (c := c4_0) (ts := F4_l0_0_S a285 v549 v550 v551 v552 v553 v554 v555 v556 v557 v558 v559) (ts' := F4_l0_0_X1 a285 ()) (ex := (.exit 0)) (pq601 pz) (by kernel_rfl) trivial
    have hr := Option.some.inj hF
    subst hr
    have pz : HoldAll E H hn4 [.int (nlen (len a285)) (nlen (len a285)), .test (beqb (ilt v559 (nlen (len a285))) true) false, .test (beqb (ilt v559 (nlen (len a285))) true) false, .test (ilt v559 (nlen (len a285))) false, .test false false] := ⟨rfl, (beqb_t h560), (beqb_t h560), h560, rfl, trivial⟩
    exact loop_endC (h := hn4) (l := 0) (c := c4_0) (ts := F4_l0_0_S a285 v549 v550 v551 v552 v553 v554 v555 v556 v557 v558 v559) (ts' := F4_l0_0_X1 a285 ()) (ex := (.exit 0)) pz (by kernel_rfl) trivial

def F4 (K : Nat) (a284 : GBarrier) (a285 : List GAct) : Option (Bool) :=
  (F46 K a284).bind fun r316 =>
  bif r316 then
    (some true)
  else
  (F44 K a284).bind fun r319 =>
  (F4_l0_0 K a285 K a284.Epoch a284.Step a284.Parts a284.Came a284.Over r319.Epoch r319.Step r319.Parts r319.Came r319.Over 0).bind fun y611 =>
  Sum.elim (fun w612 =>
    some false)
    (fun w613 =>
    some true) y611
theorem F4_ok (K : Nat) (a284 : GBarrier) (a285 : List GAct) (r : Bool) (hF : F4 K a284 a285 = some r) : Evt E H 4 [.agg (eGBarrier a284), .one (.sl (len a285) (flat eGAct a285))] (F4_res r) := by
  rw [F4] at hF
  refine bind_some hF (fun r316 h317 hF => ?_)
  refine cond_some hF (fun h318 hF => ?_) (fun h318 hF => ?_)
  ·
    have hr := Option.some.inj hF
    subst hr
    have pz : HoldAll E H hn4 [.call 46 [.agg (eGBarrier a284)] (F46_res r316), .test (leadsAny (Res.mk [(.one (.im (.lit (.bool r316))))] [])) false, .test r316 true, .call 45 [] (Res.mk [(.one (.im (.lit (.bool true))))] []), .test (leadsAny (Res.mk [(.one (.im (.lit (.bool true))))] [])) false] := ⟨(F46_ok K a284 _ h317), (leads_ok (by simp only [leadsAny, List.any_cons, List.any_nil, RV.leads, RC.leads, leadsT, hasSl_lit, Bool.or_false, flat_ns (eInt_ns _), flat_ns eBool_ns, flat_ns eStr_ns, flat_ns eGJob_ns, flat_ns eGEdge_ns, flat_ns eGAsked_ns, flat_ns eGMsg_ns, flat_ns eGrule_ns, flat_ns eGA199_ns, flat_ns eGA202_ns])), h318, knows45, (leads_ok (by simp only [leadsAny, List.any_cons, List.any_nil, RV.leads, RC.leads, leadsT, hasSl_lit, Bool.or_false, flat_ns (eInt_ns _), flat_ns eBool_ns, flat_ns eStr_ns, flat_ns eGJob_ns, flat_ns eGEdge_ns, flat_ns eGAsked_ns, flat_ns eGMsg_ns, flat_ns eGrule_ns, flat_ns eGA199_ns, flat_ns eGA202_ns])), trivial⟩
    exact fn_playC hn4 (f := 4) (ads := [.agg (eGBarrier a284), .one (.sl (len a285) (flat eGAct a285))]) (r := F4_res true) pz (by kernel_rfl) (by kernel_rfl)
  refine bind_some hF (fun r319 h320 hF => ?_)
  have pq614 : ∀ {l : List Cond}, HoldAll E H hn4 l → HoldAll E H hn4 (.call 46 [.agg (eGBarrier a284)] (F46_res r316) :: .test (leadsAny (Res.mk [(.one (.im (.lit (.bool r316))))] [])) false :: .test r316 false :: .call 44 [.agg (eGBarrier a284)] (F44_res r319) :: l) := fun z => ⟨(F46_ok K a284 _ h317), (leads_ok (by simp only [leadsAny, List.any_cons, List.any_nil, RV.leads, RC.leads, leadsT, hasSl_lit, Bool.or_false, flat_ns (eInt_ns _), flat_ns eBool_ns, flat_ns eStr_ns, flat_ns eGJob_ns, flat_ns eGEdge_ns, flat_ns eGAsked_ns, flat_ns eGMsg_ns, flat_ns eGrule_ns, flat_ns eGA199_ns, flat_ns eGA202_ns])), h318, (F44_ok K a284 _ h320), z⟩
  refine bind_some hF (fun y611 h610 hF => ?_)
  refine sum_some hF (fun w612 hx hF => ?_) (fun w613 hx hF => ?_)
  ·
    subst hx
    have hr := Option.some.inj hF
    subst hr
    have pz : HoldAll E H hn4 [.loop 0 c4_0 (F4_l0_0_S a285 a284.Epoch a284.Step a284.Parts a284.Came a284.Over r319.Epoch r319.Step r319.Parts r319.Came r319.Over 0) .ret (F4_l0_0_X0 a285 w612)] := ⟨(F4_l0_0_ok K a285 K a284.Epoch a284.Step a284.Parts a284.Came a284.Over r319.Epoch r319.Step r319.Parts r319.Came r319.Over 0 _ h610), trivial⟩
    exact fn_playC hn4 (f := 4) (ads := [.agg (eGBarrier a284), .one (.sl (len a285) (flat eGAct a285))]) (r := F4_res false) (pq614 pz) (by kernel_rfl) (by kernel_rfl)
  subst hx
  have hr := Option.some.inj hF
  subst hr
  have pz : HoldAll E H hn4 [.loop 0 c4_0 (F4_l0_0_S a285 a284.Epoch a284.Step a284.Parts a284.Came a284.Over r319.Epoch r319.Step r319.Parts r319.Came r319.Over 0) (.exit 0) (F4_l0_0_X1 a285 w613), .call 45 [] (Res.mk [(.one (.im (.lit (.bool true))))] []), .test (leadsAny (Res.mk [(.one (.im (.lit (.bool true))))] [])) false] := ⟨(F4_l0_0_ok K a285 K a284.Epoch a284.Step a284.Parts a284.Came a284.Over r319.Epoch r319.Step r319.Parts r319.Came r319.Over 0 _ h610), knows45, (leads_ok (by simp only [leadsAny, List.any_cons, List.any_nil, RV.leads, RC.leads, leadsT, hasSl_lit, Bool.or_false, flat_ns (eInt_ns _), flat_ns eBool_ns, flat_ns eStr_ns, flat_ns eGJob_ns, flat_ns eGEdge_ns, flat_ns eGAsked_ns, flat_ns eGMsg_ns, flat_ns eGrule_ns, flat_ns eGA199_ns, flat_ns eGA202_ns])), trivial⟩
  exact fn_playC hn4 (f := 4) (ads := [.agg (eGBarrier a284), .one (.sl (len a285) (flat eGAct a285))]) (r := F4_res true) (pq614 pz) (by kernel_rfl) (by kernel_rfl)

end Go.Proofs.Ytnjanliihnadjaa.Tm

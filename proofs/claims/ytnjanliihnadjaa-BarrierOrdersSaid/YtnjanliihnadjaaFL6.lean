/- Printed by program: what each function computes, and that the machine answers so. Conditions: none. -/
import Derived.Test.YtnjanliihnadjaaTy
import Derived.Test.YtnjanliihnadjaaTab
import Derived.Test.YtnjanliihnadjaaKn
import Derived.Test.YtnjanliihnadjaaFA
import Derived.Test.YtnjanliihnadjaaFB
import Derived.Test.YtnjanliihnadjaaFC
import Derived.KernelRfl
set_option linter.unusedVariables false
set_option linter.unusedSimpArgs false
namespace Go.Proofs.Ytnjanliihnadjaa.Tm
open Go
/-! ### haywain/haywainlaw19.BarrierOrders -/
noncomputable def hn6 : Hint := { H 6 with nt := 123, prot := 0 }
noncomputable def c6_0 : Code := loopOf E 6 0
noncomputable def c6_1 : Code := loopOf E 6 1
def F6_res (r964 : Bool) : Res := ⟨[(.one (.im (.lit (.bool r964))))], []⟩
def F6_l0_0 (K : Nat) (v760 : Int) (v761 : Int) (v762 : List Int) (v763 : Int) (v764 : Int) (v765 : Int) (v766 : List GPart) (v767 : Bool) : Nat → List Int → Int → Int → Int → List GPart → Bool → Int → Option ((Unit) ⊕ (List Int × Int × Int × Int × List GPart × Bool))
  | 0, _, _, _, _, _, _, _ => none
  | k + 1, v788, v789, v790, v791, v792, v793, v794 =>
    bif (ilt v794 (nlen (len v762))) then
      (bif (apok (len v788) 1 8) then
      bif (inr v794 (len v762)) then
      (elAt v762 v794).bind fun x798 =>
      (F58 K v794 v761 x798).bind fun r800 =>
      (F52 K (GBarrier.mk v789 v790 v791 v792 v793) v760 r800).bind fun r802 =>
      bif (ieq r802.2 0) then
        (F6_l0_0 K v760 v761 v762 v763 v764 v765 v766 v767 k (appL v788 [v794]) r802.1.Epoch r802.1.Step r802.1.Parts r802.1.Came r802.1.Over (wadd .i64 v794 1))
      else
      some (.inl ())
      else none
      else none)
    else
    some (.inr (v788, (v789, (v790, (v791, (v792, v793))))))
def F6_l0_0_S (v760 : Int) (v761 : Int) (v762 : List Int) (v763 : Int) (v764 : Int) (v765 : Int) (v766 : List GPart) (v767 : Bool) (v788 : List Int) (v789 : Int) (v790 : Int) (v791 : Int) (v792 : List GPart) (v793 : Bool) (v794 : Int) : TS := .on [0, 1, 64, 65, 128, 129, 576, 577, 578, 579, 580, 581, 704, 705, 768, 769, 770, 771, 772, 773, 832, 833] [(0, ⟨.one, 0, nob⟩), (1, ⟨.im, 0, (.lit (.int .i64 v760))⟩), (64, ⟨.one, 0, nob⟩), (65, ⟨.im, 0, (.lit (.int .i64 v761))⟩), (128, ⟨.one, 0, nob⟩), (129, ⟨.im, 0, (.sl (len v762) (flat (eInt .i64) v762))⟩), (576, ⟨(.box 24 5), 0, nob⟩), (577, ⟨.im, 0, (.lit (.int .i64 v763))⟩), (578, ⟨.im, 0, (.lit (.int .i64 v764))⟩), (579, ⟨.im, 0, (.lit (.int .i64 v765))⟩), (580, ⟨.im, 0, (.sl (len v766) (flat eGPart v766))⟩), (581, ⟨.im, 0, (.lit (.bool v767))⟩), (704, ⟨.one, 0, nob⟩), (705, ⟨(.own 3), 0, (.sl (len v788) (flat (eInt .i64) v788))⟩), (768, ⟨(.box 24 5), 0, nob⟩), (769, ⟨.im, 0, (.lit (.int .i64 v789))⟩), (770, ⟨.im, 0, (.lit (.int .i64 v790))⟩), (771, ⟨.im, 0, (.lit (.int .i64 v791))⟩), (772, ⟨.im, 0, (.sl (len v792) (flat eGPart v792))⟩), (773, ⟨.im, 0, (.lit (.bool v793))⟩), (832, ⟨.one, 0, nob⟩), (833, ⟨.im, 0, (.lit (.int .i64 v794))⟩)]
def F6_l0_0_X0 (v760 : Int) (v761 : Int) (v762 : List Int) (v763 : Int) (v764 : Int) (v765 : Int) (v766 : List GPart) (v767 : Bool) (w805 : Unit) : TS := .on [512, 513] [(512, ⟨.one, 0, nob⟩), (513, ⟨.im, 0, (.lit (.bool false))⟩)]
def F6_l0_0_X1 (v760 : Int) (v761 : Int) (v762 : List Int) (v763 : Int) (v764 : Int) (v765 : Int) (v766 : List GPart) (v767 : Bool) (w806 : List Int × Int × Int × Int × List GPart × Bool) : TS := .on [0, 1, 64, 65, 128, 129, 576, 577, 578, 579, 580, 581, 704, 705, 768, 769, 770, 771, 772, 773] [(0, ⟨.one, 0, nob⟩), (1, ⟨.im, 0, (.lit (.int .i64 v760))⟩), (64, ⟨.one, 0, nob⟩), (65, ⟨.im, 0, (.lit (.int .i64 v761))⟩), (128, ⟨.one, 0, nob⟩), (129, ⟨.im, 0, (.sl (len v762) (flat (eInt .i64) v762))⟩), (576, ⟨(.box 24 5), 0, nob⟩), (577, ⟨.im, 0, (.lit (.int .i64 v763))⟩), (578, ⟨.im, 0, (.lit (.int .i64 v764))⟩), (579, ⟨.im, 0, (.lit (.int .i64 v765))⟩), (580, ⟨.im, 0, (.sl (len v766) (flat eGPart v766))⟩), (581, ⟨.im, 0, (.lit (.bool v767))⟩), (704, ⟨.one, 0, nob⟩), (705, ⟨(.own 3), 0, (.sl (len w806.1) (flat (eInt .i64) w806.1))⟩), (768, ⟨(.box 24 5), 0, nob⟩), (769, ⟨.im, 0, (.lit (.int .i64 w806.2.1))⟩), (770, ⟨.im, 0, (.lit (.int .i64 w806.2.2.1))⟩), (771, ⟨.im, 0, (.lit (.int .i64 w806.2.2.2.1))⟩), (772, ⟨.im, 0, (.sl (len w806.2.2.2.2.1) (flat eGPart w806.2.2.2.2.1))⟩), (773, ⟨.im, 0, (.lit (.bool w806.2.2.2.2.2))⟩)]
theorem F6_l0_0_ok (K : Nat) (v760 : Int) (v761 : Int) (v762 : List Int) (v763 : Int) (v764 : Int) (v765 : Int) (v766 : List GPart) (v767 : Bool) : ∀ (k : Nat) (v788 : List Int) (v789 : Int) (v790 : Int) (v791 : Int) (v792 : List GPart) (v793 : Bool) (v794 : Int) (r : (Unit) ⊕ (List Int × Int × Int × Int × List GPart × Bool)), F6_l0_0 K v760 v761 v762 v763 v764 v765 v766 v767 k v788 v789 v790 v791 v792 v793 v794 = some r → (Sum.elim (fun w => LoopEv E H hn6 0 c6_0 (F6_l0_0_S v760 v761 v762 v763 v764 v765 v766 v767 v788 v789 v790 v791 v792 v793 v794) .ret (F6_l0_0_X0 v760 v761 v762 v763 v764 v765 v766 v767 w)) (fun w => LoopEv E H hn6 0 c6_0 (F6_l0_0_S v760 v761 v762 v763 v764 v765 v766 v767 v788 v789 v790 v791 v792 v793 v794) (.exit 0) (F6_l0_0_X1 v760 v761 v762 v763 v764 v765 v766 v767 w))) r := by
  intro k
  induction k with
  | zero => intro v788 v789 v790 v791 v792 v793 v794 r hF; cases hF
  | succ k ih =>
    intro v788 v789 v790 v791 v792 v793 v794 r hF
    rw [F6_l0_0] at hF
    refine cond_some hF (fun h795 hF => ?_) (fun h795 hF => ?_)
    ·
      refine cond_some hF (fun h796 hF => ?_) (fun _ hF => nomatch hF)
      refine cond_some hF (fun h797 hF => ?_) (fun _ hF => nomatch hF)
      refine bind_some hF (fun x798 h799 hF => ?_)
      refine bind_some hF (fun r800 h801 hF => ?_)
      refine bind_some hF (fun r802 h803 hF => ?_)
      have pq813 : ∀ {l : List Cond}, HoldAll E H hn6 l → HoldAll E H hn6 (.int (nlen (len v762)) (nlen (len v762)) :: .test (ilt v794 (nlen (len v762))) true :: .test (leqm [(.lit (.int .i64 v794))] 1 1) true :: .test (apok (len v788) 1 8) true :: .sl (nadd (len v788) 1) (lapp (flat (eInt .i64) v788) [(.lit (.int .i64 v794))]) (len (α := Int) (appL v788 [v794])) (flat (eInt .i64) (appL v788 [v794])) :: .test (inr v794 (len v762)) true :: .sub (flat (eInt .i64) v762) (nidx v794 1) 1 [(.lit (.int .i64 x798))] :: .call 58 [.one (.lit (.int .i64 v794)), .one (.lit (.int .i64 v761)), .one (.lit (.int .i64 x798))] (F58_res r800) :: .test (leadsAny (Res.mk [(.agg [(.im (.lit (.int .i64 r800.P))), (.im (.lit (.int .i64 r800.Step))), (.own 2 (.sl (len r800.Vals) (flat (eInt .i64) r800.Vals))), (.own 4 (.sl (len r800.Rest) (flat eBool r800.Rest))), (.own 130 (.sl (len r800.In) (flat eGMsg r800.In)))])] [])) false :: .call 52 [.agg (eGBarrier (GBarrier.mk v789 v790 v791 v792 v793)), .one (.lit (.int .i64 v760)), .agg (eGPart r800)] (F52_res r802) :: l) := fun z => ⟨rfl, h795, rfl, h796, (app_ok (enc := (eInt .i64)) (v788 : List Int) [v794]), h797, ⟨rfl, sub_flat0 (eInt_len _) h799 1 (by decide)⟩, (F58_ok K v794 v761 x798 _ h801), (leads_ok (by simp only [leadsAny, List.any_cons, List.any_nil, RV.leads, RC.leads, leadsT, hasSl_lit, Bool.or_false, flat_ns (eInt_ns _), flat_ns eBool_ns, flat_ns eStr_ns, flat_ns eGJob_ns, flat_ns eGEdge_ns, flat_ns eGAsked_ns, flat_ns eGMsg_ns, flat_ns eGrule_ns, flat_ns eGA199_ns, flat_ns eGA202_ns])), (F52_ok K (GBarrier.mk v789 v790 v791 v792 v793) v760 r800 _ h803), z⟩
      refine cond_some hF (fun h804 hF => ?_) (fun h804 hF => ?_)
      ·
        have pz : HoldAll E H hn6 [.test (ine r802.2 0) false, .int (wadd .i64 v794 1) (wadd .i64 v794 1)] := ⟨(ine_t h804), rfl, trivial⟩
        have h0 := ih _ _ _ _ _ _ _ _ hF
        have hn := fun ex ts' => loop_nextC (h := hn6) (l := 0) (c := c6_0) (ts := F6_l0_0_S v760 v761 v762 v763 v764 v765 v766 v767 v788 v789 v790 v791 v792 v793 v794) (ts1 := (F6_l0_0_S v760 v761 v762 v763 v764 v765 v766 v767 (appL v788 [v794]) r802.1.Epoch r802.1.Step r802.1.Parts r802.1.Came r802.1.Over (wadd .i64 v794 1))) (ex := ex) (ts' := ts') (pq813 pz) (by kernel_rfl)
        cases r with
        | inl w => exact hn _ _ h0
        | inr w => exact hn _ _ h0
      have hr := Option.some.inj hF
      subst hr
      have pz : HoldAll E H hn6 [.test (ine r802.2 0) true] := ⟨(ine_f h804), trivial⟩
      exact loop_endC (h := hn6) (l := 0) (c := c6_0) (ts := F6_l0_0_S v760 v761 v762 v763 v764 v765 v766 v767 v788 v789 v790 v791 v792 v793 v794) (ts' := F6_l0_0_X0 v760 v761 v762 v763 v764 v765 v766 v767 ()) (ex := .ret) (pq813 pz) (by kernel_rfl) trivial
    have hr := Option.some.inj hF
    subst hr
    have pz : HoldAll E H hn6 [.int (nlen (len v762)) (nlen (len v762)), .test (ilt v794 (nlen (len v762))) false] := ⟨rfl, h795, trivial⟩
    exact loop_endC (h := hn6) (l := 0) (c := c6_0) (ts := F6_l0_0_S v760 v761 v762 v763 v764 v765 v766 v767 v788 v789 v790 v791 v792 v793 v794) (ts' := F6_l0_0_X1 v760 v761 v762 v763 v764 v765 v766 v767 (v788, (v789, (v790, (v791, (v792, v793)))))) (ex := (.exit 0)) pz (by kernel_rfl) trivial

def F6_l1_1 (K : Nat) (v824 : Int) (v825 : Int) (v826 : List Int) (v832 : List Int) (v833 : Int) (v834 : Int) (v835 : Int) (v836 : List GPart) (v837 : Bool) : Nat → Int → Int → Int → List GPart → Bool → Int → Option ((Unit) ⊕ (Int × Int × Int × List GPart × Bool))
  | 0, _, _, _, _, _, _ => none
  | k + 1, v852, v853, v854, v855, v856, v857 =>
    bif (ilt v857 (nlen (len v832))) then
      (bif (inr v857 (len v832)) then
      (elAt v832 v857).bind fun x860 =>
      bif (izero (wconv .u64 (nlen (len v826)))) then none else
      bif (inr (wconv .i64 (wrem (wconv .u64 x860) (wconv .u64 (nlen (len v826))))) (len v826)) then
      (elAt v826 (wconv .i64 (wrem (wconv .u64 x860) (wconv .u64 (nlen (len v826)))))).bind fun x864 =>
      (F58 K (wconv .i64 (wrem (wconv .u64 x860) (wconv .u64 (nlen (len v826))))) v825 x864).bind fun r866 =>
      (F52 K (GBarrier.mk v852 v853 v854 v855 v856) v824 r866).bind fun r868 =>
      bif (ieq r868.2 0) then
        (F6_l1_1 K v824 v825 v826 v832 v833 v834 v835 v836 v837 k r868.1.Epoch r868.1.Step r868.1.Parts r868.1.Came r868.1.Over (wadd .i64 v857 1))
      else
      bif (ieq r868.2 5) then
        (F6_l1_1 K v824 v825 v826 v832 v833 v834 v835 v836 v837 k r868.1.Epoch r868.1.Step r868.1.Parts r868.1.Came r868.1.Over (wadd .i64 v857 1))
      else
      some (.inl ())
      else none
      else none)
    else
    some (.inr (v852, (v853, (v854, (v855, v856)))))
def F6_l1_1_S (v824 : Int) (v825 : Int) (v826 : List Int) (v832 : List Int) (v833 : Int) (v834 : Int) (v835 : Int) (v836 : List GPart) (v837 : Bool) (v852 : Int) (v853 : Int) (v854 : Int) (v855 : List GPart) (v856 : Bool) (v857 : Int) : TS := .on [0, 1, 64, 65, 128, 129, 576, 577, 578, 579, 580, 581, 704, 705, 768, 769, 770, 771, 772, 773, 1024, 1025] [(0, ⟨.one, 0, nob⟩), (1, ⟨.im, 0, (.lit (.int .i64 v824))⟩), (64, ⟨.one, 0, nob⟩), (65, ⟨.im, 0, (.lit (.int .i64 v825))⟩), (128, ⟨.one, 0, nob⟩), (129, ⟨.im, 0, (.sl (len v826) (flat (eInt .i64) v826))⟩), (576, ⟨(.box 24 5), 0, nob⟩), (577, ⟨.im, 0, (.lit (.int .i64 v852))⟩), (578, ⟨.im, 0, (.lit (.int .i64 v853))⟩), (579, ⟨.im, 0, (.lit (.int .i64 v854))⟩), (580, ⟨.im, 0, (.sl (len v855) (flat eGPart v855))⟩), (581, ⟨.im, 0, (.lit (.bool v856))⟩), (704, ⟨.one, 0, nob⟩), (705, ⟨(.own 3), 0, (.sl (len v832) (flat (eInt .i64) v832))⟩), (768, ⟨(.box 24 5), 0, nob⟩), (769, ⟨.im, 0, (.lit (.int .i64 v833))⟩), (770, ⟨.im, 0, (.lit (.int .i64 v834))⟩), (771, ⟨.im, 0, (.lit (.int .i64 v835))⟩), (772, ⟨.im, 0, (.sl (len v836) (flat eGPart v836))⟩), (773, ⟨.im, 0, (.lit (.bool v837))⟩), (1024, ⟨.one, 0, nob⟩), (1025, ⟨.im, 0, (.lit (.int .i64 v857))⟩)]
def F6_l1_1_X0 (v824 : Int) (v825 : Int) (v826 : List Int) (v832 : List Int) (v833 : Int) (v834 : Int) (v835 : Int) (v836 : List GPart) (v837 : Bool) (w872 : Unit) : TS := .on [512, 513] [(512, ⟨.one, 0, nob⟩), (513, ⟨.im, 0, (.lit (.bool false))⟩)]
def F6_l1_1_X1 (v824 : Int) (v825 : Int) (v826 : List Int) (v832 : List Int) (v833 : Int) (v834 : Int) (v835 : Int) (v836 : List GPart) (v837 : Bool) (w873 : Int × Int × Int × List GPart × Bool) : TS := .on [576, 577, 578, 579, 580, 581, 768, 769, 770, 771, 772, 773] [(576, ⟨(.box 24 5), 0, nob⟩), (577, ⟨.im, 0, (.lit (.int .i64 w873.1))⟩), (578, ⟨.im, 0, (.lit (.int .i64 w873.2.1))⟩), (579, ⟨.im, 0, (.lit (.int .i64 w873.2.2.1))⟩), (580, ⟨.im, 0, (.sl (len w873.2.2.2.1) (flat eGPart w873.2.2.2.1))⟩), (581, ⟨.im, 0, (.lit (.bool w873.2.2.2.2))⟩), (768, ⟨(.box 24 5), 0, nob⟩), (769, ⟨.im, 0, (.lit (.int .i64 v833))⟩), (770, ⟨.im, 0, (.lit (.int .i64 v834))⟩), (771, ⟨.im, 0, (.lit (.int .i64 v835))⟩), (772, ⟨.im, 0, (.sl (len v836) (flat eGPart v836))⟩), (773, ⟨.im, 0, (.lit (.bool v837))⟩)]
theorem F6_l1_1_ok (K : Nat) (v824 : Int) (v825 : Int) (v826 : List Int) (v832 : List Int) (v833 : Int) (v834 : Int) (v835 : Int) (v836 : List GPart) (v837 : Bool) : ∀ (k : Nat) (v852 : Int) (v853 : Int) (v854 : Int) (v855 : List GPart) (v856 : Bool) (v857 : Int) (r : (Unit) ⊕ (Int × Int × Int × List GPart × Bool)), F6_l1_1 K v824 v825 v826 v832 v833 v834 v835 v836 v837 k v852 v853 v854 v855 v856 v857 = some r → (Sum.elim (fun w => LoopEv E H hn6 2 c6_1 (F6_l1_1_S v824 v825 v826 v832 v833 v834 v835 v836 v837 v852 v853 v854 v855 v856 v857) .ret (F6_l1_1_X0 v824 v825 v826 v832 v833 v834 v835 v836 v837 w)) (fun w => LoopEv E H hn6 2 c6_1 (F6_l1_1_S v824 v825 v826 v832 v833 v834 v835 v836 v837 v852 v853 v854 v855 v856 v857) (.exit 2) (F6_l1_1_X1 v824 v825 v826 v832 v833 v834 v835 v836 v837 w))) r := by
  intro k
  induction k with
  | zero => intro v852 v853 v854 v855 v856 v857 r hF; cases hF
  | succ k ih =>
    intro v852 v853 v854 v855 v856 v857 r hF
    rw [F6_l1_1] at hF
    refine cond_some hF (fun h858 hF => ?_) (fun h858 hF => ?_)
    ·
      refine cond_some hF (fun h859 hF => ?_) (fun _ hF => nomatch hF)
      refine bind_some hF (fun x860 h861 hF => ?_)
      refine cond_some hF (fun _ hF => nomatch hF) (fun h862 hF => ?_)
      refine cond_some hF (fun h863 hF => ?_) (fun _ hF => nomatch hF)
      refine bind_some hF (fun x864 h865 hF => ?_)
      refine bind_some hF (fun r866 h867 hF => ?_)
      refine bind_some hF (fun r868 h869 hF => ?_)
      have pq879 : ∀ {l : List Cond}, HoldAll E H hn6 l → HoldAll E H hn6 (.int (nlen (len v832)) (nlen (len v832)) :: .test (ilt v857 (nlen (len v832))) true :: .test (inr v857 (len v832)) true :: .sub (flat (eInt .i64) v832) (nidx v857 1) 1 [(.lit (.int .i64 x860))] :: .int (wconv .u64 x860) (wconv .u64 x860) :: .int (nlen (len v826)) (nlen (len v826)) :: .int (wconv .u64 (nlen (len v826))) (wconv .u64 (nlen (len v826))) :: .test (izero (wconv .u64 (nlen (len v826)))) false :: .int (wrem (wconv .u64 x860) (wconv .u64 (nlen (len v826)))) (wrem (wconv .u64 x860) (wconv .u64 (nlen (len v826)))) :: .int (wconv .i64 (wrem (wconv .u64 x860) (wconv .u64 (nlen (len v826))))) (wconv .i64 (wrem (wconv .u64 x860) (wconv .u64 (nlen (len v826))))) :: .test (inr (wconv .i64 (wrem (wconv .u64 x860) (wconv .u64 (nlen (len v826))))) (len v826)) true :: .sub (flat (eInt .i64) v826) (nidx (wconv .i64 (wrem (wconv .u64 x860) (wconv .u64 (nlen (len v826))))) 1) 1 [(.lit (.int .i64 x864))] :: .call 58 [.one (.lit (.int .i64 (wconv .i64 (wrem (wconv .u64 x860) (wconv .u64 (nlen (len v826))))))), .one (.lit (.int .i64 v825)), .one (.lit (.int .i64 x864))] (F58_res r866) :: .test (leadsAny (Res.mk [(.agg [(.im (.lit (.int .i64 r866.P))), (.im (.lit (.int .i64 r866.Step))), (.own 2 (.sl (len r866.Vals) (flat (eInt .i64) r866.Vals))), (.own 4 (.sl (len r866.Rest) (flat eBool r866.Rest))), (.own 130 (.sl (len r866.In) (flat eGMsg r866.In)))])] [])) false :: .call 52 [.agg (eGBarrier (GBarrier.mk v852 v853 v854 v855 v856)), .one (.lit (.int .i64 v824)), .agg (eGPart r866)] (F52_res r868) :: l) := fun z => ⟨rfl, h858, h859, ⟨rfl, sub_flat0 (eInt_len _) h861 1 (by decide)⟩, rfl, rfl, rfl, h862, rfl, rfl, h863, ⟨rfl, sub_flat0 (eInt_len _) h865 1 (by decide)⟩, (F58_ok K (wconv .i64 (wrem (wconv .u64 x860) (wconv .u64 (nlen (len v826))))) v825 x864 _ h867), (leads_ok (by simp only [leadsAny, List.any_cons, List.any_nil, RV.leads, RC.leads, leadsT, hasSl_lit, Bool.or_false, flat_ns (eInt_ns _), flat_ns eBool_ns, flat_ns eStr_ns, flat_ns eGJob_ns, flat_ns eGEdge_ns, flat_ns eGAsked_ns, flat_ns eGMsg_ns, flat_ns eGrule_ns, flat_ns eGA199_ns, flat_ns eGA202_ns])), (F52_ok K (GBarrier.mk v852 v853 v854 v855 v856) v824 r866 _ h869), z⟩
      refine cond_some hF (fun h870 hF => ?_) (fun h870 hF => ?_)
      ·
        have pz : HoldAll E H hn6 [.test (beqb (ine r868.2 0) true) false, .test (beqb (ine r868.2 0) true) false, .test (ine r868.2 0) false, .test false false, .int (wadd .i64 v857 1) (wadd .i64 v857 1)] := ⟨(beqb_t (ine_t h870)), (beqb_t (ine_t h870)), (ine_t h870), rfl, rfl, trivial⟩
        have h0 := ih _ _ _ _ _ _ _ hF
        have hn := fun ex ts' => loop_nextC (h := hn6) (l := 2) (c := c6_1) (ts := F6_l1_1_S v824 v825 v826 v832 v833 v834 v835 v836 v837 v852 v853 v854 v855 v856 v857) (ts1 := (F6_l1_1_S v824 v825 v826 v832 v833 v834 v835 v836 v837 r868.1.Epoch r868.1.Step r868.1.Parts r868.1.Came r868.1.Over (wadd .i64 v857 1))) (ex := ex) (ts' := ts') (pq879 pz) (by kernel_rfl)
        cases r with
        | inl w => exact hn _ _ h0
        | inr w => exact hn _ _ h0
      have pq880 : ∀ {l : List Cond}, HoldAll E H hn6 l → HoldAll E H hn6 (.test (beqb (ine r868.2 0) true) true :: .test (beqb (ine r868.2 0) true) true :: .test (ine r868.2 0) true :: l) := fun z => ⟨(beqb_t (ine_f h870)), (beqb_t (ine_f h870)), (ine_f h870), z⟩
      refine cond_some hF (fun h871 hF => ?_) (fun h871 hF => ?_)
      ·
        have pz : HoldAll E H hn6 [.test (ine r868.2 5) false, .int (wadd .i64 v857 1) (wadd .i64 v857 1)] := ⟨(ine_t h871), rfl, trivial⟩
        have h0 := ih _ _ _ _ _ _ _ hF
        have hn := fun ex ts' => loop_nextC (h := hn6) (l := 2) (c := c6_1) (ts := F6_l1_1_S v824 v825 v826 v832 v833 v834 v835 v836 v837 v852 v853 v854 v855 v856 v857) (ts1 := (F6_l1_1_S v824 v825 v826 v832 v833 v834 v835 v836 v837 r868.1.Epoch r868.1.Step r868.1.Parts r868.1.Came r868.1.Over (wadd .i64 v857 1))) (ex := ex) (ts' := ts') (pq879 (pq880 pz)) (by kernel_rfl)
        cases r with
        | inl w => exact hn _ _ h0
        | inr w => exact hn _ _ h0
      have hr := Option.some.inj hF
      subst hr
      have pz : HoldAll E H hn6 [.test (ine r868.2 5) true] := ⟨(ine_f h871), trivial⟩
      exact loop_endC (h := hn6) (l := 2) (c := c6_1) (ts := F6_l1_1_S v824 v825 v826 v832 v833 v834 v835 v836 v837 v852 v853 v854 v855 v856 v857) (ts' := F6_l1_1_X0 v824 v825 v826 v832 v833 v834 v835 v836 v837 ()) (ex := .ret) (pq879 (pq880 pz)) (by kernel_rfl) trivial
    have hr := Option.some.inj hF
    subst hr
    have pz : HoldAll E H hn6 [.int (nlen (len v832)) (nlen (len v832)), .test (ilt v857 (nlen (len v832))) false] := ⟨rfl, h858, trivial⟩
    exact loop_endC (h := hn6) (l := 2) (c := c6_1) (ts := F6_l1_1_S v824 v825 v826 v832 v833 v834 v835 v836 v837 v852 v853 v854 v855 v856 v857) (ts' := F6_l1_1_X1 v824 v825 v826 v832 v833 v834 v835 v836 v837 (v852, (v853, (v854, (v855, v856))))) (ex := (.exit 2)) pz (by kernel_rfl) trivial

def F6 (K : Nat) (a749 : Int) (a750 : Int) (a751 : List Int) (a752 : List Int) : Option (Bool) :=
  (F41 K a749 a750 (nlen (len a751))).bind fun r753 =>
  bif (ieq r753.2 0) then
    (bif (ieq (nlen (len a751)) 0) then
      (some false)
    else
    bif (apok 0 (len a752) 8) then
    bif (ilt 30 (nlen (len (α := Int) (appL [] a752)))) then
      (bif (bnd 0 30 (len (α := Int) (appL [] a752))) then
      (F6_l0_0 K a749 a750 a751 r753.1.Epoch r753.1.Step r753.1.Parts r753.1.Came r753.1.Over K (subL (appL [] a752) 0 30) r753.1.Epoch r753.1.Step r753.1.Parts r753.1.Came r753.1.Over 0).bind fun y815 =>
      Sum.elim (fun w816 =>
        some false)
        (fun w817 =>
        (F6_l1_1 K a749 a750 a751 w817.1 w817.2.1 w817.2.2.1 w817.2.2.2.1 w817.2.2.2.2.1 w817.2.2.2.2.2 K r753.1.Epoch r753.1.Step r753.1.Parts r753.1.Came r753.1.Over 0).bind fun y882 =>
        Sum.elim (fun w883 =>
          some false)
          (fun w884 =>
          (F50 K (GBarrier.mk w884.1 w884.2.1 w884.2.2.1 w884.2.2.2.1 w884.2.2.2.2)).bind fun r890 =>
          bif r890 then
            ((F44 K (GBarrier.mk w884.1 w884.2.1 w884.2.2.1 w884.2.2.2.1 w884.2.2.2.2)).bind fun r893 =>
            (F44 K (GBarrier.mk w817.2.1 w817.2.2.1 w817.2.2.2.1 w817.2.2.2.2.1 w817.2.2.2.2.2)).bind fun r895 =>
            (F43 K r893 r895).bind fun r897 =>
            bif r897 then
              (some true)
            else
            some false)
          else
          some false) y882) y815
      else none)
    else
    (F6_l0_0 K a749 a750 a751 r753.1.Epoch r753.1.Step r753.1.Parts r753.1.Came r753.1.Over K (appL [] a752) r753.1.Epoch r753.1.Step r753.1.Parts r753.1.Came r753.1.Over 0).bind fun y915 =>
    Sum.elim (fun w916 =>
      some false)
      (fun w917 =>
      (F6_l1_1 K a749 a750 a751 w917.1 w917.2.1 w917.2.2.1 w917.2.2.2.1 w917.2.2.2.2.1 w917.2.2.2.2.2 K r753.1.Epoch r753.1.Step r753.1.Parts r753.1.Came r753.1.Over 0).bind fun y939 =>
      Sum.elim (fun w940 =>
        some false)
        (fun w941 =>
        (F50 K (GBarrier.mk w941.1 w941.2.1 w941.2.2.1 w941.2.2.2.1 w941.2.2.2.2)).bind fun r947 =>
        bif r947 then
          ((F44 K (GBarrier.mk w941.1 w941.2.1 w941.2.2.1 w941.2.2.2.1 w941.2.2.2.2)).bind fun r950 =>
          (F44 K (GBarrier.mk w917.2.1 w917.2.2.1 w917.2.2.2.1 w917.2.2.2.2.1 w917.2.2.2.2.2)).bind fun r952 =>
          (F43 K r950 r952).bind fun r954 =>
          bif r954 then
            (some true)
          else
          some false)
        else
        some false) y939) y915
    else none)
  else
  some true
theorem F6_ok (K : Nat) (a749 : Int) (a750 : Int) (a751 : List Int) (a752 : List Int) (r : Bool) (hF : F6 K a749 a750 a751 a752 = some r) : Evt E H 6 [.one (.lit (.int .i64 a749)), .one (.lit (.int .i64 a750)), .one (.sl (len a751) (flat (eInt .i64) a751)), .one (.sl (len a752) (flat (eInt .i64) a752))] (F6_res r) := by
  rw [F6] at hF
  refine bind_some hF (fun r753 h754 hF => ?_)
  refine cond_some hF (fun h755 hF => ?_) (fun h755 hF => ?_)
  ·
    have pq957 : ∀ {l : List Cond}, HoldAll E H hn6 l → HoldAll E H hn6 (.int (nlen (len a751)) (nlen (len a751)) :: .call 41 [.one (.lit (.int .i64 a749)), .one (.lit (.int .i64 a750)), .one (.lit (.int .i64 (nlen (len a751))))] (F41_res r753) :: .test (beqb (ine r753.2 0) false) true :: .test (beqb (ine r753.2 0) false) true :: .int (nlen (len a751)) (nlen (len a751)) :: .test (beqb (ine r753.2 0) false) true :: .test (ine r753.2 0) false :: l) := fun z => ⟨rfl, (F41_ok K a749 a750 (nlen (len a751)) _ h754), (beqb_ff (ine_t h755)), (beqb_ff (ine_t h755)), rfl, (beqb_ff (ine_t h755)), (ine_t h755), z⟩
    refine cond_some hF (fun h756 hF => ?_) (fun h756 hF => ?_)
    ·
      have hr := Option.some.inj hF
      subst hr
      have pz : HoldAll E H hn6 [.test (ieq (nlen (len a751)) 0) true, .test (beqb (ine r753.2 0) true) false, .test (ine r753.2 0) false] := ⟨h756, (beqb_t (ine_t h755)), (ine_t h755), trivial⟩
      exact fn_playC hn6 (f := 6) (ads := [.one (.lit (.int .i64 a749)), .one (.lit (.int .i64 a750)), .one (.sl (len a751) (flat (eInt .i64) a751)), .one (.sl (len a752) (flat (eInt .i64) a752))]) (r := F6_res false) (pq957 pz) (by kernel_rfl) (by kernel_rfl)
    refine cond_some hF (fun h757 hF => ?_) (fun _ hF => nomatch hF)
    have pq958 : ∀ {l : List Cond}, HoldAll E H hn6 l → HoldAll E H hn6 (.test (ieq (nlen (len a751)) 0) false :: .test (leqm (flat (eInt .i64) a752) (len a752) 1) true :: .test (apok 0 (len a752) 8) true :: .sl (nadd 0 (len a752)) (lapp [] (flat (eInt .i64) a752)) (len (α := Int) (appL [] a752)) (flat (eInt .i64) (appL [] a752)) :: .int (nlen (len (α := Int) (appL [] a752))) (nlen (len (α := Int) (appL [] a752))) :: l) := fun z => ⟨h756, (leqm_flat (eInt_len _) _), h757, (app_ok (enc := (eInt .i64)) ([] : List Int) a752), rfl, z⟩
    refine cond_some hF (fun h758 hF => ?_) (fun h758 hF => ?_)
    ·
      refine cond_some hF (fun h759 hF => ?_) (fun _ hF => nomatch hF)
      have pq959 : ∀ {l : List Cond}, HoldAll E H hn6 l → HoldAll E H hn6 (.test (igt (nlen (len (α := Int) (appL [] a752))) 30) true :: .test (bnd 0 30 (len (α := Int) (appL [] a752))) true :: .sl (nsub 0 30) (lsub (flat (eInt .i64) (appL [] a752)) 0 30 1) (len (α := Int) (subL (appL [] a752) 0 30)) (flat (eInt .i64) (subL (appL [] a752) 0 30)) :: l) := fun z => ⟨(igt_eq h758), h759, (sub_ok (eInt_len _) h759), z⟩
      refine bind_some hF (fun y815 h814 hF => ?_)
      refine sum_some hF (fun w816 hx hF => ?_) (fun w817 hx hF => ?_)
      ·
        subst hx
        have hr := Option.some.inj hF
        subst hr
        have pz : HoldAll E H hn6 [.loop 0 c6_0 (F6_l0_0_S a749 a750 a751 r753.1.Epoch r753.1.Step r753.1.Parts r753.1.Came r753.1.Over (subL (appL [] a752) 0 30) r753.1.Epoch r753.1.Step r753.1.Parts r753.1.Came r753.1.Over 0) .ret (F6_l0_0_X0 a749 a750 a751 r753.1.Epoch r753.1.Step r753.1.Parts r753.1.Came r753.1.Over w816)] := ⟨(F6_l0_0_ok K a749 a750 a751 r753.1.Epoch r753.1.Step r753.1.Parts r753.1.Came r753.1.Over K (subL (appL [] a752) 0 30) r753.1.Epoch r753.1.Step r753.1.Parts r753.1.Came r753.1.Over 0 _ h814), trivial⟩
        exact fn_playC hn6 (f := 6) (ads := [.one (.lit (.int .i64 a749)), .one (.lit (.int .i64 a750)), .one (.sl (len a751) (flat (eInt .i64) a751)), .one (.sl (len a752) (flat (eInt .i64) a752))]) (r := F6_res false) (pq957 (pq958 (pq959 pz))) (by kernel_rfl) (by kernel_rfl)
      subst hx
      refine bind_some hF (fun y882 h881 hF => ?_)
      refine sum_some hF (fun w883 hx hF => ?_) (fun w884 hx hF => ?_)
      ·
        subst hx
        have hr := Option.some.inj hF
        subst hr
        have pz : HoldAll E H hn6 [.loop 0 c6_0 (F6_l0_0_S a749 a750 a751 r753.1.Epoch r753.1.Step r753.1.Parts r753.1.Came r753.1.Over (subL (appL [] a752) 0 30) r753.1.Epoch r753.1.Step r753.1.Parts r753.1.Came r753.1.Over 0) (.exit 0) (F6_l0_0_X1 a749 a750 a751 r753.1.Epoch r753.1.Step r753.1.Parts r753.1.Came r753.1.Over w817), .loop 2 c6_1 (F6_l1_1_S a749 a750 a751 w817.1 w817.2.1 w817.2.2.1 w817.2.2.2.1 w817.2.2.2.2.1 w817.2.2.2.2.2 r753.1.Epoch r753.1.Step r753.1.Parts r753.1.Came r753.1.Over 0) .ret (F6_l1_1_X0 a749 a750 a751 w817.1 w817.2.1 w817.2.2.1 w817.2.2.2.1 w817.2.2.2.2.1 w817.2.2.2.2.2 w883)] := ⟨(F6_l0_0_ok K a749 a750 a751 r753.1.Epoch r753.1.Step r753.1.Parts r753.1.Came r753.1.Over K (subL (appL [] a752) 0 30) r753.1.Epoch r753.1.Step r753.1.Parts r753.1.Came r753.1.Over 0 _ h814), (F6_l1_1_ok K a749 a750 a751 w817.1 w817.2.1 w817.2.2.1 w817.2.2.2.1 w817.2.2.2.2.1 w817.2.2.2.2.2 K r753.1.Epoch r753.1.Step r753.1.Parts r753.1.Came r753.1.Over 0 _ h881), trivial⟩
        exact fn_playC hn6 (f := 6) (ads := [.one (.lit (.int .i64 a749)), .one (.lit (.int .i64 a750)), .one (.sl (len a751) (flat (eInt .i64) a751)), .one (.sl (len a752) (flat (eInt .i64) a752))]) (r := F6_res false) (pq957 (pq958 (pq959 pz))) (by kernel_rfl) (by kernel_rfl)
      subst hx
      refine bind_some hF (fun r890 h891 hF => ?_)
      have pq960 : ∀ {l : List Cond}, HoldAll E H hn6 l → HoldAll E H hn6 (.loop 0 c6_0 (F6_l0_0_S a749 a750 a751 r753.1.Epoch r753.1.Step r753.1.Parts r753.1.Came r753.1.Over (subL (appL [] a752) 0 30) r753.1.Epoch r753.1.Step r753.1.Parts r753.1.Came r753.1.Over 0) (.exit 0) (F6_l0_0_X1 a749 a750 a751 r753.1.Epoch r753.1.Step r753.1.Parts r753.1.Came r753.1.Over w817) :: .loop 2 c6_1 (F6_l1_1_S a749 a750 a751 w817.1 w817.2.1 w817.2.2.1 w817.2.2.2.1 w817.2.2.2.2.1 w817.2.2.2.2.2 r753.1.Epoch r753.1.Step r753.1.Parts r753.1.Came r753.1.Over 0) (.exit 2) (F6_l1_1_X1 a749 a750 a751 w817.1 w817.2.1 w817.2.2.1 w817.2.2.2.1 w817.2.2.2.2.1 w817.2.2.2.2.2 w884) :: .call 50 [.agg (eGBarrier (GBarrier.mk w884.1 w884.2.1 w884.2.2.1 w884.2.2.2.1 w884.2.2.2.2))] (F50_res r890) :: .test (leadsAny (Res.mk [(.one (.im (.lit (.bool r890))))] [])) false :: l) := fun z => ⟨(F6_l0_0_ok K a749 a750 a751 r753.1.Epoch r753.1.Step r753.1.Parts r753.1.Came r753.1.Over K (subL (appL [] a752) 0 30) r753.1.Epoch r753.1.Step r753.1.Parts r753.1.Came r753.1.Over 0 _ h814), (F6_l1_1_ok K a749 a750 a751 w817.1 w817.2.1 w817.2.2.1 w817.2.2.2.1 w817.2.2.2.2.1 w817.2.2.2.2.2 K r753.1.Epoch r753.1.Step r753.1.Parts r753.1.Came r753.1.Over 0 _ h881), (F50_ok K (GBarrier.mk w884.1 w884.2.1 w884.2.2.1 w884.2.2.2.1 w884.2.2.2.2) _ h891), (leads_ok (by simp only [leadsAny, List.any_cons, List.any_nil, RV.leads, RC.leads, leadsT, hasSl_lit, Bool.or_false, flat_ns (eInt_ns _), flat_ns eBool_ns, flat_ns eStr_ns, flat_ns eGJob_ns, flat_ns eGEdge_ns, flat_ns eGAsked_ns, flat_ns eGMsg_ns, flat_ns eGrule_ns, flat_ns eGA199_ns, flat_ns eGA202_ns])), z⟩
      refine cond_some hF (fun h892 hF => ?_) (fun h892 hF => ?_)
      ·
        refine bind_some hF (fun r893 h894 hF => ?_)
        refine bind_some hF (fun r895 h896 hF => ?_)
        refine bind_some hF (fun r897 h898 hF => ?_)
        have pq961 : ∀ {l : List Cond}, HoldAll E H hn6 l → HoldAll E H hn6 (.test (beqb r890 true) true :: .test (beqb r890 true) true :: .call 44 [.agg (eGBarrier (GBarrier.mk w884.1 w884.2.1 w884.2.2.1 w884.2.2.2.1 w884.2.2.2.2))] (F44_res r893) :: .test (beqb r890 true) true :: .test (beqb r890 true) true :: .call 44 [.agg (eGBarrier (GBarrier.mk w817.2.1 w817.2.2.1 w817.2.2.2.1 w817.2.2.2.2.1 w817.2.2.2.2.2))] (F44_res r895) :: .test (beqb r890 true) true :: .call 43 [.agg (eGBarrier r893), .agg (eGBarrier r895)] (F43_res r897) :: .test (leadsAny (Res.mk [(.one (.im (.lit (.bool r897))))] [])) false :: .test r890 true :: l) := fun z => ⟨(beqb_t h892), (beqb_t h892), (F44_ok K (GBarrier.mk w884.1 w884.2.1 w884.2.2.1 w884.2.2.2.1 w884.2.2.2.2) _ h894), (beqb_t h892), (beqb_t h892), (F44_ok K (GBarrier.mk w817.2.1 w817.2.2.1 w817.2.2.2.1 w817.2.2.2.2.1 w817.2.2.2.2.2) _ h896), (beqb_t h892), (F43_ok K r893 r895 _ h898), (leads_ok (by simp only [leadsAny, List.any_cons, List.any_nil, RV.leads, RC.leads, leadsT, hasSl_lit, Bool.or_false, flat_ns (eInt_ns _), flat_ns eBool_ns, flat_ns eStr_ns, flat_ns eGJob_ns, flat_ns eGEdge_ns, flat_ns eGAsked_ns, flat_ns eGMsg_ns, flat_ns eGrule_ns, flat_ns eGA199_ns, flat_ns eGA202_ns])), h892, z⟩
        refine cond_some hF (fun h899 hF => ?_) (fun h899 hF => ?_)
        ·
          have hr := Option.some.inj hF
          subst hr
          have pz : HoldAll E H hn6 [.test (beqb r897 true) true, .call 45 [] (Res.mk [(.one (.im (.lit (.bool true))))] []), .test (leadsAny (Res.mk [(.one (.im (.lit (.bool true))))] [])) false, .test r897 true] := ⟨(beqb_t h899), knows45, (leads_ok (by simp only [leadsAny, List.any_cons, List.any_nil, RV.leads, RC.leads, leadsT, hasSl_lit, Bool.or_false, flat_ns (eInt_ns _), flat_ns eBool_ns, flat_ns eStr_ns, flat_ns eGJob_ns, flat_ns eGEdge_ns, flat_ns eGAsked_ns, flat_ns eGMsg_ns, flat_ns eGrule_ns, flat_ns eGA199_ns, flat_ns eGA202_ns])), h899, trivial⟩
          exact fn_playC hn6 (f := 6) (ads := [.one (.lit (.int .i64 a749)), .one (.lit (.int .i64 a750)), .one (.sl (len a751) (flat (eInt .i64) a751)), .one (.sl (len a752) (flat (eInt .i64) a752))]) (r := F6_res true) (pq957 (pq958 (pq959 (pq960 (pq961 pz))))) (by kernel_rfl) (by kernel_rfl)
        have hr := Option.some.inj hF
        subst hr
        have pz : HoldAll E H hn6 [.test (beqb r897 true) false, .test r897 false] := ⟨(beqb_t h899), h899, trivial⟩
        exact fn_playC hn6 (f := 6) (ads := [.one (.lit (.int .i64 a749)), .one (.lit (.int .i64 a750)), .one (.sl (len a751) (flat (eInt .i64) a751)), .one (.sl (len a752) (flat (eInt .i64) a752))]) (r := F6_res false) (pq957 (pq958 (pq959 (pq960 (pq961 pz))))) (by kernel_rfl) (by kernel_rfl)
      have hr := Option.some.inj hF
      subst hr
      have pz : HoldAll E H hn6 [.test (beqb r890 true) false, .test (beqb r890 true) false, .test (beqb r890 true) false, .test (beqb r890 true) false, .test (beqb r890 true) false, .test r890 false, .test (beqb false true) false, .test false false] := ⟨(beqb_t h892), (beqb_t h892), (beqb_t h892), (beqb_t h892), (beqb_t h892), h892, (beqb_t rfl), rfl, trivial⟩
      exact fn_playC hn6 (f := 6) (ads := [.one (.lit (.int .i64 a749)), .one (.lit (.int .i64 a750)), .one (.sl (len a751) (flat (eInt .i64) a751)), .one (.sl (len a752) (flat (eInt .i64) a752))]) (r := F6_res false) (pq957 (pq958 (pq959 (pq960 pz)))) (by kernel_rfl) (by kernel_rfl)
    refine bind_some hF (fun y915 h914 hF => ?_)
    refine sum_some hF (fun w916 hx hF => ?_) (fun w917 hx hF => ?_)
    ·
      subst hx
      have hr := Option.some.inj hF
      subst hr
      have pz : HoldAll E H hn6 [.test (igt (nlen (len (α := Int) (appL [] a752))) 30) false, .loop 0 c6_0 (F6_l0_0_S a749 a750 a751 r753.1.Epoch r753.1.Step r753.1.Parts r753.1.Came r753.1.Over (appL [] a752) r753.1.Epoch r753.1.Step r753.1.Parts r753.1.Came r753.1.Over 0) .ret (F6_l0_0_X0 a749 a750 a751 r753.1.Epoch r753.1.Step r753.1.Parts r753.1.Came r753.1.Over w916)] := ⟨(igt_eq h758), (F6_l0_0_ok K a749 a750 a751 r753.1.Epoch r753.1.Step r753.1.Parts r753.1.Came r753.1.Over K (appL [] a752) r753.1.Epoch r753.1.Step r753.1.Parts r753.1.Came r753.1.Over 0 _ h914), trivial⟩
      exact fn_playC hn6 (f := 6) (ads := [.one (.lit (.int .i64 a749)), .one (.lit (.int .i64 a750)), .one (.sl (len a751) (flat (eInt .i64) a751)), .one (.sl (len a752) (flat (eInt .i64) a752))]) (r := F6_res false) (pq957 (pq958 pz)) (by kernel_rfl) (by kernel_rfl)
    subst hx
    refine bind_some hF (fun y939 h938 hF => ?_)
    refine sum_some hF (fun w940 hx hF => ?_) (fun w941 hx hF => ?_)
    ·
      subst hx
      have hr := Option.some.inj hF
      subst hr
      have pz : HoldAll E H hn6 [.test (igt (nlen (len (α := Int) (appL [] a752))) 30) false, .loop 0 c6_0 (F6_l0_0_S a749 a750 a751 r753.1.Epoch r753.1.Step r753.1.Parts r753.1.Came r753.1.Over (appL [] a752) r753.1.Epoch r753.1.Step r753.1.Parts r753.1.Came r753.1.Over 0) (.exit 0) (F6_l0_0_X1 a749 a750 a751 r753.1.Epoch r753.1.Step r753.1.Parts r753.1.Came r753.1.Over w917), .loop 2 c6_1 (F6_l1_1_S a749 a750 a751 w917.1 w917.2.1 w917.2.2.1 w917.2.2.2.1 w917.2.2.2.2.1 w917.2.2.2.2.2 r753.1.Epoch r753.1.Step r753.1.Parts r753.1.Came r753.1.Over 0) .ret (F6_l1_1_X0 a749 a750 a751 w917.1 w917.2.1 w917.2.2.1 w917.2.2.2.1 w917.2.2.2.2.1 w917.2.2.2.2.2 w940)] := ⟨(igt_eq h758), (F6_l0_0_ok K a749 a750 a751 r753.1.Epoch r753.1.Step r753.1.Parts r753.1.Came r753.1.Over K (appL [] a752) r753.1.Epoch r753.1.Step r753.1.Parts r753.1.Came r753.1.Over 0 _ h914), (F6_l1_1_ok K a749 a750 a751 w917.1 w917.2.1 w917.2.2.1 w917.2.2.2.1 w917.2.2.2.2.1 w917.2.2.2.2.2 K r753.1.Epoch r753.1.Step r753.1.Parts r753.1.Came r753.1.Over 0 _ h938), trivial⟩
      exact fn_playC hn6 (f := 6) (ads := [.one (.lit (.int .i64 a749)), .one (.lit (.int .i64 a750)), .one (.sl (len a751) (flat (eInt .i64) a751)), .one (.sl (len a752) (flat (eInt .i64) a752))]) (r := F6_res false) (pq957 (pq958 pz)) (by kernel_rfl) (by kernel_rfl)
    subst hx
    refine bind_some hF (fun r947 h948 hF => ?_)
    have pq962 : ∀ {l : List Cond}, HoldAll E H hn6 l → HoldAll E H hn6 (.test (igt (nlen (len (α := Int) (appL [] a752))) 30) false :: .loop 0 c6_0 (F6_l0_0_S a749 a750 a751 r753.1.Epoch r753.1.Step r753.1.Parts r753.1.Came r753.1.Over (appL [] a752) r753.1.Epoch r753.1.Step r753.1.Parts r753.1.Came r753.1.Over 0) (.exit 0) (F6_l0_0_X1 a749 a750 a751 r753.1.Epoch r753.1.Step r753.1.Parts r753.1.Came r753.1.Over w917) :: .loop 2 c6_1 (F6_l1_1_S a749 a750 a751 w917.1 w917.2.1 w917.2.2.1 w917.2.2.2.1 w917.2.2.2.2.1 w917.2.2.2.2.2 r753.1.Epoch r753.1.Step r753.1.Parts r753.1.Came r753.1.Over 0) (.exit 2) (F6_l1_1_X1 a749 a750 a751 w917.1 w917.2.1 w917.2.2.1 w917.2.2.2.1 w917.2.2.2.2.1 w917.2.2.2.2.2 w941) :: .call 50 [.agg (eGBarrier (GBarrier.mk w941.1 w941.2.1 w941.2.2.1 w941.2.2.2.1 w941.2.2.2.2))] (F50_res r947) :: .test (leadsAny (Res.mk [(.one (.im (.lit (.bool r947))))] [])) false :: l) := fun z => ⟨(igt_eq h758), (F6_l0_0_ok K a749 a750 a751 r753.1.Epoch r753.1.Step r753.1.Parts r753.1.Came r753.1.Over K (appL [] a752) r753.1.Epoch r753.1.Step r753.1.Parts r753.1.Came r753.1.Over 0 _ h914), (F6_l1_1_ok K a749 a750 a751 w917.1 w917.2.1 w917.2.2.1 w917.2.2.2.1 w917.2.2.2.2.1 w917.2.2.2.2.2 K r753.1.Epoch r753.1.Step r753.1.Parts r753.1.Came r753.1.Over 0 _ h938), (F50_ok K (GBarrier.mk w941.1 w941.2.1 w941.2.2.1 w941.2.2.2.1 w941.2.2.2.2) _ h948), (leads_ok (by simp only [leadsAny, List.any_cons, List.any_nil, RV.leads, RC.leads, leadsT, hasSl_lit, Bool.or_false, flat_ns (eInt_ns _), flat_ns eBool_ns, flat_ns eStr_ns, flat_ns eGJob_ns, flat_ns eGEdge_ns, flat_ns eGAsked_ns, flat_ns eGMsg_ns, flat_ns eGrule_ns, flat_ns eGA199_ns, flat_ns eGA202_ns])), z⟩
    refine cond_some hF (fun h949 hF => ?_) (fun h949 hF => ?_)
    ·
      refine bind_some hF (fun r950 h951 hF => ?_)
      refine bind_some hF (fun r952 h953 hF => ?_)
      refine bind_some hF (fun r954 h955 hF => ?_)
      have pq963 : ∀ {l : List Cond}, HoldAll E H hn6 l → HoldAll E H hn6 (.test (beqb r947 true) true :: .test (beqb r947 true) true :: .call 44 [.agg (eGBarrier (GBarrier.mk w941.1 w941.2.1 w941.2.2.1 w941.2.2.2.1 w941.2.2.2.2))] (F44_res r950) :: .test (beqb r947 true) true :: .test (beqb r947 true) true :: .call 44 [.agg (eGBarrier (GBarrier.mk w917.2.1 w917.2.2.1 w917.2.2.2.1 w917.2.2.2.2.1 w917.2.2.2.2.2))] (F44_res r952) :: .test (beqb r947 true) true :: .call 43 [.agg (eGBarrier r950), .agg (eGBarrier r952)] (F43_res r954) :: .test (leadsAny (Res.mk [(.one (.im (.lit (.bool r954))))] [])) false :: .test r947 true :: l) := fun z => ⟨(beqb_t h949), (beqb_t h949), (F44_ok K (GBarrier.mk w941.1 w941.2.1 w941.2.2.1 w941.2.2.2.1 w941.2.2.2.2) _ h951), (beqb_t h949), (beqb_t h949), (F44_ok K (GBarrier.mk w917.2.1 w917.2.2.1 w917.2.2.2.1 w917.2.2.2.2.1 w917.2.2.2.2.2) _ h953), (beqb_t h949), (F43_ok K r950 r952 _ h955), (leads_ok (by simp only [leadsAny, List.any_cons, List.any_nil, RV.leads, RC.leads, leadsT, hasSl_lit, Bool.or_false, flat_ns (eInt_ns _), flat_ns eBool_ns, flat_ns eStr_ns, flat_ns eGJob_ns, flat_ns eGEdge_ns, flat_ns eGAsked_ns, flat_ns eGMsg_ns, flat_ns eGrule_ns, flat_ns eGA199_ns, flat_ns eGA202_ns])), h949, z⟩
      refine cond_some hF (fun h956 hF => ?_) (fun h956 hF => ?_)
      ·
        have hr := Option.some.inj hF
        subst hr
        have pz : HoldAll E H hn6 [.test (beqb r954 true) true, .call 45 [] (Res.mk [(.one (.im (.lit (.bool true))))] []), .test (leadsAny (Res.mk [(.one (.im (.lit (.bool true))))] [])) false, .test r954 true] := ⟨(beqb_t h956), knows45, (leads_ok (by simp only [leadsAny, List.any_cons, List.any_nil, RV.leads, RC.leads, leadsT, hasSl_lit, Bool.or_false, flat_ns (eInt_ns _), flat_ns eBool_ns, flat_ns eStr_ns, flat_ns eGJob_ns, flat_ns eGEdge_ns, flat_ns eGAsked_ns, flat_ns eGMsg_ns, flat_ns eGrule_ns, flat_ns eGA199_ns, flat_ns eGA202_ns])), h956, trivial⟩
        exact fn_playC hn6 (f := 6) (ads := [.one (.lit (.int .i64 a749)), .one (.lit (.int .i64 a750)), .one (.sl (len a751) (flat (eInt .i64) a751)), .one (.sl (len a752) (flat (eInt .i64) a752))]) (r := F6_res true) (pq957 (pq958 (pq962 (pq963 pz)))) (by kernel_rfl) (by kernel_rfl)
      have hr := Option.some.inj hF
      subst hr
      have pz : HoldAll E H hn6 [.test (beqb r954 true) false, .test r954 false] := ⟨(beqb_t h956), h956, trivial⟩
      exact fn_playC hn6 (f := 6) (ads := [.one (.lit (.int .i64 a749)), .one (.lit (.int .i64 a750)), .one (.sl (len a751) (flat (eInt .i64) a751)), .one (.sl (len a752) (flat (eInt .i64) a752))]) (r := F6_res false) (pq957 (pq958 (pq962 (pq963 pz)))) (by kernel_rfl) (by kernel_rfl)
    have hr := Option.some.inj hF
    subst hr
    have pz : HoldAll E H hn6 [.test (beqb r947 true) false, .test (beqb r947 true) false, .test (beqb r947 true) false, .test (beqb r947 true) false, .test (beqb r947 true) false, .test r947 false, .test (beqb false true) false, .test false false] := ⟨(beqb_t h949), (beqb_t h949), (beqb_t h949), (beqb_t h949), (beqb_t h949), h949, (beqb_t rfl), rfl, trivial⟩
    exact fn_playC hn6 (f := 6) (ads := [.one (.lit (.int .i64 a749)), .one (.lit (.int .i64 a750)), .one (.sl (len a751) (flat (eInt .i64) a751)), .one (.sl (len a752) (flat (eInt .i64) a752))]) (r := F6_res false) (pq957 (pq958 (pq962 pz))) (by kernel_rfl) (by kernel_rfl)
  have hr := Option.some.inj hF
  subst hr
  have pz : HoldAll E H hn6 [.int (nlen (len a751)) (nlen (len a751)), .call 41 [.one (.lit (.int .i64 a749)), .one (.lit (.int .i64 a750)), .one (.lit (.int .i64 (nlen (len a751))))] (F41_res r753), .test (beqb (ine r753.2 0) false) false, .test (beqb (ine r753.2 0) false) false, .test (beqb (ine r753.2 0) false) false, .test (ine r753.2 0) true, .test true true, .test (beqb (ine r753.2 0) true) true, .call 45 [] (Res.mk [(.one (.im (.lit (.bool true))))] []), .test (leadsAny (Res.mk [(.one (.im (.lit (.bool true))))] [])) false, .test (ine r753.2 0) true] := ⟨rfl, (F41_ok K a749 a750 (nlen (len a751)) _ h754), (beqb_ft (ine_f h755)), (beqb_ft (ine_f h755)), (beqb_ft (ine_f h755)), (ine_f h755), rfl, (beqb_t (ine_f h755)), knows45, (leads_ok (by simp only [leadsAny, List.any_cons, List.any_nil, RV.leads, RC.leads, leadsT, hasSl_lit, Bool.or_false, flat_ns (eInt_ns _), flat_ns eBool_ns, flat_ns eStr_ns, flat_ns eGJob_ns, flat_ns eGEdge_ns, flat_ns eGAsked_ns, flat_ns eGMsg_ns, flat_ns eGrule_ns, flat_ns eGA199_ns, flat_ns eGA202_ns])), (ine_f h755), trivial⟩
  exact fn_playC hn6 (f := 6) (ads := [.one (.lit (.int .i64 a749)), .one (.lit (.int .i64 a750)), .one (.sl (len a751) (flat (eInt .i64) a751)), .one (.sl (len a752) (flat (eInt .i64) a752))]) (r := F6_res true) pz (by kernel_rfl) (by kernel_rfl)

end Go.Proofs.Ytnjanliihnadjaa.Tm

/- Printed by program: what each function computes, and that the machine answers so. Conditions: none. -/
import Derived.Test.YtnjanliihnadjaaTy
import Derived.Test.YtnjanliihnadjaaTab
import Derived.Test.YtnjanliihnadjaaKn
import Derived.Test.YtnjanliihnadjaaFP
import Derived.Test.YtnjanliihnadjaaFQr
import Derived.KernelRfl
set_option linter.unusedVariables false
set_option linter.unusedSimpArgs false
namespace Go.Proofs.Ytnjanliihnadjaa.Tm
open Go
/-! ### haywain/part.Join -/
noncomputable def hn85 : Hint := { H 85 with nt := 143, prot := 0 }
noncomputable def c85_0 : Code := loopOf E 85 0
noncomputable def c85_1 : Code := loopOf E 85 1
def F85_res (r3737 : GState × Int) : Res := ⟨[(.agg [(.im (.lit (.int .i64 r3737.1.Step))), (.own 2 (.sl (len r3737.1.Vals) (flat (eInt .i64) r3737.1.Vals))), (.own 4 (.sl (len r3737.1.Rest) (flat eBool r3737.1.Rest))), (.own 130 (.sl (len r3737.1.In) (flat eGMsg r3737.1.In)))]), (.one (.im (.lit (.int .i64 r3737.2))))], []⟩
def F85_l0_0 (K : Nat) (a3633 : GGraph) (a3634 : GJob) (a3635 : List GPart) : Nat → Int → Option ((Unit) ⊕ (Unit))
  | 0, _ => none
  | k + 1, v3649 =>
    bif (ilt v3649 (nlen (len a3635))) then
      (bif (inr v3649 (len a3635)) then
      (elAt a3635 v3649).bind fun x3652 =>
      bif (ieq x3652.P v3649) then
        (bif (inr 0 (len a3635)) then
        (elAt a3635 0).bind fun x3656 =>
        bif (ieq x3652.Step x3656.Step) then
          ((F80 K a3633 a3634 x3652).bind fun r3659 =>
          bif r3659 then
            (F85_l0_0 K a3633 a3634 a3635 k (wadd .i64 v3649 1))
          else
          some (.inl ()))
        else
        some (.inl ())
        else none)
      else
      some (.inl ())
      else none)
    else
    some (.inr ())
def F85_l0_0_S (a3633 : GGraph) (a3634 : GJob) (a3635 : List GPart) (v3649 : Int) : TS := .on [128, 129, 192, 193, 194, 256, 257, 258, 259, 260, 384, 385, 386, 387, 388, 1856, 1857, 1920, 1921, 1984, 1985] [(128, ⟨.one, 0, nob⟩), (129, ⟨.im, 0, (.sl (len a3635) (flat eGPart a3635))⟩), (192, ⟨(.box 62 2), 0, nob⟩), (193, ⟨.im, 0, (.lit (.int .i64 a3633.N))⟩), (194, ⟨.im, 0, (.sl (len a3633.Edges) (flat eGEdge a3633.Edges))⟩), (256, ⟨(.box 64 4), 0, nob⟩), (257, ⟨.im, 0, (.lit (.int .i64 a3634.Prog))⟩), (258, ⟨.im, 0, (.lit (.int .i64 a3634.Source))⟩), (259, ⟨.im, 0, (.lit (.int .i64 a3634.Limit))⟩), (260, ⟨.im, 0, (.lit (.int .i64 a3634.Parts))⟩), (384, ⟨(.box 74 4), 0, nob⟩), (385, ⟨.im, 0, (.lit (.int .i64 0))⟩), (386, ⟨(.own 2), 0, (.sl 0 [])⟩), (387, ⟨(.own 4), 0, (.sl 0 [])⟩), (388, ⟨(.own 130), 0, (.sl 0 [])⟩), (1856, ⟨.one, 0, nob⟩), (1857, ⟨.im, 0, (.sl (len a3635) (flat eGPart a3635))⟩), (1920, ⟨.one, 0, nob⟩), (1921, ⟨.im, 0, (.lit (.int .i64 (nlen (len a3635))))⟩), (1984, ⟨.one, 0, nob⟩), (1985, ⟨.im, 0, (.lit (.int .i64 v3649))⟩)]
def F85_l0_0_X0 (a3633 : GGraph) (a3634 : GJob) (a3635 : List GPart) (w3662 : Unit) : TS := .on [384, 385, 386, 387, 388, 448, 449] [(384, ⟨(.box 74 4), 0, nob⟩), (385, ⟨.im, 0, (.lit (.int .i64 0))⟩), (386, ⟨(.own 2), 0, (.sl 0 [])⟩), (387, ⟨(.own 4), 0, (.sl 0 [])⟩), (388, ⟨(.own 130), 0, (.sl 0 [])⟩), (448, ⟨.one, 0, nob⟩), (449, ⟨.im, 0, (.lit (.int .i64 1))⟩)]
def F85_l0_0_X1 (a3633 : GGraph) (a3634 : GJob) (a3635 : List GPart) (w3663 : Unit) : TS := .on [128, 129, 192, 193, 194, 256, 257, 258, 259, 260, 384, 385, 386, 387, 388] [(128, ⟨.one, 0, nob⟩), (129, ⟨.im, 0, (.sl (len a3635) (flat eGPart a3635))⟩), (192, ⟨(.box 62 2), 0, nob⟩), (193, ⟨.im, 0, (.lit (.int .i64 a3633.N))⟩), (194, ⟨.im, 0, (.sl (len a3633.Edges) (flat eGEdge a3633.Edges))⟩), (256, ⟨(.box 64 4), 0, nob⟩), (257, ⟨.im, 0, (.lit (.int .i64 a3634.Prog))⟩), (258, ⟨.im, 0, (.lit (.int .i64 a3634.Source))⟩), (259, ⟨.im, 0, (.lit (.int .i64 a3634.Limit))⟩), (260, ⟨.im, 0, (.lit (.int .i64 a3634.Parts))⟩), (384, ⟨(.box 74 4), 0, nob⟩), (385, ⟨.im, 0, (.lit (.int .i64 0))⟩), (386, ⟨(.own 2), 0, (.sl 0 [])⟩), (387, ⟨(.own 4), 0, (.sl 0 [])⟩), (388, ⟨(.own 130), 0, (.sl 0 [])⟩)]
theorem F85_l0_0_ok (K : Nat) (a3633 : GGraph) (a3634 : GJob) (a3635 : List GPart) : ∀ (k : Nat) (v3649 : Int) (r : (Unit) ⊕ (Unit)), F85_l0_0 K a3633 a3634 a3635 k v3649 = some r → (Sum.elim (fun w => LoopEv E H hn85 0 c85_0 (F85_l0_0_S a3633 a3634 a3635 v3649) .ret (F85_l0_0_X0 a3633 a3634 a3635 w)) (fun w => LoopEv E H hn85 0 c85_0 (F85_l0_0_S a3633 a3634 a3635 v3649) (.exit 0) (F85_l0_0_X1 a3633 a3634 a3635 w))) r := by
  intro k
  induction k with
  | zero => intro v3649 r hF; cases hF
  | succ k ih =>
    intro v3649 r hF
    rw [F85_l0_0] at hF
    refine cond_some hF (fun h3650 hF => ?_) (fun h3650 hF => ?_)
    ·
      refine cond_some hF (fun h3651 hF => ?_) (fun _ hF => nomatch hF)
      refine bind_some hF (fun x3652 h3653 hF => ?_)
      have pq3664 : ∀ {l : List Cond}, HoldAll E H hn85 l → HoldAll E H hn85 (.test (ilt v3649 (nlen (len a3635))) true :: .test (inr v3649 (len a3635)) true :: .sub (flat eGPart a3635) (nidx v3649 5) 5 [(.lit (.int .i64 x3652.P)), (.lit (.int .i64 x3652.Step)), (.sl (len x3652.Vals) (flat (eInt .i64) x3652.Vals)), (.sl (len x3652.Rest) (flat eBool x3652.Rest)), (.sl (len x3652.In) (flat eGMsg x3652.In))] :: l) := fun z => ⟨h3650, h3651, ⟨rfl, sub_flat0 eGPart_len h3653 5 (by decide)⟩, z⟩
      refine cond_some hF (fun h3654 hF => ?_) (fun h3654 hF => ?_)
      ·
        refine cond_some hF (fun h3655 hF => ?_) (fun _ hF => nomatch hF)
        refine bind_some hF (fun x3656 h3657 hF => ?_)
        have pq3665 : ∀ {l : List Cond}, HoldAll E H hn85 l → HoldAll E H hn85 (.test (beqb (ine x3652.P v3649) false) true :: .test (beqb (ine x3652.P v3649) false) true :: .test (beqb (ine x3652.P v3649) false) true :: .test (beqb (ine x3652.P v3649) false) true :: .test (inr 0 (len a3635)) true :: .test (beqb (ine x3652.P v3649) false) true :: .test (beqb (ine x3652.P v3649) false) true :: .sub (flat eGPart a3635) (nadd (nidx 0 5) 1) 1 [(.lit (.int .i64 x3656.Step))] :: .test (beqb (ine x3652.P v3649) false) true :: .test (ine x3652.P v3649) false :: l) := fun z => ⟨(beqb_ff (ine_t h3654)), (beqb_ff (ine_t h3654)), (beqb_ff (ine_t h3654)), (beqb_ff (ine_t h3654)), h3655, (beqb_ff (ine_t h3654)), (beqb_ff (ine_t h3654)), ⟨rfl, sub_flat eGPart_len h3657 1 1 (by decide)⟩, (beqb_ff (ine_t h3654)), (ine_t h3654), z⟩
        refine cond_some hF (fun h3658 hF => ?_) (fun h3658 hF => ?_)
        ·
          refine bind_some hF (fun r3659 h3660 hF => ?_)
          have pq3666 : ∀ {l : List Cond}, HoldAll E H hn85 l → HoldAll E H hn85 (.test (beqb (ine x3652.Step x3656.Step) false) true :: .test (beqb (ine x3652.Step x3656.Step) false) true :: .test (beqb (ine x3652.Step x3656.Step) false) true :: .test (beqb (ine x3652.Step x3656.Step) false) true :: .call 80 [.agg (eGGraph a3633), .agg (eGJob a3634), .agg (eGPart x3652)] (F80_res r3659) :: .test (leadsAny (Res.mk [(.one (.im (.lit (.bool r3659))))] [])) false :: .test (beqb (ine x3652.Step x3656.Step) false) true :: .test (ine x3652.Step x3656.Step) false :: l) := fun z => ⟨(beqb_ff (ine_t h3658)), (beqb_ff (ine_t h3658)), (beqb_ff (ine_t h3658)), (beqb_ff (ine_t h3658)), (F80_ok K a3633 a3634 x3652 _ h3660), (leads_ok (by simp only [leadsAny, List.any_cons, List.any_nil, RV.leads, RC.leads, leadsT, hasSl_lit, Bool.or_false, flat_ns (eInt_ns _), flat_ns eBool_ns, flat_ns eStr_ns, flat_ns eGJob_ns, flat_ns eGEdge_ns, flat_ns eGAsked_ns, flat_ns eGMsg_ns, flat_ns eGrule_ns, flat_ns eGA199_ns, flat_ns eGA202_ns])), (beqb_ff (ine_t h3658)), (ine_t h3658), z⟩
          refine cond_some hF (fun h3661 hF => ?_) (fun h3661 hF => ?_)
          ·
            have pz : HoldAll E H hn85 [.test (bnot r3659) false, .int (wadd .i64 v3649 1) (wadd .i64 v3649 1)] := ⟨(bnot_t h3661), rfl, trivial⟩
            have h0 := ih _ _ hF
            have hn := fun ex ts' => loop_nextC (h := hn85) (l := 0) (c := c85_0) (ts := F85_l0_0_S a3633 a3634 a3635 v3649) (ts1 := (F85_l0_0_S a3633 a3634 a3635 (wadd .i64 v3649 1))) (ex := ex) (ts' := ts') (pq3664 (pq3665 (pq3666 pz))) (by kernel_rfl)
            cases r with
            | inl w => exact hn _ _ h0
            | inr w => exact hn _ _ h0
          have hr := Option.some.inj hF
          subst hr
          have pz : HoldAll E H hn85 [.test (bnot r3659) true] := ⟨(bnot_f h3661), trivial⟩
          exact loop_endC (h := hn85) (l := 0) (c := c85_0) (ts := F85_l0_0_S a3633 a3634 a3635 v3649) (ts' := F85_l0_0_X0 a3633 a3634 a3635 ()) (ex := .ret) (pq3664 (pq3665 (pq3666 pz))) (by kernel_rfl) trivial
        have hr := Option.some.inj hF
        subst hr
        have pz : HoldAll E H hn85 [.test (beqb (ine x3652.Step x3656.Step) false) false, .test (beqb (ine x3652.Step x3656.Step) false) false, .test (beqb (ine x3652.Step x3656.Step) false) false, .test (beqb (ine x3652.Step x3656.Step) false) false, .test (beqb (ine x3652.Step x3656.Step) false) false, .test (ine x3652.Step x3656.Step) true, .test true true] := ⟨(beqb_ft (ine_f h3658)), (beqb_ft (ine_f h3658)), (beqb_ft (ine_f h3658)), (beqb_ft (ine_f h3658)), (beqb_ft (ine_f h3658)), (ine_f h3658), rfl, trivial⟩
        exact loop_endC (h := hn85) (l := 0) (c := c85_0) (ts := F85_l0_0_S a3633 a3634 a3635 v3649) (ts' := F85_l0_0_X0 a3633 a3634 a3635 ()) (ex := .ret) (pq3664 (pq3665 pz)) (by kernel_rfl) trivial
      have hr := Option.some.inj hF
      subst hr
      have pz : HoldAll E H hn85 [.test (beqb (ine x3652.P v3649) false) false, .test (beqb (ine x3652.P v3649) false) false, .test (beqb (ine x3652.P v3649) false) false, .test (beqb (ine x3652.P v3649) false) false, .test (beqb (ine x3652.P v3649) false) false, .test (beqb (ine x3652.P v3649) false) false, .test (beqb (ine x3652.P v3649) false) false, .test (ine x3652.P v3649) true, .test (beqb true false) false, .test (beqb true false) false, .test (beqb true false) false, .test (beqb true false) false, .test (beqb true false) false, .test true true, .test true true] := ⟨(beqb_ft (ine_f h3654)), (beqb_ft (ine_f h3654)), (beqb_ft (ine_f h3654)), (beqb_ft (ine_f h3654)), (beqb_ft (ine_f h3654)), (beqb_ft (ine_f h3654)), (beqb_ft (ine_f h3654)), (ine_f h3654), (beqb_ft rfl), (beqb_ft rfl), (beqb_ft rfl), (beqb_ft rfl), (beqb_ft rfl), rfl, rfl, trivial⟩
      exact loop_endC (h := hn85) (l := 0) (c := c85_0) (ts := F85_l0_0_S a3633 a3634 a3635 v3649) (ts' := F85_l0_0_X0 a3633 a3634 a3635 ()) (ex := .ret) (pq3664 pz) (by kernel_rfl) trivial
    have hr := Option.some.inj hF
    subst hr
    have pz : HoldAll E H hn85 [.test (ilt v3649 (nlen (len a3635))) false] := ⟨h3650, trivial⟩
    exact loop_endC (h := hn85) (l := 0) (c := c85_0) (ts := F85_l0_0_S a3633 a3634 a3635 v3649) (ts' := F85_l0_0_X1 a3633 a3634 a3635 ()) (ex := (.exit 0)) pz (by kernel_rfl) trivial

def F85_l1_1 (K : Nat) (a3633 : GGraph) (a3634 : GJob) (a3635 : List GPart) (x3672 : GPart) : Nat → List Int → List Bool → List GMsg → List Int → Int → Option (List Int × List Bool × List GMsg)
  | 0, _, _, _, _, _ => none
  | k + 1, v3697, v3698, v3699, v3700, v3701 =>
    bif (ilt v3701 a3633.N) then
      (bif (izero a3634.Parts) then none else
      bif (inr (wrem v3701 a3634.Parts) (len a3635)) then
      (elAt a3635 (wrem v3701 a3634.Parts)).bind fun x3705 =>
      bif (inr (wquo .i64 v3701 a3634.Parts) (len x3705.Vals)) then
      (elAt x3705.Vals (wquo .i64 v3701 a3634.Parts)).bind fun x3708 =>
      bif (apok (len v3697) 1 8) then
      bif (inr (wquo .i64 v3701 a3634.Parts) (len x3705.Rest)) then
      (elAt x3705.Rest (wquo .i64 v3701 a3634.Parts)).bind fun x3712 =>
      bif (apok (len v3698) 1 1) then
      bif (inr x3705.P (len v3700)) then
      (elAt v3700 x3705.P).bind fun x3716 =>
      bif (ilt x3716 (nlen (len x3705.In))) then
        (bif (inr x3716 (len x3705.In)) then
        (elAt x3705.In x3716).bind fun x3720 =>
        bif (ieq x3720.To v3701) then
          (bif (apok (len v3699) 1 16) then
          F85_l1_1 K a3633 a3634 a3635 x3672 k (appL v3697 [x3708]) (appL v3698 [x3712]) (appL v3699 [x3720]) (putAt v3700 x3705.P (wadd .i64 x3716 1)) (wadd .i64 v3701 1)
          else none)
        else
        F85_l1_1 K a3633 a3634 a3635 x3672 k (appL v3697 [x3708]) (appL v3698 [x3712]) v3699 v3700 (wadd .i64 v3701 1)
        else none)
      else
      F85_l1_1 K a3633 a3634 a3635 x3672 k (appL v3697 [x3708]) (appL v3698 [x3712]) v3699 v3700 (wadd .i64 v3701 1)
      else none
      else none
      else none
      else none
      else none
      else none)
    else
    some (v3697, (v3698, v3699))
def F85_l1_1_S (a3633 : GGraph) (a3634 : GJob) (a3635 : List GPart) (x3672 : GPart) (v3697 : List Int) (v3698 : List Bool) (v3699 : List GMsg) (v3700 : List Int) (v3701 : Int) : TS := .on [128, 129, 256, 257, 258, 259, 260, 384, 385, 386, 387, 388, 704, 705, 706, 707, 708, 768, 769, 4288, 4289, 4352, 4353] [(128, ⟨.one, 0, nob⟩), (129, ⟨.im, 0, (.sl (len a3635) (flat eGPart a3635))⟩), (256, ⟨(.box 64 4), 0, nob⟩), (257, ⟨.im, 0, (.lit (.int .i64 a3634.Prog))⟩), (258, ⟨.im, 0, (.lit (.int .i64 a3634.Source))⟩), (259, ⟨.im, 0, (.lit (.int .i64 a3634.Limit))⟩), (260, ⟨.im, 0, (.lit (.int .i64 a3634.Parts))⟩), (384, ⟨(.box 74 4), 0, nob⟩), (385, ⟨.im, 0, (.lit (.int .i64 0))⟩), (386, ⟨(.own 2), 0, (.sl 0 [])⟩), (387, ⟨(.own 4), 0, (.sl 0 [])⟩), (388, ⟨(.own 130), 0, (.sl 0 [])⟩), (704, ⟨(.box 74 4), 0, nob⟩), (705, ⟨.im, 0, (.lit (.int .i64 x3672.Step))⟩), (706, ⟨(.own 2), 0, (.sl (len v3697) (flat (eInt .i64) v3697))⟩), (707, ⟨(.own 4), 0, (.sl (len v3698) (flat eBool v3698))⟩), (708, ⟨(.own 130), 0, (.sl (len v3699) (flat eGMsg v3699))⟩), (768, ⟨.one, 0, nob⟩), (769, ⟨(.own 3), 0, (.sl (len v3700) (flat (eInt .i64) v3700))⟩), (4288, ⟨.one, 0, nob⟩), (4289, ⟨.im, 0, (.lit (.int .i64 a3633.N))⟩), (4352, ⟨.one, 0, nob⟩), (4353, ⟨.im, 0, (.lit (.int .i64 v3701))⟩)]
def F85_l1_1_X0 (a3633 : GGraph) (a3634 : GJob) (a3635 : List GPart) (x3672 : GPart) (w3724 : List Int × List Bool × List GMsg) : TS := .on [384, 385, 386, 387, 388, 704, 705, 706, 707, 708] [(384, ⟨(.box 74 4), 0, nob⟩), (385, ⟨.im, 0, (.lit (.int .i64 0))⟩), (386, ⟨(.own 2), 0, (.sl 0 [])⟩), (387, ⟨(.own 4), 0, (.sl 0 [])⟩), (388, ⟨(.own 130), 0, (.sl 0 [])⟩), (704, ⟨(.box 74 4), 0, nob⟩), (705, ⟨.im, 0, (.lit (.int .i64 x3672.Step))⟩), (706, ⟨(.own 2), 0, (.sl (len w3724.1) (flat (eInt .i64) w3724.1))⟩), (707, ⟨(.own 4), 0, (.sl (len w3724.2.1) (flat eBool w3724.2.1))⟩), (708, ⟨(.own 130), 0, (.sl (len w3724.2.2) (flat eGMsg w3724.2.2))⟩)]
theorem F85_l1_1_ok (K : Nat) (a3633 : GGraph) (a3634 : GJob) (a3635 : List GPart) (x3672 : GPart) : ∀ (k : Nat) (v3697 : List Int) (v3698 : List Bool) (v3699 : List GMsg) (v3700 : List Int) (v3701 : Int) (r : List Int × List Bool × List GMsg), F85_l1_1 K a3633 a3634 a3635 x3672 k v3697 v3698 v3699 v3700 v3701 = some r → LoopEv E H hn85 2 c85_1 (F85_l1_1_S a3633 a3634 a3635 x3672 v3697 v3698 v3699 v3700 v3701) (.exit 2) (F85_l1_1_X0 a3633 a3634 a3635 x3672 r) := by
  intro k
  induction k with
  | zero => intro v3697 v3698 v3699 v3700 v3701 r hF; cases hF
  | succ k ih =>
    intro v3697 v3698 v3699 v3700 v3701 r hF
    rw [F85_l1_1] at hF
    refine cond_some hF (fun h3702 hF => ?_) (fun h3702 hF => ?_)
    ·
      refine cond_some hF (fun _ hF => nomatch hF) (fun h3703 hF => ?_)
      refine cond_some hF (fun h3704 hF => ?_) (fun _ hF => nomatch hF)
      refine bind_some hF (fun x3705 h3706 hF => ?_)
      refine cond_some hF (fun h3707 hF => ?_) (fun _ hF => nomatch hF)
      refine bind_some hF (fun x3708 h3709 hF => ?_)
      refine cond_some hF (fun h3710 hF => ?_) (fun _ hF => nomatch hF)
      refine cond_some hF (fun h3711 hF => ?_) (fun _ hF => nomatch hF)
      refine bind_some hF (fun x3712 h3713 hF => ?_)
      refine cond_some hF (fun h3714 hF => ?_) (fun _ hF => nomatch hF)
      refine cond_some hF (fun h3715 hF => ?_) (fun _ hF => nomatch hF)
      refine bind_some hF (fun x3716 h3717 hF => ?_)
      have pq3728 : ∀ {l : List Cond}, HoldAll E H hn85 l → HoldAll E H hn85 (.test (ilt v3701 a3633.N) true :: .test (izero a3634.Parts) false :: .int (wrem v3701 a3634.Parts) (wrem v3701 a3634.Parts) :: .test (inr (wrem v3701 a3634.Parts) (len a3635)) true :: .sub (flat eGPart a3635) (nidx (wrem v3701 a3634.Parts) 5) 5 [(.lit (.int .i64 x3705.P)), (.lit (.int .i64 x3705.Step)), (.sl (len x3705.Vals) (flat (eInt .i64) x3705.Vals)), (.sl (len x3705.Rest) (flat eBool x3705.Rest)), (.sl (len x3705.In) (flat eGMsg x3705.In))] :: .test (izero a3634.Parts) false :: .int (wquo .i64 v3701 a3634.Parts) (wquo .i64 v3701 a3634.Parts) :: .test (inr (wquo .i64 v3701 a3634.Parts) (len x3705.Vals)) true :: .sub (flat (eInt .i64) x3705.Vals) (nidx (wquo .i64 v3701 a3634.Parts) 1) 1 [(.lit (.int .i64 x3708))] :: .test (leqm [(.lit (.int .i64 x3708))] 1 1) true :: .test (apok (len v3697) 1 8) true :: .sl (nadd (len v3697) 1) (lapp (flat (eInt .i64) v3697) [(.lit (.int .i64 x3708))]) (len (α := Int) (appL v3697 [x3708])) (flat (eInt .i64) (appL v3697 [x3708])) :: .test (izero a3634.Parts) false :: .int (wquo .i64 v3701 a3634.Parts) (wquo .i64 v3701 a3634.Parts) :: .test (inr (wquo .i64 v3701 a3634.Parts) (len x3705.Rest)) true :: .sub (flat eBool x3705.Rest) (nidx (wquo .i64 v3701 a3634.Parts) 1) 1 [(.lit (.bool x3712))] :: .test (leqm [(.lit (.bool x3712))] 1 1) true :: .test (apok (len v3698) 1 1) true :: .sl (nadd (len v3698) 1) (lapp (flat eBool v3698) [(.lit (.bool x3712))]) (len (α := Bool) (appL v3698 [x3712])) (flat eBool (appL v3698 [x3712])) :: .test (inr x3705.P (len v3700)) true :: .sub (flat (eInt .i64) v3700) (nidx x3705.P 1) 1 [(.lit (.int .i64 x3716))] :: .int (nlen (len x3705.In)) (nlen (len x3705.In)) :: l) := fun z => ⟨h3702, h3703, rfl, h3704, ⟨rfl, sub_flat0 eGPart_len h3706 5 (by decide)⟩, h3703, rfl, h3707, ⟨rfl, sub_flat0 (eInt_len _) h3709 1 (by decide)⟩, rfl, h3710, (app_ok (enc := (eInt .i64)) (v3697 : List Int) [x3708]), h3703, rfl, h3711, ⟨rfl, sub_flat0 eBool_len h3713 1 (by decide)⟩, rfl, h3714, (app_ok (enc := eBool) (v3698 : List Bool) [x3712]), h3715, ⟨rfl, sub_flat0 (eInt_len _) h3717 1 (by decide)⟩, rfl, z⟩
      refine cond_some hF (fun h3718 hF => ?_) (fun h3718 hF => ?_)
      ·
        refine cond_some hF (fun h3719 hF => ?_) (fun _ hF => nomatch hF)
        refine bind_some hF (fun x3720 h3721 hF => ?_)
        have pq3729 : ∀ {l : List Cond}, HoldAll E H hn85 l → HoldAll E H hn85 (.test (beqb (ilt x3716 (nlen (len x3705.In))) true) true :: .test (beqb (ilt x3716 (nlen (len x3705.In))) true) true :: .test (beqb (ilt x3716 (nlen (len x3705.In))) true) true :: .test (beqb (ilt x3716 (nlen (len x3705.In))) true) true :: .test (inr x3716 (len x3705.In)) true :: .test (beqb (ilt x3716 (nlen (len x3705.In))) true) true :: .test (beqb (ilt x3716 (nlen (len x3705.In))) true) true :: .sub (flat eGMsg x3705.In) (nadd (nidx x3716 2) 0) 1 [(.lit (.int .i64 x3720.To))] :: .test (beqb (ilt x3716 (nlen (len x3705.In))) true) true :: .test (beqb (ilt x3716 (nlen (len x3705.In))) true) true :: .test (ilt x3716 (nlen (len x3705.In))) true :: l) := fun z => ⟨(beqb_t h3718), (beqb_t h3718), (beqb_t h3718), (beqb_t h3718), h3719, (beqb_t h3718), (beqb_t h3718), ⟨rfl, sub_flat eGMsg_len h3721 0 1 (by decide)⟩, (beqb_t h3718), (beqb_t h3718), h3718, z⟩
        refine cond_some hF (fun h3722 hF => ?_) (fun h3722 hF => ?_)
        ·
          refine cond_some hF (fun h3723 hF => ?_) (fun _ hF => nomatch hF)
          have pz : HoldAll E H hn85 [.test (ieq x3720.To v3701) true, .test (inr x3716 (len x3705.In)) true, .sub (flat eGMsg x3705.In) (nidx x3716 2) 2 [(.lit (.int .i64 x3720.To)), (.lit (.int .i64 x3720.V))], .test (leqm [(.lit (.int .i64 x3720.To)), (.lit (.int .i64 x3720.V))] 1 2) true, .test (apok (len v3699) 1 16) true, .sl (nadd (len v3699) 1) (lapp (flat eGMsg v3699) [(.lit (.int .i64 x3720.To)), (.lit (.int .i64 x3720.V))]) (len (α := GMsg) (appL v3699 [x3720])) (flat eGMsg (appL v3699 [x3720])), .test (inr x3705.P (len v3700)) true, .sub (flat (eInt .i64) v3700) (nidx x3705.P 1) 1 [(.lit (.int .i64 x3716))], .int (wadd .i64 x3716 1) (wadd .i64 x3716 1), .test (inr x3705.P (len v3700)) true, .test (lfits (nidx x3705.P 1) 1 (flat (eInt .i64) v3700)) true, .sl (len v3700) (lset (flat (eInt .i64) v3700) (nidx x3705.P 1) [(.lit (.int .i64 (wadd .i64 x3716 1)))]) (len (α := Int) (putAt v3700 x3705.P (wadd .i64 x3716 1))) (flat (eInt .i64) (putAt v3700 x3705.P (wadd .i64 x3716 1))), .int (wadd .i64 v3701 1) (wadd .i64 v3701 1)] := ⟨h3722, h3719, ⟨rfl, sub_flat0 eGMsg_len h3721 2 (by decide)⟩, rfl, h3723, (app_ok (enc := eGMsg) (v3699 : List GMsg) [x3720]), h3715, ⟨rfl, sub_flat0 (eInt_len _) h3717 1 (by decide)⟩, rfl, h3715, (lfits_flat0 (eInt_len _) h3717 _ (by decide)), (set_ok0 (eInt_len _) h3717 _ (by simp) rfl), rfl, trivial⟩
          have h0 := ih _ _ _ _ _ _ hF
          have hn := fun ex ts' => loop_nextC (h := hn85) (l := 2) (c := c85_1) (ts := F85_l1_1_S a3633 a3634 a3635 x3672 v3697 v3698 v3699 v3700 v3701) (ts1 := (F85_l1_1_S a3633 a3634 a3635 x3672 (appL v3697 [x3708]) (appL v3698 [x3712]) (appL v3699 [x3720]) (putAt v3700 x3705.P (wadd .i64 x3716 1)) (wadd .i64 v3701 1))) (ex := ex) (ts' := ts') (pq3728 (pq3729 pz)) (by kernel_rfl)
          exact hn _ _ h0
        have pz : HoldAll E H hn85 [.test (ieq x3720.To v3701) false, .int (wadd .i64 v3701 1) (wadd .i64 v3701 1)] := ⟨h3722, rfl, trivial⟩
        have h0 := ih _ _ _ _ _ _ hF
        have hn := fun ex ts' => loop_nextC (h := hn85) (l := 2) (c := c85_1) (ts := F85_l1_1_S a3633 a3634 a3635 x3672 v3697 v3698 v3699 v3700 v3701) (ts1 := (F85_l1_1_S a3633 a3634 a3635 x3672 (appL v3697 [x3708]) (appL v3698 [x3712]) v3699 v3700 (wadd .i64 v3701 1))) (ex := ex) (ts' := ts') (pq3728 (pq3729 pz)) (by kernel_rfl)
        exact hn _ _ h0
      have pz : HoldAll E H hn85 [.test (beqb (ilt x3716 (nlen (len x3705.In))) true) false, .test (beqb (ilt x3716 (nlen (len x3705.In))) true) false, .test (beqb (ilt x3716 (nlen (len x3705.In))) true) false, .test (beqb (ilt x3716 (nlen (len x3705.In))) true) false, .test (beqb (ilt x3716 (nlen (len x3705.In))) true) false, .test (beqb (ilt x3716 (nlen (len x3705.In))) true) false, .test (beqb (ilt x3716 (nlen (len x3705.In))) true) false, .test (beqb (ilt x3716 (nlen (len x3705.In))) true) false, .test (ilt x3716 (nlen (len x3705.In))) false, .test false false, .int (wadd .i64 v3701 1) (wadd .i64 v3701 1)] := ⟨(beqb_t h3718), (beqb_t h3718), (beqb_t h3718), (beqb_t h3718), (beqb_t h3718), (beqb_t h3718), (beqb_t h3718), (beqb_t h3718), h3718, rfl, rfl, trivial⟩
      have h0 := ih _ _ _ _ _ _ hF
      have hn := fun ex ts' => loop_nextC (h := hn85) (l := 2) (c := c85_1) (ts := F85_l1_1_S a3633 a3634 a3635 x3672 v3697 v3698 v3699 v3700 v3701) (ts1 := (F85_l1_1_S a3633 a3634 a3635 x3672 (appL v3697 [x3708]) (appL v3698 [x3712]) v3699 v3700 (wadd .i64 v3701 1))) (ex := ex) (ts' := ts') (pq3728 pz) (by kernel_rfl)
      exact hn _ _ h0
    have hr := Option.some.inj hF
    subst hr
    have pz : HoldAll E H hn85 [.test (ilt v3701 a3633.N) false] := ⟨h3702, trivial⟩
    exact loop_endC (h := hn85) (l := 2) (c := c85_1) (ts := F85_l1_1_S a3633 a3634 a3635 x3672 v3697 v3698 v3699 v3700 v3701) (ts' := F85_l1_1_X0 a3633 a3634 a3635 x3672 (v3697, (v3698, v3699))) (ex := (.exit 2)) pz (by kernel_rfl) trivial

def F85 (K : Nat) (a3633 : GGraph) (a3634 : GJob) (a3635 : List GPart) : Option (GState × Int) :=
  (F94 K a3633 a3634).bind fun r3636 =>
  bif (ieq r3636 0) then
    (bif (ieq (nlen (len a3635)) a3634.Parts) then
      ((F85_l0_0 K a3633 a3634 a3635 K 0).bind fun y3668 =>
      Sum.elim (fun w3669 =>
        some ((GState.mk 0 [] [] []), 1))
        (fun w3670 =>
        bif (inr 0 (len a3635)) then
        (elAt a3635 0).bind fun x3672 =>
        bif (mkok a3634.Parts a3634.Parts 8) then
        (F85_l1_1 K a3633 a3634 a3635 x3672 K [] [] [] (repL (α := Int) a3634.Parts 0) 0).bind fun w3732 =>
        some ((GState.mk x3672.Step w3732.1 w3732.2.1 w3732.2.2), 0)
        else none
        else none) y3668)
    else
    some ((GState.mk 0 [] [] []), 1))
  else
  some ((GState.mk 0 [] [] []), r3636)
theorem F85_ok (K : Nat) (a3633 : GGraph) (a3634 : GJob) (a3635 : List GPart) (r : GState × Int) (hF : F85 K a3633 a3634 a3635 = some r) : Evt E H 85 [.agg (eGGraph a3633), .agg (eGJob a3634), .one (.sl (len a3635) (flat eGPart a3635))] (F85_res r) := by
  rw [F85] at hF
  refine bind_some hF (fun r3636 h3637 hF => ?_)
  refine cond_some hF (fun h3638 hF => ?_) (fun h3638 hF => ?_)
  ·
    have pq3736 : ∀ {l : List Cond}, HoldAll E H hn85 l → HoldAll E H hn85 (.call 94 [.agg (eGGraph a3633), .agg (eGJob a3634)] (F94_res r3636) :: .test (leadsAny (Res.mk [(.one (.im (.lit (.int .i64 r3636))))] [])) false :: .test (ine r3636 0) false :: .int (nlen (len a3635)) (nlen (len a3635)) :: l) := fun z => ⟨(F94_ok K a3633 a3634 _ h3637), (leads_ok (by simp only [leadsAny, List.any_cons, List.any_nil, RV.leads, RC.leads, leadsT, hasSl_lit, Bool.or_false, flat_ns (eInt_ns _), flat_ns eBool_ns, flat_ns eStr_ns, flat_ns eGJob_ns, flat_ns eGEdge_ns, flat_ns eGAsked_ns, flat_ns eGMsg_ns, flat_ns eGrule_ns, flat_ns eGA199_ns, flat_ns eGA202_ns])), (ine_t h3638), rfl, z⟩
    refine cond_some hF (fun h3639 hF => ?_) (fun h3639 hF => ?_)
    ·
      refine bind_some hF (fun y3668 h3667 hF => ?_)
      refine sum_some hF (fun w3669 hx hF => ?_) (fun w3670 hx hF => ?_)
      ·
        subst hx
        have hr := Option.some.inj hF
        subst hr
        have pz : HoldAll E H hn85 [.test (ine (nlen (len a3635)) a3634.Parts) false, .int (nlen (len a3635)) (nlen (len a3635)), .loop 0 c85_0 (F85_l0_0_S a3633 a3634 a3635 0) .ret (F85_l0_0_X0 a3633 a3634 a3635 w3669)] := ⟨(ine_t h3639), rfl, (F85_l0_0_ok K a3633 a3634 a3635 K 0 _ h3667), trivial⟩
        exact fn_playC hn85 (f := 85) (ads := [.agg (eGGraph a3633), .agg (eGJob a3634), .one (.sl (len a3635) (flat eGPart a3635))]) (r := F85_res ((GState.mk 0 [] [] []), 1)) (pq3736 pz) (by kernel_rfl) (by kernel_rfl)
      subst hx
      refine cond_some hF (fun h3671 hF => ?_) (fun _ hF => nomatch hF)
      refine bind_some hF (fun x3672 h3673 hF => ?_)
      refine cond_some hF (fun h3674 hF => ?_) (fun _ hF => nomatch hF)
      refine bind_some hF (fun w3732 h3730 hF => ?_)
      have hr := Option.some.inj hF
      subst hr
      have pz : HoldAll E H hn85 [.test (ine (nlen (len a3635)) a3634.Parts) false, .int (nlen (len a3635)) (nlen (len a3635)), .loop 0 c85_0 (F85_l0_0_S a3633 a3634 a3635 0) (.exit 0) (F85_l0_0_X1 a3633 a3634 a3635 w3670), .test (inr 0 (len a3635)) true, .sub (flat eGPart a3635) (nadd (nidx 0 5) 1) 1 [(.lit (.int .i64 x3672.Step))], .test (mkok a3634.Parts a3634.Parts 8) true, .sl (nint a3634.Parts) (lrep a3634.Parts [(.lit (.int .i64 0))]) (len (α := Int) (repL (α := Int) a3634.Parts 0)) (flat (eInt .i64) (repL (α := Int) a3634.Parts 0)), .loop 2 c85_1 (F85_l1_1_S a3633 a3634 a3635 x3672 [] [] [] (repL (α := Int) a3634.Parts 0) 0) (.exit 2) (F85_l1_1_X0 a3633 a3634 a3635 x3672 w3732)] := ⟨(ine_t h3639), rfl, (F85_l0_0_ok K a3633 a3634 a3635 K 0 _ h3667), h3671, ⟨rfl, sub_flat eGPart_len h3673 1 1 (by decide)⟩, h3674, (rep_okC (enc := (eInt .i64)) (n := a3634.Parts) (x := 0) rfl), (F85_l1_1_ok K a3633 a3634 a3635 x3672 K [] [] [] (repL (α := Int) a3634.Parts 0) 0 _ h3730), trivial⟩
      exact fn_playC hn85 (f := 85) (ads := [.agg (eGGraph a3633), .agg (eGJob a3634), .one (.sl (len a3635) (flat eGPart a3635))]) (r := F85_res ((GState.mk x3672.Step w3732.1 w3732.2.1 w3732.2.2), 0)) (pq3736 pz) (by kernel_rfl) (by kernel_rfl)
    have hr := Option.some.inj hF
    subst hr
    have pz : HoldAll E H hn85 [.test (ine (nlen (len a3635)) a3634.Parts) true] := ⟨(ine_f h3639), trivial⟩
    exact fn_playC hn85 (f := 85) (ads := [.agg (eGGraph a3633), .agg (eGJob a3634), .one (.sl (len a3635) (flat eGPart a3635))]) (r := F85_res ((GState.mk 0 [] [] []), 1)) (pq3736 pz) (by kernel_rfl) (by kernel_rfl)
  have hr := Option.some.inj hF
  subst hr
  have pz : HoldAll E H hn85 [.call 94 [.agg (eGGraph a3633), .agg (eGJob a3634)] (F94_res r3636), .test (leadsAny (Res.mk [(.one (.im (.lit (.int .i64 r3636))))] [])) false, .test (ine r3636 0) true] := ⟨(F94_ok K a3633 a3634 _ h3637), (leads_ok (by simp only [leadsAny, List.any_cons, List.any_nil, RV.leads, RC.leads, leadsT, hasSl_lit, Bool.or_false, flat_ns (eInt_ns _), flat_ns eBool_ns, flat_ns eStr_ns, flat_ns eGJob_ns, flat_ns eGEdge_ns, flat_ns eGAsked_ns, flat_ns eGMsg_ns, flat_ns eGrule_ns, flat_ns eGA199_ns, flat_ns eGA202_ns])), (ine_f h3638), trivial⟩
  exact fn_playC hn85 (f := 85) (ads := [.agg (eGGraph a3633), .agg (eGJob a3634), .one (.sl (len a3635) (flat eGPart a3635))]) (r := F85_res ((GState.mk 0 [] [] []), r3636)) pz (by kernel_rfl) (by kernel_rfl)

/-! ### haywain/haywainref07.Join -/
noncomputable def hn86 : Hint := { H 86 with nt := 133, prot := 0 }
noncomputable def c86_0 : Code := loopOf E 86 0
noncomputable def c86_1 : Code := loopOf E 86 1
noncomputable def c86_2 : Code := loopOf E 86 2
def F86_res (r3864 : GState × Int) : Res := ⟨[(.agg [(.im (.lit (.int .i64 r3864.1.Step))), (.own 2 (.sl (len r3864.1.Vals) (flat (eInt .i64) r3864.1.Vals))), (.own 4 (.sl (len r3864.1.Rest) (flat eBool r3864.1.Rest))), (.own 130 (.sl (len r3864.1.In) (flat eGMsg r3864.1.In)))]), (.one (.im (.lit (.int .i64 r3864.2))))], []⟩
def F86_l0_0 (K : Nat) (a3740 : GGraph) (a3741 : GJob) (a3742 : List GPart) : Nat → Int → Option ((Unit) ⊕ (Unit))
  | 0, _ => none
  | k + 1, v3756 =>
    bif (ilt v3756 (nlen (len a3742))) then
      (bif (inr v3756 (len a3742)) then
      (elAt a3742 v3756).bind fun x3759 =>
      bif (ieq x3759.P v3756) then
        (bif (inr 0 (len a3742)) then
        (elAt a3742 0).bind fun x3763 =>
        bif (ieq x3759.Step x3763.Step) then
          ((F81 K a3740 a3741 x3759).bind fun r3766 =>
          bif r3766 then
            (F86_l0_0 K a3740 a3741 a3742 k (wadd .i64 v3756 1))
          else
          some (.inl ()))
        else
        some (.inl ())
        else none)
      else
      some (.inl ())
      else none)
    else
    some (.inr ())
def F86_l0_0_S (a3740 : GGraph) (a3741 : GJob) (a3742 : List GPart) (v3756 : Int) : TS := .on [128, 129, 192, 193, 194, 256, 257, 258, 259, 260, 384, 385, 386, 387, 388, 576, 577] [(128, ⟨.one, 0, nob⟩), (129, ⟨.im, 0, (.sl (len a3742) (flat eGPart a3742))⟩), (192, ⟨(.box 62 2), 0, nob⟩), (193, ⟨.im, 0, (.lit (.int .i64 a3740.N))⟩), (194, ⟨.im, 0, (.sl (len a3740.Edges) (flat eGEdge a3740.Edges))⟩), (256, ⟨(.box 64 4), 0, nob⟩), (257, ⟨.im, 0, (.lit (.int .i64 a3741.Prog))⟩), (258, ⟨.im, 0, (.lit (.int .i64 a3741.Source))⟩), (259, ⟨.im, 0, (.lit (.int .i64 a3741.Limit))⟩), (260, ⟨.im, 0, (.lit (.int .i64 a3741.Parts))⟩), (384, ⟨(.box 74 4), 0, nob⟩), (385, ⟨.im, 0, (.lit (.int .i64 0))⟩), (386, ⟨(.own 2), 0, (.sl 0 [])⟩), (387, ⟨(.own 4), 0, (.sl 0 [])⟩), (388, ⟨(.own 130), 0, (.sl 0 [])⟩), (576, ⟨.one, 0, nob⟩), (577, ⟨.im, 0, (.lit (.int .i64 v3756))⟩)]
def F86_l0_0_X0 (a3740 : GGraph) (a3741 : GJob) (a3742 : List GPart) (w3769 : Unit) : TS := .on [384, 385, 386, 387, 388, 448, 449] [(384, ⟨(.box 74 4), 0, nob⟩), (385, ⟨.im, 0, (.lit (.int .i64 0))⟩), (386, ⟨(.own 2), 0, (.sl 0 [])⟩), (387, ⟨(.own 4), 0, (.sl 0 [])⟩), (388, ⟨(.own 130), 0, (.sl 0 [])⟩), (448, ⟨.one, 0, nob⟩), (449, ⟨.im, 0, (.lit (.int .i64 1))⟩)]
def F86_l0_0_X1 (a3740 : GGraph) (a3741 : GJob) (a3742 : List GPart) (w3770 : Unit) : TS := .on [128, 129, 192, 193, 194, 256, 257, 258, 259, 260, 384, 385, 386, 387, 388] [(128, ⟨.one, 0, nob⟩), (129, ⟨.im, 0, (.sl (len a3742) (flat eGPart a3742))⟩), (192, ⟨(.box 62 2), 0, nob⟩), (193, ⟨.im, 0, (.lit (.int .i64 a3740.N))⟩), (194, ⟨.im, 0, (.sl (len a3740.Edges) (flat eGEdge a3740.Edges))⟩), (256, ⟨(.box 64 4), 0, nob⟩), (257, ⟨.im, 0, (.lit (.int .i64 a3741.Prog))⟩), (258, ⟨.im, 0, (.lit (.int .i64 a3741.Source))⟩), (259, ⟨.im, 0, (.lit (.int .i64 a3741.Limit))⟩), (260, ⟨.im, 0, (.lit (.int .i64 a3741.Parts))⟩), (384, ⟨(.box 74 4), 0, nob⟩), (385, ⟨.im, 0, (.lit (.int .i64 0))⟩), (386, ⟨(.own 2), 0, (.sl 0 [])⟩), (387, ⟨(.own 4), 0, (.sl 0 [])⟩), (388, ⟨(.own 130), 0, (.sl 0 [])⟩)]
theorem F86_l0_0_ok (K : Nat) (a3740 : GGraph) (a3741 : GJob) (a3742 : List GPart) : ∀ (k : Nat) (v3756 : Int) (r : (Unit) ⊕ (Unit)), F86_l0_0 K a3740 a3741 a3742 k v3756 = some r → (Sum.elim (fun w => LoopEv E H hn86 0 c86_0 (F86_l0_0_S a3740 a3741 a3742 v3756) .ret (F86_l0_0_X0 a3740 a3741 a3742 w)) (fun w => LoopEv E H hn86 0 c86_0 (F86_l0_0_S a3740 a3741 a3742 v3756) (.exit 0) (F86_l0_0_X1 a3740 a3741 a3742 w))) r := by
  intro k
  induction k with
  | zero => intro v3756 r hF; cases hF
  | succ k ih =>
    intro v3756 r hF
    rw [F86_l0_0] at hF
    refine cond_some hF (fun h3757 hF => ?_) (fun h3757 hF => ?_)
    ·
      refine cond_some hF (fun h3758 hF => ?_) (fun _ hF => nomatch hF)
      refine bind_some hF (fun x3759 h3760 hF => ?_)
      have pq3771 : ∀ {l : List Cond}, HoldAll E H hn86 l → HoldAll E H hn86 (.int (nlen (len a3742)) (nlen (len a3742)) :: .test (ilt v3756 (nlen (len a3742))) true :: .test (inr v3756 (len a3742)) true :: .sub (flat eGPart a3742) (nadd (nidx v3756 5) 0) 1 [(.lit (.int .i64 x3759.P))] :: l) := fun z => ⟨rfl, h3757, h3758, ⟨rfl, sub_flat eGPart_len h3760 0 1 (by decide)⟩, z⟩
      refine cond_some hF (fun h3761 hF => ?_) (fun h3761 hF => ?_)
      ·
        refine cond_some hF (fun h3762 hF => ?_) (fun _ hF => nomatch hF)
        refine bind_some hF (fun x3763 h3764 hF => ?_)
        have pq3772 : ∀ {l : List Cond}, HoldAll E H hn86 l → HoldAll E H hn86 (.test (beqb (ine x3759.P v3756) false) true :: .test (beqb (ine x3759.P v3756) false) true :: .test (beqb (ine x3759.P v3756) false) true :: .test (inr v3756 (len a3742)) true :: .test (beqb (ine x3759.P v3756) false) true :: .test (beqb (ine x3759.P v3756) false) true :: .sub (flat eGPart a3742) (nadd (nidx v3756 5) 1) 1 [(.lit (.int .i64 x3759.Step))] :: .test (beqb (ine x3759.P v3756) false) true :: .test (beqb (ine x3759.P v3756) false) true :: .test (inr 0 (len a3742)) true :: .test (beqb (ine x3759.P v3756) false) true :: .test (beqb (ine x3759.P v3756) false) true :: .sub (flat eGPart a3742) (nadd (nidx 0 5) 1) 1 [(.lit (.int .i64 x3763.Step))] :: .test (beqb (ine x3759.P v3756) false) true :: .test (ine x3759.P v3756) false :: l) := fun z => ⟨(beqb_ff (ine_t h3761)), (beqb_ff (ine_t h3761)), (beqb_ff (ine_t h3761)), h3758, (beqb_ff (ine_t h3761)), (beqb_ff (ine_t h3761)), ⟨rfl, sub_flat eGPart_len h3760 1 1 (by decide)⟩, (beqb_ff (ine_t h3761)), (beqb_ff (ine_t h3761)), h3762, (beqb_ff (ine_t h3761)), (beqb_ff (ine_t h3761)), ⟨rfl, sub_flat eGPart_len h3764 1 1 (by decide)⟩, (beqb_ff (ine_t h3761)), (ine_t h3761), z⟩
        refine cond_some hF (fun h3765 hF => ?_) (fun h3765 hF => ?_)
        ·
          refine bind_some hF (fun r3766 h3767 hF => ?_)
          have pq3773 : ∀ {l : List Cond}, HoldAll E H hn86 l → HoldAll E H hn86 (.test (beqb (ine x3759.Step x3763.Step) false) true :: .test (beqb (ine x3759.Step x3763.Step) false) true :: .test (beqb (ine x3759.Step x3763.Step) false) true :: .test (beqb (ine x3759.Step x3763.Step) false) true :: .test (beqb (ine x3759.Step x3763.Step) false) true :: .test (inr v3756 (len a3742)) true :: .test (beqb (ine x3759.Step x3763.Step) false) true :: .sub (flat eGPart a3742) (nidx v3756 5) 5 [(.lit (.int .i64 x3759.P)), (.lit (.int .i64 x3759.Step)), (.sl (len x3759.Vals) (flat (eInt .i64) x3759.Vals)), (.sl (len x3759.Rest) (flat eBool x3759.Rest)), (.sl (len x3759.In) (flat eGMsg x3759.In))] :: .test (beqb (ine x3759.Step x3763.Step) false) true :: .call 81 [.agg (eGGraph a3740), .agg (eGJob a3741), .agg (eGPart x3759)] (F81_res r3766) :: .test (leadsAny (Res.mk [(.one (.im (.lit (.bool r3766))))] [])) false :: .test (beqb (ine x3759.Step x3763.Step) false) true :: .test (ine x3759.Step x3763.Step) false :: l) := fun z => ⟨(beqb_ff (ine_t h3765)), (beqb_ff (ine_t h3765)), (beqb_ff (ine_t h3765)), (beqb_ff (ine_t h3765)), (beqb_ff (ine_t h3765)), h3758, (beqb_ff (ine_t h3765)), ⟨rfl, sub_flat0 eGPart_len h3760 5 (by decide)⟩, (beqb_ff (ine_t h3765)), (F81_ok K a3740 a3741 x3759 _ h3767), (leads_ok (by simp only [leadsAny, List.any_cons, List.any_nil, RV.leads, RC.leads, leadsT, hasSl_lit, Bool.or_false, flat_ns (eInt_ns _), flat_ns eBool_ns, flat_ns eStr_ns, flat_ns eGJob_ns, flat_ns eGEdge_ns, flat_ns eGAsked_ns, flat_ns eGMsg_ns, flat_ns eGrule_ns, flat_ns eGA199_ns, flat_ns eGA202_ns])), (beqb_ff (ine_t h3765)), (ine_t h3765), z⟩
          refine cond_some hF (fun h3768 hF => ?_) (fun h3768 hF => ?_)
          ·
            have pz : HoldAll E H hn86 [.test (bnot r3766) false, .int (wadd .i64 v3756 1) (wadd .i64 v3756 1)] := ⟨(bnot_t h3768), rfl, trivial⟩
            have h0 := ih _ _ hF
            have hn := fun ex ts' => loop_nextC (h := hn86) (l := 0) (c := c86_0) (ts := F86_l0_0_S a3740 a3741 a3742 v3756) (ts1 := (F86_l0_0_S a3740 a3741 a3742 (wadd .i64 v3756 1))) (ex := ex) (ts' := ts') (pq3771 (pq3772 (pq3773 pz))) (by kernel_rfl)
            cases r with
            | inl w => exact hn _ _ h0
            | inr w => exact hn _ _ h0
          have hr := Option.some.inj hF
          subst hr
          have pz : HoldAll E H hn86 [.test (bnot r3766) true] := ⟨(bnot_f h3768), trivial⟩
          exact loop_endC (h := hn86) (l := 0) (c := c86_0) (ts := F86_l0_0_S a3740 a3741 a3742 v3756) (ts' := F86_l0_0_X0 a3740 a3741 a3742 ()) (ex := .ret) (pq3771 (pq3772 (pq3773 pz))) (by kernel_rfl) trivial
        have hr := Option.some.inj hF
        subst hr
        have pz : HoldAll E H hn86 [.test (beqb (ine x3759.Step x3763.Step) false) false, .test (beqb (ine x3759.Step x3763.Step) false) false, .test (beqb (ine x3759.Step x3763.Step) false) false, .test (beqb (ine x3759.Step x3763.Step) false) false, .test (beqb (ine x3759.Step x3763.Step) false) false, .test (beqb (ine x3759.Step x3763.Step) false) false, .test (beqb (ine x3759.Step x3763.Step) false) false, .test (beqb (ine x3759.Step x3763.Step) false) false, .test (ine x3759.Step x3763.Step) true, .test true true] := ⟨(beqb_ft (ine_f h3765)), (beqb_ft (ine_f h3765)), (beqb_ft (ine_f h3765)), (beqb_ft (ine_f h3765)), (beqb_ft (ine_f h3765)), (beqb_ft (ine_f h3765)), (beqb_ft (ine_f h3765)), (beqb_ft (ine_f h3765)), (ine_f h3765), rfl, trivial⟩
        exact loop_endC (h := hn86) (l := 0) (c := c86_0) (ts := F86_l0_0_S a3740 a3741 a3742 v3756) (ts' := F86_l0_0_X0 a3740 a3741 a3742 ()) (ex := .ret) (pq3771 (pq3772 pz)) (by kernel_rfl) trivial
      have hr := Option.some.inj hF
      subst hr
      have pz : HoldAll E H hn86 [.test (beqb (ine x3759.P v3756) false) false, .test (beqb (ine x3759.P v3756) false) false, .test (beqb (ine x3759.P v3756) false) false, .test (beqb (ine x3759.P v3756) false) false, .test (beqb (ine x3759.P v3756) false) false, .test (beqb (ine x3759.P v3756) false) false, .test (beqb (ine x3759.P v3756) false) false, .test (beqb (ine x3759.P v3756) false) false, .test (beqb (ine x3759.P v3756) false) false, .test (beqb (ine x3759.P v3756) false) false, .test (ine x3759.P v3756) true, .test (beqb true false) false, .test (beqb true false) false, .test (beqb true false) false, .test (beqb true false) false, .test (beqb true false) false, .test (beqb true false) false, .test (beqb true false) false, .test (beqb true false) false, .test true true, .test true true] := ⟨(beqb_ft (ine_f h3761)), (beqb_ft (ine_f h3761)), (beqb_ft (ine_f h3761)), (beqb_ft (ine_f h3761)), (beqb_ft (ine_f h3761)), (beqb_ft (ine_f h3761)), (beqb_ft (ine_f h3761)), (beqb_ft (ine_f h3761)), (beqb_ft (ine_f h3761)), (beqb_ft (ine_f h3761)), (ine_f h3761), (beqb_ft rfl), (beqb_ft rfl), (beqb_ft rfl), (beqb_ft rfl), (beqb_ft rfl), (beqb_ft rfl), (beqb_ft rfl), (beqb_ft rfl), rfl, rfl, trivial⟩
      exact loop_endC (h := hn86) (l := 0) (c := c86_0) (ts := F86_l0_0_S a3740 a3741 a3742 v3756) (ts' := F86_l0_0_X0 a3740 a3741 a3742 ()) (ex := .ret) (pq3771 pz) (by kernel_rfl) trivial
    have hr := Option.some.inj hF
    subst hr
    have pz : HoldAll E H hn86 [.int (nlen (len a3742)) (nlen (len a3742)), .test (ilt v3756 (nlen (len a3742))) false] := ⟨rfl, h3757, trivial⟩
    exact loop_endC (h := hn86) (l := 0) (c := c86_0) (ts := F86_l0_0_S a3740 a3741 a3742 v3756) (ts' := F86_l0_0_X1 a3740 a3741 a3742 ()) (ex := (.exit 0)) pz (by kernel_rfl) trivial

def F86_l2_2 (K : Nat) (a3740 : GGraph) (a3741 : GJob) (a3742 : List GPart) (x3779 : GPart) (v3815 : List Int) (v3816 : List Bool) (v3818 : Int) (x3822 : GPart) (x3825 : Int) (x3829 : Bool) : Nat → List GMsg → Int → Option (List GMsg)
  | 0, _, _ => none
  | k + 1, v3838, v3839 =>
    bif (ilt v3839 (nlen (len x3822.In))) then
      (bif (inr v3839 (len x3822.In)) then
      (elAt x3822.In v3839).bind fun x3842 =>
      bif (ieq x3842.To v3818) then
        (bif (apok (len v3838) 1 16) then
        F86_l2_2 K a3740 a3741 a3742 x3779 v3815 v3816 v3818 x3822 x3825 x3829 k (appL v3838 [x3842]) (wadd .i64 v3839 1)
        else none)
      else
      F86_l2_2 K a3740 a3741 a3742 x3779 v3815 v3816 v3818 x3822 x3825 x3829 k v3838 (wadd .i64 v3839 1)
      else none)
    else
    some v3838
def F86_l2_2_S (a3740 : GGraph) (a3741 : GJob) (a3742 : List GPart) (x3779 : GPart) (v3815 : List Int) (v3816 : List Bool) (v3818 : Int) (x3822 : GPart) (x3825 : Int) (x3829 : Bool) (v3838 : List GMsg) (v3839 : Int) : TS := .on [128, 129, 192, 193, 194, 256, 257, 258, 259, 260, 384, 385, 386, 387, 388, 640, 641, 642, 643, 644, 704, 705, 768, 769, 770, 771, 772, 773, 832, 833] [(128, ⟨.one, 0, nob⟩), (129, ⟨.im, 0, (.sl (len a3742) (flat eGPart a3742))⟩), (192, ⟨(.box 62 2), 0, nob⟩), (193, ⟨.im, 0, (.lit (.int .i64 a3740.N))⟩), (194, ⟨.im, 0, (.sl (len a3740.Edges) (flat eGEdge a3740.Edges))⟩), (256, ⟨(.box 64 4), 0, nob⟩), (257, ⟨.im, 0, (.lit (.int .i64 a3741.Prog))⟩), (258, ⟨.im, 0, (.lit (.int .i64 a3741.Source))⟩), (259, ⟨.im, 0, (.lit (.int .i64 a3741.Limit))⟩), (260, ⟨.im, 0, (.lit (.int .i64 a3741.Parts))⟩), (384, ⟨(.box 74 4), 0, nob⟩), (385, ⟨.im, 0, (.lit (.int .i64 0))⟩), (386, ⟨(.own 2), 0, (.sl 0 [])⟩), (387, ⟨(.own 4), 0, (.sl 0 [])⟩), (388, ⟨(.own 130), 0, (.sl 0 [])⟩), (640, ⟨(.box 74 4), 0, nob⟩), (641, ⟨.im, 0, (.lit (.int .i64 x3779.Step))⟩), (642, ⟨(.own 2), 0, (.sl (len (α := Int) (appL v3815 [x3825])) (flat (eInt .i64) (appL v3815 [x3825])))⟩), (643, ⟨(.own 4), 0, (.sl (len (α := Bool) (appL v3816 [x3829])) (flat eBool (appL v3816 [x3829])))⟩), (644, ⟨(.own 130), 0, (.sl (len v3838) (flat eGMsg v3838))⟩), (704, ⟨.one, 0, nob⟩), (705, ⟨.im, 0, (.lit (.int .i64 v3818))⟩), (768, ⟨(.box 42 5), 0, nob⟩), (769, ⟨.im, 0, (.lit (.int .i64 x3822.P))⟩), (770, ⟨.im, 0, (.lit (.int .i64 x3822.Step))⟩), (771, ⟨.im, 0, (.sl (len x3822.Vals) (flat (eInt .i64) x3822.Vals))⟩), (772, ⟨.im, 0, (.sl (len x3822.Rest) (flat eBool x3822.Rest))⟩), (773, ⟨.im, 0, (.sl (len x3822.In) (flat eGMsg x3822.In))⟩), (832, ⟨.one, 0, nob⟩), (833, ⟨.im, 0, (.lit (.int .i64 v3839))⟩)]
def F86_l2_2_X0 (a3740 : GGraph) (a3741 : GJob) (a3742 : List GPart) (x3779 : GPart) (v3815 : List Int) (v3816 : List Bool) (v3818 : Int) (x3822 : GPart) (x3825 : Int) (x3829 : Bool) (w3846 : List GMsg) : TS := .on [128, 129, 192, 193, 194, 256, 257, 258, 259, 260, 384, 385, 386, 387, 388, 640, 641, 642, 643, 644, 704, 705] [(128, ⟨.one, 0, nob⟩), (129, ⟨.im, 0, (.sl (len a3742) (flat eGPart a3742))⟩), (192, ⟨(.box 62 2), 0, nob⟩), (193, ⟨.im, 0, (.lit (.int .i64 a3740.N))⟩), (194, ⟨.im, 0, (.sl (len a3740.Edges) (flat eGEdge a3740.Edges))⟩), (256, ⟨(.box 64 4), 0, nob⟩), (257, ⟨.im, 0, (.lit (.int .i64 a3741.Prog))⟩), (258, ⟨.im, 0, (.lit (.int .i64 a3741.Source))⟩), (259, ⟨.im, 0, (.lit (.int .i64 a3741.Limit))⟩), (260, ⟨.im, 0, (.lit (.int .i64 a3741.Parts))⟩), (384, ⟨(.box 74 4), 0, nob⟩), (385, ⟨.im, 0, (.lit (.int .i64 0))⟩), (386, ⟨(.own 2), 0, (.sl 0 [])⟩), (387, ⟨(.own 4), 0, (.sl 0 [])⟩), (388, ⟨(.own 130), 0, (.sl 0 [])⟩), (640, ⟨(.box 74 4), 0, nob⟩), (641, ⟨.im, 0, (.lit (.int .i64 x3779.Step))⟩), (642, ⟨(.own 2), 0, (.sl (len (α := Int) (appL v3815 [x3825])) (flat (eInt .i64) (appL v3815 [x3825])))⟩), (643, ⟨(.own 4), 0, (.sl (len (α := Bool) (appL v3816 [x3829])) (flat eBool (appL v3816 [x3829])))⟩), (644, ⟨(.own 130), 0, (.sl (len w3846) (flat eGMsg w3846))⟩), (704, ⟨.one, 0, nob⟩), (705, ⟨.im, 0, (.lit (.int .i64 v3818))⟩)]
theorem F86_l2_2_ok (K : Nat) (a3740 : GGraph) (a3741 : GJob) (a3742 : List GPart) (x3779 : GPart) (v3815 : List Int) (v3816 : List Bool) (v3818 : Int) (x3822 : GPart) (x3825 : Int) (x3829 : Bool) : ∀ (k : Nat) (v3838 : List GMsg) (v3839 : Int) (r : List GMsg), F86_l2_2 K a3740 a3741 a3742 x3779 v3815 v3816 v3818 x3822 x3825 x3829 k v3838 v3839 = some r → LoopEv E H hn86 4 c86_2 (F86_l2_2_S a3740 a3741 a3742 x3779 v3815 v3816 v3818 x3822 x3825 x3829 v3838 v3839) (.exit 4) (F86_l2_2_X0 a3740 a3741 a3742 x3779 v3815 v3816 v3818 x3822 x3825 x3829 r) := by
  intro k
  induction k with
  | zero => intro v3838 v3839 r hF; cases hF
  | succ k ih =>
    intro v3838 v3839 r hF
    rw [F86_l2_2] at hF
    refine cond_some hF (fun h3840 hF => ?_) (fun h3840 hF => ?_)
    ·
      refine cond_some hF (fun h3841 hF => ?_) (fun _ hF => nomatch hF)
      refine bind_some hF (fun x3842 h3843 hF => ?_)
      have pq3848 : ∀ {l : List Cond}, HoldAll E H hn86 l → HoldAll E H hn86 (.int (nlen (len x3822.In)) (nlen (len x3822.In)) :: .test (ilt v3839 (nlen (len x3822.In))) true :: .test (inr v3839 (len x3822.In)) true :: .sub (flat eGMsg x3822.In) (nadd (nidx v3839 2) 0) 1 [(.lit (.int .i64 x3842.To))] :: l) := fun z => ⟨rfl, h3840, h3841, ⟨rfl, sub_flat eGMsg_len h3843 0 1 (by decide)⟩, z⟩
      refine cond_some hF (fun h3844 hF => ?_) (fun h3844 hF => ?_)
      ·
        refine cond_some hF (fun h3845 hF => ?_) (fun _ hF => nomatch hF)
        have pz : HoldAll E H hn86 [.test (ieq x3842.To v3818) true, .test (inr v3839 (len x3822.In)) true, .sub (flat eGMsg x3822.In) (nidx v3839 2) 2 [(.lit (.int .i64 x3842.To)), (.lit (.int .i64 x3842.V))], .test (leqm [(.lit (.int .i64 x3842.To)), (.lit (.int .i64 x3842.V))] 1 2) true, .test (apok (len v3838) 1 16) true, .sl (nadd (len v3838) 1) (lapp (flat eGMsg v3838) [(.lit (.int .i64 x3842.To)), (.lit (.int .i64 x3842.V))]) (len (α := GMsg) (appL v3838 [x3842])) (flat eGMsg (appL v3838 [x3842])), .int (wadd .i64 v3839 1) (wadd .i64 v3839 1)] := ⟨h3844, h3841, ⟨rfl, sub_flat0 eGMsg_len h3843 2 (by decide)⟩, rfl, h3845, (app_ok (enc := eGMsg) (v3838 : List GMsg) [x3842]), rfl, trivial⟩
        have h0 := ih _ _ _ hF
        have hn := fun ex ts' => loop_nextC (h := hn86) (l := 4) (c := c86_2) (ts := F86_l2_2_S a3740 a3741 a3742 x3779 v3815 v3816 v3818 x3822 x3825 x3829 v3838 v3839) (ts1 := (F86_l2_2_S a3740 a3741 a3742 x3779 v3815 v3816 v3818 x3822 x3825 x3829 (appL v3838 [x3842]) (wadd .i64 v3839 1))) (ex := ex) (ts' := ts') (pq3848 pz) (by kernel_rfl)
        exact hn _ _ h0
      have pz : HoldAll E H hn86 [.test (ieq x3842.To v3818) false, .int (wadd .i64 v3839 1) (wadd .i64 v3839 1)] := ⟨h3844, rfl, trivial⟩
      have h0 := ih _ _ _ hF
      have hn := fun ex ts' => loop_nextC (h := hn86) (l := 4) (c := c86_2) (ts := F86_l2_2_S a3740 a3741 a3742 x3779 v3815 v3816 v3818 x3822 x3825 x3829 v3838 v3839) (ts1 := (F86_l2_2_S a3740 a3741 a3742 x3779 v3815 v3816 v3818 x3822 x3825 x3829 v3838 (wadd .i64 v3839 1))) (ex := ex) (ts' := ts') (pq3848 pz) (by kernel_rfl)
      exact hn _ _ h0
    have hr := Option.some.inj hF
    subst hr
    have pz : HoldAll E H hn86 [.int (nlen (len x3822.In)) (nlen (len x3822.In)), .test (ilt v3839 (nlen (len x3822.In))) false] := ⟨rfl, h3840, trivial⟩
    exact loop_endC (h := hn86) (l := 4) (c := c86_2) (ts := F86_l2_2_S a3740 a3741 a3742 x3779 v3815 v3816 v3818 x3822 x3825 x3829 v3838 v3839) (ts' := F86_l2_2_X0 a3740 a3741 a3742 x3779 v3815 v3816 v3818 x3822 x3825 x3829 v3838) (ex := (.exit 4)) pz (by kernel_rfl) trivial

def F86_l1_1 (K : Nat) (a3740 : GGraph) (a3741 : GJob) (a3742 : List GPart) (x3779 : GPart) : Nat → List Int → List Bool → List GMsg → Int → Option (List Int × List Bool × List GMsg)
  | 0, _, _, _, _ => none
  | k + 1, v3815, v3816, v3817, v3818 =>
    bif (ilt v3818 a3740.N) then
      (bif (izero a3741.Parts) then none else
      bif (inr (wrem v3818 a3741.Parts) (len a3742)) then
      (elAt a3742 (wrem v3818 a3741.Parts)).bind fun x3822 =>
      bif (inr (wquo .i64 v3818 a3741.Parts) (len x3822.Vals)) then
      (elAt x3822.Vals (wquo .i64 v3818 a3741.Parts)).bind fun x3825 =>
      bif (apok (len v3815) 1 8) then
      bif (inr (wquo .i64 v3818 a3741.Parts) (len x3822.Rest)) then
      (elAt x3822.Rest (wquo .i64 v3818 a3741.Parts)).bind fun x3829 =>
      bif (apok (len v3816) 1 1) then
      (F86_l2_2 K a3740 a3741 a3742 x3779 v3815 v3816 v3818 x3822 x3825 x3829 K v3817 0).bind fun w3851 =>
      F86_l1_1 K a3740 a3741 a3742 x3779 k (appL v3815 [x3825]) (appL v3816 [x3829]) w3851 (wadd .i64 v3818 1)
      else none
      else none
      else none
      else none
      else none)
    else
    some (v3815, (v3816, v3817))
def F86_l1_1_S (a3740 : GGraph) (a3741 : GJob) (a3742 : List GPart) (x3779 : GPart) (v3815 : List Int) (v3816 : List Bool) (v3817 : List GMsg) (v3818 : Int) : TS := .on [128, 129, 192, 193, 194, 256, 257, 258, 259, 260, 384, 385, 386, 387, 388, 640, 641, 642, 643, 644, 704, 705] [(128, ⟨.one, 0, nob⟩), (129, ⟨.im, 0, (.sl (len a3742) (flat eGPart a3742))⟩), (192, ⟨(.box 62 2), 0, nob⟩), (193, ⟨.im, 0, (.lit (.int .i64 a3740.N))⟩), (194, ⟨.im, 0, (.sl (len a3740.Edges) (flat eGEdge a3740.Edges))⟩), (256, ⟨(.box 64 4), 0, nob⟩), (257, ⟨.im, 0, (.lit (.int .i64 a3741.Prog))⟩), (258, ⟨.im, 0, (.lit (.int .i64 a3741.Source))⟩), (259, ⟨.im, 0, (.lit (.int .i64 a3741.Limit))⟩), (260, ⟨.im, 0, (.lit (.int .i64 a3741.Parts))⟩), (384, ⟨(.box 74 4), 0, nob⟩), (385, ⟨.im, 0, (.lit (.int .i64 0))⟩), (386, ⟨(.own 2), 0, (.sl 0 [])⟩), (387, ⟨(.own 4), 0, (.sl 0 [])⟩), (388, ⟨(.own 130), 0, (.sl 0 [])⟩), (640, ⟨(.box 74 4), 0, nob⟩), (641, ⟨.im, 0, (.lit (.int .i64 x3779.Step))⟩), (642, ⟨(.own 2), 0, (.sl (len v3815) (flat (eInt .i64) v3815))⟩), (643, ⟨(.own 4), 0, (.sl (len v3816) (flat eBool v3816))⟩), (644, ⟨(.own 130), 0, (.sl (len v3817) (flat eGMsg v3817))⟩), (704, ⟨.one, 0, nob⟩), (705, ⟨.im, 0, (.lit (.int .i64 v3818))⟩)]
def F86_l1_1_X0 (a3740 : GGraph) (a3741 : GJob) (a3742 : List GPart) (x3779 : GPart) (w3853 : List Int × List Bool × List GMsg) : TS := .on [384, 385, 386, 387, 388, 640, 641, 642, 643, 644] [(384, ⟨(.box 74 4), 0, nob⟩), (385, ⟨.im, 0, (.lit (.int .i64 0))⟩), (386, ⟨(.own 2), 0, (.sl 0 [])⟩), (387, ⟨(.own 4), 0, (.sl 0 [])⟩), (388, ⟨(.own 130), 0, (.sl 0 [])⟩), (640, ⟨(.box 74 4), 0, nob⟩), (641, ⟨.im, 0, (.lit (.int .i64 x3779.Step))⟩), (642, ⟨(.own 2), 0, (.sl (len w3853.1) (flat (eInt .i64) w3853.1))⟩), (643, ⟨(.own 4), 0, (.sl (len w3853.2.1) (flat eBool w3853.2.1))⟩), (644, ⟨(.own 130), 0, (.sl (len w3853.2.2) (flat eGMsg w3853.2.2))⟩)]
theorem F86_l1_1_ok (K : Nat) (a3740 : GGraph) (a3741 : GJob) (a3742 : List GPart) (x3779 : GPart) : ∀ (k : Nat) (v3815 : List Int) (v3816 : List Bool) (v3817 : List GMsg) (v3818 : Int) (r : List Int × List Bool × List GMsg), F86_l1_1 K a3740 a3741 a3742 x3779 k v3815 v3816 v3817 v3818 = some r → LoopEv E H hn86 2 c86_1 (F86_l1_1_S a3740 a3741 a3742 x3779 v3815 v3816 v3817 v3818) (.exit 2) (F86_l1_1_X0 a3740 a3741 a3742 x3779 r) := by
  intro k
  induction k with
  | zero => intro v3815 v3816 v3817 v3818 r hF; cases hF
  | succ k ih =>
    intro v3815 v3816 v3817 v3818 r hF
    rw [F86_l1_1] at hF
    refine cond_some hF (fun h3819 hF => ?_) (fun h3819 hF => ?_)
    ·
      refine cond_some hF (fun _ hF => nomatch hF) (fun h3820 hF => ?_)
      refine cond_some hF (fun h3821 hF => ?_) (fun _ hF => nomatch hF)
      refine bind_some hF (fun x3822 h3823 hF => ?_)
      refine cond_some hF (fun h3824 hF => ?_) (fun _ hF => nomatch hF)
      refine bind_some hF (fun x3825 h3826 hF => ?_)
      refine cond_some hF (fun h3827 hF => ?_) (fun _ hF => nomatch hF)
      refine cond_some hF (fun h3828 hF => ?_) (fun _ hF => nomatch hF)
      refine bind_some hF (fun x3829 h3830 hF => ?_)
      refine cond_some hF (fun h3831 hF => ?_) (fun _ hF => nomatch hF)
      refine bind_some hF (fun w3851 h3849 hF => ?_)
      have pz : HoldAll E H hn86 [.test (ilt v3818 a3740.N) true, .test (izero a3741.Parts) false, .int (wrem v3818 a3741.Parts) (wrem v3818 a3741.Parts), .test (inr (wrem v3818 a3741.Parts) (len a3742)) true, .sub (flat eGPart a3742) (nidx (wrem v3818 a3741.Parts) 5) 5 [(.lit (.int .i64 x3822.P)), (.lit (.int .i64 x3822.Step)), (.sl (len x3822.Vals) (flat (eInt .i64) x3822.Vals)), (.sl (len x3822.Rest) (flat eBool x3822.Rest)), (.sl (len x3822.In) (flat eGMsg x3822.In))], .test (izero a3741.Parts) false, .int (wquo .i64 v3818 a3741.Parts) (wquo .i64 v3818 a3741.Parts), .test (inr (wquo .i64 v3818 a3741.Parts) (len x3822.Vals)) true, .sub (flat (eInt .i64) x3822.Vals) (nidx (wquo .i64 v3818 a3741.Parts) 1) 1 [(.lit (.int .i64 x3825))], .test (leqm [(.lit (.int .i64 x3825))] 1 1) true, .test (apok (len v3815) 1 8) true, .sl (nadd (len v3815) 1) (lapp (flat (eInt .i64) v3815) [(.lit (.int .i64 x3825))]) (len (α := Int) (appL v3815 [x3825])) (flat (eInt .i64) (appL v3815 [x3825])), .test (izero a3741.Parts) false, .int (wquo .i64 v3818 a3741.Parts) (wquo .i64 v3818 a3741.Parts), .test (inr (wquo .i64 v3818 a3741.Parts) (len x3822.Rest)) true, .sub (flat eBool x3822.Rest) (nidx (wquo .i64 v3818 a3741.Parts) 1) 1 [(.lit (.bool x3829))], .test (leqm [(.lit (.bool x3829))] 1 1) true, .test (apok (len v3816) 1 1) true, .sl (nadd (len v3816) 1) (lapp (flat eBool v3816) [(.lit (.bool x3829))]) (len (α := Bool) (appL v3816 [x3829])) (flat eBool (appL v3816 [x3829])), .loop 4 c86_2 (F86_l2_2_S a3740 a3741 a3742 x3779 v3815 v3816 v3818 x3822 x3825 x3829 v3817 0) (.exit 4) (F86_l2_2_X0 a3740 a3741 a3742 x3779 v3815 v3816 v3818 x3822 x3825 x3829 w3851), .int (wadd .i64 v3818 1) (wadd .i64 v3818 1)] := ⟨h3819, h3820, rfl, h3821, ⟨rfl, sub_flat0 eGPart_len h3823 5 (by decide)⟩, h3820, rfl, h3824, ⟨rfl, sub_flat0 (eInt_len _) h3826 1 (by decide)⟩, rfl, h3827, (app_ok (enc := (eInt .i64)) (v3815 : List Int) [x3825]), h3820, rfl, h3828, ⟨rfl, sub_flat0 eBool_len h3830 1 (by decide)⟩, rfl, h3831, (app_ok (enc := eBool) (v3816 : List Bool) [x3829]), (F86_l2_2_ok K a3740 a3741 a3742 x3779 v3815 v3816 v3818 x3822 x3825 x3829 K v3817 0 _ h3849), rfl, trivial⟩
      have h0 := ih _ _ _ _ _ hF
      have hn := fun ex ts' => loop_nextC (h := hn86) (l := 2) (c := c86_1) (ts := F86_l1_1_S a3740 a3741 a3742 x3779 v3815 v3816 v3817 v3818) (ts1 := (F86_l1_1_S a3740 a3741 a3742 x3779 (appL v3815 [x3825]) (appL v3816 [x3829]) w3851 (wadd .i64 v3818 1))) (ex := ex) (ts' := ts') pz (by kernel_rfl)
      exact hn _ _ h0
    have hr := Option.some.inj hF
    subst hr
    have pz : HoldAll E H hn86 [.test (ilt v3818 a3740.N) false] := ⟨h3819, trivial⟩
    exact loop_endC (h := hn86) (l := 2) (c := c86_1) (ts := F86_l1_1_S a3740 a3741 a3742 x3779 v3815 v3816 v3817 v3818) (ts' := F86_l1_1_X0 a3740 a3741 a3742 x3779 (v3815, (v3816, v3817))) (ex := (.exit 2)) pz (by kernel_rfl) trivial

def F86 (K : Nat) (a3740 : GGraph) (a3741 : GJob) (a3742 : List GPart) : Option (GState × Int) :=
  (F59 K a3740 a3741).bind fun r3743 =>
  bif (ieq r3743 0) then
    (bif (ieq (nlen (len a3742)) a3741.Parts) then
      ((F86_l0_0 K a3740 a3741 a3742 K 0).bind fun y3775 =>
      Sum.elim (fun w3776 =>
        some ((GState.mk 0 [] [] []), 1))
        (fun w3777 =>
        bif (inr 0 (len a3742)) then
        (elAt a3742 0).bind fun x3779 =>
        (F86_l1_1 K a3740 a3741 a3742 x3779 K [] [] [] 0).bind fun w3859 =>
        some ((GState.mk x3779.Step w3859.1 w3859.2.1 w3859.2.2), 0)
        else none) y3775)
    else
    some ((GState.mk 0 [] [] []), 1))
  else
  some ((GState.mk 0 [] [] []), r3743)
theorem F86_ok (K : Nat) (a3740 : GGraph) (a3741 : GJob) (a3742 : List GPart) (r : GState × Int) (hF : F86 K a3740 a3741 a3742 = some r) : Evt E H 86 [.agg (eGGraph a3740), .agg (eGJob a3741), .one (.sl (len a3742) (flat eGPart a3742))] (F86_res r) := by
  rw [F86] at hF
  refine bind_some hF (fun r3743 h3744 hF => ?_)
  refine cond_some hF (fun h3745 hF => ?_) (fun h3745 hF => ?_)
  ·
    have pq3863 : ∀ {l : List Cond}, HoldAll E H hn86 l → HoldAll E H hn86 (.call 59 [.agg (eGGraph a3740), .agg (eGJob a3741)] (F59_res r3743) :: .test (leadsAny (Res.mk [(.one (.im (.lit (.int .i64 r3743))))] [])) false :: .test (ine r3743 0) false :: .int (nlen (len a3742)) (nlen (len a3742)) :: l) := fun z => ⟨(F59_ok K a3740 a3741 _ h3744), (leads_ok (by simp only [leadsAny, List.any_cons, List.any_nil, RV.leads, RC.leads, leadsT, hasSl_lit, Bool.or_false, flat_ns (eInt_ns _), flat_ns eBool_ns, flat_ns eStr_ns, flat_ns eGJob_ns, flat_ns eGEdge_ns, flat_ns eGAsked_ns, flat_ns eGMsg_ns, flat_ns eGrule_ns, flat_ns eGA199_ns, flat_ns eGA202_ns])), (ine_t h3745), rfl, z⟩
    refine cond_some hF (fun h3746 hF => ?_) (fun h3746 hF => ?_)
    ·
      refine bind_some hF (fun y3775 h3774 hF => ?_)
      refine sum_some hF (fun w3776 hx hF => ?_) (fun w3777 hx hF => ?_)
      ·
        subst hx
        have hr := Option.some.inj hF
        subst hr
        have pz : HoldAll E H hn86 [.test (ine (nlen (len a3742)) a3741.Parts) false, .loop 0 c86_0 (F86_l0_0_S a3740 a3741 a3742 0) .ret (F86_l0_0_X0 a3740 a3741 a3742 w3776)] := ⟨(ine_t h3746), (F86_l0_0_ok K a3740 a3741 a3742 K 0 _ h3774), trivial⟩
        exact fn_playC hn86 (f := 86) (ads := [.agg (eGGraph a3740), .agg (eGJob a3741), .one (.sl (len a3742) (flat eGPart a3742))]) (r := F86_res ((GState.mk 0 [] [] []), 1)) (pq3863 pz) (by kernel_rfl) (by kernel_rfl)
      subst hx
      refine cond_some hF (fun h3778 hF => ?_) (fun _ hF => nomatch hF)
      refine bind_some hF (fun x3779 h3780 hF => ?_)
      refine bind_some hF (fun w3859 h3857 hF => ?_)
      have hr := Option.some.inj hF
      subst hr
      have pz : HoldAll E H hn86 [.test (ine (nlen (len a3742)) a3741.Parts) false, .loop 0 c86_0 (F86_l0_0_S a3740 a3741 a3742 0) (.exit 0) (F86_l0_0_X1 a3740 a3741 a3742 w3777), .test (inr 0 (len a3742)) true, .sub (flat eGPart a3742) (nadd (nidx 0 5) 1) 1 [(.lit (.int .i64 x3779.Step))], .loop 2 c86_1 (F86_l1_1_S a3740 a3741 a3742 x3779 [] [] [] 0) (.exit 2) (F86_l1_1_X0 a3740 a3741 a3742 x3779 w3859)] := ⟨(ine_t h3746), (F86_l0_0_ok K a3740 a3741 a3742 K 0 _ h3774), h3778, ⟨rfl, sub_flat eGPart_len h3780 1 1 (by decide)⟩, (F86_l1_1_ok K a3740 a3741 a3742 x3779 K [] [] [] 0 _ h3857), trivial⟩
      exact fn_playC hn86 (f := 86) (ads := [.agg (eGGraph a3740), .agg (eGJob a3741), .one (.sl (len a3742) (flat eGPart a3742))]) (r := F86_res ((GState.mk x3779.Step w3859.1 w3859.2.1 w3859.2.2), 0)) (pq3863 pz) (by kernel_rfl) (by kernel_rfl)
    have hr := Option.some.inj hF
    subst hr
    have pz : HoldAll E H hn86 [.test (ine (nlen (len a3742)) a3741.Parts) true] := ⟨(ine_f h3746), trivial⟩
    exact fn_playC hn86 (f := 86) (ads := [.agg (eGGraph a3740), .agg (eGJob a3741), .one (.sl (len a3742) (flat eGPart a3742))]) (r := F86_res ((GState.mk 0 [] [] []), 1)) (pq3863 pz) (by kernel_rfl) (by kernel_rfl)
  have hr := Option.some.inj hF
  subst hr
  have pz : HoldAll E H hn86 [.call 59 [.agg (eGGraph a3740), .agg (eGJob a3741)] (F59_res r3743), .test (leadsAny (Res.mk [(.one (.im (.lit (.int .i64 r3743))))] [])) false, .test (ine r3743 0) true] := ⟨(F59_ok K a3740 a3741 _ h3744), (leads_ok (by simp only [leadsAny, List.any_cons, List.any_nil, RV.leads, RC.leads, leadsT, hasSl_lit, Bool.or_false, flat_ns (eInt_ns _), flat_ns eBool_ns, flat_ns eStr_ns, flat_ns eGJob_ns, flat_ns eGEdge_ns, flat_ns eGAsked_ns, flat_ns eGMsg_ns, flat_ns eGrule_ns, flat_ns eGA199_ns, flat_ns eGA202_ns])), (ine_f h3745), trivial⟩
  exact fn_playC hn86 (f := 86) (ads := [.agg (eGGraph a3740), .agg (eGJob a3741), .one (.sl (len a3742) (flat eGPart a3742))]) (r := F86_res ((GState.mk 0 [] [] []), r3743)) pz (by kernel_rfl) (by kernel_rfl)

end Go.Proofs.Ytnjanliihnadjaa.Tm

/- What the row of WorkHomes leans on: printed functions and plain laws. Conditions: none. -/
import Derived.Test.YtnjanliihnadjaaTy
import Derived.Test.YtnjanliihnadjaaTab
import Derived.Test.YtnjanliihnadjaaKn
import Derived.Test.YtnjanliihnadjaaWf
import Derived.IntWalk
import Derived.KernelRfl
import Derived.OpenShut
import Derived.Test.YtnjanliihnadjaaBWorkHomes1
set_option linter.unusedVariables false
set_option linter.unusedSimpArgs false
namespace Go.Proofs.Ytnjanliihnadjaa.Tm
open Go
theorem F81_l1_1_ok (K : Nat) (a1 : GPart) (r2 : List Int) (v3 : Int) (x4 : GMsg) : ∀ (k : Nat) (v5 : Bool) (v6 : Int) (r : Bool), F81_l1_1 K a1 r2 v3 x4 k v5 v6 = some r → LoopEv E H hn81 2 c81_1 (F81_l1_1_S a1 r2 v3 x4 v5 v6) (.exit 2) (F81_l1_1_X0 a1 r2 v3 x4 r) := by
 intro k
 induction k with
 | zero => intro v5 v6 r hF; cases hF
 | succ k ih =>
  intro v5 v6 r hF
  rw [F81_l1_1] at hF
  refine cond_some hF (fun h7 hF => ?_) (fun h7 hF => ?_)
  ·
   refine cond_some hF (fun h8 hF => ?_) (fun h8 hF => ?_)
   ·
    have pz : HoldAll E H hn81 [.int (nlen (len r2)) (nlen (len r2)), .test (ilt v6 (nlen (len r2))) true, .test (beqb v5 false) false, .test (beqb v5 false) false, .test (beqb v5 false) false, .test (beqb v5 false) false, .test (beqb v5 false) false, .test (beqb v5 false) false, .test v5 true, .int (wadd .i64 v6 1) (wadd .i64 v6 1)] := ⟨rfl, h7, (beqb_ft h8), (beqb_ft h8), (beqb_ft h8), (beqb_ft h8), (beqb_ft h8), (beqb_ft h8), h8, rfl, trivial⟩
    have h0 := ih _ _ _ hF
    have hn := fun ex ts' => loop_nextC (h := hn81) (l := 2) (c := c81_1) (ts := F81_l1_1_S a1 r2 v3 x4 v5 v6) (ts1 := (F81_l1_1_S a1 r2 v3 x4 true (wadd .i64 v6 1))) (ex := ex) (ts' := ts') pz (by kernel_rfl)
    exact hn _ _ h0
   refine cond_some hF (fun h9 hF => ?_) (fun _ hF => nomatch hF)
   refine bind_some hF (fun x10 h11 hF => ?_)
   have pz : HoldAll E H hn81 [.int (nlen (len r2)) (nlen (len r2)), .test (ilt v6 (nlen (len r2))) true, .test (beqb v5 false) true, .test (beqb v5 false) true, .test (beqb v5 false) true, .test (inr v6 (len r2)) true, .test (beqb v5 false) true, .sub (flat (eInt .i64) r2) (nidx v6 1) 1 [(.lit (.int .i64 x10))], .test (beqb v5 false) true, .test (beqb v5 false) true, .test v5 false, .int (wadd .i64 v6 1) (wadd .i64 v6 1)] := ⟨rfl, h7, (beqb_ff h8), (beqb_ff h8), (beqb_ff h8), h9, (beqb_ff h8), ⟨rfl, sub_flat0 (eInt_len _) h11 1 (by decide)⟩, (beqb_ff h8), (beqb_ff h8), h8, rfl, trivial⟩
   have h0 := ih _ _ _ hF
   have hn := fun ex ts' => loop_nextC (h := hn81) (l := 2) (c := c81_1) (ts := F81_l1_1_S a1 r2 v3 x4 v5 v6) (ts1 := (F81_l1_1_S a1 r2 v3 x4 (ieq x10 x4.To) (wadd .i64 v6 1))) (ex := ex) (ts' := ts') pz (by kernel_rfl)
   exact hn _ _ h0
  obtain rfl := Option.some.inj hF
  have pz : HoldAll E H hn81 [.int (nlen (len r2)) (nlen (len r2)), .test (ilt v6 (nlen (len r2))) false] := ⟨rfl, h7, trivial⟩
  exact loop_endC (h := hn81) (l := 2) (c := c81_1) (ts := F81_l1_1_S a1 r2 v3 x4 v5 v6) (ts' := F81_l1_1_X0 a1 r2 v3 x4 v5) (ex := (.exit 2)) pz (by kernel_rfl) trivial
def F81_l0_0 (K : Nat) (a1 : GPart) (r2 : List Int) : Nat → Int → Option ((Unit) ⊕ (Unit))
 | 0, _ => none
 | k + 1, v3 =>
  bif (ilt v3 (nlen (len a1.In))) then
   (bif (inr v3 (len a1.In)) then
   (elAt a1.In v3).bind fun x4 =>
   (F81_l1_1 K a1 r2 v3 x4 K false 0).bind fun w5 =>
   bif w5 then
    (bif (ilt 0 v3) then
     (bif (inr (wsub .i64 v3 1) (len a1.In)) then
     (elAt a1.In (wsub .i64 v3 1)).bind fun x6 =>
     bif (ile x4.To x6.To) then
      (some (.inl ()))
     else
     F81_l0_0 K a1 r2 k (wadd .i64 v3 1)
     else none)
    else
    F81_l0_0 K a1 r2 k (wadd .i64 v3 1))
   else
   some (.inl ())
   else none)
  else
  some (.inr ())
def F81_l0_0_S (a1 : GPart) (r2 : List Int) (v3 : Int) : TS := .on [320, 321, 322, 323, 324, 325, 448, 449, 512, 513] [(320, ⟨(.box 42 5), 0, nob⟩), (321, ⟨.im, 0, (.lit (.int .i64 a1.P))⟩), (322, ⟨.im, 0, (.lit (.int .i64 a1.Step))⟩), (323, ⟨.im, 0, (.sl (len a1.Vals) (flat (eInt .i64) a1.Vals))⟩), (324, ⟨.im, 0, (.sl (len a1.Rest) (flat eBool a1.Rest))⟩), (325, ⟨.im, 0, (.sl (len a1.In) (flat eGMsg a1.In))⟩), (448, ⟨.one, 0, nob⟩), (449, ⟨(.own 3), 0, (.sl (len r2) (flat (eInt .i64) r2))⟩), (512, ⟨.one, 0, nob⟩), (513, ⟨.im, 0, (.lit (.int .i64 v3))⟩)]
def F81_l0_0_X0 (a1 : GPart) (r2 : List Int) (w3 : Unit) : TS := .on [384, 385] [(384, ⟨.one, 0, nob⟩), (385, ⟨.im, 0, (.lit (.bool false))⟩)]
def F81_l0_0_X1 (a1 : GPart) (r2 : List Int) (w3 : Unit) : TS := .on [] []
theorem F81_l0_0_ok (K : Nat) (a1 : GPart) (r2 : List Int) : ∀ (k : Nat) (v3 : Int) (r : (Unit) ⊕ (Unit)), F81_l0_0 K a1 r2 k v3 = some r → (Sum.elim (fun w => LoopEv E H hn81 0 c81_0 (F81_l0_0_S a1 r2 v3) .ret (F81_l0_0_X0 a1 r2 w)) (fun w => LoopEv E H hn81 0 c81_0 (F81_l0_0_S a1 r2 v3) (.exit 0) (F81_l0_0_X1 a1 r2 w))) r := by
 intro k
 induction k with
 | zero => intro v3 r hF; cases hF
 | succ k ih =>
  intro v3 r hF
  rw [F81_l0_0] at hF
  refine cond_some hF (fun h4 hF => ?_) (fun h4 hF => ?_)
  ·
   refine cond_some hF (fun h5 hF => ?_) (fun _ hF => nomatch hF)
   refine bind_some hF (fun x6 h7 hF => ?_)
   refine bind_some hF (fun w9 h8 hF => ?_)
   have q16 : PQ hn81 fun l => (.int (nlen (len a1.In)) (nlen (len a1.In)) :: .test (ilt v3 (nlen (len a1.In))) true :: .test (inr v3 (len a1.In)) true :: .sub (flat eGMsg a1.In) (nadd (nidx v3 2) 0) 1 [(.lit (.int .i64 x6.To))] :: .loop 2 c81_1 (F81_l1_1_S a1 r2 v3 x6 false 0) (.exit 2) (F81_l1_1_X0 a1 r2 v3 x6 w9) :: l) := fun z => ⟨rfl, h4, h5, ⟨rfl, sub_flat eGMsg_len h7 0 1 (by decide)⟩, (F81_l1_1_ok K a1 r2 v3 x6 K false 0 _ h8), z⟩
   refine cond_some hF (fun h10 hF => ?_) (fun h10 hF => ?_)
   ·
    have q17 : PQ hn81 fun l => (.test (beqb (bnot w9) false) true :: .test (beqb (bnot w9) false) true :: .test (beqb (bnot w9) false) true :: l) := fun z => ⟨(beqb_ff (bnot_t h10)), (beqb_ff (bnot_t h10)), (beqb_ff (bnot_t h10)), z⟩
    refine cond_some hF (fun h11 hF => ?_) (fun h11 hF => ?_)
    ·
     refine cond_some hF (fun h12 hF => ?_) (fun _ hF => nomatch hF)
     refine bind_some hF (fun x13 h14 hF => ?_)
     have q18 : PQ hn81 fun l => (.test (beqb (igt v3 0) true) true :: .test (beqb (igt v3 0) true) true :: .test (beqb (igt v3 0) true) true :: .test (beqb (igt v3 0) true) true :: .int (wsub .i64 v3 1) (wsub .i64 v3 1) :: .test (beqb (igt v3 0) true) true :: .test (inr (wsub .i64 v3 1) (len a1.In)) true :: .test (beqb (igt v3 0) true) true :: .test (beqb (igt v3 0) true) true :: .sub (flat eGMsg a1.In) (nadd (nidx (wsub .i64 v3 1) 2) 0) 1 [(.lit (.int .i64 x13.To))] :: .test (beqb (igt v3 0) true) true :: .test (beqb (igt v3 0) true) true :: .test (beqb (bnot w9) false) true :: .test (igt v3 0) true :: .test (bnot w9) false :: l) := fun z => ⟨(beqb_t (igt_eq h11)), (beqb_t (igt_eq h11)), (beqb_t (igt_eq h11)), (beqb_t (igt_eq h11)), rfl, (beqb_t (igt_eq h11)), h12, (beqb_t (igt_eq h11)), (beqb_t (igt_eq h11)), ⟨rfl, sub_flat eGMsg_len h14 0 1 (by decide)⟩, (beqb_t (igt_eq h11)), (beqb_t (igt_eq h11)), (beqb_ff (bnot_t h10)), (igt_eq h11), (bnot_t h10), z⟩
     refine cond_some hF (fun h15 hF => ?_) (fun h15 hF => ?_)
     ·
      obtain rfl := Option.some.inj hF
      have pz : HoldAll E H hn81 [.test (ige x13.To x6.To) true] := ⟨(ige_eq h15), trivial⟩
      exact loop_endC (h := hn81) (l := 0) (c := c81_0) (ts := F81_l0_0_S a1 r2 v3) (ts' := F81_l0_0_X0 a1 r2 ()) (ex := .ret) (q16 (q17 (q18 pz))) (by kernel_rfl) trivial
     have pz : HoldAll E H hn81 [.test (ige x13.To x6.To) false, .int (wadd .i64 v3 1) (wadd .i64 v3 1)] := ⟨(ige_eq h15), rfl, trivial⟩
     have h0 := ih _ _ hF
     have hn := fun ex ts' => loop_nextC (h := hn81) (l := 0) (c := c81_0) (ts := F81_l0_0_S a1 r2 v3) (ts1 := (F81_l0_0_S a1 r2 (wadd .i64 v3 1))) (ex := ex) (ts' := ts') (q16 (q17 (q18 pz))) (by kernel_rfl)
     cases r with
     | inl w => exact hn _ _ h0
     | inr w => exact hn _ _ h0
    have pz : HoldAll E H hn81 [.test (beqb (igt v3 0) true) false, .test (beqb (igt v3 0) true) false, .test (beqb (igt v3 0) true) false, .test (beqb (igt v3 0) true) false, .test (beqb (igt v3 0) true) false, .test (beqb (igt v3 0) true) false, .test (beqb (igt v3 0) true) false, .test (beqb (igt v3 0) true) false, .test (beqb (igt v3 0) true) false, .test (beqb (bnot w9) false) true, .test (igt v3 0) false, .test (bnot w9) false, .test false false, .int (wadd .i64 v3 1) (wadd .i64 v3 1)] := ⟨(beqb_t (igt_eq h11)), (beqb_t (igt_eq h11)), (beqb_t (igt_eq h11)), (beqb_t (igt_eq h11)), (beqb_t (igt_eq h11)), (beqb_t (igt_eq h11)), (beqb_t (igt_eq h11)), (beqb_t (igt_eq h11)), (beqb_t (igt_eq h11)), (beqb_ff (bnot_t h10)), (igt_eq h11), (bnot_t h10), rfl, rfl, trivial⟩
    have h0 := ih _ _ hF
    have hn := fun ex ts' => loop_nextC (h := hn81) (l := 0) (c := c81_0) (ts := F81_l0_0_S a1 r2 v3) (ts1 := (F81_l0_0_S a1 r2 (wadd .i64 v3 1))) (ex := ex) (ts' := ts') (q16 (q17 pz)) (by kernel_rfl)
    cases r with
    | inl w => exact hn _ _ h0
    | inr w => exact hn _ _ h0
   obtain rfl := Option.some.inj hF
   have pz : HoldAll E H hn81 [.test (beqb (bnot w9) false) false, .test (beqb (bnot w9) false) false, .test (beqb (bnot w9) false) false, .test (beqb (bnot w9) false) false, .test (bnot w9) true, .test true true] := ⟨(beqb_ft (bnot_f h10)), (beqb_ft (bnot_f h10)), (beqb_ft (bnot_f h10)), (beqb_ft (bnot_f h10)), (bnot_f h10), rfl, trivial⟩
   exact loop_endC (h := hn81) (l := 0) (c := c81_0) (ts := F81_l0_0_S a1 r2 v3) (ts' := F81_l0_0_X0 a1 r2 ()) (ex := .ret) (q16 pz) (by kernel_rfl) trivial
  obtain rfl := Option.some.inj hF
  have pz : HoldAll E H hn81 [.int (nlen (len a1.In)) (nlen (len a1.In)), .test (ilt v3 (nlen (len a1.In))) false] := ⟨rfl, h4, trivial⟩
  exact loop_endC (h := hn81) (l := 0) (c := c81_0) (ts := F81_l0_0_S a1 r2 v3) (ts' := F81_l0_0_X1 a1 r2 ()) (ex := (.exit 0)) pz (by kernel_rfl) trivial
def F81 (K : Nat) (a1 : GGraph) (a2 : GJob) (a3 : GPart) : Option (Bool) :=
 (F59 K a1 a2).bind fun r4 =>
 bif (ieq r4 0) then
  (bif (ilt a3.P 0) then
   (some false)
  else
  bif (ile a2.Parts a3.P) then
   (some false)
  else
  bif (ilt a3.Step 0) then
   (some false)
  else
  bif (ilt 40 a3.Step) then
   (some false)
  else
  (F139 K a1 a2 a3.P).bind fun r5 =>
  bif (ieq (nlen (len a3.Vals)) (nlen (len r5))) then
   (bif (ieq (nlen (len a3.Rest)) (nlen (len r5))) then
    ((F81_l0_0 K a3 r5 K 0).bind fun y6 =>
    Sum.elim (fun w7 =>
     some false)
     (fun w8 =>
     some true) y6)
   else
   some false)
  else
  some false)
 else
 some false
theorem F81_ok (K : Nat) (a1 : GGraph) (a2 : GJob) (a3 : GPart) (r : Bool) (hF : F81 K a1 a2 a3 = some r) : Evt E H 81 [.agg (eGGraph a1), .agg (eGJob a2), .agg (eGPart a3)] (F81_res r) := by
 rw [F81] at hF
 refine bind_some hF (fun r4 h5 hF => ?_)
 refine cond_some hF (fun h6 hF => ?_) (fun h6 hF => ?_)
 ·
  have q19 : PQ hn81 fun l => (.call 59 [.agg (eGGraph a1), .agg (eGJob a2)] (F59_res r4) :: .test (leadsAny (Res.mk [(.one (.im (.lit (.int .i64 r4))))] [])) false :: .test (beqb (ine r4 0) false) true :: .test (beqb (ine r4 0) false) true :: .test (beqb (ine r4 0) false) true :: .test (ine r4 0) false :: l) := fun z => ⟨(F59_ok K a1 a2 _ h5), (leads_ok (by simp [leadsAny, RV.leads, RC.leads, leadsT, hasSl_lit, flat_ns eGJob_ns])), (beqb_ff (ine_t h6)), (beqb_ff (ine_t h6)), (beqb_ff (ine_t h6)), (ine_t h6), z⟩
  refine cond_some hF (fun h7 hF => ?_) (fun h7 hF => ?_)
  ·
   obtain rfl := Option.some.inj hF
   have pz : HoldAll E H hn81 [.test (beqb (ilt a3.P 0) false) false, .test (beqb (ilt a3.P 0) false) false, .test (beqb (ilt a3.P 0) false) false, .test (beqb (ilt a3.P 0) false) false, .test (beqb (ilt a3.P 0) false) false, .test (ilt a3.P 0) true, .test (beqb true false) false, .test (beqb true false) false, .test (beqb true false) false, .test true true, .test (beqb true false) false, .test (beqb true false) false, .test (beqb true false) false, .test true true, .test true true] := ⟨(beqb_ft h7), (beqb_ft h7), (beqb_ft h7), (beqb_ft h7), (beqb_ft h7), h7, (beqb_ft rfl), (beqb_ft rfl), (beqb_ft rfl), rfl, (beqb_ft rfl), (beqb_ft rfl), (beqb_ft rfl), rfl, rfl, trivial⟩
   exact fn_playC hn81 (r := F81_res false) (q19 pz) (by kernel_rfl) (by kernel_rfl)
  have q20 : PQ hn81 fun l => (.test (beqb (ilt a3.P 0) false) true :: .test (beqb (ilt a3.P 0) false) true :: .test (beqb (ilt a3.P 0) false) true :: .test (beqb (ilt a3.P 0) false) true :: .test (beqb (ilt a3.P 0) false) true :: .test (ilt a3.P 0) false :: l) := fun z => ⟨(beqb_ff h7), (beqb_ff h7), (beqb_ff h7), (beqb_ff h7), (beqb_ff h7), h7, z⟩
  refine cond_some hF (fun h8 hF => ?_) (fun h8 hF => ?_)
  ·
   obtain rfl := Option.some.inj hF
   have pz : HoldAll E H hn81 [.test (beqb (ige a3.P a2.Parts) false) false, .test (beqb (ige a3.P a2.Parts) false) false, .test (beqb (ige a3.P a2.Parts) false) false, .test (ige a3.P a2.Parts) true, .test (beqb true false) false, .test (beqb true false) false, .test (beqb true false) false, .test true true, .test true true] := ⟨(beqb_ft (ige_eq h8)), (beqb_ft (ige_eq h8)), (beqb_ft (ige_eq h8)), (ige_eq h8), (beqb_ft rfl), (beqb_ft rfl), (beqb_ft rfl), rfl, rfl, trivial⟩
   exact fn_playC hn81 (r := F81_res false) (q19 (q20 pz)) (by kernel_rfl) (by kernel_rfl)
  have q21 : PQ hn81 fun l => (.test (beqb (ige a3.P a2.Parts) false) true :: .test (beqb (ige a3.P a2.Parts) false) true :: .test (beqb (ige a3.P a2.Parts) false) true :: .test (ige a3.P a2.Parts) false :: l) := fun z => ⟨(beqb_ff (ige_eq h8)), (beqb_ff (ige_eq h8)), (beqb_ff (ige_eq h8)), (ige_eq h8), z⟩
  refine cond_some hF (fun h9 hF => ?_) (fun h9 hF => ?_)
  ·
   obtain rfl := Option.some.inj hF
   have pz : HoldAll E H hn81 [.test (beqb (ilt a3.Step 0) false) false, .test (beqb (ilt a3.Step 0) false) false, .test (beqb (ilt a3.Step 0) false) false, .test (ilt a3.Step 0) true, .test true true] := ⟨(beqb_ft h9), (beqb_ft h9), (beqb_ft h9), h9, rfl, trivial⟩
   exact fn_playC hn81 (r := F81_res false) (q19 (q20 (q21 pz))) (by kernel_rfl) (by kernel_rfl)
  have q22 : PQ hn81 fun l => (.test (beqb (ilt a3.Step 0) false) true :: .test (beqb (ilt a3.Step 0) false) true :: .test (beqb (ilt a3.Step 0) false) true :: .test (ilt a3.Step 0) false :: l) := fun z => ⟨(beqb_ff h9), (beqb_ff h9), (beqb_ff h9), h9, z⟩
  refine cond_some hF (fun h10 hF => ?_) (fun h10 hF => ?_)
  ·
   obtain rfl := Option.some.inj hF
   have pz : HoldAll E H hn81 [.test (igt a3.Step 40) true] := ⟨(igt_eq h10), trivial⟩
   exact fn_playC hn81 (r := F81_res false) (q19 (q20 (q21 (q22 pz)))) (by kernel_rfl) (by kernel_rfl)
  refine bind_some hF (fun r11 h12 hF => ?_)
  have q23 : PQ hn81 fun l => (.test (igt a3.Step 40) false :: .call 139 [.agg (eGGraph a1), .agg (eGJob a2), .one (.lit (.int .i64 a3.P))] (F139_res r11) :: .test (leadsAny (Res.mk [(.one (.own 3 (.sl (len r11) (flat (eInt .i64) r11))))] [])) false :: .int (nlen (len a3.Vals)) (nlen (len a3.Vals)) :: .int (nlen (len r11)) (nlen (len r11)) :: l) := fun z => ⟨(igt_eq h10), (F139_ok K a1 a2 a3.P _ h12), (leads_ok (by simp [leadsAny, RV.leads, RC.leads, leadsT, hasSl_lit, flat_ns (eInt_ns _), flat_ns eGJob_ns])), rfl, rfl, z⟩
  refine cond_some hF (fun h13 hF => ?_) (fun h13 hF => ?_)
  ·
   have q24 : PQ hn81 fun l => (.test (beqb (ine (nlen (len a3.Vals)) (nlen (len r11))) false) true :: .test (beqb (ine (nlen (len a3.Vals)) (nlen (len r11))) false) true :: .test (beqb (ine (nlen (len a3.Vals)) (nlen (len r11))) false) true :: .int (nlen (len a3.Rest)) (nlen (len a3.Rest)) :: .test (beqb (ine (nlen (len a3.Vals)) (nlen (len r11))) false) true :: .test (beqb (ine (nlen (len a3.Vals)) (nlen (len r11))) false) true :: .int (nlen (len r11)) (nlen (len r11)) :: .test (beqb (ine (nlen (len a3.Vals)) (nlen (len r11))) false) true :: .test (ine (nlen (len a3.Vals)) (nlen (len r11))) false :: l) := fun z => ⟨(beqb_ff (ine_t h13)), (beqb_ff (ine_t h13)), (beqb_ff (ine_t h13)), rfl, (beqb_ff (ine_t h13)), (beqb_ff (ine_t h13)), rfl, (beqb_ff (ine_t h13)), (ine_t h13), z⟩
   refine cond_some hF (fun h14 hF => ?_) (fun h14 hF => ?_)
   ·
    refine bind_some hF (fun y16 h15 hF => ?_)
    refine sum_some hF (fun w17 hx hF => ?_) (fun w18 hx hF => ?_)
    ·
     subst hx
     obtain rfl := Option.some.inj hF
     have pz : HoldAll E H hn81 [.test (ine (nlen (len a3.Rest)) (nlen (len r11))) false, .loop 0 c81_0 (F81_l0_0_S a3 r11 0) .ret (F81_l0_0_X0 a3 r11 w17)] := ⟨(ine_t h14), (F81_l0_0_ok K a3 r11 K 0 _ h15), trivial⟩
     exact fn_playC hn81 (r := F81_res false) (q19 (q20 (q21 (q22 (q23 (q24 pz)))))) (by kernel_rfl) (by kernel_rfl)
    subst hx
    obtain rfl := Option.some.inj hF
    have pz : HoldAll E H hn81 [.test (ine (nlen (len a3.Rest)) (nlen (len r11))) false, .loop 0 c81_0 (F81_l0_0_S a3 r11 0) (.exit 0) (F81_l0_0_X1 a3 r11 w18)] := ⟨(ine_t h14), (F81_l0_0_ok K a3 r11 K 0 _ h15), trivial⟩
    exact fn_playC hn81 (r := F81_res true) (q19 (q20 (q21 (q22 (q23 (q24 pz)))))) (by kernel_rfl) (by kernel_rfl)
   obtain rfl := Option.some.inj hF
   have pz : HoldAll E H hn81 [.test (ine (nlen (len a3.Rest)) (nlen (len r11))) true] := ⟨(ine_f h14), trivial⟩
   exact fn_playC hn81 (r := F81_res false) (q19 (q20 (q21 (q22 (q23 (q24 pz)))))) (by kernel_rfl) (by kernel_rfl)
  obtain rfl := Option.some.inj hF
  have pz : HoldAll E H hn81 [.test (beqb (ine (nlen (len a3.Vals)) (nlen (len r11))) false) false, .test (beqb (ine (nlen (len a3.Vals)) (nlen (len r11))) false) false, .test (beqb (ine (nlen (len a3.Vals)) (nlen (len r11))) false) false, .test (beqb (ine (nlen (len a3.Vals)) (nlen (len r11))) false) false, .test (beqb (ine (nlen (len a3.Vals)) (nlen (len r11))) false) false, .test (beqb (ine (nlen (len a3.Vals)) (nlen (len r11))) false) false, .test (ine (nlen (len a3.Vals)) (nlen (len r11))) true, .test true true] := ⟨(beqb_ft (ine_f h13)), (beqb_ft (ine_f h13)), (beqb_ft (ine_f h13)), (beqb_ft (ine_f h13)), (beqb_ft (ine_f h13)), (beqb_ft (ine_f h13)), (ine_f h13), rfl, trivial⟩
  exact fn_playC hn81 (r := F81_res false) (q19 (q20 (q21 (q22 (q23 pz))))) (by kernel_rfl) (by kernel_rfl)
 obtain rfl := Option.some.inj hF
 have pz : HoldAll E H hn81 [.call 59 [.agg (eGGraph a1), .agg (eGJob a2)] (F59_res r4), .test (leadsAny (Res.mk [(.one (.im (.lit (.int .i64 r4))))] [])) false, .test (beqb (ine r4 0) false) false, .test (beqb (ine r4 0) false) false, .test (beqb (ine r4 0) false) false, .test (ine r4 0) true, .test (beqb true false) false, .test (beqb true false) false, .test (beqb true false) false, .test (beqb true false) false, .test (beqb true false) false, .test true true, .test (beqb true false) false, .test (beqb true false) false, .test (beqb true false) false, .test true true, .test (beqb true false) false, .test (beqb true false) false, .test (beqb true false) false, .test true true, .test true true] := ⟨(F59_ok K a1 a2 _ h5), (leads_ok (by simp [leadsAny, RV.leads, RC.leads, leadsT, hasSl_lit, flat_ns eGJob_ns])), (beqb_ft (ine_f h6)), (beqb_ft (ine_f h6)), (beqb_ft (ine_f h6)), (ine_f h6), (beqb_ft rfl), (beqb_ft rfl), (beqb_ft rfl), (beqb_ft rfl), (beqb_ft rfl), rfl, (beqb_ft rfl), (beqb_ft rfl), (beqb_ft rfl), rfl, (beqb_ft rfl), (beqb_ft rfl), (beqb_ft rfl), rfl, rfl, trivial⟩
 exact fn_playC hn81 (r := F81_res false) pz (by kernel_rfl) (by kernel_rfl)
def inOkS (n parts p : Int) : Int → List GMsg → Bool
 | _, [] => true
 | prev, m :: r => ilt prev m.To && (ilt m.To n && (ieq (m.To % parts) p && inOkS n parts p m.To r))
def sumU (b : Bool) : Unit ⊕ Unit := bif b then .inr () else .inl ()
theorem sumU_elim (b : Bool) : (some (sumU b)).bind (fun y => Sum.elim (fun w => some false) (fun w => some true) y) = some b := by cases b <;> rfl
theorem not_ile {a b : Int} : ile a b = !(ilt b a) := by
 unfold ile ilt; by_cases h : b < a <;> simp [h] <;> omega
def partRight (g : GGraph) (j : GJob) (x : GPart) : Bool :=
 ieq (jcheck g j) 0 && (ile 0 x.P && (ilt x.P j.Parts && (ile 0 x.Step && (ile x.Step 40 && (ieq (x.Vals.length : Int) (countS g j x.P) && (ieq (x.Rest.length : Int) (countS g j x.P) && inOkS g.N j.Parts x.P (-1) x.In))))))
theorem F80_loop {K : Nat} (g : GGraph) (j : GJob) (x : GPart) (hp : 1 ≤ j.Parts) (hl : x.In.length < 1000000) (hK : x.In.length < K) : F80_l0_0 K g j x K (-1) 0 = some (sumU (inOkS g.N j.Parts x.P (-1) x.In)) := by
 let step : GMsg → Int → (Int → Option (Unit ⊕ Unit)) → Option (Unit ⊕ Unit) := fun m s c =>
   bif (ile m.To s) then (some (.inl ())) else bif (ile g.N m.To) then (some (.inl ())) else bif (izero j.Parts) then none else bif (ieq (wrem m.To j.Parts) x.P) then c m.To else some (.inl ())
 have h := scanL (l := x.In) (L := fun k s i => F80_l0_0 K g j x k s i) step (fun _ => some (.inr ())) (fun k s i _ => rfl) (by omega) (K := K) hK (-1)
 have hz : izero j.Parts = false := decide_eq_false (by omega)
 have hw : ∀ (l : List GMsg) (s : Int), -1 ≤ s → goL step (fun _ => some (.inr ())) l s = some (sumU (inOkS g.N j.Parts x.P s l)) := by
   intro l
   induction l with
   | nil => intro s _; rfl
   | cons m l ih =>
     intro s hs
     rw [goL]
     show (bif (ile m.To s) then (some (.inl ())) else bif (ile g.N m.To) then (some (.inl ())) else bif (izero j.Parts) then none else bif (ieq (wrem m.To j.Parts) x.P) then goL step (fun _ => some (.inr ())) l m.To else some (.inl ())) = _
     rw [inOkS, hz, not_ile, not_ile]
     cases h1 : ilt s m.To
     · rfl
     · have h1' := ilt_iff.1 h1
       rw [wrem_emod (by omega), ih m.To (by omega)]
       cases ilt m.To g.N <;> cases ieq (m.To % j.Parts) x.P <;> rfl
 rw [hw _ _ (by omega)] at h
 exact h
theorem F80_spec {K : Nat} (hK : 1000 ≤ K) (g : GGraph) (j : GJob) (x : GPart) (hl : x.In.length < 1000000) (hk : x.In.length < K) (hp : -9223372036854775808 ≤ x.P ∧ x.P ≤ 9223372036854775807) : F80 K g j x = some (partRight g j x) := by
 rw [F80, F94_spec (by omega), Option.bind_some, partRight]
 cases hc : ieq (jcheck g j) 0
 · rfl
 · obtain ⟨hg, p1, p2, p3, p4, p5, p6, p7, p8⟩ := jcheck_ok hc
   rw [cond_true, F77_spec (by omega) g j x.P hp, hc, F80_loop g j x p7 hl hk]
   have n1 : nlen (len x.Vals) = (x.Vals.length : Int) := rfl
   have n2 : nlen (len x.Rest) = (x.Rest.length : Int) := rfl
   rw [ilt_not' x.P 0, not_ile (a := j.Parts), ilt_not' x.Step 0, ilt_not' 40 x.Step, n1, n2, cond_true, Option.bind_some, sumU_elim]
   cases ile 0 x.P <;> cases ilt x.P j.Parts <;> cases ile 0 x.Step <;> cases ile x.Step 40 <;> cases ieq (x.Vals.length : Int) (countS g j x.P) <;> cases ieq (x.Rest.length : Int) (countS g j x.P) <;> rfl
theorem any_verts {g : GGraph} {j : GJob} (hp : 1 ≤ j.Parts) (p to : Int) : (((vertsS g j p).map Int.ofNat).any fun v => ieq v to) = (ile 0 to && (ilt to g.N && ieq (to % j.Parts) p)) := by
 rw [Bool.eq_iff_iff]
 simp only [List.any_map, List.any_eq_true, Function.comp, Bool.and_eq_true, ile_iff, ilt_iff, ieq_iff]
 constructor
 · rintro ⟨v, hv, e⟩
   have := (mem_verts hp).1 hv
   have e' : (v : Int) = to := e
   rw [← e']; exact ⟨by omega, this⟩
 · rintro ⟨h0, h1, h2⟩
   obtain ⟨v, rfl⟩ := Int.eq_ofNat_of_zero_le h0
   exact ⟨v, (mem_verts hp).2 ⟨h1, h2⟩, rfl⟩
theorem F81_inner {K : Nat} (x : GPart) (l : List Int) (v : Int) (m : GMsg) (hl : l.length < 1000000) (hk : l.length < K) : F81_l1_1 K x l v m K false 0 = some (l.any fun v => ieq v m.To) := by
 have h := scanL (l := l) (L := fun k s i => F81_l1_1 K x l v m k s i) (fun y s c => bif s then c true else c (ieq y m.To)) (fun s => some s) (fun k s i _ => by
   show F81_l1_1 K x l v m (k + 1) s i = _
   rw [F81_l1_1]
   rcases at_idx l i with ⟨z, e1, e2, e3, e4⟩ | ⟨e1, e2⟩
   · rw [e2, e3, e4]; cases s <;> rfl
   · rw [e2]; rfl) (by omega) (K := K) hk false
 have hw : ∀ (l : List Int) (s : Bool), goL (fun y s c => bif s then c true else c (ieq y m.To)) (fun s => some s) l s = some (s || l.any fun v => ieq v m.To) := by
   intro l
   induction l with
   | nil => intro s; simp [goL]
   | cons y l ih =>
     intro s
     rw [goL]
     cases s
     · rw [cond_false, ih, List.any_cons, Bool.false_or]
     · rw [cond_true, ih]; rfl
 rw [hw, Bool.false_or] at h
 exact h
theorem verts_len (g : GGraph) (j : GJob) (hn : g.N ≤ 24) (p : Int) : (vertsS g j p).length ≤ 24 := by
 unfold vertsS vertsN
 refine Nat.le_trans (List.length_filter_le _ _) ?_
 simp; omega
theorem F81_loop {K : Nat} (hK : 1000 ≤ K) (g : GGraph) (j : GJob) (x : GPart) (hp : 1 ≤ j.Parts) (hn : g.N ≤ 24) (hl : x.In.length < 1000000) (hk : x.In.length < K) : F81_l0_0 K x ((vertsS g j x.P).map Int.ofNat) K 0 = some (sumU (inOkS g.N j.Parts x.P (-1) x.In)) := by
 have hv := verts_len g j hn x.P
 let step : Nat → GMsg → Unit → (Unit → Option (Unit ⊕ Unit)) → Option (Unit ⊕ Unit) := fun i m _ c =>
     (F81_l1_1 K x ((vertsS g j x.P).map Int.ofNat) (i : Int) m K false 0).bind fun w3384 =>
     bif w3384 then
       (bif (ilt 0 (i : Int)) then
         (bif (inr (wsub .i64 (i : Int) 1) (len x.In)) then
         (elAt x.In (wsub .i64 (i : Int) 1)).bind fun x3389 =>
         bif (ile m.To x3389.To) then (some (.inl ())) else c ()
         else none)
       else c ())
     else some (.inl ())
 have h := scanI (l := x.In) (L := fun k (_ : Unit) i => F81_l0_0 K x ((vertsS g j x.P).map Int.ofNat) k i) step (fun _ => some (.inr ())) (fun k st i hi => rfl) (by omega) K () 0 (by omega) (by omega)
 have hw : ∀ (r : List GMsg) (i : Nat), x.In.drop i = r → goI step (fun _ => some (.inr ())) i r () = some (sumU (inOkS g.N j.Parts x.P (match prevOf x.In i with | none => -1 | some d => if 0 ≤ d.To then d.To else -1) r)) ∨ (∃ d, prevOf x.In i = some d ∧ d.To < 0) := by
   intro r
   induction r with
   | nil => intro i _; exact .inl rfl
   | cons m r ih =>
     intro i hr
     obtain ⟨n1, n2, hi⟩ := prev_next hr
     by_cases hneg : ∃ d, prevOf x.In i = some d ∧ d.To < 0
     · exact .inr hneg
     left
     rw [goI]
     show ((F81_l1_1 K x ((vertsS g j x.P).map Int.ofNat) (i : Int) m K false 0).bind fun w3384 =>
     bif w3384 then
       (bif (ilt 0 (i : Int)) then
         (bif (inr (wsub .i64 (i : Int) 1) (len x.In)) then
         (elAt x.In (wsub .i64 (i : Int) 1)).bind fun x3389 =>
         bif (ile m.To x3389.To) then (some (.inl ())) else goI step (fun _ => some (.inr ())) (i + 1) r ()
         else none)
       else goI step (fun _ => some (.inr ())) (i + 1) r ())
     else some (.inl ())) = _
     rw [F81_inner x _ _ m (by simp; omega) (by simp; omega), any_verts hp, Option.bind_some]
     cases h0 : ile 0 m.To
     · have := ile_f.1 h0
       have hno : ∀ a : Int, -1 ≤ a → ilt a m.To = false := fun a ha => ilt_f.2 (by omega)
       have hprev : (-1 : Int) ≤ (match prevOf x.In i with | none => -1 | some d => if 0 ≤ d.To then d.To else -1) := by
         split
         · omega
         · split <;> omega
       rw [inOkS, hno _ hprev]; rfl
     · have hm0 := ile_iff.1 h0
       have nx : goI step (fun _ => some (.inr ())) (i + 1) r () = some (sumU (inOkS g.N j.Parts x.P m.To r)) := by
         rcases ih (i + 1) n2 with q | ⟨d, q1, q2⟩
         · rw [n1] at q
           dsimp only at q
           rw [if_pos hm0] at q; exact q
         · rw [n1] at q1; cases q1; omega
       rw [nx, inOkS]
       cases i with
       | zero =>
         have e1 : ilt 0 ((0 : Nat) : Int) = false := rfl
         have e2 : (match prevOf x.In 0 with | none => (-1 : Int) | some d => if 0 ≤ d.To then d.To else -1) = -1 := rfl
         rw [e1, e2, ilt_iff.2 (by omega : (-1 : Int) < m.To)]
         cases ilt m.To g.N <;> cases ieq (m.To % j.Parts) x.P <;> rfl
       | succ q =>
         obtain ⟨d, p1, p2, p3, p4⟩ := prev_at (l := x.In) (i := q + 1) (by omega) hi (by omega)
         have hd : ¬ d.To < 0 := fun hh => hneg ⟨d, p1, hh⟩
         have e1 : ilt 0 ((q + 1 : Nat) : Int) = true := ilt_iff.2 (by omega)
         rw [e1, p2, p3, p4, p1]
         simp only [Option.bind_some, cond_true, Bool.true_and, not_ile (a := m.To), if_pos (show 0 ≤ d.To by omega)]
         cases ilt d.To m.To <;> cases ilt m.To g.N <;> cases ieq (m.To % j.Parts) x.P <;> rfl
 rcases hw x.In 0 rfl with q | ⟨d, q1, _⟩
 · rw [List.drop_zero, q] at h; exact h
 · cases q1
theorem F81_spec {K : Nat} (hK : 1000 ≤ K) (g : GGraph) (j : GJob) (x : GPart) (hl : x.In.length < 1000000) (hk : x.In.length < K) : F81 K g j x = some (partRight g j x) := by
 rw [F81, F59_spec (by omega), Option.bind_some, partRight]
 cases hc : ieq (jcheck g j) 0
 · rfl
 · obtain ⟨hg, p1, p2, p3, p4, p5, p6, p7, p8⟩ := jcheck_ok hc
   obtain ⟨g1, g2, _, _⟩ := gcheck_ok hg
   have n3 : nlen (len ((vertsS g j x.P).map Int.ofNat)) = countS g j x.P := by simp [nlen, len, countS]
   rw [cond_true, F139_spec (by omega) p7 p8 g2, Option.bind_some, F81_loop hK g j x p7 g2 hl hk, n3]
   have n1 : nlen (len x.Vals) = (x.Vals.length : Int) := rfl
   have n2 : nlen (len x.Rest) = (x.Rest.length : Int) := rfl
   rw [ilt_not' x.P 0, not_ile (a := j.Parts), ilt_not' x.Step 0, ilt_not' 40 x.Step, n1, n2, sumU_elim]
   cases ile 0 x.P <;> cases ilt x.P j.Parts <;> cases ile 0 x.Step <;> cases ile x.Step 40 <;> cases ieq (x.Vals.length : Int) (countS g j x.P) <;> cases ieq (x.Rest.length : Int) (countS g j x.P) <;> rfl
def progL : Nat → Nat → Nat → Nat → List Nat
 | 0, _, _, _ => []
 | k + 1, n, parts, v => if v < n then v :: progL k n parts (v + parts) else []
theorem prog_all : ∀ parts < 7, 0 < parts → ∀ n < 25, ∀ p < parts, progL 30 n parts p = (List.range n).filter fun v => v % parts == p := by decide +kernel
theorem prog_verts {n parts : Nat} (h1 : 0 < parts) (h2 : parts < 7) (hn : n < 25) {p : Nat} (hp : p < parts) : progL 30 n parts p = vertsN n parts (p : Int) := by
 rw [prog_all parts h2 h1 n hn p hp, vertsN]
 refine List.filter_congr fun v _ => ?_
 rw [Bool.eq_iff_iff, ieq_iff, beq_iff_eq]; omega
theorem partRight_ok {g : GGraph} {j : GJob} {x : GPart} (h : partRight g j x = true) : ieq (jcheck g j) 0 = true ∧ 0 ≤ x.P ∧ x.P < j.Parts ∧ 0 ≤ x.Step ∧ x.Step ≤ 40 ∧ (x.Vals.length : Int) = countS g j x.P ∧ (x.Rest.length : Int) = countS g j x.P ∧ inOkS g.N j.Parts x.P (-1) x.In = true := by
 simp only [partRight, Bool.and_eq_true, ile_iff, ilt_iff, ieq_iff] at h
 obtain ⟨h1, h2, h3, h4, h5, h6, h7, h8⟩ := h
 exact ⟨ieq_iff.2 h1, h2, h3, h4, h5, h6, h7, h8⟩
def zeroP : GPart := GPart.mk 0 0 [] [] []
noncomputable def hn68 : Hint := { H 68 with nt := 28, prot := 0 }
noncomputable def c68_0 : Code := loopOf E 68 0
def F68_res (r1 : List GEdge) : Res := ⟨[(.one (.own 89 (.sl (len r1) (flat eGEdge r1))))], []⟩
def F68_l0_0 (K : Nat) (a1 : GGraph) (a2 : Int) : Nat → List GEdge → Int → Option (List GEdge)
 | 0, _, _ => none
 | k + 1, v3, v4 =>
  bif (ilt v4 (nlen (len a1.Edges))) then
   (bif (inr v4 (len a1.Edges)) then
   (elAt a1.Edges v4).bind fun x5 =>
   bif (ieq x5.From a2) then
    (bif (apok (len v3) 1 24) then
    F68_l0_0 K a1 a2 k (appL v3 [x5]) (wadd .i64 v4 1)
    else none)
   else
   F68_l0_0 K a1 a2 k v3 (wadd .i64 v4 1)
   else none)
  else
  some v3
def F68_l0_0_S (a1 : GGraph) (a2 : Int) (v3 : List GEdge) (v4 : Int) : TS := .on [64, 65, 128, 129, 130, 320, 321, 704, 768, 769, 832, 833, 896, 897] [(64, ⟨.one, 0, nob⟩), (65, ⟨.im, 0, (.lit (.int .i64 a2))⟩), (128, ⟨(.box 62 2), 0, nob⟩), (129, ⟨.im, 0, (.lit (.int .i64 a1.N))⟩), (130, ⟨.im, 0, (.sl (len a1.Edges) (flat eGEdge a1.Edges))⟩), (320, ⟨.one, 0, nob⟩), (321, ⟨(.own 89), 0, (.sl (len v3) (flat eGEdge v3))⟩), (704, ⟨(.ad 2 0 1), 0, nob⟩), (768, ⟨.one, 0, nob⟩), (769, ⟨.im, 0, (.sl (len a1.Edges) (flat eGEdge a1.Edges))⟩), (832, ⟨.one, 0, nob⟩), (833, ⟨.im, 0, (.lit (.int .i64 (nlen (len a1.Edges))))⟩), (896, ⟨.one, 0, nob⟩), (897, ⟨.im, 0, (.lit (.int .i64 v4))⟩)]
def F68_l0_0_X0 (a1 : GGraph) (a2 : Int) (w3 : List GEdge) : TS := .on [320, 321] [(320, ⟨.one, 0, nob⟩), (321, ⟨(.own 89), 0, (.sl (len w3) (flat eGEdge w3))⟩)]
theorem F68_l0_0_ok (K : Nat) (a1 : GGraph) (a2 : Int) : ∀ (k : Nat) (v3 : List GEdge) (v4 : Int) (r : List GEdge), F68_l0_0 K a1 a2 k v3 v4 = some r → LoopEv E H hn68 0 c68_0 (F68_l0_0_S a1 a2 v3 v4) (.exit 0) (F68_l0_0_X0 a1 a2 r) := by
 intro k
 induction k with
 | zero => intro v3 v4 r hF; cases hF
 | succ k ih =>
  intro v3 v4 r hF
  rw [F68_l0_0] at hF
  refine cond_some hF (fun h5 hF => ?_) (fun h5 hF => ?_)
  ·
   refine cond_some hF (fun h6 hF => ?_) (fun _ hF => nomatch hF)
   refine bind_some hF (fun x7 h8 hF => ?_)
   have q11 : PQ hn68 fun l => (.test (ilt v4 (nlen (len a1.Edges))) true :: .test (inr v4 (len a1.Edges)) true :: .sub (flat eGEdge a1.Edges) (nidx v4 3) 3 [(.lit (.int .i64 x7.From)), (.lit (.int .i64 x7.To)), (.lit (.int .i64 x7.W))] :: l) := fun z => ⟨h5, h6, ⟨rfl, sub_flat0 eGEdge_len h8 3 (by decide)⟩, z⟩
   refine cond_some hF (fun h9 hF => ?_) (fun h9 hF => ?_)
   ·
    refine cond_some hF (fun h10 hF => ?_) (fun _ hF => nomatch hF)
    have pz : HoldAll E H hn68 [.test (ieq x7.From a2) true, .test (leqm [(.lit (.int .i64 x7.From)), (.lit (.int .i64 x7.To)), (.lit (.int .i64 x7.W))] 1 3) true, .test (apok (len v3) 1 24) true, .sl (nadd (len v3) 1) (lapp (flat eGEdge v3) [(.lit (.int .i64 x7.From)), (.lit (.int .i64 x7.To)), (.lit (.int .i64 x7.W))]) (len (α := GEdge) (appL v3 [x7])) (flat eGEdge (appL v3 [x7])), .int (wadd .i64 v4 1) (wadd .i64 v4 1)] := ⟨h9, rfl, h10, (app_ok (enc := eGEdge) (v3 : List GEdge) [x7]), rfl, trivial⟩
    have h0 := ih _ _ _ hF
    have hn := fun ex ts' => loop_nextC (h := hn68) (l := 0) (c := c68_0) (ts := F68_l0_0_S a1 a2 v3 v4) (ts1 := (F68_l0_0_S a1 a2 (appL v3 [x7]) (wadd .i64 v4 1))) (ex := ex) (ts' := ts') (q11 pz) (by kernel_rfl)
    exact hn _ _ h0
   have pz : HoldAll E H hn68 [.test (ieq x7.From a2) false, .int (wadd .i64 v4 1) (wadd .i64 v4 1)] := ⟨h9, rfl, trivial⟩
   have h0 := ih _ _ _ hF
   have hn := fun ex ts' => loop_nextC (h := hn68) (l := 0) (c := c68_0) (ts := F68_l0_0_S a1 a2 v3 v4) (ts1 := (F68_l0_0_S a1 a2 v3 (wadd .i64 v4 1))) (ex := ex) (ts' := ts') (q11 pz) (by kernel_rfl)
   exact hn _ _ h0
  obtain rfl := Option.some.inj hF
  have pz : HoldAll E H hn68 [.test (ilt v4 (nlen (len a1.Edges))) false] := ⟨h5, trivial⟩
  exact loop_endC (h := hn68) (l := 0) (c := c68_0) (ts := F68_l0_0_S a1 a2 v3 v4) (ts' := F68_l0_0_X0 a1 a2 v3) (ex := (.exit 0)) pz (by kernel_rfl) trivial
def F68 (K : Nat) (a1 : GGraph) (a2 : Int) : Option (List GEdge) :=
 (F64 K a1).bind fun r3 =>
 bif (ieq r3 0) then
  ((F68_l0_0 K a1 a2 K [] 0).bind fun w4 =>
  some w4)
 else
 some []
theorem F68_ok (K : Nat) (a1 : GGraph) (a2 : Int) (r : List GEdge) (hF : F68 K a1 a2 = some r) : Evt E H 68 [.agg (eGGraph a1), .one (.lit (.int .i64 a2))] (F68_res r) := by
 rw [F68] at hF
 refine bind_some hF (fun r3 h4 hF => ?_)
 refine cond_some hF (fun h5 hF => ?_) (fun h5 hF => ?_)
 ·
  refine bind_some hF (fun w7 h6 hF => ?_)
  obtain rfl := Option.some.inj hF
  have pz : HoldAll E H hn68 [.call 64 [.agg (eGGraph a1)] (F64_res r3), .test (leadsAny (Res.mk [(.one (.im (.lit (.int .i64 r3))))] [])) false, .test (ine r3 0) false, .int (nlen (len a1.Edges)) (nlen (len a1.Edges)), .loop 0 c68_0 (F68_l0_0_S a1 a2 [] 0) (.exit 0) (F68_l0_0_X0 a1 a2 w7)] := ⟨(F64_ok K a1 _ h4), (leads_ok (by simp [leadsAny, RV.leads, RC.leads, leadsT, hasSl_lit])), (ine_t h5), rfl, (F68_l0_0_ok K a1 a2 K [] 0 _ h6), trivial⟩
  exact fn_playC hn68 (r := F68_res w7) pz (by kernel_rfl) (by kernel_rfl)
 obtain rfl := Option.some.inj hF
 have pz : HoldAll E H hn68 [.call 64 [.agg (eGGraph a1)] (F64_res r3), .test (leadsAny (Res.mk [(.one (.im (.lit (.int .i64 r3))))] [])) false, .test (ine r3 0) true] := ⟨(F64_ok K a1 _ h4), (leads_ok (by simp [leadsAny, RV.leads, RC.leads, leadsT, hasSl_lit])), (ine_f h5), trivial⟩
 exact fn_playC hn68 (r := F68_res []) pz (by kernel_rfl) (by kernel_rfl)
noncomputable def hn160 : Hint := { H 160 with nt := 12, prot := 0 }
def F160_res (r1 : Int × Bool) : Res := ⟨[(.one (.im (.lit (.int .i64 r1.1)))), (.one (.im (.lit (.bool r1.2))))], []⟩
def F160 (K : Nat) (a1 : Int) (a2 : GEdge) : Option (Int × Bool) :=
 (F144 K a1 a2.W).bind fun r3 =>
 some (r3.1, r3.2)
theorem F160_ok (K : Nat) (a1 : Int) (a2 : GEdge) (r : Int × Bool) (hF : F160 K a1 a2 = some r) : Evt E H 160 [.one (.lit (.int .i64 a1)), .agg (eGEdge a2)] (F160_res r) := by
 rw [F160] at hF
 refine bind_some hF (fun r3 h4 hF => ?_)
 obtain rfl := Option.some.inj hF
 have pz : HoldAll E H hn160 [.call 144 [.one (.lit (.int .i64 a1)), .one (.lit (.int .i64 a2.W))] (F144_res r3), .test (leadsAny (Res.mk [(.one (.im (.lit (.int .i64 r3.1)))), (.one (.im (.lit (.bool r3.2))))] [])) false] := ⟨(F144_ok K a1 a2.W _ h4), (leads_ok (by simp [leadsAny, RV.leads, RC.leads, leadsT, hasSl_lit])), trivial⟩
 exact fn_playC hn160 (r := F160_res (r3.1, r3.2)) pz (by kernel_rfl) (by kernel_rfl)
noncomputable def hn161 : Hint := { H 161 with nt := 10, prot := 0 }
def F161_res (r1 : Int × Bool) : Res := ⟨[(.one (.im (.lit (.int .i64 r1.1)))), (.one (.im (.lit (.bool r1.2))))], []⟩
def F161 (K : Nat) (a1 : Int) (a2 : GEdge) : Option (Int × Bool) :=
 (F144 K a1 1).bind fun r3 =>
 some (r3.1, r3.2)
theorem F161_ok (K : Nat) (a1 : Int) (a2 : GEdge) (r : Int × Bool) (hF : F161 K a1 a2 = some r) : Evt E H 161 [.one (.lit (.int .i64 a1)), .agg (eGEdge a2)] (F161_res r) := by
 rw [F161] at hF
 refine bind_some hF (fun r3 h4 hF => ?_)
 obtain rfl := Option.some.inj hF
 have pz : HoldAll E H hn161 [.call 144 [.one (.lit (.int .i64 a1)), .one (.lit (.int .i64 1))] (F144_res r3), .test (leadsAny (Res.mk [(.one (.im (.lit (.int .i64 r3.1)))), (.one (.im (.lit (.bool r3.2))))] [])) false] := ⟨(F144_ok K a1 1 _ h4), (leads_ok (by simp [leadsAny, RV.leads, RC.leads, leadsT, hasSl_lit])), trivial⟩
 exact fn_playC hn161 (r := F161_res (r3.1, r3.2)) pz (by kernel_rfl) (by kernel_rfl)
noncomputable def hn163 : Hint := { H 163 with nt := 7, prot := 0 }
def F163_res (r1 : Int × Bool) : Res := ⟨[(.one (.im (.lit (.int .i64 r1.1)))), (.one (.im (.lit (.bool r1.2))))], []⟩
def F163 (K : Nat) (a1 : Int) (a2 : GEdge) : Option (Int × Bool) :=
 some (a1, true)
theorem F163_ok (K : Nat) (a1 : Int) (a2 : GEdge) (r : Int × Bool) (hF : F163 K a1 a2 = some r) : Evt E H 163 [.one (.lit (.int .i64 a1)), .agg (eGEdge a2)] (F163_res r) := by
 rw [F163] at hF
 obtain rfl := Option.some.inj hF
 have pz : HoldAll E H hn163 [] := trivial
 exact fn_playC hn163 (r := F163_res (a1, true)) pz (by kernel_rfl) (by kernel_rfl)
noncomputable def hn175 : Hint := { H 175 with nt := 12, prot := 0 }
def F175_res (r1 : Int) : Res := ⟨[(.one (.im (.lit (.int .u64 r1))))], []⟩
def F175 (K : Nat) (a1 : Int) : Option (Int) :=
 bif (ilt a1 0) then
  (some (wadd .u64 (wconv .u64 (wneg .i64 (wadd .i64 a1 1))) 1))
 else
 some (wconv .u64 a1)
theorem F175_ok (K : Nat) (a1 : Int) (r : Int) (hF : F175 K a1 = some r) : Evt E H 175 [.one (.lit (.int .i64 a1))] (F175_res r) := by
 rw [F175] at hF
 refine cond_some hF (fun h2 hF => ?_) (fun h2 hF => ?_)
 ·
  obtain rfl := Option.some.inj hF
  have pz : HoldAll E H hn175 [.test (ilt a1 0) true, .int (wadd .i64 a1 1) (wadd .i64 a1 1), .int (wneg .i64 (wadd .i64 a1 1)) (wneg .i64 (wadd .i64 a1 1)), .int (wconv .u64 (wneg .i64 (wadd .i64 a1 1))) (wconv .u64 (wneg .i64 (wadd .i64 a1 1))), .int (wadd .u64 (wconv .u64 (wneg .i64 (wadd .i64 a1 1))) 1) (wadd .u64 (wconv .u64 (wneg .i64 (wadd .i64 a1 1))) 1)] := ⟨h2, rfl, rfl, rfl, rfl, trivial⟩
  exact fn_playC hn175 (r := F175_res (wadd .u64 (wconv .u64 (wneg .i64 (wadd .i64 a1 1))) 1)) pz (by kernel_rfl) (by kernel_rfl)
 obtain rfl := Option.some.inj hF
 have pz : HoldAll E H hn175 [.test (ilt a1 0) false, .int (wconv .u64 a1) (wconv .u64 a1)] := ⟨h2, rfl, trivial⟩
 exact fn_playC hn175 (r := F175_res (wconv .u64 a1)) pz (by kernel_rfl) (by kernel_rfl)
noncomputable def hn174 : Hint := { H 174 with nt := 60, prot := 0 }
def F174_res (r2 : GA199) : Res := ⟨[(.agg [(.im (.lit (.int .u64 r2.x0))), (.im (.lit (.int .u64 r2.x1)))])], []⟩
def F174 (K : Nat) (a1 : Int) (a2 : Int) : Option (GA199) :=
 some (GA199.mk (wadd .u64 (wadd .u64 (wadd .u64 (wmul .u64 (wquo .u64 a1 4294967296) (wquo .u64 a2 4294967296)) (wquo .u64 (wmul .u64 (wquo .u64 a1 4294967296) (wrem a2 4294967296)) 4294967296)) (wquo .u64 (wmul .u64 (wrem a1 4294967296) (wquo .u64 a2 4294967296)) 4294967296)) (wquo .u64 (wadd .u64 (wadd .u64 (wquo .u64 (wmul .u64 (wrem a1 4294967296) (wrem a2 4294967296)) 4294967296) (wrem (wmul .u64 (wquo .u64 a1 4294967296) (wrem a2 4294967296)) 4294967296)) (wrem (wmul .u64 (wrem a1 4294967296) (wquo .u64 a2 4294967296)) 4294967296)) 4294967296)) (wadd .u64 (wmul .u64 (wrem (wadd .u64 (wadd .u64 (wquo .u64 (wmul .u64 (wrem a1 4294967296) (wrem a2 4294967296)) 4294967296) (wrem (wmul .u64 (wquo .u64 a1 4294967296) (wrem a2 4294967296)) 4294967296)) (wrem (wmul .u64 (wrem a1 4294967296) (wquo .u64 a2 4294967296)) 4294967296)) 4294967296) 4294967296) (wrem (wmul .u64 (wrem a1 4294967296) (wrem a2 4294967296)) 4294967296)))
theorem F174_ok (K : Nat) (a1 : Int) (a2 : Int) (r : GA199) (hF : F174 K a1 a2 = some r) : Evt E H 174 [.one (.lit (.int .u64 a1)), .one (.lit (.int .u64 a2))] (F174_res r) := by
 rw [F174] at hF
 obtain rfl := Option.some.inj hF
 have pz : HoldAll E H hn174 [.test (izero 4294967296) false, .int (wquo .u64 a1 4294967296) (wquo .u64 a1 4294967296), .test (izero 4294967296) false, .int (wquo .u64 a2 4294967296) (wquo .u64 a2 4294967296), .int (wmul .u64 (wquo .u64 a1 4294967296) (wquo .u64 a2 4294967296)) (wmul .u64 (wquo .u64 a1 4294967296) (wquo .u64 a2 4294967296)), .test (izero 4294967296) false, .int (wquo .u64 a1 4294967296) (wquo .u64 a1 4294967296), .test (izero 4294967296) false, .int (wrem a2 4294967296) (wrem a2 4294967296), .int (wmul .u64 (wquo .u64 a1 4294967296) (wrem a2 4294967296)) (wmul .u64 (wquo .u64 a1 4294967296) (wrem a2 4294967296)), .test (izero 4294967296) false, .int (wrem a1 4294967296) (wrem a1 4294967296), .test (izero 4294967296) false, .int (wquo .u64 a2 4294967296) (wquo .u64 a2 4294967296), .int (wmul .u64 (wrem a1 4294967296) (wquo .u64 a2 4294967296)) (wmul .u64 (wrem a1 4294967296) (wquo .u64 a2 4294967296)), .test (izero 4294967296) false, .int (wrem a1 4294967296) (wrem a1 4294967296), .test (izero 4294967296) false, .int (wrem a2 4294967296) (wrem a2 4294967296), .int (wmul .u64 (wrem a1 4294967296) (wrem a2 4294967296)) (wmul .u64 (wrem a1 4294967296) (wrem a2 4294967296)), .test (ieq 3 0) false, .test (ieq 3 1) false, .test (ieq 3 2) false, .test (ieq 3 3) true, .test (izero 4294967296) false, .int (wquo .u64 (wmul .u64 (wrem a1 4294967296) (wrem a2 4294967296)) 4294967296) (wquo .u64 (wmul .u64 (wrem a1 4294967296) (wrem a2 4294967296)) 4294967296), .test (ieq 1 0) false, .test (ieq 1 1) true, .test (izero 4294967296) false, .int (wrem (wmul .u64 (wquo .u64 a1 4294967296) (wrem a2 4294967296)) 4294967296) (wrem (wmul .u64 (wquo .u64 a1 4294967296) (wrem a2 4294967296)) 4294967296), .int (wadd .u64 (wquo .u64 (wmul .u64 (wrem a1 4294967296) (wrem a2 4294967296)) 4294967296) (wrem (wmul .u64 (wquo .u64 a1 4294967296) (wrem a2 4294967296)) 4294967296)) (wadd .u64 (wquo .u64 (wmul .u64 (wrem a1 4294967296) (wrem a2 4294967296)) 4294967296) (wrem (wmul .u64 (wquo .u64 a1 4294967296) (wrem a2 4294967296)) 4294967296)), .test (ieq 2 0) false, .test (ieq 2 1) false, .test (ieq 2 2) true, .test (izero 4294967296) false, .int (wrem (wmul .u64 (wrem a1 4294967296) (wquo .u64 a2 4294967296)) 4294967296) (wrem (wmul .u64 (wrem a1 4294967296) (wquo .u64 a2 4294967296)) 4294967296), .int (wadd .u64 (wadd .u64 (wquo .u64 (wmul .u64 (wrem a1 4294967296) (wrem a2 4294967296)) 4294967296) (wrem (wmul .u64 (wquo .u64 a1 4294967296) (wrem a2 4294967296)) 4294967296)) (wrem (wmul .u64 (wrem a1 4294967296) (wquo .u64 a2 4294967296)) 4294967296)) (wadd .u64 (wadd .u64 (wquo .u64 (wmul .u64 (wrem a1 4294967296) (wrem a2 4294967296)) 4294967296) (wrem (wmul .u64 (wquo .u64 a1 4294967296) (wrem a2 4294967296)) 4294967296)) (wrem (wmul .u64 (wrem a1 4294967296) (wquo .u64 a2 4294967296)) 4294967296)), .test (ieq 0 0) true, .test (ieq 1 0) false, .test (ieq 1 1) true, .test (izero 4294967296) false, .int (wquo .u64 (wmul .u64 (wquo .u64 a1 4294967296) (wrem a2 4294967296)) 4294967296) (wquo .u64 (wmul .u64 (wquo .u64 a1 4294967296) (wrem a2 4294967296)) 4294967296), .int (wadd .u64 (wmul .u64 (wquo .u64 a1 4294967296) (wquo .u64 a2 4294967296)) (wquo .u64 (wmul .u64 (wquo .u64 a1 4294967296) (wrem a2 4294967296)) 4294967296)) (wadd .u64 (wmul .u64 (wquo .u64 a1 4294967296) (wquo .u64 a2 4294967296)) (wquo .u64 (wmul .u64 (wquo .u64 a1 4294967296) (wrem a2 4294967296)) 4294967296)), .test (ieq 2 0) false, .test (ieq 2 1) false, .test (ieq 2 2) true, .test (izero 4294967296) false, .int (wquo .u64 (wmul .u64 (wrem a1 4294967296) (wquo .u64 a2 4294967296)) 4294967296) (wquo .u64 (wmul .u64 (wrem a1 4294967296) (wquo .u64 a2 4294967296)) 4294967296), .int (wadd .u64 (wadd .u64 (wmul .u64 (wquo .u64 a1 4294967296) (wquo .u64 a2 4294967296)) (wquo .u64 (wmul .u64 (wquo .u64 a1 4294967296) (wrem a2 4294967296)) 4294967296)) (wquo .u64 (wmul .u64 (wrem a1 4294967296) (wquo .u64 a2 4294967296)) 4294967296)) (wadd .u64 (wadd .u64 (wmul .u64 (wquo .u64 a1 4294967296) (wquo .u64 a2 4294967296)) (wquo .u64 (wmul .u64 (wquo .u64 a1 4294967296) (wrem a2 4294967296)) 4294967296)) (wquo .u64 (wmul .u64 (wrem a1 4294967296) (wquo .u64 a2 4294967296)) 4294967296)), .test (izero 4294967296) false, .int (wquo .u64 (wadd .u64 (wadd .u64 (wquo .u64 (wmul .u64 (wrem a1 4294967296) (wrem a2 4294967296)) 4294967296) (wrem (wmul .u64 (wquo .u64 a1 4294967296) (wrem a2 4294967296)) 4294967296)) (wrem (wmul .u64 (wrem a1 4294967296) (wquo .u64 a2 4294967296)) 4294967296)) 4294967296) (wquo .u64 (wadd .u64 (wadd .u64 (wquo .u64 (wmul .u64 (wrem a1 4294967296) (wrem a2 4294967296)) 4294967296) (wrem (wmul .u64 (wquo .u64 a1 4294967296) (wrem a2 4294967296)) 4294967296)) (wrem (wmul .u64 (wrem a1 4294967296) (wquo .u64 a2 4294967296)) 4294967296)) 4294967296), .int (wadd .u64 (wadd .u64 (wadd .u64 (wmul .u64 (wquo .u64 a1 4294967296) (wquo .u64 a2 4294967296)) (wquo .u64 (wmul .u64 (wquo .u64 a1 4294967296) (wrem a2 4294967296)) 4294967296)) (wquo .u64 (wmul .u64 (wrem a1 4294967296) (wquo .u64 a2 4294967296)) 4294967296)) (wquo .u64 (wadd .u64 (wadd .u64 (wquo .u64 (wmul .u64 (wrem a1 4294967296) (wrem a2 4294967296)) 4294967296) (wrem (wmul .u64 (wquo .u64 a1 4294967296) (wrem a2 4294967296)) 4294967296)) (wrem (wmul .u64 (wrem a1 4294967296) (wquo .u64 a2 4294967296)) 4294967296)) 4294967296)) (wadd .u64 (wadd .u64 (wadd .u64 (wmul .u64 (wquo .u64 a1 4294967296) (wquo .u64 a2 4294967296)) (wquo .u64 (wmul .u64 (wquo .u64 a1 4294967296) (wrem a2 4294967296)) 4294967296)) (wquo .u64 (wmul .u64 (wrem a1 4294967296) (wquo .u64 a2 4294967296)) 4294967296)) (wquo .u64 (wadd .u64 (wadd .u64 (wquo .u64 (wmul .u64 (wrem a1 4294967296) (wrem a2 4294967296)) 4294967296) (wrem (wmul .u64 (wquo .u64 a1 4294967296) (wrem a2 4294967296)) 4294967296)) (wrem (wmul .u64 (wrem a1 4294967296) (wquo .u64 a2 4294967296)) 4294967296)) 4294967296)), .test (izero 4294967296) false, .int (wrem (wadd .u64 (wadd .u64 (wquo .u64 (wmul .u64 (wrem a1 4294967296) (wrem a2 4294967296)) 4294967296) (wrem (wmul .u64 (wquo .u64 a1 4294967296) (wrem a2 4294967296)) 4294967296)) (wrem (wmul .u64 (wrem a1 4294967296) (wquo .u64 a2 4294967296)) 4294967296)) 4294967296) (wrem (wadd .u64 (wadd .u64 (wquo .u64 (wmul .u64 (wrem a1 4294967296) (wrem a2 4294967296)) 4294967296) (wrem (wmul .u64 (wquo .u64 a1 4294967296) (wrem a2 4294967296)) 4294967296)) (wrem (wmul .u64 (wrem a1 4294967296) (wquo .u64 a2 4294967296)) 4294967296)) 4294967296), .int (wmul .u64 (wrem (wadd .u64 (wadd .u64 (wquo .u64 (wmul .u64 (wrem a1 4294967296) (wrem a2 4294967296)) 4294967296) (wrem (wmul .u64 (wquo .u64 a1 4294967296) (wrem a2 4294967296)) 4294967296)) (wrem (wmul .u64 (wrem a1 4294967296) (wquo .u64 a2 4294967296)) 4294967296)) 4294967296) 4294967296) (wmul .u64 (wrem (wadd .u64 (wadd .u64 (wquo .u64 (wmul .u64 (wrem a1 4294967296) (wrem a2 4294967296)) 4294967296) (wrem (wmul .u64 (wquo .u64 a1 4294967296) (wrem a2 4294967296)) 4294967296)) (wrem (wmul .u64 (wrem a1 4294967296) (wquo .u64 a2 4294967296)) 4294967296)) 4294967296) 4294967296), .test (ieq 3 0) false, .test (ieq 3 1) false, .test (ieq 3 2) false, .test (ieq 3 3) true, .test (izero 4294967296) false, .int (wrem (wmul .u64 (wrem a1 4294967296) (wrem a2 4294967296)) 4294967296) (wrem (wmul .u64 (wrem a1 4294967296) (wrem a2 4294967296)) 4294967296), .int (wadd .u64 (wmul .u64 (wrem (wadd .u64 (wadd .u64 (wquo .u64 (wmul .u64 (wrem a1 4294967296) (wrem a2 4294967296)) 4294967296) (wrem (wmul .u64 (wquo .u64 a1 4294967296) (wrem a2 4294967296)) 4294967296)) (wrem (wmul .u64 (wrem a1 4294967296) (wquo .u64 a2 4294967296)) 4294967296)) 4294967296) 4294967296) (wrem (wmul .u64 (wrem a1 4294967296) (wrem a2 4294967296)) 4294967296)) (wadd .u64 (wmul .u64 (wrem (wadd .u64 (wadd .u64 (wquo .u64 (wmul .u64 (wrem a1 4294967296) (wrem a2 4294967296)) 4294967296) (wrem (wmul .u64 (wquo .u64 a1 4294967296) (wrem a2 4294967296)) 4294967296)) (wrem (wmul .u64 (wrem a1 4294967296) (wquo .u64 a2 4294967296)) 4294967296)) 4294967296) 4294967296) (wrem (wmul .u64 (wrem a1 4294967296) (wrem a2 4294967296)) 4294967296))] := ⟨(by first | exact rfl | (unfold Cond.Holds; decide)), rfl, (by first | exact rfl | (unfold Cond.Holds; decide)), rfl, rfl, (by first | exact rfl | (unfold Cond.Holds; decide)), rfl, (by first | exact rfl | (unfold Cond.Holds; decide)), rfl, rfl, (by first | exact rfl | (unfold Cond.Holds; decide)), rfl, (by first | exact rfl | (unfold Cond.Holds; decide)), rfl, rfl, (by first | exact rfl | (unfold Cond.Holds; decide)), rfl, (by first | exact rfl | (unfold Cond.Holds; decide)), rfl, rfl, (by first | exact rfl | (unfold Cond.Holds; decide)), (by first | exact rfl | (unfold Cond.Holds; decide)), (by first | exact rfl | (unfold Cond.Holds; decide)), (by first | exact rfl | (unfold Cond.Holds; decide)), (by first | exact rfl | (unfold Cond.Holds; decide)), rfl, (by first | exact rfl | (unfold Cond.Holds; decide)), (by first | exact rfl | (unfold Cond.Holds; decide)), (by first | exact rfl | (unfold Cond.Holds; decide)), rfl, rfl, (by first | exact rfl | (unfold Cond.Holds; decide)), (by first | exact rfl | (unfold Cond.Holds; decide)), (by first | exact rfl | (unfold Cond.Holds; decide)), (by first | exact rfl | (unfold Cond.Holds; decide)), rfl, rfl, (by first | exact rfl | (unfold Cond.Holds; decide)), (by first | exact rfl | (unfold Cond.Holds; decide)), (by first | exact rfl | (unfold Cond.Holds; decide)), (by first | exact rfl | (unfold Cond.Holds; decide)), rfl, rfl, (by first | exact rfl | (unfold Cond.Holds; decide)), (by first | exact rfl | (unfold Cond.Holds; decide)), (by first | exact rfl | (unfold Cond.Holds; decide)), (by first | exact rfl | (unfold Cond.Holds; decide)), rfl, rfl, (by first | exact rfl | (unfold Cond.Holds; decide)), rfl, rfl, (by first | exact rfl | (unfold Cond.Holds; decide)), rfl, rfl, (by first | exact rfl | (unfold Cond.Holds; decide)), (by first | exact rfl | (unfold Cond.Holds; decide)), (by first | exact rfl | (unfold Cond.Holds; decide)), (by first | exact rfl | (unfold Cond.Holds; decide)), (by first | exact rfl | (unfold Cond.Holds; decide)), rfl, rfl, trivial⟩
 exact fn_playC hn174 (r := F174_res (GA199.mk (wadd .u64 (wadd .u64 (wadd .u64 (wmul .u64 (wquo .u64 a1 4294967296) (wquo .u64 a2 4294967296)) (wquo .u64 (wmul .u64 (wquo .u64 a1 4294967296) (wrem a2 4294967296)) 4294967296)) (wquo .u64 (wmul .u64 (wrem a1 4294967296) (wquo .u64 a2 4294967296)) 4294967296)) (wquo .u64 (wadd .u64 (wadd .u64 (wquo .u64 (wmul .u64 (wrem a1 4294967296) (wrem a2 4294967296)) 4294967296) (wrem (wmul .u64 (wquo .u64 a1 4294967296) (wrem a2 4294967296)) 4294967296)) (wrem (wmul .u64 (wrem a1 4294967296) (wquo .u64 a2 4294967296)) 4294967296)) 4294967296)) (wadd .u64 (wmul .u64 (wrem (wadd .u64 (wadd .u64 (wquo .u64 (wmul .u64 (wrem a1 4294967296) (wrem a2 4294967296)) 4294967296) (wrem (wmul .u64 (wquo .u64 a1 4294967296) (wrem a2 4294967296)) 4294967296)) (wrem (wmul .u64 (wrem a1 4294967296) (wquo .u64 a2 4294967296)) 4294967296)) 4294967296) 4294967296) (wrem (wmul .u64 (wrem a1 4294967296) (wrem a2 4294967296)) 4294967296)))) pz (by kernel_rfl) (by kernel_rfl)
noncomputable def hn170 : Hint := { H 170 with nt := 41, prot := 0 }
def F170_res (r1 : Int × Bool) : Res := ⟨[(.one (.im (.lit (.int .i64 r1.1)))), (.one (.im (.lit (.bool r1.2))))], []⟩
def F170 (K : Nat) (a2 : Int) (a3 : Int) : Option (Int × Bool) :=
 (F175 K a2).bind fun r4 =>
 (F175 K a3).bind fun r5 =>
 (F174 K r4 r5).bind fun r6 =>
 bif (ilt 0 r6.x0) then
  (some (0, false))
 else
 bif (ilt 9223372036854775808 r6.x1) then
  (some (0, false))
 else
 bif (ieq r6.x1 9223372036854775808) then
  (bif (beqb (ilt a2 0) (ilt a3 0)) then
   (some (0, false))
  else
  some ((-9223372036854775808), true))
 else
 bif (beqb (ilt a2 0) (ilt a3 0)) then
  (some ((wconv .i64 r6.x1), true))
 else
 some ((wneg .i64 (wconv .i64 r6.x1)), true)
theorem F170_ok (K : Nat) (a2 : Int) (a3 : Int) (r : Int × Bool) (hF : F170 K a2 a3 = some r) : Evt E H 170 [.one (.lit (.int .i64 a2)), .one (.lit (.int .i64 a3))] (F170_res r) := by
 rw [F170] at hF
 refine bind_some hF (fun r4 h5 hF => ?_)
 refine bind_some hF (fun r6 h7 hF => ?_)
 refine bind_some hF (fun r8 h9 hF => ?_)
 have q15 : PQ hn170 fun l => (.call 175 [.one (.lit (.int .i64 a2))] (F175_res r4) :: .test (leadsAny (Res.mk [(.one (.im (.lit (.int .u64 r4))))] [])) false :: .call 175 [.one (.lit (.int .i64 a3))] (F175_res r6) :: .test (leadsAny (Res.mk [(.one (.im (.lit (.int .u64 r6))))] [])) false :: .call 174 [.one (.lit (.int .u64 r4)), .one (.lit (.int .u64 r6))] (F174_res r8) :: .test (leadsAny (Res.mk [(.agg [(.im (.lit (.int .u64 r8.x0))), (.im (.lit (.int .u64 r8.x1)))])] [])) false :: .test (ieq 0 0) true :: l) := fun z => ⟨(F175_ok K a2 _ h5), (leads_ok (by simp [leadsAny, RV.leads, RC.leads, leadsT, hasSl_lit])), (F175_ok K a3 _ h7), (leads_ok (by simp [leadsAny, RV.leads, RC.leads, leadsT, hasSl_lit])), (F174_ok K r4 r6 _ h9), (leads_ok (by simp [leadsAny, RV.leads, RC.leads, leadsT, hasSl_lit])), (by first | exact rfl | (unfold Cond.Holds; decide)), z⟩
 refine cond_some hF (fun h10 hF => ?_) (fun h10 hF => ?_)
 ·
  obtain rfl := Option.some.inj hF
  have pz : HoldAll E H hn170 [.test (beqb (igt r8.x0 0) false) false, .test (beqb (igt r8.x0 0) false) false, .test (beqb (igt r8.x0 0) false) false, .test (igt r8.x0 0) true, .test true true] := ⟨(beqb_ft (igt_eq h10)), (beqb_ft (igt_eq h10)), (beqb_ft (igt_eq h10)), (igt_eq h10), rfl, trivial⟩
  exact fn_playC hn170 (r := F170_res (0, false)) (q15 pz) (by kernel_rfl) (by kernel_rfl)
 have q16 : PQ hn170 fun l => (.test (beqb (igt r8.x0 0) false) true :: .test (ieq 1 0) false :: .test (ieq 1 1) true :: .test (beqb (igt r8.x0 0) false) true :: .test (beqb (igt r8.x0 0) false) true :: .test (igt r8.x0 0) false :: l) := fun z => ⟨(beqb_ff (igt_eq h10)), (by first | exact rfl | (unfold Cond.Holds; decide)), (by first | exact rfl | (unfold Cond.Holds; decide)), (beqb_ff (igt_eq h10)), (beqb_ff (igt_eq h10)), (igt_eq h10), z⟩
 refine cond_some hF (fun h11 hF => ?_) (fun h11 hF => ?_)
 ·
  obtain rfl := Option.some.inj hF
  have pz : HoldAll E H hn170 [.test (igt r8.x1 9223372036854775808) true] := ⟨(igt_eq h11), trivial⟩
  exact fn_playC hn170 (r := F170_res (0, false)) (q15 (q16 pz)) (by kernel_rfl) (by kernel_rfl)
 have q17 : PQ hn170 fun l => (.test (igt r8.x1 9223372036854775808) false :: .test (ieq 1 0) false :: .test (ieq 1 1) true :: l) := fun z => ⟨(igt_eq h11), (by first | exact rfl | (unfold Cond.Holds; decide)), (by first | exact rfl | (unfold Cond.Holds; decide)), z⟩
 refine cond_some hF (fun h12 hF => ?_) (fun h12 hF => ?_)
 ·
  refine cond_some hF (fun h13 hF => ?_) (fun h13 hF => ?_)
  ·
   obtain rfl := Option.some.inj hF
   have pz : HoldAll E H hn170 [.test (ieq r8.x1 9223372036854775808) true, .test (bnot (beqb (ilt a2 0) (ilt a3 0))) false] := ⟨h12, (bnot_t h13), trivial⟩
   exact fn_playC hn170 (r := F170_res (0, false)) (q15 (q16 (q17 pz))) (by kernel_rfl) (by kernel_rfl)
  obtain rfl := Option.some.inj hF
  have pz : HoldAll E H hn170 [.test (ieq r8.x1 9223372036854775808) true, .test (bnot (beqb (ilt a2 0) (ilt a3 0))) true] := ⟨h12, (bnot_f h13), trivial⟩
  exact fn_playC hn170 (r := F170_res ((-9223372036854775808), true)) (q15 (q16 (q17 pz))) (by kernel_rfl) (by kernel_rfl)
 refine cond_some hF (fun h14 hF => ?_) (fun h14 hF => ?_)
 ·
  obtain rfl := Option.some.inj hF
  have pz : HoldAll E H hn170 [.test (ieq r8.x1 9223372036854775808) false, .test (bnot (beqb (ilt a2 0) (ilt a3 0))) false, .test (ieq 1 0) false, .test (ieq 1 1) true, .int (wconv .i64 r8.x1) (wconv .i64 r8.x1)] := ⟨h12, (bnot_t h14), (by first | exact rfl | (unfold Cond.Holds; decide)), (by first | exact rfl | (unfold Cond.Holds; decide)), rfl, trivial⟩
  exact fn_playC hn170 (r := F170_res ((wconv .i64 r8.x1), true)) (q15 (q16 (q17 pz))) (by kernel_rfl) (by kernel_rfl)
 obtain rfl := Option.some.inj hF
 have pz : HoldAll E H hn170 [.test (ieq r8.x1 9223372036854775808) false, .test (bnot (beqb (ilt a2 0) (ilt a3 0))) true, .test (ieq 1 0) false, .test (ieq 1 1) true, .int (wconv .i64 r8.x1) (wconv .i64 r8.x1), .int (wneg .i64 (wconv .i64 r8.x1)) (wneg .i64 (wconv .i64 r8.x1))] := ⟨h12, (bnot_f h14), (by first | exact rfl | (unfold Cond.Holds; decide)), (by first | exact rfl | (unfold Cond.Holds; decide)), rfl, rfl, trivial⟩
 exact fn_playC hn170 (r := F170_res ((wneg .i64 (wconv .i64 r8.x1)), true)) (q15 (q16 (q17 pz))) (by kernel_rfl) (by kernel_rfl)
noncomputable def hn167 : Hint := { H 167 with nt := 25, prot := 0 }
def F167_res (r1 : Int × Bool) : Res := ⟨[(.one (.im (.lit (.int .i64 r1.1)))), (.one (.im (.lit (.bool r1.2))))], []⟩
def F167 (K : Nat) (a1 : Int) (a2 : Int) (a3 : Int) : Option (Int × Bool) :=
 (F170 K a1 a2).bind fun r4 =>
 bif r4.2 then
  (bif (ilt a3 1) then
   (some (0, false))
  else
  bif (izero a3) then none else
  some ((wquo .i64 r4.1 a3), true))
 else
 some (0, false)
theorem F167_ok (K : Nat) (a1 : Int) (a2 : Int) (a3 : Int) (r : Int × Bool) (hF : F167 K a1 a2 a3 = some r) : Evt E H 167 [.one (.lit (.int .i64 a1)), .one (.lit (.int .i64 a2)), .one (.lit (.int .i64 a3))] (F167_res r) := by
 rw [F167] at hF
 refine bind_some hF (fun r4 h5 hF => ?_)
 refine cond_some hF (fun h6 hF => ?_) (fun h6 hF => ?_)
 ·
  have q9 : PQ hn167 fun l => (.call 170 [.one (.lit (.int .i64 a1)), .one (.lit (.int .i64 a2))] (F170_res r4) :: .test (leadsAny (Res.mk [(.one (.im (.lit (.int .i64 r4.1)))), (.one (.im (.lit (.bool r4.2))))] [])) false :: .test (beqb (bnot r4.2) false) true :: .test (beqb (bnot r4.2) false) true :: .test (bnot r4.2) false :: l) := fun z => ⟨(F170_ok K a1 a2 _ h5), (leads_ok (by simp [leadsAny, RV.leads, RC.leads, leadsT, hasSl_lit])), (beqb_ff (bnot_t h6)), (beqb_ff (bnot_t h6)), (bnot_t h6), z⟩
  refine cond_some hF (fun h7 hF => ?_) (fun h7 hF => ?_)
  ·
   obtain rfl := Option.some.inj hF
   have pz : HoldAll E H hn167 [.test (ilt a3 1) true] := ⟨h7, trivial⟩
   exact fn_playC hn167 (r := F167_res (0, false)) (q9 pz) (by kernel_rfl) (by kernel_rfl)
  refine cond_some hF (fun _ hF => nomatch hF) (fun h8 hF => ?_)
  obtain rfl := Option.some.inj hF
  have pz : HoldAll E H hn167 [.test (ilt a3 1) false, .test (izero a3) false, .int (wquo .i64 r4.1 a3) (wquo .i64 r4.1 a3)] := ⟨h7, h8, rfl, trivial⟩
  exact fn_playC hn167 (r := F167_res ((wquo .i64 r4.1 a3), true)) (q9 pz) (by kernel_rfl) (by kernel_rfl)
 obtain rfl := Option.some.inj hF
 have pz : HoldAll E H hn167 [.call 170 [.one (.lit (.int .i64 a1)), .one (.lit (.int .i64 a2))] (F170_res r4), .test (leadsAny (Res.mk [(.one (.im (.lit (.int .i64 r4.1)))), (.one (.im (.lit (.bool r4.2))))] [])) false, .test (beqb (bnot r4.2) false) false, .test (beqb (bnot r4.2) false) false, .test (bnot r4.2) true, .test true true] := ⟨(F170_ok K a1 a2 _ h5), (leads_ok (by simp [leadsAny, RV.leads, RC.leads, leadsT, hasSl_lit])), (beqb_ft (bnot_f h6)), (beqb_ft (bnot_f h6)), (bnot_f h6), rfl, trivial⟩
 exact fn_playC hn167 (r := F167_res (0, false)) pz (by kernel_rfl) (by kernel_rfl)
noncomputable def hn146 : Hint := { H 146 with nt := 68, prot := 0 }
noncomputable def c146_0 : Code := loopOf E 146 0
def F146_res (r1 : Int × List GMsg × Bool × Int) : Res := ⟨[(.one (.im (.lit (.int .i64 r1.1)))), (.one (.own 130 (.sl (len r1.2.1) (flat eGMsg r1.2.1)))), (.one (.im (.lit (.bool r1.2.2.1)))), (.one (.im (.lit (.int .i64 r1.2.2.2))))], []⟩
def F146_l0_0 (K : Nat) (v1 : List GEdge) (v2 : Int) : Nat → List GMsg → Int → Option ((Unit) ⊕ (List GMsg))
 | 0, _, _ => none
 | k + 1, v3, v4 =>
  bif (ilt v4 (nlen (len v1))) then
   (bif (inr v4 (len v1)) then
   (elAt v1 v4).bind fun x5 =>
   (F167 K v2 1 (nlen (len v1))).bind fun r6 =>
   bif r6.2 then
    (bif (apok (len v3) 1 16) then
    F146_l0_0 K v1 v2 k (appL v3 [(GMsg.mk x5.To r6.1)]) (wadd .i64 v4 1)
    else none)
   else
   some (.inl ())
   else none)
  else
  some (.inr v3)
def F146_l0_0_S (v1 : List GEdge) (v2 : Int) (v3 : List GMsg) (v4 : Int) : TS := .on [0, 1, 128, 129, 1024, 1025, 2752, 2753, 2816, 2817, 2880, 2881] [(0, ⟨.one, 0, nob⟩), (1, ⟨.im, 0, (.sl (len v1) (flat eGEdge v1))⟩), (128, ⟨.one, 0, nob⟩), (129, ⟨.im, 0, (.lit (.int .i64 v2))⟩), (1024, ⟨.one, 0, nob⟩), (1025, ⟨(.own 130), 0, (.sl (len v3) (flat eGMsg v3))⟩), (2752, ⟨.one, 0, nob⟩), (2753, ⟨.im, 0, (.sl (len v1) (flat eGEdge v1))⟩), (2816, ⟨.one, 0, nob⟩), (2817, ⟨.im, 0, (.lit (.int .i64 (nlen (len v1))))⟩), (2880, ⟨.one, 0, nob⟩), (2881, ⟨.im, 0, (.lit (.int .i64 v4))⟩)]
def F146_l0_0_X0 (v1 : List GEdge) (v2 : Int) (w3 : Unit) : TS := .on [512, 513, 576, 577, 640, 641, 704, 705] [(512, ⟨.one, 0, nob⟩), (513, ⟨.im, 0, (.lit (.int .i64 0))⟩), (576, ⟨.one, 0, nob⟩), (577, ⟨(.own 130), 0, (.sl 0 [])⟩), (640, ⟨.one, 0, nob⟩), (641, ⟨.im, 0, (.lit (.bool false))⟩), (704, ⟨.one, 0, nob⟩), (705, ⟨.im, 0, (.lit (.int .i64 8))⟩)]
def F146_l0_0_X1 (v1 : List GEdge) (v2 : Int) (w3 : List GMsg) : TS := .on [128, 129, 1024, 1025] [(128, ⟨.one, 0, nob⟩), (129, ⟨.im, 0, (.lit (.int .i64 v2))⟩), (1024, ⟨.one, 0, nob⟩), (1025, ⟨(.own 130), 0, (.sl (len w3) (flat eGMsg w3))⟩)]
theorem F146_l0_0_ok (K : Nat) (v1 : List GEdge) (v2 : Int) : ∀ (k : Nat) (v3 : List GMsg) (v4 : Int) (r : (Unit) ⊕ (List GMsg)), F146_l0_0 K v1 v2 k v3 v4 = some r → (Sum.elim (fun w => LoopEv E H hn146 0 c146_0 (F146_l0_0_S v1 v2 v3 v4) .ret (F146_l0_0_X0 v1 v2 w)) (fun w => LoopEv E H hn146 0 c146_0 (F146_l0_0_S v1 v2 v3 v4) (.exit 0) (F146_l0_0_X1 v1 v2 w))) r := by
 intro k
 induction k with
 | zero => intro v3 v4 r hF; cases hF
 | succ k ih =>
  intro v3 v4 r hF
  rw [F146_l0_0] at hF
  refine cond_some hF (fun h5 hF => ?_) (fun h5 hF => ?_)
  ·
   refine cond_some hF (fun h6 hF => ?_) (fun _ hF => nomatch hF)
   refine bind_some hF (fun x7 h8 hF => ?_)
   refine bind_some hF (fun r9 h10 hF => ?_)
   have q13 : PQ hn146 fun l => (.test (ilt v4 (nlen (len v1))) true :: .test (inr v4 (len v1)) true :: .sub (flat eGEdge v1) (nidx v4 3) 3 [(.lit (.int .i64 x7.From)), (.lit (.int .i64 x7.To)), (.lit (.int .i64 x7.W))] :: .int (nlen (len v1)) (nlen (len v1)) :: .call 167 [.one (.lit (.int .i64 v2)), .one (.lit (.int .i64 1)), .one (.lit (.int .i64 (nlen (len v1))))] (F167_res r9) :: .test (leadsAny (Res.mk [(.one (.im (.lit (.int .i64 r9.1)))), (.one (.im (.lit (.bool r9.2))))] [])) false :: l) := fun z => ⟨h5, h6, ⟨rfl, sub_flat0 eGEdge_len h8 3 (by decide)⟩, rfl, (F167_ok K v2 1 (nlen (len v1)) _ h10), (leads_ok (by simp [leadsAny, RV.leads, RC.leads, leadsT, hasSl_lit, flat_ns eGEdge_ns])), z⟩
   refine cond_some hF (fun h11 hF => ?_) (fun h11 hF => ?_)
   ·
    refine cond_some hF (fun h12 hF => ?_) (fun _ hF => nomatch hF)
    have pz : HoldAll E H hn146 [.test (bnot r9.2) false, .test (leqm [(.lit (.int .i64 x7.To)), (.lit (.int .i64 r9.1))] 1 2) true, .test (apok (len v3) 1 16) true, .sl (nadd (len v3) 1) (lapp (flat eGMsg v3) [(.lit (.int .i64 x7.To)), (.lit (.int .i64 r9.1))]) (len (α := GMsg) (appL v3 [(GMsg.mk x7.To r9.1)])) (flat eGMsg (appL v3 [(GMsg.mk x7.To r9.1)])), .int (wadd .i64 v4 1) (wadd .i64 v4 1)] := ⟨(bnot_t h11), rfl, h12, (app_ok (enc := eGMsg) (v3 : List GMsg) [(GMsg.mk x7.To r9.1)]), rfl, trivial⟩
    have h0 := ih _ _ _ hF
    have hn := fun ex ts' => loop_nextC (h := hn146) (l := 0) (c := c146_0) (ts := F146_l0_0_S v1 v2 v3 v4) (ts1 := (F146_l0_0_S v1 v2 (appL v3 [(GMsg.mk x7.To r9.1)]) (wadd .i64 v4 1))) (ex := ex) (ts' := ts') (q13 pz) (by kernel_rfl)
    cases r with
    | inl w => exact hn _ _ h0
    | inr w => exact hn _ _ h0
   obtain rfl := Option.some.inj hF
   have pz : HoldAll E H hn146 [.test (bnot r9.2) true] := ⟨(bnot_f h11), trivial⟩
   exact loop_endC (h := hn146) (l := 0) (c := c146_0) (ts := F146_l0_0_S v1 v2 v3 v4) (ts' := F146_l0_0_X0 v1 v2 ()) (ex := .ret) (q13 pz) (by kernel_rfl) trivial
  obtain rfl := Option.some.inj hF
  have pz : HoldAll E H hn146 [.test (ilt v4 (nlen (len v1))) false] := ⟨h5, trivial⟩
  exact loop_endC (h := hn146) (l := 0) (c := c146_0) (ts := F146_l0_0_S v1 v2 v3 v4) (ts' := F146_l0_0_X1 v1 v2 v3) (ex := (.exit 0)) pz (by kernel_rfl) trivial
def F146 (K : Nat) (a1 : List GEdge) (a2 : Int) (a3 : Int) (a4 : Int) : Option (Int × List GMsg × Bool × Int) :=
 bif (ilt 0 a2) then
  ((F167 K a4 85 100).bind fun r5 =>
  (F144 K 150000 r5.1).bind fun r6 =>
  bif r5.2 then
   (bif r6.2 then
    (bif (ile 10 a2) then
     (some (r6.1, ([], (true, 0))))
    else
    (F146_l0_0 K a1 r6.1 K [] 0).bind fun y7 =>
    Sum.elim (fun w8 =>
     some (0, ([], (false, 8))))
     (fun w9 =>
     some (r6.1, (w9, (false, 0)))) y7)
   else
   some (0, ([], (false, 8))))
  else
  some (0, ([], (false, 8))))
 else
 bif (ile 10 a2) then
  (some (a3, ([], (true, 0))))
 else
 (F146_l0_0 K a1 a3 K [] 0).bind fun y10 =>
 Sum.elim (fun w11 =>
  some (0, ([], (false, 8))))
  (fun w12 =>
  some (a3, (w12, (false, 0)))) y10
theorem F146_ok (K : Nat) (a1 : List GEdge) (a2 : Int) (a3 : Int) (a4 : Int) (r : Int × List GMsg × Bool × Int) (hF : F146 K a1 a2 a3 a4 = some r) : Evt E H 146 [.one (.sl (len a1) (flat eGEdge a1)), .one (.lit (.int .i64 a2)), .one (.lit (.int .i64 a3)), .one (.lit (.int .i64 a4))] (F146_res r) := by
 rw [F146] at hF
 refine cond_some hF (fun h5 hF => ?_) (fun h5 hF => ?_)
 ·
  refine bind_some hF (fun r6 h7 hF => ?_)
  refine bind_some hF (fun r8 h9 hF => ?_)
  have q22 : PQ hn146 fun l => (.test (igt a2 0) true :: .call 167 [.one (.lit (.int .i64 a4)), .one (.lit (.int .i64 85)), .one (.lit (.int .i64 100))] (F167_res r6) :: .test (leadsAny (Res.mk [(.one (.im (.lit (.int .i64 r6.1)))), (.one (.im (.lit (.bool r6.2))))] [])) false :: .call 144 [.one (.lit (.int .i64 150000)), .one (.lit (.int .i64 r6.1))] (F144_res r8) :: .test (leadsAny (Res.mk [(.one (.im (.lit (.int .i64 r8.1)))), (.one (.im (.lit (.bool r8.2))))] [])) false :: l) := fun z => ⟨(igt_eq h5), (F167_ok K a4 85 100 _ h7), (leads_ok (by simp [leadsAny, RV.leads, RC.leads, leadsT, hasSl_lit])), (F144_ok K 150000 r6.1 _ h9), (leads_ok (by simp [leadsAny, RV.leads, RC.leads, leadsT, hasSl_lit])), z⟩
  refine cond_some hF (fun h10 hF => ?_) (fun h10 hF => ?_)
  ·
   have q23 : PQ hn146 fun l => (.test (beqb (bnot r6.2) false) true :: .test (beqb (bnot r6.2) false) true :: .test (bnot r6.2) false :: l) := fun z => ⟨(beqb_ff (bnot_t h10)), (beqb_ff (bnot_t h10)), (bnot_t h10), z⟩
   refine cond_some hF (fun h11 hF => ?_) (fun h11 hF => ?_)
   ·
    refine cond_some hF (fun h12 hF => ?_) (fun h12 hF => ?_)
    ·
     obtain rfl := Option.some.inj hF
     have pz : HoldAll E H hn146 [.test (bnot r8.2) false, .test (ige a2 10) true] := ⟨(bnot_t h11), (ige_eq h12), trivial⟩
     exact fn_playC hn146 (r := F146_res (r8.1, ([], (true, 0)))) (q22 (q23 pz)) (by kernel_rfl) (by kernel_rfl)
    have q24 : PQ hn146 fun l => (.test (bnot r8.2) false :: .test (ige a2 10) false :: .int (nlen (len a1)) (nlen (len a1)) :: l) := fun z => ⟨(bnot_t h11), (ige_eq h12), rfl, z⟩
    refine bind_some hF (fun y14 h13 hF => ?_)
    refine sum_some hF (fun w15 hx hF => ?_) (fun w16 hx hF => ?_)
    ·
     subst hx
     obtain rfl := Option.some.inj hF
     have pz : HoldAll E H hn146 [.loop 0 c146_0 (F146_l0_0_S a1 r8.1 [] 0) .ret (F146_l0_0_X0 a1 r8.1 w15)] := ⟨(F146_l0_0_ok K a1 r8.1 K [] 0 _ h13), trivial⟩
     exact fn_playC hn146 (r := F146_res (0, ([], (false, 8)))) (q22 (q23 (q24 pz))) (by kernel_rfl) (by kernel_rfl)
    subst hx
    obtain rfl := Option.some.inj hF
    have pz : HoldAll E H hn146 [.loop 0 c146_0 (F146_l0_0_S a1 r8.1 [] 0) (.exit 0) (F146_l0_0_X1 a1 r8.1 w16)] := ⟨(F146_l0_0_ok K a1 r8.1 K [] 0 _ h13), trivial⟩
    exact fn_playC hn146 (r := F146_res (r8.1, (w16, (false, 0)))) (q22 (q23 (q24 pz))) (by kernel_rfl) (by kernel_rfl)
   obtain rfl := Option.some.inj hF
   have pz : HoldAll E H hn146 [.test (bnot r8.2) true] := ⟨(bnot_f h11), trivial⟩
   exact fn_playC hn146 (r := F146_res (0, ([], (false, 8)))) (q22 (q23 pz)) (by kernel_rfl) (by kernel_rfl)
  obtain rfl := Option.some.inj hF
  have pz : HoldAll E H hn146 [.test (beqb (bnot r6.2) false) false, .test (beqb (bnot r6.2) false) false, .test (bnot r6.2) true, .test true true] := ⟨(beqb_ft (bnot_f h10)), (beqb_ft (bnot_f h10)), (bnot_f h10), rfl, trivial⟩
  exact fn_playC hn146 (r := F146_res (0, ([], (false, 8)))) (q22 pz) (by kernel_rfl) (by kernel_rfl)
 refine cond_some hF (fun h17 hF => ?_) (fun h17 hF => ?_)
 ·
  obtain rfl := Option.some.inj hF
  have pz : HoldAll E H hn146 [.test (igt a2 0) false, .test (ige a2 10) true] := ⟨(igt_eq h5), (ige_eq h17), trivial⟩
  exact fn_playC hn146 (r := F146_res (a3, ([], (true, 0)))) pz (by kernel_rfl) (by kernel_rfl)
 have q25 : PQ hn146 fun l => (.test (igt a2 0) false :: .test (ige a2 10) false :: .int (nlen (len a1)) (nlen (len a1)) :: l) := fun z => ⟨(igt_eq h5), (ige_eq h17), rfl, z⟩
 refine bind_some hF (fun y19 h18 hF => ?_)
 refine sum_some hF (fun w20 hx hF => ?_) (fun w21 hx hF => ?_)
 ·
  subst hx
  obtain rfl := Option.some.inj hF
  have pz : HoldAll E H hn146 [.loop 0 c146_0 (F146_l0_0_S a1 a3 [] 0) .ret (F146_l0_0_X0 a1 a3 w20)] := ⟨(F146_l0_0_ok K a1 a3 K [] 0 _ h18), trivial⟩
  exact fn_playC hn146 (r := F146_res (0, ([], (false, 8)))) (q25 pz) (by kernel_rfl) (by kernel_rfl)
 subst hx
 obtain rfl := Option.some.inj hF
 have pz : HoldAll E H hn146 [.loop 0 c146_0 (F146_l0_0_S a1 a3 [] 0) (.exit 0) (F146_l0_0_X1 a1 a3 w21)] := ⟨(F146_l0_0_ok K a1 a3 K [] 0 _ h18), trivial⟩
 exact fn_playC hn146 (r := F146_res (a3, (w21, (false, 0)))) (q25 pz) (by kernel_rfl) (by kernel_rfl)
noncomputable def hn99 : Hint := { H 99 with nt := 122, prot := 0 }
noncomputable def c99_0 : Code := loopOf E 99 0
def F99_res (r1 : Int × List GMsg × Bool × Int) : Res := ⟨[(.one (.im (.lit (.int .i64 r1.1)))), (.one (.own 130 (.sl (len r1.2.1) (flat eGMsg r1.2.1)))), (.one (.im (.lit (.bool r1.2.2.1)))), (.one (.im (.lit (.int .i64 r1.2.2.2))))], []⟩
def F99_l0_0 (K : Nat) (v1 : Int) (v2 : Bool) (v3 : List GEdge) : Nat → List GMsg → Int → Option ((Unit) ⊕ (List GMsg))
 | 0, _, _ => none
 | k + 1, v4, v5 =>
  bif (ilt v5 (nlen (len v3))) then
   (bif (inr v5 (len v3)) then
   (elAt v3 v5).bind fun x6 =>
   (F160 K v1 x6).bind fun r7 =>
   bif r7.2 then
    (bif (apok (len v4) 1 16) then
    F99_l0_0 K v1 v2 v3 k (appL v4 [(GMsg.mk x6.To r7.1)]) (wadd .i64 v5 1)
    else none)
   else
   some (.inl ())
   else none)
  else
  some (.inr v4)
def F99_l0_0_S (v1 : Int) (v2 : Bool) (v3 : List GEdge) (v4 : List GMsg) (v5 : Int) : TS := .on [256, 257, 1216, 1217, 1218, 1219, 1220, 1344, 1345, 1472, 1473, 6144, 6145, 6208, 6209, 6272, 6273] [(256, ⟨.one, 0, nob⟩), (257, ⟨.im, 0, (.lit (.int .i64 v1))⟩), (1216, ⟨(.box 176 4), 0, nob⟩), (1217, ⟨.im, 0, (.lit (fnV 158))⟩), (1218, ⟨.im, 0, (.lit (fnV 159))⟩), (1219, ⟨.im, 0, (.lit (.bool v2))⟩), (1220, ⟨.im, 0, (.lit (fnV 160))⟩), (1344, ⟨.one, 0, nob⟩), (1345, ⟨(.own 89), 0, (.sl (len v3) (flat eGEdge v3))⟩), (1472, ⟨.one, 0, nob⟩), (1473, ⟨(.own 130), 0, (.sl (len v4) (flat eGMsg v4))⟩), (6144, ⟨.one, 0, nob⟩), (6145, ⟨(.vw 1345 0), 0, nob⟩), (6208, ⟨.one, 0, nob⟩), (6209, ⟨.im, 0, (.lit (.int .i64 (nlen (len v3))))⟩), (6272, ⟨.one, 0, nob⟩), (6273, ⟨.im, 0, (.lit (.int .i64 v5))⟩)]
def F99_l0_0_X0 (v1 : Int) (v2 : Bool) (v3 : List GEdge) (w4 : Unit) : TS := .on [896, 897, 960, 961, 1024, 1025, 1088, 1089] [(896, ⟨.one, 0, nob⟩), (897, ⟨.im, 0, (.lit (.int .i64 0))⟩), (960, ⟨.one, 0, nob⟩), (961, ⟨(.own 130), 0, (.sl 0 [])⟩), (1024, ⟨.one, 0, nob⟩), (1025, ⟨.im, 0, (.lit (.bool false))⟩), (1088, ⟨.one, 0, nob⟩), (1089, ⟨.im, 0, (.lit (.int .i64 8))⟩)]
def F99_l0_0_X1 (v1 : Int) (v2 : Bool) (v3 : List GEdge) (w4 : List GMsg) : TS := .on [256, 257, 1472, 1473] [(256, ⟨.one, 0, nob⟩), (257, ⟨.im, 0, (.lit (.int .i64 v1))⟩), (1472, ⟨.one, 0, nob⟩), (1473, ⟨(.own 130), 0, (.sl (len w4) (flat eGMsg w4))⟩)]
theorem F99_l0_0_ok (K : Nat) (v1 : Int) (v2 : Bool) (v3 : List GEdge) : ∀ (k : Nat) (v4 : List GMsg) (v5 : Int) (r : (Unit) ⊕ (List GMsg)), F99_l0_0 K v1 v2 v3 k v4 v5 = some r → (Sum.elim (fun w => LoopEv E H hn99 0 c99_0 (F99_l0_0_S v1 v2 v3 v4 v5) .ret (F99_l0_0_X0 v1 v2 v3 w)) (fun w => LoopEv E H hn99 0 c99_0 (F99_l0_0_S v1 v2 v3 v4 v5) (.exit 0) (F99_l0_0_X1 v1 v2 v3 w))) r := by
 intro k
 induction k with
 | zero => intro v4 v5 r hF; cases hF
 | succ k ih =>
  intro v4 v5 r hF
  rw [F99_l0_0] at hF
  refine cond_some hF (fun h6 hF => ?_) (fun h6 hF => ?_)
  ·
   refine cond_some hF (fun h7 hF => ?_) (fun _ hF => nomatch hF)
   refine bind_some hF (fun x8 h9 hF => ?_)
   refine bind_some hF (fun r10 h11 hF => ?_)
   have q14 : PQ hn99 fun l => (.test (ilt v5 (nlen (len v3))) true :: .test (inr v5 (len v3)) true :: .sub (flat eGEdge v3) (nidx v5 3) 3 [(.lit (.int .i64 x8.From)), (.lit (.int .i64 x8.To)), (.lit (.int .i64 x8.W))] :: .call 160 [.one (.lit (.int .i64 v1)), .agg (eGEdge x8)] (F160_res r10) :: .test (leadsAny (Res.mk [(.one (.im (.lit (.int .i64 r10.1)))), (.one (.im (.lit (.bool r10.2))))] [])) false :: l) := fun z => ⟨h6, h7, ⟨rfl, sub_flat0 eGEdge_len h9 3 (by decide)⟩, (F160_ok K v1 x8 _ h11), (leads_ok (by simp [leadsAny, RV.leads, RC.leads, leadsT, hasSl_lit, flat_ns eGEdge_ns])), z⟩
   refine cond_some hF (fun h12 hF => ?_) (fun h12 hF => ?_)
   ·
    refine cond_some hF (fun h13 hF => ?_) (fun _ hF => nomatch hF)
    have pz : HoldAll E H hn99 [.test (bnot r10.2) false, .test (leqm [(.lit (.int .i64 x8.To)), (.lit (.int .i64 r10.1))] 1 2) true, .test (apok (len v4) 1 16) true, .sl (nadd (len v4) 1) (lapp (flat eGMsg v4) [(.lit (.int .i64 x8.To)), (.lit (.int .i64 r10.1))]) (len (α := GMsg) (appL v4 [(GMsg.mk x8.To r10.1)])) (flat eGMsg (appL v4 [(GMsg.mk x8.To r10.1)])), .int (wadd .i64 v5 1) (wadd .i64 v5 1)] := ⟨(bnot_t h12), rfl, h13, (app_ok (enc := eGMsg) (v4 : List GMsg) [(GMsg.mk x8.To r10.1)]), rfl, trivial⟩
    have h0 := ih _ _ _ hF
    have hn := fun ex ts' => loop_nextC (h := hn99) (l := 0) (c := c99_0) (ts := F99_l0_0_S v1 v2 v3 v4 v5) (ts1 := (F99_l0_0_S v1 v2 v3 (appL v4 [(GMsg.mk x8.To r10.1)]) (wadd .i64 v5 1))) (ex := ex) (ts' := ts') (q14 pz) (by kernel_rfl)
    cases r with
    | inl w => exact hn _ _ h0
    | inr w => exact hn _ _ h0
   obtain rfl := Option.some.inj hF
   have pz : HoldAll E H hn99 [.test (bnot r10.2) true] := ⟨(bnot_f h12), trivial⟩
   exact loop_endC (h := hn99) (l := 0) (c := c99_0) (ts := F99_l0_0_S v1 v2 v3 v4 v5) (ts' := F99_l0_0_X0 v1 v2 v3 ()) (ex := .ret) (q14 pz) (by kernel_rfl) trivial
  obtain rfl := Option.some.inj hF
  have pz : HoldAll E H hn99 [.test (ilt v5 (nlen (len v3))) false] := ⟨h6, trivial⟩
  exact loop_endC (h := hn99) (l := 0) (c := c99_0) (ts := F99_l0_0_S v1 v2 v3 v4 v5) (ts' := F99_l0_0_X1 v1 v2 v3 v4) (ex := (.exit 0)) pz (by kernel_rfl) trivial
def F99_l0_1 (K : Nat) (v1 : Int) (v2 : Bool) (v3 : List GEdge) : Nat → List GMsg → Int → Option ((Unit) ⊕ (List GMsg))
 | 0, _, _ => none
 | k + 1, v4, v5 =>
  bif (ilt v5 (nlen (len v3))) then
   (bif (inr v5 (len v3)) then
   (elAt v3 v5).bind fun x6 =>
   (F161 K v1 x6).bind fun r7 =>
   bif r7.2 then
    (bif (apok (len v4) 1 16) then
    F99_l0_1 K v1 v2 v3 k (appL v4 [(GMsg.mk x6.To r7.1)]) (wadd .i64 v5 1)
    else none)
   else
   some (.inl ())
   else none)
  else
  some (.inr v4)
def F99_l0_1_S (v1 : Int) (v2 : Bool) (v3 : List GEdge) (v4 : List GMsg) (v5 : Int) : TS := .on [256, 257, 1216, 1217, 1218, 1219, 1220, 1344, 1345, 1472, 1473, 6144, 6145, 6208, 6209, 6272, 6273] [(256, ⟨.one, 0, nob⟩), (257, ⟨.im, 0, (.lit (.int .i64 v1))⟩), (1216, ⟨(.box 176 4), 0, nob⟩), (1217, ⟨.im, 0, (.lit (fnV 158))⟩), (1218, ⟨.im, 0, (.lit (fnV 159))⟩), (1219, ⟨.im, 0, (.lit (.bool v2))⟩), (1220, ⟨.im, 0, (.lit (fnV 161))⟩), (1344, ⟨.one, 0, nob⟩), (1345, ⟨(.own 89), 0, (.sl (len v3) (flat eGEdge v3))⟩), (1472, ⟨.one, 0, nob⟩), (1473, ⟨(.own 130), 0, (.sl (len v4) (flat eGMsg v4))⟩), (6144, ⟨.one, 0, nob⟩), (6145, ⟨(.vw 1345 0), 0, nob⟩), (6208, ⟨.one, 0, nob⟩), (6209, ⟨.im, 0, (.lit (.int .i64 (nlen (len v3))))⟩), (6272, ⟨.one, 0, nob⟩), (6273, ⟨.im, 0, (.lit (.int .i64 v5))⟩)]
def F99_l0_1_X0 (v1 : Int) (v2 : Bool) (v3 : List GEdge) (w4 : Unit) : TS := .on [896, 897, 960, 961, 1024, 1025, 1088, 1089] [(896, ⟨.one, 0, nob⟩), (897, ⟨.im, 0, (.lit (.int .i64 0))⟩), (960, ⟨.one, 0, nob⟩), (961, ⟨(.own 130), 0, (.sl 0 [])⟩), (1024, ⟨.one, 0, nob⟩), (1025, ⟨.im, 0, (.lit (.bool false))⟩), (1088, ⟨.one, 0, nob⟩), (1089, ⟨.im, 0, (.lit (.int .i64 8))⟩)]
def F99_l0_1_X1 (v1 : Int) (v2 : Bool) (v3 : List GEdge) (w4 : List GMsg) : TS := .on [256, 257, 1472, 1473] [(256, ⟨.one, 0, nob⟩), (257, ⟨.im, 0, (.lit (.int .i64 v1))⟩), (1472, ⟨.one, 0, nob⟩), (1473, ⟨(.own 130), 0, (.sl (len w4) (flat eGMsg w4))⟩)]
theorem F99_l0_1_ok (K : Nat) (v1 : Int) (v2 : Bool) (v3 : List GEdge) : ∀ (k : Nat) (v4 : List GMsg) (v5 : Int) (r : (Unit) ⊕ (List GMsg)), F99_l0_1 K v1 v2 v3 k v4 v5 = some r → (Sum.elim (fun w => LoopEv E H hn99 0 c99_0 (F99_l0_1_S v1 v2 v3 v4 v5) .ret (F99_l0_1_X0 v1 v2 v3 w)) (fun w => LoopEv E H hn99 0 c99_0 (F99_l0_1_S v1 v2 v3 v4 v5) (.exit 0) (F99_l0_1_X1 v1 v2 v3 w))) r := by
 intro k
 induction k with
 | zero => intro v4 v5 r hF; cases hF
 | succ k ih =>
  intro v4 v5 r hF
  rw [F99_l0_1] at hF
  refine cond_some hF (fun h6 hF => ?_) (fun h6 hF => ?_)
  ·
   refine cond_some hF (fun h7 hF => ?_) (fun _ hF => nomatch hF)
   refine bind_some hF (fun x8 h9 hF => ?_)
   refine bind_some hF (fun r10 h11 hF => ?_)
   have q14 : PQ hn99 fun l => (.test (ilt v5 (nlen (len v3))) true :: .test (inr v5 (len v3)) true :: .sub (flat eGEdge v3) (nidx v5 3) 3 [(.lit (.int .i64 x8.From)), (.lit (.int .i64 x8.To)), (.lit (.int .i64 x8.W))] :: .call 161 [.one (.lit (.int .i64 v1)), .agg (eGEdge x8)] (F161_res r10) :: .test (leadsAny (Res.mk [(.one (.im (.lit (.int .i64 r10.1)))), (.one (.im (.lit (.bool r10.2))))] [])) false :: l) := fun z => ⟨h6, h7, ⟨rfl, sub_flat0 eGEdge_len h9 3 (by decide)⟩, (F161_ok K v1 x8 _ h11), (leads_ok (by simp [leadsAny, RV.leads, RC.leads, leadsT, hasSl_lit, flat_ns eGEdge_ns])), z⟩
   refine cond_some hF (fun h12 hF => ?_) (fun h12 hF => ?_)
   ·
    refine cond_some hF (fun h13 hF => ?_) (fun _ hF => nomatch hF)
    have pz : HoldAll E H hn99 [.test (bnot r10.2) false, .test (leqm [(.lit (.int .i64 x8.To)), (.lit (.int .i64 r10.1))] 1 2) true, .test (apok (len v4) 1 16) true, .sl (nadd (len v4) 1) (lapp (flat eGMsg v4) [(.lit (.int .i64 x8.To)), (.lit (.int .i64 r10.1))]) (len (α := GMsg) (appL v4 [(GMsg.mk x8.To r10.1)])) (flat eGMsg (appL v4 [(GMsg.mk x8.To r10.1)])), .int (wadd .i64 v5 1) (wadd .i64 v5 1)] := ⟨(bnot_t h12), rfl, h13, (app_ok (enc := eGMsg) (v4 : List GMsg) [(GMsg.mk x8.To r10.1)]), rfl, trivial⟩
    have h0 := ih _ _ _ hF
    have hn := fun ex ts' => loop_nextC (h := hn99) (l := 0) (c := c99_0) (ts := F99_l0_1_S v1 v2 v3 v4 v5) (ts1 := (F99_l0_1_S v1 v2 v3 (appL v4 [(GMsg.mk x8.To r10.1)]) (wadd .i64 v5 1))) (ex := ex) (ts' := ts') (q14 pz) (by kernel_rfl)
    cases r with
    | inl w => exact hn _ _ h0
    | inr w => exact hn _ _ h0
   obtain rfl := Option.some.inj hF
   have pz : HoldAll E H hn99 [.test (bnot r10.2) true] := ⟨(bnot_f h12), trivial⟩
   exact loop_endC (h := hn99) (l := 0) (c := c99_0) (ts := F99_l0_1_S v1 v2 v3 v4 v5) (ts' := F99_l0_1_X0 v1 v2 v3 ()) (ex := .ret) (q14 pz) (by kernel_rfl) trivial
  obtain rfl := Option.some.inj hF
  have pz : HoldAll E H hn99 [.test (ilt v5 (nlen (len v3))) false] := ⟨h6, trivial⟩
  exact loop_endC (h := hn99) (l := 0) (c := c99_0) (ts := F99_l0_1_S v1 v2 v3 v4 v5) (ts' := F99_l0_1_X1 v1 v2 v3 v4) (ex := (.exit 0)) pz (by kernel_rfl) trivial
def F99_l0_2 (K : Nat) (v1 : Int) (v2 : Bool) (v3 : List GEdge) : Nat → List GMsg → Int → Option ((Unit) ⊕ (List GMsg))
 | 0, _, _ => none
 | k + 1, v4, v5 =>
  bif (ilt v5 (nlen (len v3))) then
   (bif (inr v5 (len v3)) then
   (elAt v3 v5).bind fun x6 =>
   (F163 K v1 x6).bind fun r7 =>
   bif r7.2 then
    (bif (apok (len v4) 1 16) then
    F99_l0_2 K v1 v2 v3 k (appL v4 [(GMsg.mk x6.To r7.1)]) (wadd .i64 v5 1)
    else none)
   else
   some (.inl ())
   else none)
  else
  some (.inr v4)
def F99_l0_2_S (v1 : Int) (v2 : Bool) (v3 : List GEdge) (v4 : List GMsg) (v5 : Int) : TS := .on [256, 257, 1216, 1217, 1218, 1219, 1220, 1344, 1345, 1472, 1473, 6144, 6145, 6208, 6209, 6272, 6273] [(256, ⟨.one, 0, nob⟩), (257, ⟨.im, 0, (.lit (.int .i64 v1))⟩), (1216, ⟨(.box 176 4), 0, nob⟩), (1217, ⟨.im, 0, (.lit (fnV 162))⟩), (1218, ⟨.im, 0, (.lit (fnV 159))⟩), (1219, ⟨.im, 0, (.lit (.bool v2))⟩), (1220, ⟨.im, 0, (.lit (fnV 163))⟩), (1344, ⟨.one, 0, nob⟩), (1345, ⟨(.own 89), 0, (.sl (len v3) (flat eGEdge v3))⟩), (1472, ⟨.one, 0, nob⟩), (1473, ⟨(.own 130), 0, (.sl (len v4) (flat eGMsg v4))⟩), (6144, ⟨.one, 0, nob⟩), (6145, ⟨(.vw 1345 0), 0, nob⟩), (6208, ⟨.one, 0, nob⟩), (6209, ⟨.im, 0, (.lit (.int .i64 (nlen (len v3))))⟩), (6272, ⟨.one, 0, nob⟩), (6273, ⟨.im, 0, (.lit (.int .i64 v5))⟩)]
def F99_l0_2_X0 (v1 : Int) (v2 : Bool) (v3 : List GEdge) (w4 : Unit) : TS := .on [896, 897, 960, 961, 1024, 1025, 1088, 1089] [(896, ⟨.one, 0, nob⟩), (897, ⟨.im, 0, (.lit (.int .i64 0))⟩), (960, ⟨.one, 0, nob⟩), (961, ⟨(.own 130), 0, (.sl 0 [])⟩), (1024, ⟨.one, 0, nob⟩), (1025, ⟨.im, 0, (.lit (.bool false))⟩), (1088, ⟨.one, 0, nob⟩), (1089, ⟨.im, 0, (.lit (.int .i64 8))⟩)]
def F99_l0_2_X1 (v1 : Int) (v2 : Bool) (v3 : List GEdge) (w4 : List GMsg) : TS := .on [256, 257, 1472, 1473] [(256, ⟨.one, 0, nob⟩), (257, ⟨.im, 0, (.lit (.int .i64 v1))⟩), (1472, ⟨.one, 0, nob⟩), (1473, ⟨(.own 130), 0, (.sl (len w4) (flat eGMsg w4))⟩)]
theorem F99_l0_2_ok (K : Nat) (v1 : Int) (v2 : Bool) (v3 : List GEdge) : ∀ (k : Nat) (v4 : List GMsg) (v5 : Int) (r : (Unit) ⊕ (List GMsg)), F99_l0_2 K v1 v2 v3 k v4 v5 = some r → (Sum.elim (fun w => LoopEv E H hn99 0 c99_0 (F99_l0_2_S v1 v2 v3 v4 v5) .ret (F99_l0_2_X0 v1 v2 v3 w)) (fun w => LoopEv E H hn99 0 c99_0 (F99_l0_2_S v1 v2 v3 v4 v5) (.exit 0) (F99_l0_2_X1 v1 v2 v3 w))) r := by
 intro k
 induction k with
 | zero => intro v4 v5 r hF; cases hF
 | succ k ih =>
  intro v4 v5 r hF
  rw [F99_l0_2] at hF
  refine cond_some hF (fun h6 hF => ?_) (fun h6 hF => ?_)
  ·
   refine cond_some hF (fun h7 hF => ?_) (fun _ hF => nomatch hF)
   refine bind_some hF (fun x8 h9 hF => ?_)
   refine bind_some hF (fun r10 h11 hF => ?_)
   have q14 : PQ hn99 fun l => (.test (ilt v5 (nlen (len v3))) true :: .test (inr v5 (len v3)) true :: .sub (flat eGEdge v3) (nidx v5 3) 3 [(.lit (.int .i64 x8.From)), (.lit (.int .i64 x8.To)), (.lit (.int .i64 x8.W))] :: .call 163 [.one (.lit (.int .i64 v1)), .agg (eGEdge x8)] (F163_res r10) :: .test (leadsAny (Res.mk [(.one (.im (.lit (.int .i64 r10.1)))), (.one (.im (.lit (.bool r10.2))))] [])) false :: l) := fun z => ⟨h6, h7, ⟨rfl, sub_flat0 eGEdge_len h9 3 (by decide)⟩, (F163_ok K v1 x8 _ h11), (leads_ok (by simp [leadsAny, RV.leads, RC.leads, leadsT, hasSl_lit, flat_ns eGEdge_ns])), z⟩
   refine cond_some hF (fun h12 hF => ?_) (fun h12 hF => ?_)
   ·
    refine cond_some hF (fun h13 hF => ?_) (fun _ hF => nomatch hF)
    have pz : HoldAll E H hn99 [.test (bnot r10.2) false, .test (leqm [(.lit (.int .i64 x8.To)), (.lit (.int .i64 r10.1))] 1 2) true, .test (apok (len v4) 1 16) true, .sl (nadd (len v4) 1) (lapp (flat eGMsg v4) [(.lit (.int .i64 x8.To)), (.lit (.int .i64 r10.1))]) (len (α := GMsg) (appL v4 [(GMsg.mk x8.To r10.1)])) (flat eGMsg (appL v4 [(GMsg.mk x8.To r10.1)])), .int (wadd .i64 v5 1) (wadd .i64 v5 1)] := ⟨(bnot_t h12), rfl, h13, (app_ok (enc := eGMsg) (v4 : List GMsg) [(GMsg.mk x8.To r10.1)]), rfl, trivial⟩
    have h0 := ih _ _ _ hF
    have hn := fun ex ts' => loop_nextC (h := hn99) (l := 0) (c := c99_0) (ts := F99_l0_2_S v1 v2 v3 v4 v5) (ts1 := (F99_l0_2_S v1 v2 v3 (appL v4 [(GMsg.mk x8.To r10.1)]) (wadd .i64 v5 1))) (ex := ex) (ts' := ts') (q14 pz) (by kernel_rfl)
    cases r with
    | inl w => exact hn _ _ h0
    | inr w => exact hn _ _ h0
   obtain rfl := Option.some.inj hF
   have pz : HoldAll E H hn99 [.test (bnot r10.2) true] := ⟨(bnot_f h12), trivial⟩
   exact loop_endC (h := hn99) (l := 0) (c := c99_0) (ts := F99_l0_2_S v1 v2 v3 v4 v5) (ts' := F99_l0_2_X0 v1 v2 v3 ()) (ex := .ret) (q14 pz) (by kernel_rfl) trivial
  obtain rfl := Option.some.inj hF
  have pz : HoldAll E H hn99 [.test (ilt v5 (nlen (len v3))) false] := ⟨h6, trivial⟩
  exact loop_endC (h := hn99) (l := 0) (c := c99_0) (ts := F99_l0_2_S v1 v2 v3 v4 v5) (ts' := F99_l0_2_X1 v1 v2 v3 v4) (ex := (.exit 0)) pz (by kernel_rfl) trivial
def F99_l0_3 (K : Nat) (v1 : Int) (v2 : Bool) (v3 : List GEdge) : Nat → List GMsg → Int → Option ((Unit) ⊕ (List GMsg))
 | 0, _, _ => none
 | k + 1, v4, v5 =>
  bif (ilt v5 (nlen (len v3))) then
   (bif (inr v5 (len v3)) then
   (elAt v3 v5).bind fun x6 =>
   (F163 K v1 x6).bind fun r7 =>
   bif r7.2 then
    (bif (apok (len v4) 1 16) then
    F99_l0_3 K v1 v2 v3 k (appL v4 [(GMsg.mk x6.To r7.1)]) (wadd .i64 v5 1)
    else none)
   else
   some (.inl ())
   else none)
  else
  some (.inr v4)
def F99_l0_3_S (v1 : Int) (v2 : Bool) (v3 : List GEdge) (v4 : List GMsg) (v5 : Int) : TS := .on [256, 257, 1216, 1217, 1218, 1219, 1220, 1344, 1345, 1472, 1473, 6144, 6145, 6208, 6209, 6272, 6273] [(256, ⟨.one, 0, nob⟩), (257, ⟨.im, 0, (.lit (.int .i64 v1))⟩), (1216, ⟨(.box 176 4), 0, nob⟩), (1217, ⟨.im, 0, (.lit (fnV 164))⟩), (1218, ⟨.im, 0, (.lit (fnV 165))⟩), (1219, ⟨.im, 0, (.lit (.bool v2))⟩), (1220, ⟨.im, 0, (.lit (fnV 163))⟩), (1344, ⟨.one, 0, nob⟩), (1345, ⟨(.own 89), 0, (.sl (len v3) (flat eGEdge v3))⟩), (1472, ⟨.one, 0, nob⟩), (1473, ⟨(.own 130), 0, (.sl (len v4) (flat eGMsg v4))⟩), (6144, ⟨.one, 0, nob⟩), (6145, ⟨(.vw 1345 0), 0, nob⟩), (6208, ⟨.one, 0, nob⟩), (6209, ⟨.im, 0, (.lit (.int .i64 (nlen (len v3))))⟩), (6272, ⟨.one, 0, nob⟩), (6273, ⟨.im, 0, (.lit (.int .i64 v5))⟩)]
def F99_l0_3_X0 (v1 : Int) (v2 : Bool) (v3 : List GEdge) (w4 : Unit) : TS := .on [896, 897, 960, 961, 1024, 1025, 1088, 1089] [(896, ⟨.one, 0, nob⟩), (897, ⟨.im, 0, (.lit (.int .i64 0))⟩), (960, ⟨.one, 0, nob⟩), (961, ⟨(.own 130), 0, (.sl 0 [])⟩), (1024, ⟨.one, 0, nob⟩), (1025, ⟨.im, 0, (.lit (.bool false))⟩), (1088, ⟨.one, 0, nob⟩), (1089, ⟨.im, 0, (.lit (.int .i64 8))⟩)]
def F99_l0_3_X1 (v1 : Int) (v2 : Bool) (v3 : List GEdge) (w4 : List GMsg) : TS := .on [256, 257, 1472, 1473] [(256, ⟨.one, 0, nob⟩), (257, ⟨.im, 0, (.lit (.int .i64 v1))⟩), (1472, ⟨.one, 0, nob⟩), (1473, ⟨(.own 130), 0, (.sl (len w4) (flat eGMsg w4))⟩)]
theorem F99_l0_3_ok (K : Nat) (v1 : Int) (v2 : Bool) (v3 : List GEdge) : ∀ (k : Nat) (v4 : List GMsg) (v5 : Int) (r : (Unit) ⊕ (List GMsg)), F99_l0_3 K v1 v2 v3 k v4 v5 = some r → (Sum.elim (fun w => LoopEv E H hn99 0 c99_0 (F99_l0_3_S v1 v2 v3 v4 v5) .ret (F99_l0_3_X0 v1 v2 v3 w)) (fun w => LoopEv E H hn99 0 c99_0 (F99_l0_3_S v1 v2 v3 v4 v5) (.exit 0) (F99_l0_3_X1 v1 v2 v3 w))) r := by
 intro k
 induction k with
 | zero => intro v4 v5 r hF; cases hF
 | succ k ih =>
  intro v4 v5 r hF
  rw [F99_l0_3] at hF
  refine cond_some hF (fun h6 hF => ?_) (fun h6 hF => ?_)
  ·
   refine cond_some hF (fun h7 hF => ?_) (fun _ hF => nomatch hF)
   refine bind_some hF (fun x8 h9 hF => ?_)
   refine bind_some hF (fun r10 h11 hF => ?_)
   have q14 : PQ hn99 fun l => (.test (ilt v5 (nlen (len v3))) true :: .test (inr v5 (len v3)) true :: .sub (flat eGEdge v3) (nidx v5 3) 3 [(.lit (.int .i64 x8.From)), (.lit (.int .i64 x8.To)), (.lit (.int .i64 x8.W))] :: .call 163 [.one (.lit (.int .i64 v1)), .agg (eGEdge x8)] (F163_res r10) :: .test (leadsAny (Res.mk [(.one (.im (.lit (.int .i64 r10.1)))), (.one (.im (.lit (.bool r10.2))))] [])) false :: l) := fun z => ⟨h6, h7, ⟨rfl, sub_flat0 eGEdge_len h9 3 (by decide)⟩, (F163_ok K v1 x8 _ h11), (leads_ok (by simp [leadsAny, RV.leads, RC.leads, leadsT, hasSl_lit, flat_ns eGEdge_ns])), z⟩
   refine cond_some hF (fun h12 hF => ?_) (fun h12 hF => ?_)
   ·
    refine cond_some hF (fun h13 hF => ?_) (fun _ hF => nomatch hF)
    have pz : HoldAll E H hn99 [.test (bnot r10.2) false, .test (leqm [(.lit (.int .i64 x8.To)), (.lit (.int .i64 r10.1))] 1 2) true, .test (apok (len v4) 1 16) true, .sl (nadd (len v4) 1) (lapp (flat eGMsg v4) [(.lit (.int .i64 x8.To)), (.lit (.int .i64 r10.1))]) (len (α := GMsg) (appL v4 [(GMsg.mk x8.To r10.1)])) (flat eGMsg (appL v4 [(GMsg.mk x8.To r10.1)])), .int (wadd .i64 v5 1) (wadd .i64 v5 1)] := ⟨(bnot_t h12), rfl, h13, (app_ok (enc := eGMsg) (v4 : List GMsg) [(GMsg.mk x8.To r10.1)]), rfl, trivial⟩
    have h0 := ih _ _ _ hF
    have hn := fun ex ts' => loop_nextC (h := hn99) (l := 0) (c := c99_0) (ts := F99_l0_3_S v1 v2 v3 v4 v5) (ts1 := (F99_l0_3_S v1 v2 v3 (appL v4 [(GMsg.mk x8.To r10.1)]) (wadd .i64 v5 1))) (ex := ex) (ts' := ts') (q14 pz) (by kernel_rfl)
    cases r with
    | inl w => exact hn _ _ h0
    | inr w => exact hn _ _ h0
   obtain rfl := Option.some.inj hF
   have pz : HoldAll E H hn99 [.test (bnot r10.2) true] := ⟨(bnot_f h12), trivial⟩
   exact loop_endC (h := hn99) (l := 0) (c := c99_0) (ts := F99_l0_3_S v1 v2 v3 v4 v5) (ts' := F99_l0_3_X0 v1 v2 v3 ()) (ex := .ret) (q14 pz) (by kernel_rfl) trivial
  obtain rfl := Option.some.inj hF
  have pz : HoldAll E H hn99 [.test (ilt v5 (nlen (len v3))) false] := ⟨h6, trivial⟩
  exact loop_endC (h := hn99) (l := 0) (c := c99_0) (ts := F99_l0_3_S v1 v2 v3 v4 v5) (ts' := F99_l0_3_X1 v1 v2 v3 v4) (ex := (.exit 0)) pz (by kernel_rfl) trivial
def F99 (K : Nat) (a1 : GGraph) (a2 : GJob) (a3 : Int) (a4 : Int) (a5 : Int) (a6 : Int) (a7 : Bool) : Option (Int × List GMsg × Bool × Int) :=
 (F94 K a1 a2).bind fun r8 =>
 bif (ieq r8 0) then
  (bif (ilt a4 0) then
   (some (0, ([], (false, 4))))
  else
  bif (ile a1.N a4) then
   (some (0, ([], (false, 4))))
  else
  bif (ilt a3 0) then
   (some (0, ([], (false, 1))))
  else
  bif (ilt 40 a3) then
   (some (0, ([], (false, 1))))
  else
  bif a7 then
   ((F143 K a2.Prog).bind fun r9 =>
   bif (areFns [r9.1.start_, r9.1.better_, r9.1.send_] [158, 159, 160]) then
    ((F68 K a1 a4).bind fun r10 =>
    bif (ieq a3 0) then
     (bif r9.1.only_ then
      ((F159 K a6 a5).bind fun r11 =>
      bif r11 then
       ((F99_l0_0 K a6 r9.1.only_ r10 K [] 0).bind fun y12 =>
       Sum.elim (fun w13 =>
        some (0, ([], (false, 8))))
        (fun w14 =>
        some (a6, (w14, (true, 0)))) y12)
      else
      bif (ieq a4 a2.Source) then
       ((F99_l0_0 K a5 r9.1.only_ r10 K [] 0).bind fun y15 =>
       Sum.elim (fun w16 =>
        some (0, ([], (false, 8))))
        (fun w17 =>
        some (a5, (w17, (true, 0)))) y15)
      else
      some (a5, ([], (true, 0))))
     else
     (F159 K a6 a5).bind fun r18 =>
     bif r18 then
      ((F99_l0_0 K a6 r9.1.only_ r10 K [] 0).bind fun y19 =>
      Sum.elim (fun w20 =>
       some (0, ([], (false, 8))))
       (fun w21 =>
       some (a6, (w21, (true, 0)))) y19)
     else
     (F99_l0_0 K a5 r9.1.only_ r10 K [] 0).bind fun y22 =>
     Sum.elim (fun w23 =>
      some (0, ([], (false, 8))))
      (fun w24 =>
      some (a5, (w24, (true, 0)))) y22)
    else
    (F159 K a6 a5).bind fun r25 =>
    bif r25 then
     ((F99_l0_0 K a6 r9.1.only_ r10 K [] 0).bind fun y26 =>
     Sum.elim (fun w27 =>
      some (0, ([], (false, 8))))
      (fun w28 =>
      some (a6, (w28, (true, 0)))) y26)
    else
    some (a5, ([], (true, 0))))
   else
   bif (areFns [r9.1.start_, r9.1.better_, r9.1.send_] [158, 159, 161]) then
    ((F68 K a1 a4).bind fun r29 =>
    bif (ieq a3 0) then
     (bif r9.1.only_ then
      ((F159 K a6 a5).bind fun r30 =>
      bif r30 then
       ((F99_l0_1 K a6 r9.1.only_ r29 K [] 0).bind fun y31 =>
       Sum.elim (fun w32 =>
        some (0, ([], (false, 8))))
        (fun w33 =>
        some (a6, (w33, (true, 0)))) y31)
      else
      bif (ieq a4 a2.Source) then
       ((F99_l0_1 K a5 r9.1.only_ r29 K [] 0).bind fun y34 =>
       Sum.elim (fun w35 =>
        some (0, ([], (false, 8))))
        (fun w36 =>
        some (a5, (w36, (true, 0)))) y34)
      else
      some (a5, ([], (true, 0))))
     else
     (F159 K a6 a5).bind fun r37 =>
     bif r37 then
      ((F99_l0_1 K a6 r9.1.only_ r29 K [] 0).bind fun y38 =>
      Sum.elim (fun w39 =>
       some (0, ([], (false, 8))))
       (fun w40 =>
       some (a6, (w40, (true, 0)))) y38)
     else
     (F99_l0_1 K a5 r9.1.only_ r29 K [] 0).bind fun y41 =>
     Sum.elim (fun w42 =>
      some (0, ([], (false, 8))))
      (fun w43 =>
      some (a5, (w43, (true, 0)))) y41)
    else
    (F159 K a6 a5).bind fun r44 =>
    bif r44 then
     ((F99_l0_1 K a6 r9.1.only_ r29 K [] 0).bind fun y45 =>
     Sum.elim (fun w46 =>
      some (0, ([], (false, 8))))
      (fun w47 =>
      some (a6, (w47, (true, 0)))) y45)
    else
    some (a5, ([], (true, 0))))
   else
   bif (areFns [r9.1.start_, r9.1.better_, r9.1.send_] [162, 159, 163]) then
    ((F68 K a1 a4).bind fun r48 =>
    bif (ieq a3 0) then
     (bif r9.1.only_ then
      ((F159 K a6 a5).bind fun r49 =>
      bif r49 then
       ((F99_l0_2 K a6 r9.1.only_ r48 K [] 0).bind fun y50 =>
       Sum.elim (fun w51 =>
        some (0, ([], (false, 8))))
        (fun w52 =>
        some (a6, (w52, (true, 0)))) y50)
      else
      bif (ieq a4 a2.Source) then
       ((F99_l0_2 K a5 r9.1.only_ r48 K [] 0).bind fun y53 =>
       Sum.elim (fun w54 =>
        some (0, ([], (false, 8))))
        (fun w55 =>
        some (a5, (w55, (true, 0)))) y53)
      else
      some (a5, ([], (true, 0))))
     else
     (F159 K a6 a5).bind fun r56 =>
     bif r56 then
      ((F99_l0_2 K a6 r9.1.only_ r48 K [] 0).bind fun y57 =>
      Sum.elim (fun w58 =>
       some (0, ([], (false, 8))))
       (fun w59 =>
       some (a6, (w59, (true, 0)))) y57)
     else
     (F99_l0_2 K a5 r9.1.only_ r48 K [] 0).bind fun y60 =>
     Sum.elim (fun w61 =>
      some (0, ([], (false, 8))))
      (fun w62 =>
      some (a5, (w62, (true, 0)))) y60)
    else
    (F159 K a6 a5).bind fun r63 =>
    bif r63 then
     ((F99_l0_2 K a6 r9.1.only_ r48 K [] 0).bind fun y64 =>
     Sum.elim (fun w65 =>
      some (0, ([], (false, 8))))
      (fun w66 =>
      some (a6, (w66, (true, 0)))) y64)
    else
    some (a5, ([], (true, 0))))
   else
   bif (areFns [r9.1.start_, r9.1.better_, r9.1.send_] [164, 165, 163]) then
    ((F68 K a1 a4).bind fun r67 =>
    bif (ieq a3 0) then
     (bif r9.1.only_ then
      ((F165 K a6 a5).bind fun r68 =>
      bif r68 then
       ((F99_l0_3 K a6 r9.1.only_ r67 K [] 0).bind fun y69 =>
       Sum.elim (fun w70 =>
        some (0, ([], (false, 8))))
        (fun w71 =>
        some (a6, (w71, (true, 0)))) y69)
      else
      bif (ieq a4 a2.Source) then
       ((F99_l0_3 K a5 r9.1.only_ r67 K [] 0).bind fun y72 =>
       Sum.elim (fun w73 =>
        some (0, ([], (false, 8))))
        (fun w74 =>
        some (a5, (w74, (true, 0)))) y72)
      else
      some (a5, ([], (true, 0))))
     else
     (F165 K a6 a5).bind fun r75 =>
     bif r75 then
      ((F99_l0_3 K a6 r9.1.only_ r67 K [] 0).bind fun y76 =>
      Sum.elim (fun w77 =>
       some (0, ([], (false, 8))))
       (fun w78 =>
       some (a6, (w78, (true, 0)))) y76)
     else
     (F99_l0_3 K a5 r9.1.only_ r67 K [] 0).bind fun y79 =>
     Sum.elim (fun w80 =>
      some (0, ([], (false, 8))))
      (fun w81 =>
      some (a5, (w81, (true, 0)))) y79)
    else
    (F165 K a6 a5).bind fun r82 =>
    bif r82 then
     ((F99_l0_3 K a6 r9.1.only_ r67 K [] 0).bind fun y83 =>
     Sum.elim (fun w84 =>
      some (0, ([], (false, 8))))
      (fun w85 =>
      some (a6, (w85, (true, 0)))) y83)
    else
    some (a5, ([], (true, 0))))
   else
   bif (areFns [r9.1.start_, r9.1.better_, r9.1.send_] [166, 0, 163]) then
    ((F68 K a1 a4).bind fun r86 =>
    (F146 K r86 a3 a5 a6).bind fun r87 =>
    some (r87.1, (r87.2.1, (r87.2.2.1, r87.2.2.2))))
   else
   bif (areFns [r9.1.start_, r9.1.better_, r9.1.send_] [0, 0, 0]) then
   (F68 K a1 a4).bind fun r88 =>
   (F146 K r88 a3 a5 a6).bind fun r89 =>
   some (r89.1, (r89.2.1, (r89.2.2.1, r89.2.2.2)))
   else none)
  else
  (F143 K a2.Prog).bind fun r90 =>
  bif (areFns [r90.1.start_, r90.1.better_, r90.1.send_] [158, 159, 160]) then
   ((F68 K a1 a4).bind fun r91 =>
   bif (ieq a3 0) then
    (bif r90.1.only_ then
     (bif (ieq a4 a2.Source) then
      ((F99_l0_0 K a5 r90.1.only_ r91 K [] 0).bind fun y92 =>
      Sum.elim (fun w93 =>
       some (0, ([], (false, 8))))
       (fun w94 =>
       some (a5, (w94, (true, 0)))) y92)
     else
     some (a5, ([], (true, 0))))
    else
    (F99_l0_0 K a5 r90.1.only_ r91 K [] 0).bind fun y95 =>
    Sum.elim (fun w96 =>
     some (0, ([], (false, 8))))
     (fun w97 =>
     some (a5, (w97, (true, 0)))) y95)
   else
   some (a5, ([], (true, 0))))
  else
  bif (areFns [r90.1.start_, r90.1.better_, r90.1.send_] [158, 159, 161]) then
   ((F68 K a1 a4).bind fun r98 =>
   bif (ieq a3 0) then
    (bif r90.1.only_ then
     (bif (ieq a4 a2.Source) then
      ((F99_l0_1 K a5 r90.1.only_ r98 K [] 0).bind fun y99 =>
      Sum.elim (fun w100 =>
       some (0, ([], (false, 8))))
       (fun w101 =>
       some (a5, (w101, (true, 0)))) y99)
     else
     some (a5, ([], (true, 0))))
    else
    (F99_l0_1 K a5 r90.1.only_ r98 K [] 0).bind fun y102 =>
    Sum.elim (fun w103 =>
     some (0, ([], (false, 8))))
     (fun w104 =>
     some (a5, (w104, (true, 0)))) y102)
   else
   some (a5, ([], (true, 0))))
  else
  bif (areFns [r90.1.start_, r90.1.better_, r90.1.send_] [162, 159, 163]) then
   ((F68 K a1 a4).bind fun r105 =>
   bif (ieq a3 0) then
    (bif r90.1.only_ then
     (bif (ieq a4 a2.Source) then
      ((F99_l0_2 K a5 r90.1.only_ r105 K [] 0).bind fun y106 =>
      Sum.elim (fun w107 =>
       some (0, ([], (false, 8))))
       (fun w108 =>
       some (a5, (w108, (true, 0)))) y106)
     else
     some (a5, ([], (true, 0))))
    else
    (F99_l0_2 K a5 r90.1.only_ r105 K [] 0).bind fun y109 =>
    Sum.elim (fun w110 =>
     some (0, ([], (false, 8))))
     (fun w111 =>
     some (a5, (w111, (true, 0)))) y109)
   else
   some (a5, ([], (true, 0))))
  else
  bif (areFns [r90.1.start_, r90.1.better_, r90.1.send_] [164, 165, 163]) then
   ((F68 K a1 a4).bind fun r112 =>
   bif (ieq a3 0) then
    (bif r90.1.only_ then
     (bif (ieq a4 a2.Source) then
      ((F99_l0_3 K a5 r90.1.only_ r112 K [] 0).bind fun y113 =>
      Sum.elim (fun w114 =>
       some (0, ([], (false, 8))))
       (fun w115 =>
       some (a5, (w115, (true, 0)))) y113)
     else
     some (a5, ([], (true, 0))))
    else
    (F99_l0_3 K a5 r90.1.only_ r112 K [] 0).bind fun y116 =>
    Sum.elim (fun w117 =>
     some (0, ([], (false, 8))))
     (fun w118 =>
     some (a5, (w118, (true, 0)))) y116)
   else
   some (a5, ([], (true, 0))))
  else
  bif (areFns [r90.1.start_, r90.1.better_, r90.1.send_] [166, 0, 163]) then
   ((F68 K a1 a4).bind fun r119 =>
   (F146 K r119 a3 a5 0).bind fun r120 =>
   some (r120.1, (r120.2.1, (r120.2.2.1, r120.2.2.2))))
  else
  bif (areFns [r90.1.start_, r90.1.better_, r90.1.send_] [0, 0, 0]) then
  (F68 K a1 a4).bind fun r121 =>
  (F146 K r121 a3 a5 0).bind fun r122 =>
  some (r122.1, (r122.2.1, (r122.2.2.1, r122.2.2.2)))
  else none)
 else
 some (0, ([], (false, r8)))
theorem F99_ok (K : Nat) (a1 : GGraph) (a2 : GJob) (a3 : Int) (a4 : Int) (a5 : Int) (a6 : Int) (a7 : Bool) (r : Int × List GMsg × Bool × Int) (hF : F99 K a1 a2 a3 a4 a5 a6 a7 = some r) : Evt E H 99 [.agg (eGGraph a1), .agg (eGJob a2), .one (.lit (.int .i64 a3)), .one (.lit (.int .i64 a4)), .one (.lit (.int .i64 a5)), .one (.lit (.int .i64 a6)), .one (.lit (.bool a7))] (F99_res r) := by
 rw [F99] at hF
 refine bind_some hF (fun r8 h9 hF => ?_)
 refine cond_some hF (fun h10 hF => ?_) (fun h10 hF => ?_)
 ·
  have q236 : PQ hn99 fun l => (.call 94 [.agg (eGGraph a1), .agg (eGJob a2)] (F94_res r8) :: .test (leadsAny (Res.mk [(.one (.im (.lit (.int .i64 r8))))] [])) false :: .test (ine r8 0) false :: l) := fun z => ⟨(F94_ok K a1 a2 _ h9), (leads_ok (by simp [leadsAny, RV.leads, RC.leads, leadsT, hasSl_lit, flat_ns eGJob_ns])), (ine_t h10), z⟩
  refine cond_some hF (fun h11 hF => ?_) (fun h11 hF => ?_)
  ·
   obtain rfl := Option.some.inj hF
   have pz : HoldAll E H hn99 [.test (beqb (ilt a4 0) false) false, .test (beqb (ilt a4 0) false) false, .test (beqb (ilt a4 0) false) false, .test (beqb (ilt a4 0) false) false, .test (ilt a4 0) true, .test true true] := ⟨(beqb_ft h11), (beqb_ft h11), (beqb_ft h11), (beqb_ft h11), h11, rfl, trivial⟩
   exact fn_playC hn99 (r := F99_res (0, ([], (false, 4)))) (q236 pz) (by kernel_rfl) (by kernel_rfl)
  have q237 : PQ hn99 fun l => (.test (beqb (ilt a4 0) false) true :: .test (beqb (ilt a4 0) false) true :: .test (beqb (ilt a4 0) false) true :: .test (beqb (ilt a4 0) false) true :: .test (ilt a4 0) false :: l) := fun z => ⟨(beqb_ff h11), (beqb_ff h11), (beqb_ff h11), (beqb_ff h11), h11, z⟩
  refine cond_some hF (fun h12 hF => ?_) (fun h12 hF => ?_)
  ·
   obtain rfl := Option.some.inj hF
   have pz : HoldAll E H hn99 [.test (ige a4 a1.N) true] := ⟨(ige_eq h12), trivial⟩
   exact fn_playC hn99 (r := F99_res (0, ([], (false, 4)))) (q236 (q237 pz)) (by kernel_rfl) (by kernel_rfl)
  refine cond_some hF (fun h13 hF => ?_) (fun h13 hF => ?_)
  ·
   obtain rfl := Option.some.inj hF
   have pz : HoldAll E H hn99 [.test (ige a4 a1.N) false, .test (beqb (ilt a3 0) false) false, .test (beqb (ilt a3 0) false) false, .test (ilt a3 0) true, .test true true] := ⟨(ige_eq h12), (beqb_ft h13), (beqb_ft h13), h13, rfl, trivial⟩
   exact fn_playC hn99 (r := F99_res (0, ([], (false, 1)))) (q236 (q237 pz)) (by kernel_rfl) (by kernel_rfl)
  have q238 : PQ hn99 fun l => (.test (ige a4 a1.N) false :: .test (beqb (ilt a3 0) false) true :: .test (beqb (ilt a3 0) false) true :: .test (ilt a3 0) false :: l) := fun z => ⟨(ige_eq h12), (beqb_ff h13), (beqb_ff h13), h13, z⟩
  refine cond_some hF (fun h14 hF => ?_) (fun h14 hF => ?_)
  ·
   obtain rfl := Option.some.inj hF
   have pz : HoldAll E H hn99 [.test (igt a3 40) true] := ⟨(igt_eq h14), trivial⟩
   exact fn_playC hn99 (r := F99_res (0, ([], (false, 1)))) (q236 (q237 (q238 pz))) (by kernel_rfl) (by kernel_rfl)
  refine cond_some hF (fun h15 hF => ?_) (fun h15 hF => ?_)
  ·
   refine bind_some hF (fun r16 h17 hF => ?_)
   refine cond_some hF (fun h18 hF => ?_) (fun h18 hF => ?_)
   ·
    refine bind_some hF (fun r19 h20 hF => ?_)
    have q239 : PQ hn99 fun l => (.test (igt a3 40) false :: .test (bnot a7) false :: .call 143 [.one (.lit (.int .i64 a2.Prog))] (F143_res0 r16) :: .test (leadsAny (Res.mk [(.agg [(.im (.lit (fnV 158))), (.im (.lit (fnV 159))), (.im (.lit (.bool r16.1.only_))), (.im (.lit (fnV 160)))]), (.one (.im (.lit (.bool r16.2))))] [])) false :: .call 68 [.agg (eGGraph a1), .one (.lit (.int .i64 a4))] (F68_res r19) :: .test (leadsAny (Res.mk [(.one (.own 89 (.sl (len r19) (flat eGEdge r19))))] [])) false :: .test false false :: l) := fun z => ⟨(igt_eq h14), (bnot_t h15), (F143_ok0 _ h18 (F143_ok K a2.Prog _ h17)), (leads_ok (by simp [leadsAny, RV.leads, RC.leads, leadsT, hasSl_lit, flat_ns eGEdge_ns])), (F68_ok K a1 a4 _ h20), (leads_ok (by simp [leadsAny, RV.leads, RC.leads, leadsT, hasSl_lit, flat_ns eGEdge_ns])), rfl, z⟩
    refine cond_some hF (fun h21 hF => ?_) (fun h21 hF => ?_)
    ·
     have q240 : PQ hn99 fun l => (.test (beqb (ieq a3 0) true) true :: .test (beqb (ieq a3 0) true) true :: .test (beqb (ieq a3 0) true) true :: .test (beqb (ieq a3 0) true) true :: l) := fun z => ⟨(beqb_t h21), (beqb_t h21), (beqb_t h21), (beqb_t h21), z⟩
     refine cond_some hF (fun h22 hF => ?_) (fun h22 hF => ?_)
     ·
      refine bind_some hF (fun r23 h24 hF => ?_)
      have q241 : PQ hn99 fun l => (.test (beqb (bnot r16.1.only_) false) true :: .test (beqb (bnot r16.1.only_) false) true :: .test (beqb (bnot r16.1.only_) false) true :: .test (beqb (bnot r16.1.only_) false) true :: .test (beqb (ieq a3 0) true) true :: .test (bnot r16.1.only_) false :: .test (ieq a3 0) true :: .test (beqb a7 true) true :: .test (beqb a7 true) true :: .test (beqb a7 true) true :: .test (beqb a7 true) true :: .test (beqb a7 true) true :: .call 159 [.one (.lit (.int .i64 a6)), .one (.lit (.int .i64 a5))] (F159_res r23) :: .test (leadsAny (Res.mk [(.one (.im (.lit (.bool r23))))] [])) false :: .test a7 true :: l) := fun z => ⟨(beqb_ff (bnot_t h22)), (beqb_ff (bnot_t h22)), (beqb_ff (bnot_t h22)), (beqb_ff (bnot_t h22)), (beqb_t h21), (bnot_t h22), h21, (beqb_t h15), (beqb_t h15), (beqb_t h15), (beqb_t h15), (beqb_t h15), (F159_ok K a6 a5 _ h24), (leads_ok (by simp [leadsAny, RV.leads, RC.leads, leadsT, hasSl_lit])), h15, z⟩
      refine cond_some hF (fun h25 hF => ?_) (fun h25 hF => ?_)
      ·
       have q242 : PQ hn99 fun l => (.test r23 true :: .test (bnot true) false :: .int (nlen (len r19)) (nlen (len r19)) :: l) := fun z => ⟨h25, (bnot_t rfl), rfl, z⟩
       refine bind_some hF (fun y27 h26 hF => ?_)
       refine sum_some hF (fun w28 hx hF => ?_) (fun w29 hx hF => ?_)
       ·
        subst hx
        obtain rfl := Option.some.inj hF
        have pz : HoldAll E H hn99 [.loop 0 c99_0 (F99_l0_0_S a6 r16.1.only_ r19 [] 0) .ret (F99_l0_0_X0 a6 r16.1.only_ r19 w28)] := ⟨(F99_l0_0_ok K a6 r16.1.only_ r19 K [] 0 _ h26), trivial⟩
        exact fn_playC hn99 (r := F99_res (0, ([], (false, 8)))) (q236 (q237 (q238 (q239 (q240 (q241 (q242 pz))))))) (by kernel_rfl) (by kernel_rfl)
       subst hx
       obtain rfl := Option.some.inj hF
       have pz : HoldAll E H hn99 [.loop 0 c99_0 (F99_l0_0_S a6 r16.1.only_ r19 [] 0) (.exit 0) (F99_l0_0_X1 a6 r16.1.only_ r19 w29)] := ⟨(F99_l0_0_ok K a6 r16.1.only_ r19 K [] 0 _ h26), trivial⟩
       exact fn_playC hn99 (r := F99_res (a6, (w29, (true, 0)))) (q236 (q237 (q238 (q239 (q240 (q241 (q242 pz))))))) (by kernel_rfl) (by kernel_rfl)
      refine cond_some hF (fun h30 hF => ?_) (fun h30 hF => ?_)
      ·
       have q243 : PQ hn99 fun l => (.test r23 false :: .test (bnot (ieq a4 a2.Source)) false :: .int (nlen (len r19)) (nlen (len r19)) :: l) := fun z => ⟨h25, (bnot_t h30), rfl, z⟩
       refine bind_some hF (fun y32 h31 hF => ?_)
       refine sum_some hF (fun w33 hx hF => ?_) (fun w34 hx hF => ?_)
       ·
        subst hx
        obtain rfl := Option.some.inj hF
        have pz : HoldAll E H hn99 [.loop 0 c99_0 (F99_l0_0_S a5 r16.1.only_ r19 [] 0) .ret (F99_l0_0_X0 a5 r16.1.only_ r19 w33)] := ⟨(F99_l0_0_ok K a5 r16.1.only_ r19 K [] 0 _ h31), trivial⟩
        exact fn_playC hn99 (r := F99_res (0, ([], (false, 8)))) (q236 (q237 (q238 (q239 (q240 (q241 (q243 pz))))))) (by kernel_rfl) (by kernel_rfl)
       subst hx
       obtain rfl := Option.some.inj hF
       have pz : HoldAll E H hn99 [.loop 0 c99_0 (F99_l0_0_S a5 r16.1.only_ r19 [] 0) (.exit 0) (F99_l0_0_X1 a5 r16.1.only_ r19 w34)] := ⟨(F99_l0_0_ok K a5 r16.1.only_ r19 K [] 0 _ h31), trivial⟩
       exact fn_playC hn99 (r := F99_res (a5, (w34, (true, 0)))) (q236 (q237 (q238 (q239 (q240 (q241 (q243 pz))))))) (by kernel_rfl) (by kernel_rfl)
      obtain rfl := Option.some.inj hF
      have pz : HoldAll E H hn99 [.test r23 false, .test (bnot (ieq a4 a2.Source)) true] := ⟨h25, (bnot_f h30), trivial⟩
      exact fn_playC hn99 (r := F99_res (a5, ([], (true, 0)))) (q236 (q237 (q238 (q239 (q240 (q241 pz)))))) (by kernel_rfl) (by kernel_rfl)
     refine bind_some hF (fun r35 h36 hF => ?_)
     have q244 : PQ hn99 fun l => (.test (beqb (bnot r16.1.only_) false) false :: .test (beqb (bnot r16.1.only_) false) false :: .test (beqb (bnot r16.1.only_) false) false :: .test (beqb (bnot r16.1.only_) false) false :: .test (beqb (ieq a3 0) true) true :: .test (bnot r16.1.only_) true :: .test (ieq a3 0) true :: .test (beqb a7 true) true :: .test (beqb a7 true) true :: .test (beqb a7 true) true :: .test (beqb a7 true) true :: .test (beqb a7 true) true :: .call 159 [.one (.lit (.int .i64 a6)), .one (.lit (.int .i64 a5))] (F159_res r35) :: .test (leadsAny (Res.mk [(.one (.im (.lit (.bool r35))))] [])) false :: .test a7 true :: l) := fun z => ⟨(beqb_ft (bnot_f h22)), (beqb_ft (bnot_f h22)), (beqb_ft (bnot_f h22)), (beqb_ft (bnot_f h22)), (beqb_t h21), (bnot_f h22), h21, (beqb_t h15), (beqb_t h15), (beqb_t h15), (beqb_t h15), (beqb_t h15), (F159_ok K a6 a5 _ h36), (leads_ok (by simp [leadsAny, RV.leads, RC.leads, leadsT, hasSl_lit])), h15, z⟩
     refine cond_some hF (fun h37 hF => ?_) (fun h37 hF => ?_)
     ·
      have q245 : PQ hn99 fun l => (.test r35 true :: .test (bnot true) false :: .int (nlen (len r19)) (nlen (len r19)) :: l) := fun z => ⟨h37, (bnot_t rfl), rfl, z⟩
      refine bind_some hF (fun y39 h38 hF => ?_)
      refine sum_some hF (fun w40 hx hF => ?_) (fun w41 hx hF => ?_)
      ·
       subst hx
       obtain rfl := Option.some.inj hF
       have pz : HoldAll E H hn99 [.loop 0 c99_0 (F99_l0_0_S a6 r16.1.only_ r19 [] 0) .ret (F99_l0_0_X0 a6 r16.1.only_ r19 w40)] := ⟨(F99_l0_0_ok K a6 r16.1.only_ r19 K [] 0 _ h38), trivial⟩
       exact fn_playC hn99 (r := F99_res (0, ([], (false, 8)))) (q236 (q237 (q238 (q239 (q240 (q244 (q245 pz))))))) (by kernel_rfl) (by kernel_rfl)
      subst hx
      obtain rfl := Option.some.inj hF
      have pz : HoldAll E H hn99 [.loop 0 c99_0 (F99_l0_0_S a6 r16.1.only_ r19 [] 0) (.exit 0) (F99_l0_0_X1 a6 r16.1.only_ r19 w41)] := ⟨(F99_l0_0_ok K a6 r16.1.only_ r19 K [] 0 _ h38), trivial⟩
      exact fn_playC hn99 (r := F99_res (a6, (w41, (true, 0)))) (q236 (q237 (q238 (q239 (q240 (q244 (q245 pz))))))) (by kernel_rfl) (by kernel_rfl)
     have q246 : PQ hn99 fun l => (.test r35 false :: .test (bnot true) false :: .int (nlen (len r19)) (nlen (len r19)) :: l) := fun z => ⟨h37, (bnot_t rfl), rfl, z⟩
     refine bind_some hF (fun y43 h42 hF => ?_)
     refine sum_some hF (fun w44 hx hF => ?_) (fun w45 hx hF => ?_)
     ·
      subst hx
      obtain rfl := Option.some.inj hF
      have pz : HoldAll E H hn99 [.loop 0 c99_0 (F99_l0_0_S a5 r16.1.only_ r19 [] 0) .ret (F99_l0_0_X0 a5 r16.1.only_ r19 w44)] := ⟨(F99_l0_0_ok K a5 r16.1.only_ r19 K [] 0 _ h42), trivial⟩
      exact fn_playC hn99 (r := F99_res (0, ([], (false, 8)))) (q236 (q237 (q238 (q239 (q240 (q244 (q246 pz))))))) (by kernel_rfl) (by kernel_rfl)
     subst hx
     obtain rfl := Option.some.inj hF
     have pz : HoldAll E H hn99 [.loop 0 c99_0 (F99_l0_0_S a5 r16.1.only_ r19 [] 0) (.exit 0) (F99_l0_0_X1 a5 r16.1.only_ r19 w45)] := ⟨(F99_l0_0_ok K a5 r16.1.only_ r19 K [] 0 _ h42), trivial⟩
     exact fn_playC hn99 (r := F99_res (a5, (w45, (true, 0)))) (q236 (q237 (q238 (q239 (q240 (q244 (q246 pz))))))) (by kernel_rfl) (by kernel_rfl)
    refine bind_some hF (fun r46 h47 hF => ?_)
    have q247 : PQ hn99 fun l => (.test (beqb (ieq a3 0) true) false :: .test (beqb (ieq a3 0) true) false :: .test (beqb (ieq a3 0) true) false :: .test (beqb (ieq a3 0) true) false :: .test (beqb (ieq a3 0) true) false :: .test (ieq a3 0) false :: .test (beqb a7 true) true :: .test (beqb a7 true) true :: .test (beqb a7 true) true :: .test (beqb a7 true) true :: .test (beqb a7 true) true :: .call 159 [.one (.lit (.int .i64 a6)), .one (.lit (.int .i64 a5))] (F159_res r46) :: .test (leadsAny (Res.mk [(.one (.im (.lit (.bool r46))))] [])) false :: .test a7 true :: l) := fun z => ⟨(beqb_t h21), (beqb_t h21), (beqb_t h21), (beqb_t h21), (beqb_t h21), h21, (beqb_t h15), (beqb_t h15), (beqb_t h15), (beqb_t h15), (beqb_t h15), (F159_ok K a6 a5 _ h47), (leads_ok (by simp [leadsAny, RV.leads, RC.leads, leadsT, hasSl_lit])), h15, z⟩
    refine cond_some hF (fun h48 hF => ?_) (fun h48 hF => ?_)
    ·
     have q248 : PQ hn99 fun l => (.test r46 true :: .test (bnot true) false :: .int (nlen (len r19)) (nlen (len r19)) :: l) := fun z => ⟨h48, (bnot_t rfl), rfl, z⟩
     refine bind_some hF (fun y50 h49 hF => ?_)
     refine sum_some hF (fun w51 hx hF => ?_) (fun w52 hx hF => ?_)
     ·
      subst hx
      obtain rfl := Option.some.inj hF
      have pz : HoldAll E H hn99 [.loop 0 c99_0 (F99_l0_0_S a6 r16.1.only_ r19 [] 0) .ret (F99_l0_0_X0 a6 r16.1.only_ r19 w51)] := ⟨(F99_l0_0_ok K a6 r16.1.only_ r19 K [] 0 _ h49), trivial⟩
      exact fn_playC hn99 (r := F99_res (0, ([], (false, 8)))) (q236 (q237 (q238 (q239 (q247 (q248 pz)))))) (by kernel_rfl) (by kernel_rfl)
     subst hx
     obtain rfl := Option.some.inj hF
     have pz : HoldAll E H hn99 [.loop 0 c99_0 (F99_l0_0_S a6 r16.1.only_ r19 [] 0) (.exit 0) (F99_l0_0_X1 a6 r16.1.only_ r19 w52)] := ⟨(F99_l0_0_ok K a6 r16.1.only_ r19 K [] 0 _ h49), trivial⟩
     exact fn_playC hn99 (r := F99_res (a6, (w52, (true, 0)))) (q236 (q237 (q238 (q239 (q247 (q248 pz)))))) (by kernel_rfl) (by kernel_rfl)
    obtain rfl := Option.some.inj hF
    have pz : HoldAll E H hn99 [.test r46 false, .test (bnot false) true] := ⟨h48, (bnot_f rfl), trivial⟩
    exact fn_playC hn99 (r := F99_res (a5, ([], (true, 0)))) (q236 (q237 (q238 (q239 (q247 pz))))) (by kernel_rfl) (by kernel_rfl)
   refine cond_some hF (fun h53 hF => ?_) (fun h53 hF => ?_)
   ·
    refine bind_some hF (fun r54 h55 hF => ?_)
    have q249 : PQ hn99 fun l => (.test (igt a3 40) false :: .test (bnot a7) false :: .call 143 [.one (.lit (.int .i64 a2.Prog))] (F143_res1 r16) :: .test (leadsAny (Res.mk [(.agg [(.im (.lit (fnV 158))), (.im (.lit (fnV 159))), (.im (.lit (.bool r16.1.only_))), (.im (.lit (fnV 161)))]), (.one (.im (.lit (.bool r16.2))))] [])) false :: .call 68 [.agg (eGGraph a1), .one (.lit (.int .i64 a4))] (F68_res r54) :: .test (leadsAny (Res.mk [(.one (.own 89 (.sl (len r54) (flat eGEdge r54))))] [])) false :: .test false false :: l) := fun z => ⟨(igt_eq h14), (bnot_t h15), (F143_ok1 _ h53 (F143_ok K a2.Prog _ h17)), (leads_ok (by simp [leadsAny, RV.leads, RC.leads, leadsT, hasSl_lit, flat_ns eGEdge_ns])), (F68_ok K a1 a4 _ h55), (leads_ok (by simp [leadsAny, RV.leads, RC.leads, leadsT, hasSl_lit, flat_ns eGEdge_ns])), rfl, z⟩
    refine cond_some hF (fun h56 hF => ?_) (fun h56 hF => ?_)
    ·
     have q250 : PQ hn99 fun l => (.test (beqb (ieq a3 0) true) true :: .test (beqb (ieq a3 0) true) true :: .test (beqb (ieq a3 0) true) true :: .test (beqb (ieq a3 0) true) true :: l) := fun z => ⟨(beqb_t h56), (beqb_t h56), (beqb_t h56), (beqb_t h56), z⟩
     refine cond_some hF (fun h57 hF => ?_) (fun h57 hF => ?_)
     ·
      refine bind_some hF (fun r58 h59 hF => ?_)
      have q251 : PQ hn99 fun l => (.test (beqb (bnot r16.1.only_) false) true :: .test (beqb (bnot r16.1.only_) false) true :: .test (beqb (bnot r16.1.only_) false) true :: .test (beqb (bnot r16.1.only_) false) true :: .test (beqb (ieq a3 0) true) true :: .test (bnot r16.1.only_) false :: .test (ieq a3 0) true :: .test (beqb a7 true) true :: .test (beqb a7 true) true :: .test (beqb a7 true) true :: .test (beqb a7 true) true :: .test (beqb a7 true) true :: .call 159 [.one (.lit (.int .i64 a6)), .one (.lit (.int .i64 a5))] (F159_res r58) :: .test (leadsAny (Res.mk [(.one (.im (.lit (.bool r58))))] [])) false :: .test a7 true :: l) := fun z => ⟨(beqb_ff (bnot_t h57)), (beqb_ff (bnot_t h57)), (beqb_ff (bnot_t h57)), (beqb_ff (bnot_t h57)), (beqb_t h56), (bnot_t h57), h56, (beqb_t h15), (beqb_t h15), (beqb_t h15), (beqb_t h15), (beqb_t h15), (F159_ok K a6 a5 _ h59), (leads_ok (by simp [leadsAny, RV.leads, RC.leads, leadsT, hasSl_lit])), h15, z⟩
      refine cond_some hF (fun h60 hF => ?_) (fun h60 hF => ?_)
      ·
       have q252 : PQ hn99 fun l => (.test r58 true :: .test (bnot true) false :: .int (nlen (len r54)) (nlen (len r54)) :: l) := fun z => ⟨h60, (bnot_t rfl), rfl, z⟩
       refine bind_some hF (fun y62 h61 hF => ?_)
       refine sum_some hF (fun w63 hx hF => ?_) (fun w64 hx hF => ?_)
       ·
        subst hx
        obtain rfl := Option.some.inj hF
        have pz : HoldAll E H hn99 [.loop 0 c99_0 (F99_l0_1_S a6 r16.1.only_ r54 [] 0) .ret (F99_l0_1_X0 a6 r16.1.only_ r54 w63)] := ⟨(F99_l0_1_ok K a6 r16.1.only_ r54 K [] 0 _ h61), trivial⟩
        exact fn_playC hn99 (r := F99_res (0, ([], (false, 8)))) (q236 (q237 (q238 (q249 (q250 (q251 (q252 pz))))))) (by kernel_rfl) (by kernel_rfl)
       subst hx
       obtain rfl := Option.some.inj hF
       have pz : HoldAll E H hn99 [.loop 0 c99_0 (F99_l0_1_S a6 r16.1.only_ r54 [] 0) (.exit 0) (F99_l0_1_X1 a6 r16.1.only_ r54 w64)] := ⟨(F99_l0_1_ok K a6 r16.1.only_ r54 K [] 0 _ h61), trivial⟩
       exact fn_playC hn99 (r := F99_res (a6, (w64, (true, 0)))) (q236 (q237 (q238 (q249 (q250 (q251 (q252 pz))))))) (by kernel_rfl) (by kernel_rfl)
      refine cond_some hF (fun h65 hF => ?_) (fun h65 hF => ?_)
      ·
       have q253 : PQ hn99 fun l => (.test r58 false :: .test (bnot (ieq a4 a2.Source)) false :: .int (nlen (len r54)) (nlen (len r54)) :: l) := fun z => ⟨h60, (bnot_t h65), rfl, z⟩
       refine bind_some hF (fun y67 h66 hF => ?_)
       refine sum_some hF (fun w68 hx hF => ?_) (fun w69 hx hF => ?_)
       ·
        subst hx
        obtain rfl := Option.some.inj hF
        have pz : HoldAll E H hn99 [.loop 0 c99_0 (F99_l0_1_S a5 r16.1.only_ r54 [] 0) .ret (F99_l0_1_X0 a5 r16.1.only_ r54 w68)] := ⟨(F99_l0_1_ok K a5 r16.1.only_ r54 K [] 0 _ h66), trivial⟩
        exact fn_playC hn99 (r := F99_res (0, ([], (false, 8)))) (q236 (q237 (q238 (q249 (q250 (q251 (q253 pz))))))) (by kernel_rfl) (by kernel_rfl)
       subst hx
       obtain rfl := Option.some.inj hF
       have pz : HoldAll E H hn99 [.loop 0 c99_0 (F99_l0_1_S a5 r16.1.only_ r54 [] 0) (.exit 0) (F99_l0_1_X1 a5 r16.1.only_ r54 w69)] := ⟨(F99_l0_1_ok K a5 r16.1.only_ r54 K [] 0 _ h66), trivial⟩
       exact fn_playC hn99 (r := F99_res (a5, (w69, (true, 0)))) (q236 (q237 (q238 (q249 (q250 (q251 (q253 pz))))))) (by kernel_rfl) (by kernel_rfl)
      obtain rfl := Option.some.inj hF
      have pz : HoldAll E H hn99 [.test r58 false, .test (bnot (ieq a4 a2.Source)) true] := ⟨h60, (bnot_f h65), trivial⟩
      exact fn_playC hn99 (r := F99_res (a5, ([], (true, 0)))) (q236 (q237 (q238 (q249 (q250 (q251 pz)))))) (by kernel_rfl) (by kernel_rfl)
     refine bind_some hF (fun r70 h71 hF => ?_)
     have q254 : PQ hn99 fun l => (.test (beqb (bnot r16.1.only_) false) false :: .test (beqb (bnot r16.1.only_) false) false :: .test (beqb (bnot r16.1.only_) false) false :: .test (beqb (bnot r16.1.only_) false) false :: .test (beqb (ieq a3 0) true) true :: .test (bnot r16.1.only_) true :: .test (ieq a3 0) true :: .test (beqb a7 true) true :: .test (beqb a7 true) true :: .test (beqb a7 true) true :: .test (beqb a7 true) true :: .test (beqb a7 true) true :: .call 159 [.one (.lit (.int .i64 a6)), .one (.lit (.int .i64 a5))] (F159_res r70) :: .test (leadsAny (Res.mk [(.one (.im (.lit (.bool r70))))] [])) false :: .test a7 true :: l) := fun z => ⟨(beqb_ft (bnot_f h57)), (beqb_ft (bnot_f h57)), (beqb_ft (bnot_f h57)), (beqb_ft (bnot_f h57)), (beqb_t h56), (bnot_f h57), h56, (beqb_t h15), (beqb_t h15), (beqb_t h15), (beqb_t h15), (beqb_t h15), (F159_ok K a6 a5 _ h71), (leads_ok (by simp [leadsAny, RV.leads, RC.leads, leadsT, hasSl_lit])), h15, z⟩
     refine cond_some hF (fun h72 hF => ?_) (fun h72 hF => ?_)
     ·
      have q255 : PQ hn99 fun l => (.test r70 true :: .test (bnot true) false :: .int (nlen (len r54)) (nlen (len r54)) :: l) := fun z => ⟨h72, (bnot_t rfl), rfl, z⟩
      refine bind_some hF (fun y74 h73 hF => ?_)
      refine sum_some hF (fun w75 hx hF => ?_) (fun w76 hx hF => ?_)
      ·
       subst hx
       obtain rfl := Option.some.inj hF
       have pz : HoldAll E H hn99 [.loop 0 c99_0 (F99_l0_1_S a6 r16.1.only_ r54 [] 0) .ret (F99_l0_1_X0 a6 r16.1.only_ r54 w75)] := ⟨(F99_l0_1_ok K a6 r16.1.only_ r54 K [] 0 _ h73), trivial⟩
       exact fn_playC hn99 (r := F99_res (0, ([], (false, 8)))) (q236 (q237 (q238 (q249 (q250 (q254 (q255 pz))))))) (by kernel_rfl) (by kernel_rfl)
      subst hx
      obtain rfl := Option.some.inj hF
      have pz : HoldAll E H hn99 [.loop 0 c99_0 (F99_l0_1_S a6 r16.1.only_ r54 [] 0) (.exit 0) (F99_l0_1_X1 a6 r16.1.only_ r54 w76)] := ⟨(F99_l0_1_ok K a6 r16.1.only_ r54 K [] 0 _ h73), trivial⟩
      exact fn_playC hn99 (r := F99_res (a6, (w76, (true, 0)))) (q236 (q237 (q238 (q249 (q250 (q254 (q255 pz))))))) (by kernel_rfl) (by kernel_rfl)
     have q256 : PQ hn99 fun l => (.test r70 false :: .test (bnot true) false :: .int (nlen (len r54)) (nlen (len r54)) :: l) := fun z => ⟨h72, (bnot_t rfl), rfl, z⟩
     refine bind_some hF (fun y78 h77 hF => ?_)
     refine sum_some hF (fun w79 hx hF => ?_) (fun w80 hx hF => ?_)
     ·
      subst hx
      obtain rfl := Option.some.inj hF
      have pz : HoldAll E H hn99 [.loop 0 c99_0 (F99_l0_1_S a5 r16.1.only_ r54 [] 0) .ret (F99_l0_1_X0 a5 r16.1.only_ r54 w79)] := ⟨(F99_l0_1_ok K a5 r16.1.only_ r54 K [] 0 _ h77), trivial⟩
      exact fn_playC hn99 (r := F99_res (0, ([], (false, 8)))) (q236 (q237 (q238 (q249 (q250 (q254 (q256 pz))))))) (by kernel_rfl) (by kernel_rfl)
     subst hx
     obtain rfl := Option.some.inj hF
     have pz : HoldAll E H hn99 [.loop 0 c99_0 (F99_l0_1_S a5 r16.1.only_ r54 [] 0) (.exit 0) (F99_l0_1_X1 a5 r16.1.only_ r54 w80)] := ⟨(F99_l0_1_ok K a5 r16.1.only_ r54 K [] 0 _ h77), trivial⟩
     exact fn_playC hn99 (r := F99_res (a5, (w80, (true, 0)))) (q236 (q237 (q238 (q249 (q250 (q254 (q256 pz))))))) (by kernel_rfl) (by kernel_rfl)
    refine bind_some hF (fun r81 h82 hF => ?_)
    have q257 : PQ hn99 fun l => (.test (beqb (ieq a3 0) true) false :: .test (beqb (ieq a3 0) true) false :: .test (beqb (ieq a3 0) true) false :: .test (beqb (ieq a3 0) true) false :: .test (beqb (ieq a3 0) true) false :: .test (ieq a3 0) false :: .test (beqb a7 true) true :: .test (beqb a7 true) true :: .test (beqb a7 true) true :: .test (beqb a7 true) true :: .test (beqb a7 true) true :: .call 159 [.one (.lit (.int .i64 a6)), .one (.lit (.int .i64 a5))] (F159_res r81) :: .test (leadsAny (Res.mk [(.one (.im (.lit (.bool r81))))] [])) false :: .test a7 true :: l) := fun z => ⟨(beqb_t h56), (beqb_t h56), (beqb_t h56), (beqb_t h56), (beqb_t h56), h56, (beqb_t h15), (beqb_t h15), (beqb_t h15), (beqb_t h15), (beqb_t h15), (F159_ok K a6 a5 _ h82), (leads_ok (by simp [leadsAny, RV.leads, RC.leads, leadsT, hasSl_lit])), h15, z⟩
    refine cond_some hF (fun h83 hF => ?_) (fun h83 hF => ?_)
    ·
     have q258 : PQ hn99 fun l => (.test r81 true :: .test (bnot true) false :: .int (nlen (len r54)) (nlen (len r54)) :: l) := fun z => ⟨h83, (bnot_t rfl), rfl, z⟩
     refine bind_some hF (fun y85 h84 hF => ?_)
     refine sum_some hF (fun w86 hx hF => ?_) (fun w87 hx hF => ?_)
     ·
      subst hx
      obtain rfl := Option.some.inj hF
      have pz : HoldAll E H hn99 [.loop 0 c99_0 (F99_l0_1_S a6 r16.1.only_ r54 [] 0) .ret (F99_l0_1_X0 a6 r16.1.only_ r54 w86)] := ⟨(F99_l0_1_ok K a6 r16.1.only_ r54 K [] 0 _ h84), trivial⟩
      exact fn_playC hn99 (r := F99_res (0, ([], (false, 8)))) (q236 (q237 (q238 (q249 (q257 (q258 pz)))))) (by kernel_rfl) (by kernel_rfl)
     subst hx
     obtain rfl := Option.some.inj hF
     have pz : HoldAll E H hn99 [.loop 0 c99_0 (F99_l0_1_S a6 r16.1.only_ r54 [] 0) (.exit 0) (F99_l0_1_X1 a6 r16.1.only_ r54 w87)] := ⟨(F99_l0_1_ok K a6 r16.1.only_ r54 K [] 0 _ h84), trivial⟩
     exact fn_playC hn99 (r := F99_res (a6, (w87, (true, 0)))) (q236 (q237 (q238 (q249 (q257 (q258 pz)))))) (by kernel_rfl) (by kernel_rfl)
    obtain rfl := Option.some.inj hF
    have pz : HoldAll E H hn99 [.test r81 false, .test (bnot false) true] := ⟨h83, (bnot_f rfl), trivial⟩
    exact fn_playC hn99 (r := F99_res (a5, ([], (true, 0)))) (q236 (q237 (q238 (q249 (q257 pz))))) (by kernel_rfl) (by kernel_rfl)
   refine cond_some hF (fun h88 hF => ?_) (fun h88 hF => ?_)
   ·
    refine bind_some hF (fun r89 h90 hF => ?_)
    have q259 : PQ hn99 fun l => (.test (igt a3 40) false :: .test (bnot a7) false :: .call 143 [.one (.lit (.int .i64 a2.Prog))] (F143_res2 r16) :: .test (leadsAny (Res.mk [(.agg [(.im (.lit (fnV 162))), (.im (.lit (fnV 159))), (.im (.lit (.bool r16.1.only_))), (.im (.lit (fnV 163)))]), (.one (.im (.lit (.bool r16.2))))] [])) false :: .call 68 [.agg (eGGraph a1), .one (.lit (.int .i64 a4))] (F68_res r89) :: .test (leadsAny (Res.mk [(.one (.own 89 (.sl (len r89) (flat eGEdge r89))))] [])) false :: .test false false :: l) := fun z => ⟨(igt_eq h14), (bnot_t h15), (F143_ok2 _ h88 (F143_ok K a2.Prog _ h17)), (leads_ok (by simp [leadsAny, RV.leads, RC.leads, leadsT, hasSl_lit, flat_ns eGEdge_ns])), (F68_ok K a1 a4 _ h90), (leads_ok (by simp [leadsAny, RV.leads, RC.leads, leadsT, hasSl_lit, flat_ns eGEdge_ns])), rfl, z⟩
    refine cond_some hF (fun h91 hF => ?_) (fun h91 hF => ?_)
    ·
     have q260 : PQ hn99 fun l => (.test (beqb (ieq a3 0) true) true :: .test (beqb (ieq a3 0) true) true :: .test (beqb (ieq a3 0) true) true :: .test (beqb (ieq a3 0) true) true :: l) := fun z => ⟨(beqb_t h91), (beqb_t h91), (beqb_t h91), (beqb_t h91), z⟩
     refine cond_some hF (fun h92 hF => ?_) (fun h92 hF => ?_)
     ·
      refine bind_some hF (fun r93 h94 hF => ?_)
      have q261 : PQ hn99 fun l => (.test (beqb (bnot r16.1.only_) false) true :: .test (beqb (bnot r16.1.only_) false) true :: .test (beqb (bnot r16.1.only_) false) true :: .test (beqb (bnot r16.1.only_) false) true :: .test (beqb (ieq a3 0) true) true :: .test (bnot r16.1.only_) false :: .test (ieq a3 0) true :: .test (beqb a7 true) true :: .test (beqb a7 true) true :: .test (beqb a7 true) true :: .test (beqb a7 true) true :: .test (beqb a7 true) true :: .call 159 [.one (.lit (.int .i64 a6)), .one (.lit (.int .i64 a5))] (F159_res r93) :: .test (leadsAny (Res.mk [(.one (.im (.lit (.bool r93))))] [])) false :: .test a7 true :: l) := fun z => ⟨(beqb_ff (bnot_t h92)), (beqb_ff (bnot_t h92)), (beqb_ff (bnot_t h92)), (beqb_ff (bnot_t h92)), (beqb_t h91), (bnot_t h92), h91, (beqb_t h15), (beqb_t h15), (beqb_t h15), (beqb_t h15), (beqb_t h15), (F159_ok K a6 a5 _ h94), (leads_ok (by simp [leadsAny, RV.leads, RC.leads, leadsT, hasSl_lit])), h15, z⟩
      refine cond_some hF (fun h95 hF => ?_) (fun h95 hF => ?_)
      ·
       have q262 : PQ hn99 fun l => (.test r93 true :: .test (bnot true) false :: .int (nlen (len r89)) (nlen (len r89)) :: l) := fun z => ⟨h95, (bnot_t rfl), rfl, z⟩
       refine bind_some hF (fun y97 h96 hF => ?_)
       refine sum_some hF (fun w98 hx hF => ?_) (fun w99 hx hF => ?_)
       ·
        subst hx
        obtain rfl := Option.some.inj hF
        have pz : HoldAll E H hn99 [.loop 0 c99_0 (F99_l0_2_S a6 r16.1.only_ r89 [] 0) .ret (F99_l0_2_X0 a6 r16.1.only_ r89 w98)] := ⟨(F99_l0_2_ok K a6 r16.1.only_ r89 K [] 0 _ h96), trivial⟩
        exact fn_playC hn99 (r := F99_res (0, ([], (false, 8)))) (q236 (q237 (q238 (q259 (q260 (q261 (q262 pz))))))) (by kernel_rfl) (by kernel_rfl)
       subst hx
       obtain rfl := Option.some.inj hF
       have pz : HoldAll E H hn99 [.loop 0 c99_0 (F99_l0_2_S a6 r16.1.only_ r89 [] 0) (.exit 0) (F99_l0_2_X1 a6 r16.1.only_ r89 w99)] := ⟨(F99_l0_2_ok K a6 r16.1.only_ r89 K [] 0 _ h96), trivial⟩
       exact fn_playC hn99 (r := F99_res (a6, (w99, (true, 0)))) (q236 (q237 (q238 (q259 (q260 (q261 (q262 pz))))))) (by kernel_rfl) (by kernel_rfl)
      refine cond_some hF (fun h100 hF => ?_) (fun h100 hF => ?_)
      ·
       have q263 : PQ hn99 fun l => (.test r93 false :: .test (bnot (ieq a4 a2.Source)) false :: .int (nlen (len r89)) (nlen (len r89)) :: l) := fun z => ⟨h95, (bnot_t h100), rfl, z⟩
       refine bind_some hF (fun y102 h101 hF => ?_)
       refine sum_some hF (fun w103 hx hF => ?_) (fun w104 hx hF => ?_)
       ·
        subst hx
        obtain rfl := Option.some.inj hF
        have pz : HoldAll E H hn99 [.loop 0 c99_0 (F99_l0_2_S a5 r16.1.only_ r89 [] 0) .ret (F99_l0_2_X0 a5 r16.1.only_ r89 w103)] := ⟨(F99_l0_2_ok K a5 r16.1.only_ r89 K [] 0 _ h101), trivial⟩
        exact fn_playC hn99 (r := F99_res (0, ([], (false, 8)))) (q236 (q237 (q238 (q259 (q260 (q261 (q263 pz))))))) (by kernel_rfl) (by kernel_rfl)
       subst hx
       obtain rfl := Option.some.inj hF
       have pz : HoldAll E H hn99 [.loop 0 c99_0 (F99_l0_2_S a5 r16.1.only_ r89 [] 0) (.exit 0) (F99_l0_2_X1 a5 r16.1.only_ r89 w104)] := ⟨(F99_l0_2_ok K a5 r16.1.only_ r89 K [] 0 _ h101), trivial⟩
       exact fn_playC hn99 (r := F99_res (a5, (w104, (true, 0)))) (q236 (q237 (q238 (q259 (q260 (q261 (q263 pz))))))) (by kernel_rfl) (by kernel_rfl)
      obtain rfl := Option.some.inj hF
      have pz : HoldAll E H hn99 [.test r93 false, .test (bnot (ieq a4 a2.Source)) true] := ⟨h95, (bnot_f h100), trivial⟩
      exact fn_playC hn99 (r := F99_res (a5, ([], (true, 0)))) (q236 (q237 (q238 (q259 (q260 (q261 pz)))))) (by kernel_rfl) (by kernel_rfl)
     refine bind_some hF (fun r105 h106 hF => ?_)
     have q264 : PQ hn99 fun l => (.test (beqb (bnot r16.1.only_) false) false :: .test (beqb (bnot r16.1.only_) false) false :: .test (beqb (bnot r16.1.only_) false) false :: .test (beqb (bnot r16.1.only_) false) false :: .test (beqb (ieq a3 0) true) true :: .test (bnot r16.1.only_) true :: .test (ieq a3 0) true :: .test (beqb a7 true) true :: .test (beqb a7 true) true :: .test (beqb a7 true) true :: .test (beqb a7 true) true :: .test (beqb a7 true) true :: .call 159 [.one (.lit (.int .i64 a6)), .one (.lit (.int .i64 a5))] (F159_res r105) :: .test (leadsAny (Res.mk [(.one (.im (.lit (.bool r105))))] [])) false :: .test a7 true :: l) := fun z => ⟨(beqb_ft (bnot_f h92)), (beqb_ft (bnot_f h92)), (beqb_ft (bnot_f h92)), (beqb_ft (bnot_f h92)), (beqb_t h91), (bnot_f h92), h91, (beqb_t h15), (beqb_t h15), (beqb_t h15), (beqb_t h15), (beqb_t h15), (F159_ok K a6 a5 _ h106), (leads_ok (by simp [leadsAny, RV.leads, RC.leads, leadsT, hasSl_lit])), h15, z⟩
     refine cond_some hF (fun h107 hF => ?_) (fun h107 hF => ?_)
     ·
      have q265 : PQ hn99 fun l => (.test r105 true :: .test (bnot true) false :: .int (nlen (len r89)) (nlen (len r89)) :: l) := fun z => ⟨h107, (bnot_t rfl), rfl, z⟩
      refine bind_some hF (fun y109 h108 hF => ?_)
      refine sum_some hF (fun w110 hx hF => ?_) (fun w111 hx hF => ?_)
      ·
       subst hx
       obtain rfl := Option.some.inj hF
       have pz : HoldAll E H hn99 [.loop 0 c99_0 (F99_l0_2_S a6 r16.1.only_ r89 [] 0) .ret (F99_l0_2_X0 a6 r16.1.only_ r89 w110)] := ⟨(F99_l0_2_ok K a6 r16.1.only_ r89 K [] 0 _ h108), trivial⟩
       exact fn_playC hn99 (r := F99_res (0, ([], (false, 8)))) (q236 (q237 (q238 (q259 (q260 (q264 (q265 pz))))))) (by kernel_rfl) (by kernel_rfl)
      subst hx
      obtain rfl := Option.some.inj hF
      have pz : HoldAll E H hn99 [.loop 0 c99_0 (F99_l0_2_S a6 r16.1.only_ r89 [] 0) (.exit 0) (F99_l0_2_X1 a6 r16.1.only_ r89 w111)] := ⟨(F99_l0_2_ok K a6 r16.1.only_ r89 K [] 0 _ h108), trivial⟩
      exact fn_playC hn99 (r := F99_res (a6, (w111, (true, 0)))) (q236 (q237 (q238 (q259 (q260 (q264 (q265 pz))))))) (by kernel_rfl) (by kernel_rfl)
     have q266 : PQ hn99 fun l => (.test r105 false :: .test (bnot true) false :: .int (nlen (len r89)) (nlen (len r89)) :: l) := fun z => ⟨h107, (bnot_t rfl), rfl, z⟩
     refine bind_some hF (fun y113 h112 hF => ?_)
     refine sum_some hF (fun w114 hx hF => ?_) (fun w115 hx hF => ?_)
     ·
      subst hx
      obtain rfl := Option.some.inj hF
      have pz : HoldAll E H hn99 [.loop 0 c99_0 (F99_l0_2_S a5 r16.1.only_ r89 [] 0) .ret (F99_l0_2_X0 a5 r16.1.only_ r89 w114)] := ⟨(F99_l0_2_ok K a5 r16.1.only_ r89 K [] 0 _ h112), trivial⟩
      exact fn_playC hn99 (r := F99_res (0, ([], (false, 8)))) (q236 (q237 (q238 (q259 (q260 (q264 (q266 pz))))))) (by kernel_rfl) (by kernel_rfl)
     subst hx
     obtain rfl := Option.some.inj hF
     have pz : HoldAll E H hn99 [.loop 0 c99_0 (F99_l0_2_S a5 r16.1.only_ r89 [] 0) (.exit 0) (F99_l0_2_X1 a5 r16.1.only_ r89 w115)] := ⟨(F99_l0_2_ok K a5 r16.1.only_ r89 K [] 0 _ h112), trivial⟩
     exact fn_playC hn99 (r := F99_res (a5, (w115, (true, 0)))) (q236 (q237 (q238 (q259 (q260 (q264 (q266 pz))))))) (by kernel_rfl) (by kernel_rfl)
    refine bind_some hF (fun r116 h117 hF => ?_)
    have q267 : PQ hn99 fun l => (.test (beqb (ieq a3 0) true) false :: .test (beqb (ieq a3 0) true) false :: .test (beqb (ieq a3 0) true) false :: .test (beqb (ieq a3 0) true) false :: .test (beqb (ieq a3 0) true) false :: .test (ieq a3 0) false :: .test (beqb a7 true) true :: .test (beqb a7 true) true :: .test (beqb a7 true) true :: .test (beqb a7 true) true :: .test (beqb a7 true) true :: .call 159 [.one (.lit (.int .i64 a6)), .one (.lit (.int .i64 a5))] (F159_res r116) :: .test (leadsAny (Res.mk [(.one (.im (.lit (.bool r116))))] [])) false :: .test a7 true :: l) := fun z => ⟨(beqb_t h91), (beqb_t h91), (beqb_t h91), (beqb_t h91), (beqb_t h91), h91, (beqb_t h15), (beqb_t h15), (beqb_t h15), (beqb_t h15), (beqb_t h15), (F159_ok K a6 a5 _ h117), (leads_ok (by simp [leadsAny, RV.leads, RC.leads, leadsT, hasSl_lit])), h15, z⟩
    refine cond_some hF (fun h118 hF => ?_) (fun h118 hF => ?_)
    ·
     have q268 : PQ hn99 fun l => (.test r116 true :: .test (bnot true) false :: .int (nlen (len r89)) (nlen (len r89)) :: l) := fun z => ⟨h118, (bnot_t rfl), rfl, z⟩
     refine bind_some hF (fun y120 h119 hF => ?_)
     refine sum_some hF (fun w121 hx hF => ?_) (fun w122 hx hF => ?_)
     ·
      subst hx
      obtain rfl := Option.some.inj hF
      have pz : HoldAll E H hn99 [.loop 0 c99_0 (F99_l0_2_S a6 r16.1.only_ r89 [] 0) .ret (F99_l0_2_X0 a6 r16.1.only_ r89 w121)] := ⟨(F99_l0_2_ok K a6 r16.1.only_ r89 K [] 0 _ h119), trivial⟩
      exact fn_playC hn99 (r := F99_res (0, ([], (false, 8)))) (q236 (q237 (q238 (q259 (q267 (q268 pz)))))) (by kernel_rfl) (by kernel_rfl)
     subst hx
     obtain rfl := Option.some.inj hF
     have pz : HoldAll E H hn99 [.loop 0 c99_0 (F99_l0_2_S a6 r16.1.only_ r89 [] 0) (.exit 0) (F99_l0_2_X1 a6 r16.1.only_ r89 w122)] := ⟨(F99_l0_2_ok K a6 r16.1.only_ r89 K [] 0 _ h119), trivial⟩
     exact fn_playC hn99 (r := F99_res (a6, (w122, (true, 0)))) (q236 (q237 (q238 (q259 (q267 (q268 pz)))))) (by kernel_rfl) (by kernel_rfl)
    obtain rfl := Option.some.inj hF
    have pz : HoldAll E H hn99 [.test r116 false, .test (bnot false) true] := ⟨h118, (bnot_f rfl), trivial⟩
    exact fn_playC hn99 (r := F99_res (a5, ([], (true, 0)))) (q236 (q237 (q238 (q259 (q267 pz))))) (by kernel_rfl) (by kernel_rfl)
   refine cond_some hF (fun h123 hF => ?_) (fun h123 hF => ?_)
   ·
    refine bind_some hF (fun r124 h125 hF => ?_)
    have q269 : PQ hn99 fun l => (.test (igt a3 40) false :: .test (bnot a7) false :: .call 143 [.one (.lit (.int .i64 a2.Prog))] (F143_res3 r16) :: .test (leadsAny (Res.mk [(.agg [(.im (.lit (fnV 164))), (.im (.lit (fnV 165))), (.im (.lit (.bool r16.1.only_))), (.im (.lit (fnV 163)))]), (.one (.im (.lit (.bool r16.2))))] [])) false :: .call 68 [.agg (eGGraph a1), .one (.lit (.int .i64 a4))] (F68_res r124) :: .test (leadsAny (Res.mk [(.one (.own 89 (.sl (len r124) (flat eGEdge r124))))] [])) false :: .test false false :: l) := fun z => ⟨(igt_eq h14), (bnot_t h15), (F143_ok3 _ h123 (F143_ok K a2.Prog _ h17)), (leads_ok (by simp [leadsAny, RV.leads, RC.leads, leadsT, hasSl_lit, flat_ns eGEdge_ns])), (F68_ok K a1 a4 _ h125), (leads_ok (by simp [leadsAny, RV.leads, RC.leads, leadsT, hasSl_lit, flat_ns eGEdge_ns])), rfl, z⟩
    refine cond_some hF (fun h126 hF => ?_) (fun h126 hF => ?_)
    ·
     have q270 : PQ hn99 fun l => (.test (beqb (ieq a3 0) true) true :: .test (beqb (ieq a3 0) true) true :: .test (beqb (ieq a3 0) true) true :: .test (beqb (ieq a3 0) true) true :: l) := fun z => ⟨(beqb_t h126), (beqb_t h126), (beqb_t h126), (beqb_t h126), z⟩
     refine cond_some hF (fun h127 hF => ?_) (fun h127 hF => ?_)
     ·
      refine bind_some hF (fun r128 h129 hF => ?_)
      have q271 : PQ hn99 fun l => (.test (beqb (bnot r16.1.only_) false) true :: .test (beqb (bnot r16.1.only_) false) true :: .test (beqb (bnot r16.1.only_) false) true :: .test (beqb (bnot r16.1.only_) false) true :: .test (beqb (ieq a3 0) true) true :: .test (bnot r16.1.only_) false :: .test (ieq a3 0) true :: .test (beqb a7 true) true :: .test (beqb a7 true) true :: .test (beqb a7 true) true :: .test (beqb a7 true) true :: .test (beqb a7 true) true :: .call 165 [.one (.lit (.int .i64 a6)), .one (.lit (.int .i64 a5))] (F165_res r128) :: .test (leadsAny (Res.mk [(.one (.im (.lit (.bool r128))))] [])) false :: .test a7 true :: l) := fun z => ⟨(beqb_ff (bnot_t h127)), (beqb_ff (bnot_t h127)), (beqb_ff (bnot_t h127)), (beqb_ff (bnot_t h127)), (beqb_t h126), (bnot_t h127), h126, (beqb_t h15), (beqb_t h15), (beqb_t h15), (beqb_t h15), (beqb_t h15), (F165_ok K a6 a5 _ h129), (leads_ok (by simp [leadsAny, RV.leads, RC.leads, leadsT, hasSl_lit])), h15, z⟩
      refine cond_some hF (fun h130 hF => ?_) (fun h130 hF => ?_)
      ·
       have q272 : PQ hn99 fun l => (.test r128 true :: .test (bnot true) false :: .int (nlen (len r124)) (nlen (len r124)) :: l) := fun z => ⟨h130, (bnot_t rfl), rfl, z⟩
       refine bind_some hF (fun y132 h131 hF => ?_)
       refine sum_some hF (fun w133 hx hF => ?_) (fun w134 hx hF => ?_)
       ·
        subst hx
        obtain rfl := Option.some.inj hF
        have pz : HoldAll E H hn99 [.loop 0 c99_0 (F99_l0_3_S a6 r16.1.only_ r124 [] 0) .ret (F99_l0_3_X0 a6 r16.1.only_ r124 w133)] := ⟨(F99_l0_3_ok K a6 r16.1.only_ r124 K [] 0 _ h131), trivial⟩
        exact fn_playC hn99 (r := F99_res (0, ([], (false, 8)))) (q236 (q237 (q238 (q269 (q270 (q271 (q272 pz))))))) (by kernel_rfl) (by kernel_rfl)
       subst hx
       obtain rfl := Option.some.inj hF
       have pz : HoldAll E H hn99 [.loop 0 c99_0 (F99_l0_3_S a6 r16.1.only_ r124 [] 0) (.exit 0) (F99_l0_3_X1 a6 r16.1.only_ r124 w134)] := ⟨(F99_l0_3_ok K a6 r16.1.only_ r124 K [] 0 _ h131), trivial⟩
       exact fn_playC hn99 (r := F99_res (a6, (w134, (true, 0)))) (q236 (q237 (q238 (q269 (q270 (q271 (q272 pz))))))) (by kernel_rfl) (by kernel_rfl)
      refine cond_some hF (fun h135 hF => ?_) (fun h135 hF => ?_)
      ·
       have q273 : PQ hn99 fun l => (.test r128 false :: .test (bnot (ieq a4 a2.Source)) false :: .int (nlen (len r124)) (nlen (len r124)) :: l) := fun z => ⟨h130, (bnot_t h135), rfl, z⟩
       refine bind_some hF (fun y137 h136 hF => ?_)
       refine sum_some hF (fun w138 hx hF => ?_) (fun w139 hx hF => ?_)
       ·
        subst hx
        obtain rfl := Option.some.inj hF
        have pz : HoldAll E H hn99 [.loop 0 c99_0 (F99_l0_3_S a5 r16.1.only_ r124 [] 0) .ret (F99_l0_3_X0 a5 r16.1.only_ r124 w138)] := ⟨(F99_l0_3_ok K a5 r16.1.only_ r124 K [] 0 _ h136), trivial⟩
        exact fn_playC hn99 (r := F99_res (0, ([], (false, 8)))) (q236 (q237 (q238 (q269 (q270 (q271 (q273 pz))))))) (by kernel_rfl) (by kernel_rfl)
       subst hx
       obtain rfl := Option.some.inj hF
       have pz : HoldAll E H hn99 [.loop 0 c99_0 (F99_l0_3_S a5 r16.1.only_ r124 [] 0) (.exit 0) (F99_l0_3_X1 a5 r16.1.only_ r124 w139)] := ⟨(F99_l0_3_ok K a5 r16.1.only_ r124 K [] 0 _ h136), trivial⟩
       exact fn_playC hn99 (r := F99_res (a5, (w139, (true, 0)))) (q236 (q237 (q238 (q269 (q270 (q271 (q273 pz))))))) (by kernel_rfl) (by kernel_rfl)
      obtain rfl := Option.some.inj hF
      have pz : HoldAll E H hn99 [.test r128 false, .test (bnot (ieq a4 a2.Source)) true] := ⟨h130, (bnot_f h135), trivial⟩
      exact fn_playC hn99 (r := F99_res (a5, ([], (true, 0)))) (q236 (q237 (q238 (q269 (q270 (q271 pz)))))) (by kernel_rfl) (by kernel_rfl)
     refine bind_some hF (fun r140 h141 hF => ?_)
     have q274 : PQ hn99 fun l => (.test (beqb (bnot r16.1.only_) false) false :: .test (beqb (bnot r16.1.only_) false) false :: .test (beqb (bnot r16.1.only_) false) false :: .test (beqb (bnot r16.1.only_) false) false :: .test (beqb (ieq a3 0) true) true :: .test (bnot r16.1.only_) true :: .test (ieq a3 0) true :: .test (beqb a7 true) true :: .test (beqb a7 true) true :: .test (beqb a7 true) true :: .test (beqb a7 true) true :: .test (beqb a7 true) true :: .call 165 [.one (.lit (.int .i64 a6)), .one (.lit (.int .i64 a5))] (F165_res r140) :: .test (leadsAny (Res.mk [(.one (.im (.lit (.bool r140))))] [])) false :: .test a7 true :: l) := fun z => ⟨(beqb_ft (bnot_f h127)), (beqb_ft (bnot_f h127)), (beqb_ft (bnot_f h127)), (beqb_ft (bnot_f h127)), (beqb_t h126), (bnot_f h127), h126, (beqb_t h15), (beqb_t h15), (beqb_t h15), (beqb_t h15), (beqb_t h15), (F165_ok K a6 a5 _ h141), (leads_ok (by simp [leadsAny, RV.leads, RC.leads, leadsT, hasSl_lit])), h15, z⟩
     refine cond_some hF (fun h142 hF => ?_) (fun h142 hF => ?_)
     ·
      have q275 : PQ hn99 fun l => (.test r140 true :: .test (bnot true) false :: .int (nlen (len r124)) (nlen (len r124)) :: l) := fun z => ⟨h142, (bnot_t rfl), rfl, z⟩
      refine bind_some hF (fun y144 h143 hF => ?_)
      refine sum_some hF (fun w145 hx hF => ?_) (fun w146 hx hF => ?_)
      ·
       subst hx
       obtain rfl := Option.some.inj hF
       have pz : HoldAll E H hn99 [.loop 0 c99_0 (F99_l0_3_S a6 r16.1.only_ r124 [] 0) .ret (F99_l0_3_X0 a6 r16.1.only_ r124 w145)] := ⟨(F99_l0_3_ok K a6 r16.1.only_ r124 K [] 0 _ h143), trivial⟩
       exact fn_playC hn99 (r := F99_res (0, ([], (false, 8)))) (q236 (q237 (q238 (q269 (q270 (q274 (q275 pz))))))) (by kernel_rfl) (by kernel_rfl)
      subst hx
      obtain rfl := Option.some.inj hF
      have pz : HoldAll E H hn99 [.loop 0 c99_0 (F99_l0_3_S a6 r16.1.only_ r124 [] 0) (.exit 0) (F99_l0_3_X1 a6 r16.1.only_ r124 w146)] := ⟨(F99_l0_3_ok K a6 r16.1.only_ r124 K [] 0 _ h143), trivial⟩
      exact fn_playC hn99 (r := F99_res (a6, (w146, (true, 0)))) (q236 (q237 (q238 (q269 (q270 (q274 (q275 pz))))))) (by kernel_rfl) (by kernel_rfl)
     have q276 : PQ hn99 fun l => (.test r140 false :: .test (bnot true) false :: .int (nlen (len r124)) (nlen (len r124)) :: l) := fun z => ⟨h142, (bnot_t rfl), rfl, z⟩
     refine bind_some hF (fun y148 h147 hF => ?_)
     refine sum_some hF (fun w149 hx hF => ?_) (fun w150 hx hF => ?_)
     ·
      subst hx
      obtain rfl := Option.some.inj hF
      have pz : HoldAll E H hn99 [.loop 0 c99_0 (F99_l0_3_S a5 r16.1.only_ r124 [] 0) .ret (F99_l0_3_X0 a5 r16.1.only_ r124 w149)] := ⟨(F99_l0_3_ok K a5 r16.1.only_ r124 K [] 0 _ h147), trivial⟩
      exact fn_playC hn99 (r := F99_res (0, ([], (false, 8)))) (q236 (q237 (q238 (q269 (q270 (q274 (q276 pz))))))) (by kernel_rfl) (by kernel_rfl)
     subst hx
     obtain rfl := Option.some.inj hF
     have pz : HoldAll E H hn99 [.loop 0 c99_0 (F99_l0_3_S a5 r16.1.only_ r124 [] 0) (.exit 0) (F99_l0_3_X1 a5 r16.1.only_ r124 w150)] := ⟨(F99_l0_3_ok K a5 r16.1.only_ r124 K [] 0 _ h147), trivial⟩
     exact fn_playC hn99 (r := F99_res (a5, (w150, (true, 0)))) (q236 (q237 (q238 (q269 (q270 (q274 (q276 pz))))))) (by kernel_rfl) (by kernel_rfl)
    refine bind_some hF (fun r151 h152 hF => ?_)
    have q277 : PQ hn99 fun l => (.test (beqb (ieq a3 0) true) false :: .test (beqb (ieq a3 0) true) false :: .test (beqb (ieq a3 0) true) false :: .test (beqb (ieq a3 0) true) false :: .test (beqb (ieq a3 0) true) false :: .test (ieq a3 0) false :: .test (beqb a7 true) true :: .test (beqb a7 true) true :: .test (beqb a7 true) true :: .test (beqb a7 true) true :: .test (beqb a7 true) true :: .call 165 [.one (.lit (.int .i64 a6)), .one (.lit (.int .i64 a5))] (F165_res r151) :: .test (leadsAny (Res.mk [(.one (.im (.lit (.bool r151))))] [])) false :: .test a7 true :: l) := fun z => ⟨(beqb_t h126), (beqb_t h126), (beqb_t h126), (beqb_t h126), (beqb_t h126), h126, (beqb_t h15), (beqb_t h15), (beqb_t h15), (beqb_t h15), (beqb_t h15), (F165_ok K a6 a5 _ h152), (leads_ok (by simp [leadsAny, RV.leads, RC.leads, leadsT, hasSl_lit])), h15, z⟩
    refine cond_some hF (fun h153 hF => ?_) (fun h153 hF => ?_)
    ·
     have q278 : PQ hn99 fun l => (.test r151 true :: .test (bnot true) false :: .int (nlen (len r124)) (nlen (len r124)) :: l) := fun z => ⟨h153, (bnot_t rfl), rfl, z⟩
     refine bind_some hF (fun y155 h154 hF => ?_)
     refine sum_some hF (fun w156 hx hF => ?_) (fun w157 hx hF => ?_)
     ·
      subst hx
      obtain rfl := Option.some.inj hF
      have pz : HoldAll E H hn99 [.loop 0 c99_0 (F99_l0_3_S a6 r16.1.only_ r124 [] 0) .ret (F99_l0_3_X0 a6 r16.1.only_ r124 w156)] := ⟨(F99_l0_3_ok K a6 r16.1.only_ r124 K [] 0 _ h154), trivial⟩
      exact fn_playC hn99 (r := F99_res (0, ([], (false, 8)))) (q236 (q237 (q238 (q269 (q277 (q278 pz)))))) (by kernel_rfl) (by kernel_rfl)
     subst hx
     obtain rfl := Option.some.inj hF
     have pz : HoldAll E H hn99 [.loop 0 c99_0 (F99_l0_3_S a6 r16.1.only_ r124 [] 0) (.exit 0) (F99_l0_3_X1 a6 r16.1.only_ r124 w157)] := ⟨(F99_l0_3_ok K a6 r16.1.only_ r124 K [] 0 _ h154), trivial⟩
     exact fn_playC hn99 (r := F99_res (a6, (w157, (true, 0)))) (q236 (q237 (q238 (q269 (q277 (q278 pz)))))) (by kernel_rfl) (by kernel_rfl)
    obtain rfl := Option.some.inj hF
    have pz : HoldAll E H hn99 [.test r151 false, .test (bnot false) true] := ⟨h153, (bnot_f rfl), trivial⟩
    exact fn_playC hn99 (r := F99_res (a5, ([], (true, 0)))) (q236 (q237 (q238 (q269 (q277 pz))))) (by kernel_rfl) (by kernel_rfl)
   refine cond_some hF (fun h158 hF => ?_) (fun h158 hF => ?_)
   ·
    refine bind_some hF (fun r159 h160 hF => ?_)
    refine bind_some hF (fun r161 h162 hF => ?_)
    obtain rfl := Option.some.inj hF
    have pz : HoldAll E H hn99 [.test (igt a3 40) false, .test (bnot a7) false, .call 143 [.one (.lit (.int .i64 a2.Prog))] (F143_res4 r16), .test (leadsAny (Res.mk [(.agg [(.im (.lit (fnV 166))), (.im (.lit .nilFunc)), (.im (.lit (.bool r16.1.only_))), (.im (.lit (fnV 163)))]), (.one (.im (.lit (.bool r16.2))))] [])) false, .call 68 [.agg (eGGraph a1), .one (.lit (.int .i64 a4))] (F68_res r159), .test (leadsAny (Res.mk [(.one (.own 89 (.sl (len r159) (flat eGEdge r159))))] [])) false, .test true true, .call 146 [.one (.sl (len r159) (flat eGEdge r159)), .one (.lit (.int .i64 a3)), .one (.lit (.int .i64 a5)), .one (.lit (.int .i64 a6))] (F146_res r161), .test (leadsAny (Res.mk [(.one (.im (.lit (.int .i64 r161.1)))), (.one (.own 130 (.sl (len r161.2.1) (flat eGMsg r161.2.1)))), (.one (.im (.lit (.bool r161.2.2.1)))), (.one (.im (.lit (.int .i64 r161.2.2.2))))] [])) false] := ⟨(igt_eq h14), (bnot_t h15), (F143_ok4 _ h158 (F143_ok K a2.Prog _ h17)), (leads_ok (by simp [leadsAny, RV.leads, RC.leads, leadsT, hasSl_lit, flat_ns eGEdge_ns, flat_ns eGMsg_ns])), (F68_ok K a1 a4 _ h160), (leads_ok (by simp [leadsAny, RV.leads, RC.leads, leadsT, hasSl_lit, flat_ns eGEdge_ns, flat_ns eGMsg_ns])), rfl, (F146_ok K r159 a3 a5 a6 _ h162), (leads_ok (by simp [leadsAny, RV.leads, RC.leads, leadsT, hasSl_lit, flat_ns eGEdge_ns, flat_ns eGMsg_ns])), trivial⟩
    exact fn_playC hn99 (r := F99_res (r161.1, (r161.2.1, (r161.2.2.1, r161.2.2.2)))) (q236 (q237 (q238 pz))) (by kernel_rfl) (by kernel_rfl)
   refine cond_some hF (fun h163 hF => ?_) (fun _ hF => nomatch hF)
   refine bind_some hF (fun r164 h165 hF => ?_)
   refine bind_some hF (fun r166 h167 hF => ?_)
   obtain rfl := Option.some.inj hF
   have pz : HoldAll E H hn99 [.test (igt a3 40) false, .test (bnot a7) false, .call 143 [.one (.lit (.int .i64 a2.Prog))] (F143_res5 r16), .test (leadsAny (Res.mk [(.agg [(.im (.lit .nilFunc)), (.im (.lit .nilFunc)), (.im (.lit (.bool r16.1.only_))), (.im (.lit .nilFunc))]), (.one (.im (.lit (.bool r16.2))))] [])) false, .call 68 [.agg (eGGraph a1), .one (.lit (.int .i64 a4))] (F68_res r164), .test (leadsAny (Res.mk [(.one (.own 89 (.sl (len r164) (flat eGEdge r164))))] [])) false, .test true true, .call 146 [.one (.sl (len r164) (flat eGEdge r164)), .one (.lit (.int .i64 a3)), .one (.lit (.int .i64 a5)), .one (.lit (.int .i64 a6))] (F146_res r166), .test (leadsAny (Res.mk [(.one (.im (.lit (.int .i64 r166.1)))), (.one (.own 130 (.sl (len r166.2.1) (flat eGMsg r166.2.1)))), (.one (.im (.lit (.bool r166.2.2.1)))), (.one (.im (.lit (.int .i64 r166.2.2.2))))] [])) false] := ⟨(igt_eq h14), (bnot_t h15), (F143_ok5 _ h163 (F143_ok K a2.Prog _ h17)), (leads_ok (by simp [leadsAny, RV.leads, RC.leads, leadsT, hasSl_lit, flat_ns eGEdge_ns, flat_ns eGMsg_ns])), (F68_ok K a1 a4 _ h165), (leads_ok (by simp [leadsAny, RV.leads, RC.leads, leadsT, hasSl_lit, flat_ns eGEdge_ns, flat_ns eGMsg_ns])), rfl, (F146_ok K r164 a3 a5 a6 _ h167), (leads_ok (by simp [leadsAny, RV.leads, RC.leads, leadsT, hasSl_lit, flat_ns eGEdge_ns, flat_ns eGMsg_ns])), trivial⟩
   exact fn_playC hn99 (r := F99_res (r166.1, (r166.2.1, (r166.2.2.1, r166.2.2.2)))) (q236 (q237 (q238 pz))) (by kernel_rfl) (by kernel_rfl)
  refine bind_some hF (fun r168 h169 hF => ?_)
  refine cond_some hF (fun h170 hF => ?_) (fun h170 hF => ?_)
  ·
   refine bind_some hF (fun r171 h172 hF => ?_)
   have q279 : PQ hn99 fun l => (.test (igt a3 40) false :: .test (bnot a7) true :: .call 143 [.one (.lit (.int .i64 a2.Prog))] (F143_res0 r168) :: .test (leadsAny (Res.mk [(.agg [(.im (.lit (fnV 158))), (.im (.lit (fnV 159))), (.im (.lit (.bool r168.1.only_))), (.im (.lit (fnV 160)))]), (.one (.im (.lit (.bool r168.2))))] [])) false :: .call 68 [.agg (eGGraph a1), .one (.lit (.int .i64 a4))] (F68_res r171) :: .test (leadsAny (Res.mk [(.one (.own 89 (.sl (len r171) (flat eGEdge r171))))] [])) false :: .test false false :: l) := fun z => ⟨(igt_eq h14), (bnot_f h15), (F143_ok0 _ h170 (F143_ok K a2.Prog _ h169)), (leads_ok (by simp [leadsAny, RV.leads, RC.leads, leadsT, hasSl_lit, flat_ns eGEdge_ns])), (F68_ok K a1 a4 _ h172), (leads_ok (by simp [leadsAny, RV.leads, RC.leads, leadsT, hasSl_lit, flat_ns eGEdge_ns])), rfl, z⟩
   refine cond_some hF (fun h173 hF => ?_) (fun h173 hF => ?_)
   ·
    have q280 : PQ hn99 fun l => (.test (beqb (ieq a3 0) true) true :: .test (beqb (ieq a3 0) true) true :: .test (beqb (ieq a3 0) true) true :: .test (beqb (ieq a3 0) true) true :: l) := fun z => ⟨(beqb_t h173), (beqb_t h173), (beqb_t h173), (beqb_t h173), z⟩
    refine cond_some hF (fun h174 hF => ?_) (fun h174 hF => ?_)
    ·
     have q281 : PQ hn99 fun l => (.test (beqb (bnot r168.1.only_) false) true :: .test (beqb (bnot r168.1.only_) false) true :: .test (beqb (bnot r168.1.only_) false) true :: .test (beqb (bnot r168.1.only_) false) true :: .test (beqb (ieq a3 0) true) true :: .test (bnot r168.1.only_) false :: .test (ieq a3 0) true :: .test (beqb a7 true) false :: .test (beqb a7 true) false :: .test (beqb a7 true) false :: .test (beqb a7 true) false :: .test (beqb a7 true) false :: .test a7 false :: .test false false :: l) := fun z => ⟨(beqb_ff (bnot_t h174)), (beqb_ff (bnot_t h174)), (beqb_ff (bnot_t h174)), (beqb_ff (bnot_t h174)), (beqb_t h173), (bnot_t h174), h173, (beqb_t h15), (beqb_t h15), (beqb_t h15), (beqb_t h15), (beqb_t h15), h15, rfl, z⟩
     refine cond_some hF (fun h175 hF => ?_) (fun h175 hF => ?_)
     ·
      refine bind_some hF (fun y177 h176 hF => ?_)
      refine sum_some hF (fun w178 hx hF => ?_) (fun w179 hx hF => ?_)
      ·
       subst hx
       obtain rfl := Option.some.inj hF
       have pz : HoldAll E H hn99 [.test (bnot (ieq a4 a2.Source)) false, .int (nlen (len r171)) (nlen (len r171)), .loop 0 c99_0 (F99_l0_0_S a5 r168.1.only_ r171 [] 0) .ret (F99_l0_0_X0 a5 r168.1.only_ r171 w178)] := ⟨(bnot_t h175), rfl, (F99_l0_0_ok K a5 r168.1.only_ r171 K [] 0 _ h176), trivial⟩
       exact fn_playC hn99 (r := F99_res (0, ([], (false, 8)))) (q236 (q237 (q238 (q279 (q280 (q281 pz)))))) (by kernel_rfl) (by kernel_rfl)
      subst hx
      obtain rfl := Option.some.inj hF
      have pz : HoldAll E H hn99 [.test (bnot (ieq a4 a2.Source)) false, .int (nlen (len r171)) (nlen (len r171)), .loop 0 c99_0 (F99_l0_0_S a5 r168.1.only_ r171 [] 0) (.exit 0) (F99_l0_0_X1 a5 r168.1.only_ r171 w179)] := ⟨(bnot_t h175), rfl, (F99_l0_0_ok K a5 r168.1.only_ r171 K [] 0 _ h176), trivial⟩
      exact fn_playC hn99 (r := F99_res (a5, (w179, (true, 0)))) (q236 (q237 (q238 (q279 (q280 (q281 pz)))))) (by kernel_rfl) (by kernel_rfl)
     obtain rfl := Option.some.inj hF
     have pz : HoldAll E H hn99 [.test (bnot (ieq a4 a2.Source)) true] := ⟨(bnot_f h175), trivial⟩
     exact fn_playC hn99 (r := F99_res (a5, ([], (true, 0)))) (q236 (q237 (q238 (q279 (q280 (q281 pz)))))) (by kernel_rfl) (by kernel_rfl)
    have q282 : PQ hn99 fun l => (.test (beqb (bnot r168.1.only_) false) false :: .test (beqb (bnot r168.1.only_) false) false :: .test (beqb (bnot r168.1.only_) false) false :: .test (beqb (bnot r168.1.only_) false) false :: .test (beqb (ieq a3 0) true) true :: .test (bnot r168.1.only_) true :: .test (ieq a3 0) true :: .test (beqb a7 true) false :: .test (beqb a7 true) false :: .test (beqb a7 true) false :: .test (beqb a7 true) false :: .test (beqb a7 true) false :: .test a7 false :: .test false false :: .test (bnot true) false :: .int (nlen (len r171)) (nlen (len r171)) :: l) := fun z => ⟨(beqb_ft (bnot_f h174)), (beqb_ft (bnot_f h174)), (beqb_ft (bnot_f h174)), (beqb_ft (bnot_f h174)), (beqb_t h173), (bnot_f h174), h173, (beqb_t h15), (beqb_t h15), (beqb_t h15), (beqb_t h15), (beqb_t h15), h15, rfl, (bnot_t rfl), rfl, z⟩
    refine bind_some hF (fun y181 h180 hF => ?_)
    refine sum_some hF (fun w182 hx hF => ?_) (fun w183 hx hF => ?_)
    ·
     subst hx
     obtain rfl := Option.some.inj hF
     have pz : HoldAll E H hn99 [.loop 0 c99_0 (F99_l0_0_S a5 r168.1.only_ r171 [] 0) .ret (F99_l0_0_X0 a5 r168.1.only_ r171 w182)] := ⟨(F99_l0_0_ok K a5 r168.1.only_ r171 K [] 0 _ h180), trivial⟩
     exact fn_playC hn99 (r := F99_res (0, ([], (false, 8)))) (q236 (q237 (q238 (q279 (q280 (q282 pz)))))) (by kernel_rfl) (by kernel_rfl)
    subst hx
    obtain rfl := Option.some.inj hF
    have pz : HoldAll E H hn99 [.loop 0 c99_0 (F99_l0_0_S a5 r168.1.only_ r171 [] 0) (.exit 0) (F99_l0_0_X1 a5 r168.1.only_ r171 w183)] := ⟨(F99_l0_0_ok K a5 r168.1.only_ r171 K [] 0 _ h180), trivial⟩
    exact fn_playC hn99 (r := F99_res (a5, (w183, (true, 0)))) (q236 (q237 (q238 (q279 (q280 (q282 pz)))))) (by kernel_rfl) (by kernel_rfl)
   obtain rfl := Option.some.inj hF
   have pz : HoldAll E H hn99 [.test (beqb (ieq a3 0) true) false, .test (beqb (ieq a3 0) true) false, .test (beqb (ieq a3 0) true) false, .test (beqb (ieq a3 0) true) false, .test (beqb (ieq a3 0) true) false, .test (ieq a3 0) false, .test (beqb a7 true) false, .test (beqb a7 true) false, .test (beqb a7 true) false, .test (beqb a7 true) false, .test (beqb a7 true) false, .test a7 false, .test false false, .test (bnot false) true] := ⟨(beqb_t h173), (beqb_t h173), (beqb_t h173), (beqb_t h173), (beqb_t h173), h173, (beqb_t h15), (beqb_t h15), (beqb_t h15), (beqb_t h15), (beqb_t h15), h15, rfl, (bnot_f rfl), trivial⟩
   exact fn_playC hn99 (r := F99_res (a5, ([], (true, 0)))) (q236 (q237 (q238 (q279 pz)))) (by kernel_rfl) (by kernel_rfl)
  refine cond_some hF (fun h184 hF => ?_) (fun h184 hF => ?_)
  ·
   refine bind_some hF (fun r185 h186 hF => ?_)
   have q283 : PQ hn99 fun l => (.test (igt a3 40) false :: .test (bnot a7) true :: .call 143 [.one (.lit (.int .i64 a2.Prog))] (F143_res1 r168) :: .test (leadsAny (Res.mk [(.agg [(.im (.lit (fnV 158))), (.im (.lit (fnV 159))), (.im (.lit (.bool r168.1.only_))), (.im (.lit (fnV 161)))]), (.one (.im (.lit (.bool r168.2))))] [])) false :: .call 68 [.agg (eGGraph a1), .one (.lit (.int .i64 a4))] (F68_res r185) :: .test (leadsAny (Res.mk [(.one (.own 89 (.sl (len r185) (flat eGEdge r185))))] [])) false :: .test false false :: l) := fun z => ⟨(igt_eq h14), (bnot_f h15), (F143_ok1 _ h184 (F143_ok K a2.Prog _ h169)), (leads_ok (by simp [leadsAny, RV.leads, RC.leads, leadsT, hasSl_lit, flat_ns eGEdge_ns])), (F68_ok K a1 a4 _ h186), (leads_ok (by simp [leadsAny, RV.leads, RC.leads, leadsT, hasSl_lit, flat_ns eGEdge_ns])), rfl, z⟩
   refine cond_some hF (fun h187 hF => ?_) (fun h187 hF => ?_)
   ·
    have q284 : PQ hn99 fun l => (.test (beqb (ieq a3 0) true) true :: .test (beqb (ieq a3 0) true) true :: .test (beqb (ieq a3 0) true) true :: .test (beqb (ieq a3 0) true) true :: l) := fun z => ⟨(beqb_t h187), (beqb_t h187), (beqb_t h187), (beqb_t h187), z⟩
    refine cond_some hF (fun h188 hF => ?_) (fun h188 hF => ?_)
    ·
     have q285 : PQ hn99 fun l => (.test (beqb (bnot r168.1.only_) false) true :: .test (beqb (bnot r168.1.only_) false) true :: .test (beqb (bnot r168.1.only_) false) true :: .test (beqb (bnot r168.1.only_) false) true :: .test (beqb (ieq a3 0) true) true :: .test (bnot r168.1.only_) false :: .test (ieq a3 0) true :: .test (beqb a7 true) false :: .test (beqb a7 true) false :: .test (beqb a7 true) false :: .test (beqb a7 true) false :: .test (beqb a7 true) false :: .test a7 false :: .test false false :: l) := fun z => ⟨(beqb_ff (bnot_t h188)), (beqb_ff (bnot_t h188)), (beqb_ff (bnot_t h188)), (beqb_ff (bnot_t h188)), (beqb_t h187), (bnot_t h188), h187, (beqb_t h15), (beqb_t h15), (beqb_t h15), (beqb_t h15), (beqb_t h15), h15, rfl, z⟩
     refine cond_some hF (fun h189 hF => ?_) (fun h189 hF => ?_)
     ·
      refine bind_some hF (fun y191 h190 hF => ?_)
      refine sum_some hF (fun w192 hx hF => ?_) (fun w193 hx hF => ?_)
      ·
       subst hx
       obtain rfl := Option.some.inj hF
       have pz : HoldAll E H hn99 [.test (bnot (ieq a4 a2.Source)) false, .int (nlen (len r185)) (nlen (len r185)), .loop 0 c99_0 (F99_l0_1_S a5 r168.1.only_ r185 [] 0) .ret (F99_l0_1_X0 a5 r168.1.only_ r185 w192)] := ⟨(bnot_t h189), rfl, (F99_l0_1_ok K a5 r168.1.only_ r185 K [] 0 _ h190), trivial⟩
       exact fn_playC hn99 (r := F99_res (0, ([], (false, 8)))) (q236 (q237 (q238 (q283 (q284 (q285 pz)))))) (by kernel_rfl) (by kernel_rfl)
      subst hx
      obtain rfl := Option.some.inj hF
      have pz : HoldAll E H hn99 [.test (bnot (ieq a4 a2.Source)) false, .int (nlen (len r185)) (nlen (len r185)), .loop 0 c99_0 (F99_l0_1_S a5 r168.1.only_ r185 [] 0) (.exit 0) (F99_l0_1_X1 a5 r168.1.only_ r185 w193)] := ⟨(bnot_t h189), rfl, (F99_l0_1_ok K a5 r168.1.only_ r185 K [] 0 _ h190), trivial⟩
      exact fn_playC hn99 (r := F99_res (a5, (w193, (true, 0)))) (q236 (q237 (q238 (q283 (q284 (q285 pz)))))) (by kernel_rfl) (by kernel_rfl)
     obtain rfl := Option.some.inj hF
     have pz : HoldAll E H hn99 [.test (bnot (ieq a4 a2.Source)) true] := ⟨(bnot_f h189), trivial⟩
     exact fn_playC hn99 (r := F99_res (a5, ([], (true, 0)))) (q236 (q237 (q238 (q283 (q284 (q285 pz)))))) (by kernel_rfl) (by kernel_rfl)
    have q286 : PQ hn99 fun l => (.test (beqb (bnot r168.1.only_) false) false :: .test (beqb (bnot r168.1.only_) false) false :: .test (beqb (bnot r168.1.only_) false) false :: .test (beqb (bnot r168.1.only_) false) false :: .test (beqb (ieq a3 0) true) true :: .test (bnot r168.1.only_) true :: .test (ieq a3 0) true :: .test (beqb a7 true) false :: .test (beqb a7 true) false :: .test (beqb a7 true) false :: .test (beqb a7 true) false :: .test (beqb a7 true) false :: .test a7 false :: .test false false :: .test (bnot true) false :: .int (nlen (len r185)) (nlen (len r185)) :: l) := fun z => ⟨(beqb_ft (bnot_f h188)), (beqb_ft (bnot_f h188)), (beqb_ft (bnot_f h188)), (beqb_ft (bnot_f h188)), (beqb_t h187), (bnot_f h188), h187, (beqb_t h15), (beqb_t h15), (beqb_t h15), (beqb_t h15), (beqb_t h15), h15, rfl, (bnot_t rfl), rfl, z⟩
    refine bind_some hF (fun y195 h194 hF => ?_)
    refine sum_some hF (fun w196 hx hF => ?_) (fun w197 hx hF => ?_)
    ·
     subst hx
     obtain rfl := Option.some.inj hF
     have pz : HoldAll E H hn99 [.loop 0 c99_0 (F99_l0_1_S a5 r168.1.only_ r185 [] 0) .ret (F99_l0_1_X0 a5 r168.1.only_ r185 w196)] := ⟨(F99_l0_1_ok K a5 r168.1.only_ r185 K [] 0 _ h194), trivial⟩
     exact fn_playC hn99 (r := F99_res (0, ([], (false, 8)))) (q236 (q237 (q238 (q283 (q284 (q286 pz)))))) (by kernel_rfl) (by kernel_rfl)
    subst hx
    obtain rfl := Option.some.inj hF
    have pz : HoldAll E H hn99 [.loop 0 c99_0 (F99_l0_1_S a5 r168.1.only_ r185 [] 0) (.exit 0) (F99_l0_1_X1 a5 r168.1.only_ r185 w197)] := ⟨(F99_l0_1_ok K a5 r168.1.only_ r185 K [] 0 _ h194), trivial⟩
    exact fn_playC hn99 (r := F99_res (a5, (w197, (true, 0)))) (q236 (q237 (q238 (q283 (q284 (q286 pz)))))) (by kernel_rfl) (by kernel_rfl)
   obtain rfl := Option.some.inj hF
   have pz : HoldAll E H hn99 [.test (beqb (ieq a3 0) true) false, .test (beqb (ieq a3 0) true) false, .test (beqb (ieq a3 0) true) false, .test (beqb (ieq a3 0) true) false, .test (beqb (ieq a3 0) true) false, .test (ieq a3 0) false, .test (beqb a7 true) false, .test (beqb a7 true) false, .test (beqb a7 true) false, .test (beqb a7 true) false, .test (beqb a7 true) false, .test a7 false, .test false false, .test (bnot false) true] := ⟨(beqb_t h187), (beqb_t h187), (beqb_t h187), (beqb_t h187), (beqb_t h187), h187, (beqb_t h15), (beqb_t h15), (beqb_t h15), (beqb_t h15), (beqb_t h15), h15, rfl, (bnot_f rfl), trivial⟩
   exact fn_playC hn99 (r := F99_res (a5, ([], (true, 0)))) (q236 (q237 (q238 (q283 pz)))) (by kernel_rfl) (by kernel_rfl)
  refine cond_some hF (fun h198 hF => ?_) (fun h198 hF => ?_)
  ·
   refine bind_some hF (fun r199 h200 hF => ?_)
   have q287 : PQ hn99 fun l => (.test (igt a3 40) false :: .test (bnot a7) true :: .call 143 [.one (.lit (.int .i64 a2.Prog))] (F143_res2 r168) :: .test (leadsAny (Res.mk [(.agg [(.im (.lit (fnV 162))), (.im (.lit (fnV 159))), (.im (.lit (.bool r168.1.only_))), (.im (.lit (fnV 163)))]), (.one (.im (.lit (.bool r168.2))))] [])) false :: .call 68 [.agg (eGGraph a1), .one (.lit (.int .i64 a4))] (F68_res r199) :: .test (leadsAny (Res.mk [(.one (.own 89 (.sl (len r199) (flat eGEdge r199))))] [])) false :: .test false false :: l) := fun z => ⟨(igt_eq h14), (bnot_f h15), (F143_ok2 _ h198 (F143_ok K a2.Prog _ h169)), (leads_ok (by simp [leadsAny, RV.leads, RC.leads, leadsT, hasSl_lit, flat_ns eGEdge_ns])), (F68_ok K a1 a4 _ h200), (leads_ok (by simp [leadsAny, RV.leads, RC.leads, leadsT, hasSl_lit, flat_ns eGEdge_ns])), rfl, z⟩
   refine cond_some hF (fun h201 hF => ?_) (fun h201 hF => ?_)
   ·
    have q288 : PQ hn99 fun l => (.test (beqb (ieq a3 0) true) true :: .test (beqb (ieq a3 0) true) true :: .test (beqb (ieq a3 0) true) true :: .test (beqb (ieq a3 0) true) true :: l) := fun z => ⟨(beqb_t h201), (beqb_t h201), (beqb_t h201), (beqb_t h201), z⟩
    refine cond_some hF (fun h202 hF => ?_) (fun h202 hF => ?_)
    ·
     have q289 : PQ hn99 fun l => (.test (beqb (bnot r168.1.only_) false) true :: .test (beqb (bnot r168.1.only_) false) true :: .test (beqb (bnot r168.1.only_) false) true :: .test (beqb (bnot r168.1.only_) false) true :: .test (beqb (ieq a3 0) true) true :: .test (bnot r168.1.only_) false :: .test (ieq a3 0) true :: .test (beqb a7 true) false :: .test (beqb a7 true) false :: .test (beqb a7 true) false :: .test (beqb a7 true) false :: .test (beqb a7 true) false :: .test a7 false :: .test false false :: l) := fun z => ⟨(beqb_ff (bnot_t h202)), (beqb_ff (bnot_t h202)), (beqb_ff (bnot_t h202)), (beqb_ff (bnot_t h202)), (beqb_t h201), (bnot_t h202), h201, (beqb_t h15), (beqb_t h15), (beqb_t h15), (beqb_t h15), (beqb_t h15), h15, rfl, z⟩
     refine cond_some hF (fun h203 hF => ?_) (fun h203 hF => ?_)
     ·
      refine bind_some hF (fun y205 h204 hF => ?_)
      refine sum_some hF (fun w206 hx hF => ?_) (fun w207 hx hF => ?_)
      ·
       subst hx
       obtain rfl := Option.some.inj hF
       have pz : HoldAll E H hn99 [.test (bnot (ieq a4 a2.Source)) false, .int (nlen (len r199)) (nlen (len r199)), .loop 0 c99_0 (F99_l0_2_S a5 r168.1.only_ r199 [] 0) .ret (F99_l0_2_X0 a5 r168.1.only_ r199 w206)] := ⟨(bnot_t h203), rfl, (F99_l0_2_ok K a5 r168.1.only_ r199 K [] 0 _ h204), trivial⟩
       exact fn_playC hn99 (r := F99_res (0, ([], (false, 8)))) (q236 (q237 (q238 (q287 (q288 (q289 pz)))))) (by kernel_rfl) (by kernel_rfl)
      subst hx
      obtain rfl := Option.some.inj hF
      have pz : HoldAll E H hn99 [.test (bnot (ieq a4 a2.Source)) false, .int (nlen (len r199)) (nlen (len r199)), .loop 0 c99_0 (F99_l0_2_S a5 r168.1.only_ r199 [] 0) (.exit 0) (F99_l0_2_X1 a5 r168.1.only_ r199 w207)] := ⟨(bnot_t h203), rfl, (F99_l0_2_ok K a5 r168.1.only_ r199 K [] 0 _ h204), trivial⟩
      exact fn_playC hn99 (r := F99_res (a5, (w207, (true, 0)))) (q236 (q237 (q238 (q287 (q288 (q289 pz)))))) (by kernel_rfl) (by kernel_rfl)
     obtain rfl := Option.some.inj hF
     have pz : HoldAll E H hn99 [.test (bnot (ieq a4 a2.Source)) true] := ⟨(bnot_f h203), trivial⟩
     exact fn_playC hn99 (r := F99_res (a5, ([], (true, 0)))) (q236 (q237 (q238 (q287 (q288 (q289 pz)))))) (by kernel_rfl) (by kernel_rfl)
    have q290 : PQ hn99 fun l => (.test (beqb (bnot r168.1.only_) false) false :: .test (beqb (bnot r168.1.only_) false) false :: .test (beqb (bnot r168.1.only_) false) false :: .test (beqb (bnot r168.1.only_) false) false :: .test (beqb (ieq a3 0) true) true :: .test (bnot r168.1.only_) true :: .test (ieq a3 0) true :: .test (beqb a7 true) false :: .test (beqb a7 true) false :: .test (beqb a7 true) false :: .test (beqb a7 true) false :: .test (beqb a7 true) false :: .test a7 false :: .test false false :: .test (bnot true) false :: .int (nlen (len r199)) (nlen (len r199)) :: l) := fun z => ⟨(beqb_ft (bnot_f h202)), (beqb_ft (bnot_f h202)), (beqb_ft (bnot_f h202)), (beqb_ft (bnot_f h202)), (beqb_t h201), (bnot_f h202), h201, (beqb_t h15), (beqb_t h15), (beqb_t h15), (beqb_t h15), (beqb_t h15), h15, rfl, (bnot_t rfl), rfl, z⟩
    refine bind_some hF (fun y209 h208 hF => ?_)
    refine sum_some hF (fun w210 hx hF => ?_) (fun w211 hx hF => ?_)
    ·
     subst hx
     obtain rfl := Option.some.inj hF
     have pz : HoldAll E H hn99 [.loop 0 c99_0 (F99_l0_2_S a5 r168.1.only_ r199 [] 0) .ret (F99_l0_2_X0 a5 r168.1.only_ r199 w210)] := ⟨(F99_l0_2_ok K a5 r168.1.only_ r199 K [] 0 _ h208), trivial⟩
     exact fn_playC hn99 (r := F99_res (0, ([], (false, 8)))) (q236 (q237 (q238 (q287 (q288 (q290 pz)))))) (by kernel_rfl) (by kernel_rfl)
    subst hx
    obtain rfl := Option.some.inj hF
    have pz : HoldAll E H hn99 [.loop 0 c99_0 (F99_l0_2_S a5 r168.1.only_ r199 [] 0) (.exit 0) (F99_l0_2_X1 a5 r168.1.only_ r199 w211)] := ⟨(F99_l0_2_ok K a5 r168.1.only_ r199 K [] 0 _ h208), trivial⟩
    exact fn_playC hn99 (r := F99_res (a5, (w211, (true, 0)))) (q236 (q237 (q238 (q287 (q288 (q290 pz)))))) (by kernel_rfl) (by kernel_rfl)
   obtain rfl := Option.some.inj hF
   have pz : HoldAll E H hn99 [.test (beqb (ieq a3 0) true) false, .test (beqb (ieq a3 0) true) false, .test (beqb (ieq a3 0) true) false, .test (beqb (ieq a3 0) true) false, .test (beqb (ieq a3 0) true) false, .test (ieq a3 0) false, .test (beqb a7 true) false, .test (beqb a7 true) false, .test (beqb a7 true) false, .test (beqb a7 true) false, .test (beqb a7 true) false, .test a7 false, .test false false, .test (bnot false) true] := ⟨(beqb_t h201), (beqb_t h201), (beqb_t h201), (beqb_t h201), (beqb_t h201), h201, (beqb_t h15), (beqb_t h15), (beqb_t h15), (beqb_t h15), (beqb_t h15), h15, rfl, (bnot_f rfl), trivial⟩
   exact fn_playC hn99 (r := F99_res (a5, ([], (true, 0)))) (q236 (q237 (q238 (q287 pz)))) (by kernel_rfl) (by kernel_rfl)
  refine cond_some hF (fun h212 hF => ?_) (fun h212 hF => ?_)
  ·
   refine bind_some hF (fun r213 h214 hF => ?_)
   have q291 : PQ hn99 fun l => (.test (igt a3 40) false :: .test (bnot a7) true :: .call 143 [.one (.lit (.int .i64 a2.Prog))] (F143_res3 r168) :: .test (leadsAny (Res.mk [(.agg [(.im (.lit (fnV 164))), (.im (.lit (fnV 165))), (.im (.lit (.bool r168.1.only_))), (.im (.lit (fnV 163)))]), (.one (.im (.lit (.bool r168.2))))] [])) false :: .call 68 [.agg (eGGraph a1), .one (.lit (.int .i64 a4))] (F68_res r213) :: .test (leadsAny (Res.mk [(.one (.own 89 (.sl (len r213) (flat eGEdge r213))))] [])) false :: .test false false :: l) := fun z => ⟨(igt_eq h14), (bnot_f h15), (F143_ok3 _ h212 (F143_ok K a2.Prog _ h169)), (leads_ok (by simp [leadsAny, RV.leads, RC.leads, leadsT, hasSl_lit, flat_ns eGEdge_ns])), (F68_ok K a1 a4 _ h214), (leads_ok (by simp [leadsAny, RV.leads, RC.leads, leadsT, hasSl_lit, flat_ns eGEdge_ns])), rfl, z⟩
   refine cond_some hF (fun h215 hF => ?_) (fun h215 hF => ?_)
   ·
    have q292 : PQ hn99 fun l => (.test (beqb (ieq a3 0) true) true :: .test (beqb (ieq a3 0) true) true :: .test (beqb (ieq a3 0) true) true :: .test (beqb (ieq a3 0) true) true :: l) := fun z => ⟨(beqb_t h215), (beqb_t h215), (beqb_t h215), (beqb_t h215), z⟩
    refine cond_some hF (fun h216 hF => ?_) (fun h216 hF => ?_)
    ·
     have q293 : PQ hn99 fun l => (.test (beqb (bnot r168.1.only_) false) true :: .test (beqb (bnot r168.1.only_) false) true :: .test (beqb (bnot r168.1.only_) false) true :: .test (beqb (bnot r168.1.only_) false) true :: .test (beqb (ieq a3 0) true) true :: .test (bnot r168.1.only_) false :: .test (ieq a3 0) true :: .test (beqb a7 true) false :: .test (beqb a7 true) false :: .test (beqb a7 true) false :: .test (beqb a7 true) false :: .test (beqb a7 true) false :: .test a7 false :: .test false false :: l) := fun z => ⟨(beqb_ff (bnot_t h216)), (beqb_ff (bnot_t h216)), (beqb_ff (bnot_t h216)), (beqb_ff (bnot_t h216)), (beqb_t h215), (bnot_t h216), h215, (beqb_t h15), (beqb_t h15), (beqb_t h15), (beqb_t h15), (beqb_t h15), h15, rfl, z⟩
     refine cond_some hF (fun h217 hF => ?_) (fun h217 hF => ?_)
     ·
      refine bind_some hF (fun y219 h218 hF => ?_)
      refine sum_some hF (fun w220 hx hF => ?_) (fun w221 hx hF => ?_)
      ·
       subst hx
       obtain rfl := Option.some.inj hF
       have pz : HoldAll E H hn99 [.test (bnot (ieq a4 a2.Source)) false, .int (nlen (len r213)) (nlen (len r213)), .loop 0 c99_0 (F99_l0_3_S a5 r168.1.only_ r213 [] 0) .ret (F99_l0_3_X0 a5 r168.1.only_ r213 w220)] := ⟨(bnot_t h217), rfl, (F99_l0_3_ok K a5 r168.1.only_ r213 K [] 0 _ h218), trivial⟩
       exact fn_playC hn99 (r := F99_res (0, ([], (false, 8)))) (q236 (q237 (q238 (q291 (q292 (q293 pz)))))) (by kernel_rfl) (by kernel_rfl)
      subst hx
      obtain rfl := Option.some.inj hF
      have pz : HoldAll E H hn99 [.test (bnot (ieq a4 a2.Source)) false, .int (nlen (len r213)) (nlen (len r213)), .loop 0 c99_0 (F99_l0_3_S a5 r168.1.only_ r213 [] 0) (.exit 0) (F99_l0_3_X1 a5 r168.1.only_ r213 w221)] := ⟨(bnot_t h217), rfl, (F99_l0_3_ok K a5 r168.1.only_ r213 K [] 0 _ h218), trivial⟩
      exact fn_playC hn99 (r := F99_res (a5, (w221, (true, 0)))) (q236 (q237 (q238 (q291 (q292 (q293 pz)))))) (by kernel_rfl) (by kernel_rfl)
     obtain rfl := Option.some.inj hF
     have pz : HoldAll E H hn99 [.test (bnot (ieq a4 a2.Source)) true] := ⟨(bnot_f h217), trivial⟩
     exact fn_playC hn99 (r := F99_res (a5, ([], (true, 0)))) (q236 (q237 (q238 (q291 (q292 (q293 pz)))))) (by kernel_rfl) (by kernel_rfl)
    have q294 : PQ hn99 fun l => (.test (beqb (bnot r168.1.only_) false) false :: .test (beqb (bnot r168.1.only_) false) false :: .test (beqb (bnot r168.1.only_) false) false :: .test (beqb (bnot r168.1.only_) false) false :: .test (beqb (ieq a3 0) true) true :: .test (bnot r168.1.only_) true :: .test (ieq a3 0) true :: .test (beqb a7 true) false :: .test (beqb a7 true) false :: .test (beqb a7 true) false :: .test (beqb a7 true) false :: .test (beqb a7 true) false :: .test a7 false :: .test false false :: .test (bnot true) false :: .int (nlen (len r213)) (nlen (len r213)) :: l) := fun z => ⟨(beqb_ft (bnot_f h216)), (beqb_ft (bnot_f h216)), (beqb_ft (bnot_f h216)), (beqb_ft (bnot_f h216)), (beqb_t h215), (bnot_f h216), h215, (beqb_t h15), (beqb_t h15), (beqb_t h15), (beqb_t h15), (beqb_t h15), h15, rfl, (bnot_t rfl), rfl, z⟩
    refine bind_some hF (fun y223 h222 hF => ?_)
    refine sum_some hF (fun w224 hx hF => ?_) (fun w225 hx hF => ?_)
    ·
     subst hx
     obtain rfl := Option.some.inj hF
     have pz : HoldAll E H hn99 [.loop 0 c99_0 (F99_l0_3_S a5 r168.1.only_ r213 [] 0) .ret (F99_l0_3_X0 a5 r168.1.only_ r213 w224)] := ⟨(F99_l0_3_ok K a5 r168.1.only_ r213 K [] 0 _ h222), trivial⟩
     exact fn_playC hn99 (r := F99_res (0, ([], (false, 8)))) (q236 (q237 (q238 (q291 (q292 (q294 pz)))))) (by kernel_rfl) (by kernel_rfl)
    subst hx
    obtain rfl := Option.some.inj hF
    have pz : HoldAll E H hn99 [.loop 0 c99_0 (F99_l0_3_S a5 r168.1.only_ r213 [] 0) (.exit 0) (F99_l0_3_X1 a5 r168.1.only_ r213 w225)] := ⟨(F99_l0_3_ok K a5 r168.1.only_ r213 K [] 0 _ h222), trivial⟩
    exact fn_playC hn99 (r := F99_res (a5, (w225, (true, 0)))) (q236 (q237 (q238 (q291 (q292 (q294 pz)))))) (by kernel_rfl) (by kernel_rfl)
   obtain rfl := Option.some.inj hF
   have pz : HoldAll E H hn99 [.test (beqb (ieq a3 0) true) false, .test (beqb (ieq a3 0) true) false, .test (beqb (ieq a3 0) true) false, .test (beqb (ieq a3 0) true) false, .test (beqb (ieq a3 0) true) false, .test (ieq a3 0) false, .test (beqb a7 true) false, .test (beqb a7 true) false, .test (beqb a7 true) false, .test (beqb a7 true) false, .test (beqb a7 true) false, .test a7 false, .test false false, .test (bnot false) true] := ⟨(beqb_t h215), (beqb_t h215), (beqb_t h215), (beqb_t h215), (beqb_t h215), h215, (beqb_t h15), (beqb_t h15), (beqb_t h15), (beqb_t h15), (beqb_t h15), h15, rfl, (bnot_f rfl), trivial⟩
   exact fn_playC hn99 (r := F99_res (a5, ([], (true, 0)))) (q236 (q237 (q238 (q291 pz)))) (by kernel_rfl) (by kernel_rfl)
  refine cond_some hF (fun h226 hF => ?_) (fun h226 hF => ?_)
  ·
   refine bind_some hF (fun r227 h228 hF => ?_)
   refine bind_some hF (fun r229 h230 hF => ?_)
   obtain rfl := Option.some.inj hF
   have pz : HoldAll E H hn99 [.test (igt a3 40) false, .test (bnot a7) true, .call 143 [.one (.lit (.int .i64 a2.Prog))] (F143_res4 r168), .test (leadsAny (Res.mk [(.agg [(.im (.lit (fnV 166))), (.im (.lit .nilFunc)), (.im (.lit (.bool r168.1.only_))), (.im (.lit (fnV 163)))]), (.one (.im (.lit (.bool r168.2))))] [])) false, .call 68 [.agg (eGGraph a1), .one (.lit (.int .i64 a4))] (F68_res r227), .test (leadsAny (Res.mk [(.one (.own 89 (.sl (len r227) (flat eGEdge r227))))] [])) false, .test true true, .call 146 [.one (.sl (len r227) (flat eGEdge r227)), .one (.lit (.int .i64 a3)), .one (.lit (.int .i64 a5)), .one (.lit (.int .i64 0))] (F146_res r229), .test (leadsAny (Res.mk [(.one (.im (.lit (.int .i64 r229.1)))), (.one (.own 130 (.sl (len r229.2.1) (flat eGMsg r229.2.1)))), (.one (.im (.lit (.bool r229.2.2.1)))), (.one (.im (.lit (.int .i64 r229.2.2.2))))] [])) false] := ⟨(igt_eq h14), (bnot_f h15), (F143_ok4 _ h226 (F143_ok K a2.Prog _ h169)), (leads_ok (by simp [leadsAny, RV.leads, RC.leads, leadsT, hasSl_lit, flat_ns eGEdge_ns, flat_ns eGMsg_ns])), (F68_ok K a1 a4 _ h228), (leads_ok (by simp [leadsAny, RV.leads, RC.leads, leadsT, hasSl_lit, flat_ns eGEdge_ns, flat_ns eGMsg_ns])), rfl, (F146_ok K r227 a3 a5 0 _ h230), (leads_ok (by simp [leadsAny, RV.leads, RC.leads, leadsT, hasSl_lit, flat_ns eGEdge_ns, flat_ns eGMsg_ns])), trivial⟩
   exact fn_playC hn99 (r := F99_res (r229.1, (r229.2.1, (r229.2.2.1, r229.2.2.2)))) (q236 (q237 (q238 pz))) (by kernel_rfl) (by kernel_rfl)
  refine cond_some hF (fun h231 hF => ?_) (fun _ hF => nomatch hF)
  refine bind_some hF (fun r232 h233 hF => ?_)
  refine bind_some hF (fun r234 h235 hF => ?_)
  obtain rfl := Option.some.inj hF
  have pz : HoldAll E H hn99 [.test (igt a3 40) false, .test (bnot a7) true, .call 143 [.one (.lit (.int .i64 a2.Prog))] (F143_res5 r168), .test (leadsAny (Res.mk [(.agg [(.im (.lit .nilFunc)), (.im (.lit .nilFunc)), (.im (.lit (.bool r168.1.only_))), (.im (.lit .nilFunc))]), (.one (.im (.lit (.bool r168.2))))] [])) false, .call 68 [.agg (eGGraph a1), .one (.lit (.int .i64 a4))] (F68_res r232), .test (leadsAny (Res.mk [(.one (.own 89 (.sl (len r232) (flat eGEdge r232))))] [])) false, .test true true, .call 146 [.one (.sl (len r232) (flat eGEdge r232)), .one (.lit (.int .i64 a3)), .one (.lit (.int .i64 a5)), .one (.lit (.int .i64 0))] (F146_res r234), .test (leadsAny (Res.mk [(.one (.im (.lit (.int .i64 r234.1)))), (.one (.own 130 (.sl (len r234.2.1) (flat eGMsg r234.2.1)))), (.one (.im (.lit (.bool r234.2.2.1)))), (.one (.im (.lit (.int .i64 r234.2.2.2))))] [])) false] := ⟨(igt_eq h14), (bnot_f h15), (F143_ok5 _ h231 (F143_ok K a2.Prog _ h169)), (leads_ok (by simp [leadsAny, RV.leads, RC.leads, leadsT, hasSl_lit, flat_ns eGEdge_ns, flat_ns eGMsg_ns])), (F68_ok K a1 a4 _ h233), (leads_ok (by simp [leadsAny, RV.leads, RC.leads, leadsT, hasSl_lit, flat_ns eGEdge_ns, flat_ns eGMsg_ns])), rfl, (F146_ok K r232 a3 a5 0 _ h235), (leads_ok (by simp [leadsAny, RV.leads, RC.leads, leadsT, hasSl_lit, flat_ns eGEdge_ns, flat_ns eGMsg_ns])), trivial⟩
  exact fn_playC hn99 (r := F99_res (r234.1, (r234.2.1, (r234.2.2.1, r234.2.2.2)))) (q236 (q237 (q238 pz))) (by kernel_rfl) (by kernel_rfl)
 obtain rfl := Option.some.inj hF
 have pz : HoldAll E H hn99 [.call 94 [.agg (eGGraph a1), .agg (eGJob a2)] (F94_res r8), .test (leadsAny (Res.mk [(.one (.im (.lit (.int .i64 r8))))] [])) false, .test (ine r8 0) true] := ⟨(F94_ok K a1 a2 _ h9), (leads_ok (by simp [leadsAny, RV.leads, RC.leads, leadsT, hasSl_lit, flat_ns eGJob_ns])), (ine_f h10), trivial⟩
 exact fn_playC hn99 (r := F99_res (0, ([], (false, r8)))) pz (by kernel_rfl) (by kernel_rfl)
def F171 (K : Nat) (a1 : Int) (a2 : Int) : Option (Int × Bool) :=
 bif (ieq a1 0) then
  (some (0, true))
 else
 bif (ieq a2 0) then
  (some (0, true))
 else
 bif (ieq a1 (-1)) then
  (bif (ieq a1 (-9223372036854775808)) then
   (some (0, false))
  else
  bif (ieq a2 (-9223372036854775808)) then
   (some (0, false))
  else
  some ((wmul .i64 a1 a2), true))
 else
 bif (ieq a2 (-1)) then
  (bif (ieq a1 (-9223372036854775808)) then
   (some (0, false))
  else
  bif (ieq a2 (-9223372036854775808)) then
   (some (0, false))
  else
  some ((wmul .i64 a1 a2), true))
 else
 bif (izero a2) then none else
 bif (ieq (wquo .i64 (wmul .i64 a1 a2) a2) a1) then
  (some ((wmul .i64 a1 a2), true))
 else
 some (0, false)
def F168 (K : Nat) (a1 : Int) (a2 : Int) (a3 : Int) : Option (Int × Bool) :=
 bif (ilt a3 1) then
  (some (0, false))
 else
 (F171 K a1 a2).bind fun r4 =>
 bif r4.2 then
  (bif (izero a3) then none else
  some ((wquo .i64 r4.1 a3), true))
 else
 some (0, false)
def F148 (K : Nat) (a1 : Int) (a2 : Int) (a3 : GEdge) (a4 : Int) : Option (Int × Bool) :=
 bif (ieq a1 1) then
  ((F145 K a2 a3.W).bind fun r5 =>
  some (r5.1, r5.2))
 else
 bif (ieq a1 3) then
  ((F145 K a2 1).bind fun r6 =>
  some (r6.1, r6.2))
 else
 bif (ieq a1 5) then
  ((F168 K a2 1 a4).bind fun r7 =>
  some (r7.1, r7.2))
 else
 some (a2, true)
def F100_l0_0 (K : Nat) (v1 : Int) (v2 : Int) (v3 : Int) (v4 : Int) (v5 : Int) (v6 : Bool) (v7 : List GEdge) : Nat → List GMsg → Int → Option ((Unit) ⊕ (List GMsg))
 | 0, _, _ => none
 | k + 1, v8, v9 =>
  bif (ilt v9 (nlen (len v7))) then
   (bif v6 then
    (bif (inr v9 (len v7)) then
    (elAt v7 v9).bind fun x10 =>
    (F148 K v2 v1 x10 (nlen (len v7))).bind fun r11 =>
    bif r11.2 then
     (bif (apok (len v8) 1 16) then
     F100_l0_0 K v1 v2 v3 v4 v5 v6 v7 k (appL v8 [(GMsg.mk x10.To r11.1)]) (wadd .i64 v9 1)
     else none)
    else
    some (.inl ())
    else none)
   else
   some (.inr v8))
  else
  some (.inr v8)
def F100_l0_1 (K : Nat) (v1 : Int) (v2 : Int) (v3 : Int) (v4 : Int) (v5 : Int) (v6 : List GEdge) : Nat → List GMsg → Int → Option ((Unit) ⊕ (List GMsg))
 | 0, _, _ => none
 | k + 1, v7, v8 =>
  bif (ilt v8 (nlen (len v6))) then
   (bif (inr v8 (len v6)) then
   (elAt v6 v8).bind fun x9 =>
   (F148 K v2 v1 x9 (nlen (len v6))).bind fun r10 =>
   bif r10.2 then
    (bif (apok (len v7) 1 16) then
    F100_l0_1 K v1 v2 v3 v4 v5 v6 k (appL v7 [(GMsg.mk x9.To r10.1)]) (wadd .i64 v8 1)
    else none)
   else
   some (.inl ())
   else none)
  else
  some (.inr v7)
def F100_l0_2 (K : Nat) (v1 : Int) (v2 : Int) (v3 : Int) (v4 : Int) (v5 : Int) (v6 : Bool) (v7 : List GEdge) : Nat → List GMsg → Int → Option ((Unit) ⊕ (List GMsg))
 | 0, _, _ => none
 | k + 1, v8, v9 =>
  bif (ilt v9 (nlen (len v7))) then
   (bif v6 then
    (bif (inr v9 (len v7)) then
    (elAt v7 v9).bind fun x10 =>
    (F148 K v2 v1 x10 (nlen (len v7))).bind fun r11 =>
    bif r11.2 then
     (bif (apok (len v8) 1 16) then
     F100_l0_2 K v1 v2 v3 v4 v5 v6 v7 k (appL v8 [(GMsg.mk x10.To r11.1)]) (wadd .i64 v9 1)
     else none)
    else
    some (.inl ())
    else none)
   else
   some (.inr v8))
  else
  some (.inr v8)
def F100_l0_3 (K : Nat) (v1 : Int) (v2 : Int) (v3 : Int) (v4 : Int) (v5 : Int) (v6 : List GEdge) : Nat → List GMsg → Int → Option (((List GMsg)) ⊕ (Unit))
 | 0, _, _ => none
 | k + 1, v7, v8 =>
  bif (ilt v8 (nlen (len v6))) then
   (bif (ieq v1 v1) then
    (some (.inl v7))
   else
   bif (inr v8 (len v6)) then
   (elAt v6 v8).bind fun x9 =>
   (F148 K v2 v1 x9 (nlen (len v6))).bind fun r10 =>
   bif r10.2 then
    (bif (apok (len v7) 1 16) then
    F100_l0_3 K v1 v2 v3 v4 v5 v6 k (appL v7 [(GMsg.mk x9.To r10.1)]) (wadd .i64 v8 1)
    else none)
   else
   some (.inr ())
   else none)
  else
  some (.inl v7)
theorem u_add {a b : Int} (h : 0 ≤ a + b) (h2 : a + b < 18446744073709551616) : wadd .u64 a b = a + b := by
 show IntKind.u64.wrap (a + b) = _
 simp [IntKind.wrap, IntKind.signed, IntKind.bits]; omega
theorem u_mul {a b : Int} (h : 0 ≤ a * b) (h2 : a * b < 18446744073709551616) : wmul .u64 a b = a * b := by
 show IntKind.u64.wrap (a * b) = _
 simp only [IntKind.wrap, IntKind.signed, IntKind.bits, Bool.false_and]
 generalize a * b = t at *
 simp; omega
theorem u_quo {a : Int} (h : 0 ≤ a) (h2 : a < 18446744073709551616) : wquo .u64 a 4294967296 = a / 4294967296 := by
 show IntKind.u64.wrap (a.tdiv 4294967296) = _
 rw [Int.tdiv_eq_ediv_of_nonneg h]
 simp [IntKind.wrap, IntKind.signed, IntKind.bits]; omega
theorem u_rem {a : Int} (h : 0 ≤ a) : wrem a 4294967296 = a % 4294967296 := by
 show a.tmod 4294967296 = _
 exact Int.tmod_eq_emod_of_nonneg h
theorem F174_spec (K : Nat) {x b : Int} (hx : 0 ≤ x) (hx2 : x ≤ 9223372036854775808) (hb : 1 ≤ b) (hb2 : b ≤ 1000) :
   ∃ hi lo, F174 K x b = some (GA199.mk hi lo) ∧ hi * 18446744073709551616 + lo = x * b ∧ 0 ≤ lo ∧ lo < 18446744073709551616 ∧ 0 ≤ hi := by
 obtain ⟨u, hu⟩ : ∃ u, x / 4294967296 = u := ⟨_, rfl⟩
 obtain ⟨v, hv⟩ : ∃ v, x % 4294967296 = v := ⟨_, rfl⟩
 have hu0 : 0 ≤ u ∧ u ≤ 2147483648 := by omega
 have hv0 : 0 ≤ v ∧ v < 4294967296 := by omega
 have hxu : x = u * 4294967296 + v := by omega
 obtain ⟨P, hP⟩ : ∃ P, u * b = P := ⟨_, rfl⟩
 obtain ⟨Q, hQ⟩ : ∃ Q, v * b = Q := ⟨_, rfl⟩
 have hP0 : 0 ≤ P := hP ▸ Int.mul_nonneg hu0.1 (by omega)
 have hQ0 : 0 ≤ Q := hQ ▸ Int.mul_nonneg hv0.1 (by omega)
 have hP1 : P ≤ 2147483648 * 1000 := hP ▸ Int.mul_le_mul hu0.2 hb2 (by omega) (by omega)
 have hQ1 : Q ≤ 4294967296 * 1000 := hQ ▸ Int.mul_le_mul (by omega) hb2 (by omega) (by omega)
 have hxb : x * b = P * 4294967296 + Q := by rw [hxu, Int.add_mul, hQ, ← hP, Int.mul_right_comm]
 have a1 : wquo .u64 x 4294967296 = u := by rw [u_quo hx (by omega), hu]
 have a2 : wquo .u64 b 4294967296 = 0 := by rw [u_quo (by omega) (by omega)]; omega
 have a3 : wrem x 4294967296 = v := by rw [u_rem hx, hv]
 have a4 : wrem b 4294967296 = b := by rw [u_rem (by omega)]; omega
 have b1 : wmul .u64 u 0 = 0 := by rw [u_mul (by omega) (by omega)]; omega
 have b2 : wmul .u64 u b = P := by rw [u_mul (by omega) (by omega), hP]
 have b3 : wmul .u64 v 0 = 0 := by rw [u_mul (by omega) (by omega)]; omega
 have b4 : wmul .u64 v b = Q := by rw [u_mul (by omega) (by omega), hQ]
 have c1 : wquo .u64 P 4294967296 = P / 4294967296 := u_quo hP0 (by omega)
 have c2 : wquo .u64 0 4294967296 = 0 := by rw [u_quo (by omega) (by omega)]; omega
 have c3 : wquo .u64 Q 4294967296 = Q / 4294967296 := u_quo hQ0 (by omega)
 have c4 : wrem P 4294967296 = P % 4294967296 := u_rem hP0
 have c5 : wrem 0 4294967296 = 0 := by rw [u_rem (by omega)]; omega
 have c6 : wrem Q 4294967296 = Q % 4294967296 := u_rem hQ0
 have d1 : wadd .u64 (Q / 4294967296) (P % 4294967296) = Q / 4294967296 + P % 4294967296 := u_add (by omega) (by omega)
 have d2 : wadd .u64 (Q / 4294967296 + P % 4294967296) 0 = Q / 4294967296 + P % 4294967296 := by rw [u_add (by omega) (by omega)]; omega
 have d3 : wquo .u64 (Q / 4294967296 + P % 4294967296) 4294967296 = (Q / 4294967296 + P % 4294967296) / 4294967296 := u_quo (by omega) (by omega)
 have d4 : wrem (Q / 4294967296 + P % 4294967296) 4294967296 = (Q / 4294967296 + P % 4294967296) % 4294967296 := u_rem (by omega)
 have d5 : wadd .u64 0 (P / 4294967296) = P / 4294967296 := by rw [u_add (by omega) (by omega)]; omega
 have d6 : wadd .u64 (P / 4294967296) 0 = P / 4294967296 := by rw [u_add (by omega) (by omega)]; omega
 have d7 : wadd .u64 (P / 4294967296) ((Q / 4294967296 + P % 4294967296) / 4294967296) = P / 4294967296 + (Q / 4294967296 + P % 4294967296) / 4294967296 := u_add (by omega) (by omega)
 have d8 : wmul .u64 ((Q / 4294967296 + P % 4294967296) % 4294967296) 4294967296 = (Q / 4294967296 + P % 4294967296) % 4294967296 * 4294967296 := u_mul (by omega) (by omega)
 have d9 : wadd .u64 ((Q / 4294967296 + P % 4294967296) % 4294967296 * 4294967296) (Q % 4294967296) = (Q / 4294967296 + P % 4294967296) % 4294967296 * 4294967296 + Q % 4294967296 := u_add (by omega) (by omega)
 refine ⟨P / 4294967296 + (Q / 4294967296 + P % 4294967296) / 4294967296, (Q / 4294967296 + P % 4294967296) % 4294967296 * 4294967296 + Q % 4294967296, ?_, ?_, by omega, by omega, by omega⟩
 · rw [F174, a1, a2, a3, a4, b1, b2, b3, b4, c1, c2, c3, c4, c5, c6, d1, d2, d3, d4, d5, d6, d7, d8, d9]
 · rw [hxb]; omega
theorem F175_spec (K : Nat) {a : Int} (ha : i64 a) : F175 K a = some (bif ilt a 0 then -a else a) := by
 unfold i64 at ha
 rw [F175]
 cases h : ilt a 0
 · have := ilt_f.1 h
   have e : wconv .u64 a = a := by
     show IntKind.u64.wrap a = _
     simp [IntKind.wrap, IntKind.signed, IntKind.bits]; omega
   rw [e]; rfl
 · have := ilt_iff.1 h
   have e1 : wadd .i64 a 1 = a + 1 := wadd_i64 (by unfold i64; omega)
   have e2 : wneg .i64 (a + 1) = -(a + 1) := by
     show IntKind.i64.wrap (0 - (a + 1)) = _
     rw [IntKind.wrap_i64]; omega
   have e3 : wconv .u64 (-(a + 1)) = -(a + 1) := by
     show IntKind.u64.wrap _ = _
     simp [IntKind.wrap, IntKind.signed, IntKind.bits]; omega
   have e4 : wadd .u64 (-(a + 1)) 1 = -a := by rw [u_add (by omega) (by omega)]; omega
   rw [e1, e2, e3, e4]; rfl
def mulS (a b : Int) : Int × Bool := bif fitsB (a * b) then (a * b, true) else (0, false)
theorem F170_spec (K : Nat) {a b : Int} (ha : i64 a) (hb : 1 ≤ b) (hb2 : b ≤ 1000) : F170 K a b = some (mulS a b) := by
 have hb0 : ilt b 0 = false := ilt_f.2 (by omega)
 have h175 : F175 K b = some b := by rw [F175_spec K (by unfold i64; omega), hb0]; rfl
 have hconv : ∀ n : Int, 0 ≤ n → n ≤ 9223372036854775807 → wconv .i64 n = n := fun n h1 h2 => by
   show IntKind.i64.wrap n = _
   rw [IntKind.wrap_i64]; omega
 rw [F170, F175_spec K ha, h175, mulS, hb0]
 unfold i64 at ha
 cases h : ilt a 0
 · have hn := ilt_f.1 h
   obtain ⟨hi, lo, e, h1, h2, h3, h4⟩ := F174_spec K hn (by omega) hb hb2
   simp only [Option.bind_some, cond_false, e]
   cases c1 : ilt 0 hi
   · have c1' := ilt_f.1 c1
     cases c2 : ilt 9223372036854775808 lo
     · have c2' := ilt_f.1 c2
       cases c3 : ieq lo 9223372036854775808
       · have c3' := ieq_f.1 c3
         have hf : fitsB (a * b) = true := fitsB_iff.2 (by unfold i64; omega)
         have : lo = a * b := by omega
         rw [hf, hconv lo h2 (by omega), this]; rfl
       · have c3' := ieq_iff.1 c3
         have hf : fitsB (a * b) = false := fitsB_f.2 (by omega)
         rw [hf]; rfl
     · have c2' := ilt_iff.1 c2
       have hf : fitsB (a * b) = false := fitsB_f.2 (by omega)
       rw [hf]; rfl
   · have c1' := ilt_iff.1 c1
     have hf : fitsB (a * b) = false := fitsB_f.2 (by omega)
     rw [hf]; rfl
 · have hn := ilt_iff.1 h
   obtain ⟨hi, lo, e, h1, h2, h3, h4⟩ := F174_spec K (x := -a) (by omega) (by omega) hb hb2
   rw [Int.neg_mul] at h1
   simp only [Option.bind_some, cond_true, e]
   cases c1 : ilt 0 hi
   · have c1' := ilt_f.1 c1
     cases c2 : ilt 9223372036854775808 lo
     · have c2' := ilt_f.1 c2
       cases c3 : ieq lo 9223372036854775808
       · have c3' := ieq_f.1 c3
         have hf : fitsB (a * b) = true := fitsB_iff.2 (by unfold i64; omega)
         have hw : wneg .i64 lo = a * b := by
           show IntKind.i64.wrap (0 - lo) = _
           rw [IntKind.wrap_i64]; omega
         rw [hf, hconv lo h2 (by omega), hw]; rfl
       · have c3' := ieq_iff.1 c3
         have hf : fitsB (a * b) = true := fitsB_iff.2 (by unfold i64; omega)
         have : a * b = -9223372036854775808 := by omega
         rw [hf, this]; rfl
     · have c2' := ilt_iff.1 c2
       have hf : fitsB (a * b) = false := fitsB_f.2 (by omega)
       rw [hf]; rfl
   · have c1' := ilt_iff.1 c1
     have hf : fitsB (a * b) = false := fitsB_f.2 (by omega)
     rw [hf]; rfl
theorem tdiv_i64 {a d : Int} (ha : i64 a) (hd : 1 ≤ d) : wquo .i64 a d = a.tdiv d ∧ i64 (a.tdiv d) := by
 unfold i64 at ha
 have h1 : (a.tdiv d).natAbs ≤ a.natAbs := Int.natAbs_tdiv_le_natAbs a d
 have h2 : -9223372036854775808 ≤ a.tdiv d ∧ a.tdiv d ≤ 9223372036854775808 := by omega
 have h3 : 0 ≤ a → 0 ≤ a.tdiv d := fun h => Int.tdiv_nonneg h (by omega)
 have h4 : a ≤ 0 → a.tdiv d ≤ 0 := fun h => by
   have := Int.tdiv_nonneg (show 0 ≤ -a by omega) (show 0 ≤ d by omega)
   rw [Int.neg_tdiv] at this; omega
 have h5 : i64 (a.tdiv d) := by
   unfold i64
   rcases Int.le_total 0 a with h | h
   · have := h3 h; omega
   · have := h4 h; omega
 refine ⟨?_, h5⟩
 unfold i64 at h5
 show IntKind.i64.wrap (a.tdiv d) = _
 rw [IntKind.wrap_i64]; omega
theorem F171_spec (K : Nat) {a b : Int} (ha : i64 a) (hb : 1 ≤ b) (hb2 : b ≤ 1000) : F171 K a b = some (mulS a b) := by
 unfold i64 at ha
 rw [F171, mulS, ieq_f.2 (by omega : b ≠ 0), ieq_f.2 (by omega : b ≠ -1)]
 cases h0 : ieq a 0
 · have h0' := ieq_f.1 h0
   cases h1 : ieq a (-1)
   · have hz : izero b = false := decide_eq_false (by omega)
     simp only [cond_false, hz]
     obtain ⟨t, ht⟩ : ∃ t, a * b = t := ⟨_, rfl⟩
     obtain ⟨p, hp⟩ : ∃ p, wmul .i64 a b = p := ⟨_, rfl⟩
     have hp' : p = if 9223372036854775808 ≤ t % 18446744073709551616 then t % 18446744073709551616 - 18446744073709551616 else t % 18446744073709551616 := by
       rw [← hp, ← ht]
       show IntKind.i64.wrap (a * b) = _
       rw [IntKind.wrap_i64, ht]
       split <;> omega
     have hpr : -9223372036854775808 ≤ p ∧ p ≤ 9223372036854775807 := by rw [hp']; split <;> omega
     obtain ⟨q, hq⟩ : ∃ q, p.tdiv b = q := ⟨_, rfl⟩
     obtain ⟨r, hr⟩ : ∃ r, p.tmod b = r := ⟨_, rfl⟩
     have hdiv : b * q + r = p := by rw [← hq, ← hr]; exact Int.mul_tdiv_add_tmod p b
     have hrb : -1000 < r ∧ r < 1000 := by
       have h1 := Int.tmod_lt_of_pos p (show 0 < b by omega)
       have h2 := Int.lt_tmod_of_pos p (show 0 < b by omega)
       omega
     have hqr : -9223372036854775808 ≤ q ∧ q ≤ 9223372036854775807 := by
       have : i64 (p.tdiv b) := (tdiv_i64 (show i64 p from hpr) hb).2
       unfold i64 at this
       rw [hq] at this; exact this
     have hw : wquo .i64 p b = q := by rw [(tdiv_i64 (show i64 p from hpr) hb).1, hq]
     rw [hp, hw, ht]
     cases hf : fitsB t
     · have hf' := fitsB_f.1 hf
       have hne : ieq q a = false := ieq_f.2 fun hc => by
         have hba : b * q = t := by rw [hc, Int.mul_comm]; exact ht
         rw [hba] at hdiv
         have := hp'
         split at this <;> omega
       rw [hne]; rfl
     · have hf' := fitsB_iff.1 hf
       unfold i64 at hf'
       have hpt : p = t := by rw [hp']; split <;> omega
       have hqa : q = a := by
         rw [← hq, hpt, ← ht]
         exact Int.mul_tdiv_cancel a (by omega)
       rw [hqa, ieq_refl, hpt]; rfl
   · have h1' := ieq_iff.1 h1
     subst h1'
     have e1 : ieq (-1) (-9223372036854775808) = false := rfl
     have e2 : ieq b (-9223372036854775808) = false := ieq_f.2 (by omega)
     have e3 : fitsB (-1 * b) = true := fitsB_iff.2 (by unfold i64; omega)
     have e4 : wmul .i64 (-1) b = -1 * b := wmul_ok (by unfold i64; omega)
     rw [e1, e2, e3, e4]; rfl
 · have h0' := ieq_iff.1 h0
   subst h0'
   have e3 : fitsB (0 * b) = true := fitsB_iff.2 (by unfold i64; omega)
   rw [e3, Int.zero_mul]; rfl
def ratioS (v n d : Int) : Int × Bool := bif ilt d 1 then (0, false) else bif (mulS v n).2 then ((mulS v n).1.tdiv d, true) else (0, false)
theorem mulS_i64 {a b : Int} : i64 (mulS a b).1 := by
 rw [mulS]
 cases h : fitsB (a * b)
 · unfold i64; simp
 · exact fitsB_iff.1 h
theorem ratioS_i64 {v n d : Int} : i64 (ratioS v n d).1 := by
 have h0 : i64 0 := by unfold i64; omega
 rw [ratioS]
 cases hd : ilt d 1
 · cases (mulS v n).2
   · exact h0
   · exact (tdiv_i64 mulS_i64 (ilt_f.1 hd)).2
 · exact h0
theorem F167_spec (K : Nat) {v n : Int} (d : Int) (hv : i64 v) (hn : 1 ≤ n) (hn2 : n ≤ 1000) : F167 K v n d = some (ratioS v n d) := by
 rw [F167, F170_spec K hv hn hn2, Option.bind_some, ratioS]
 cases hd : ilt d 1
 · have hd' := ilt_f.1 hd
   have hz : izero d = false := decide_eq_false (by omega)
   rw [(tdiv_i64 (mulS_i64 (a := v) (b := n)) hd').1, hz]
   cases (mulS v n).2 <;> rfl
 · cases (mulS v n).2 <;> rfl
theorem F168_spec (K : Nat) {v n : Int} (d : Int) (hv : i64 v) (hn : 1 ≤ n) (hn2 : n ≤ 1000) : F168 K v n d = some (ratioS v n d) := by
 rw [F168, F171_spec K hv hn hn2, ratioS]
 cases hd : ilt d 1
 · have hd' := ilt_f.1 hd
   have hz : izero d = false := decide_eq_false (by omega)
   rw [cond_false, cond_false, Option.bind_some, (tdiv_i64 (mulS_i64 (a := v) (b := n)) hd').1, hz]
   cases (mulS v n).2 <;> rfl
 · rfl
def sumS (got : Int) : Int × Bool := bif (ratioS got 85 100).2 then addS 150000 (ratioS got 85 100).1 else (0, false)
theorem addS_i64 {a b : Int} : i64 (addS a b).1 := by
 rw [addS]
 cases h : fitsB (a + b)
 · unfold i64; simp
 · exact fitsB_iff.1 h
theorem sumS_i64 {got : Int} : i64 (sumS got).1 := by
 rw [sumS]
 cases (ratioS got 85 100).2
 · unfold i64; simp
 · exact addS_i64
def outs (g : GGraph) (v : Int) : List GEdge := bif ieq (gcheck g) 0 then g.Edges.filter (fun e => ieq e.From v) else []
theorem out_go (l : List GEdge) (v : Int) : ∀ (s : List GEdge), s.length + l.length ≤ 80 →
   goL (fun x (s : List GEdge) c => bif (ieq x.From v) then (bif (apok (len s) 1 24) then c (appL s [x]) else none) else c s) (fun s => some s) l s = some (s ++ l.filter (fun e => ieq e.From v)) := by
 induction l with
 | nil => intro s _; simp [goL]
 | cons x l ih =>
   intro s hs
   simp only [List.length_cons] at hs
   rw [goL]
   cases hx : ieq x.From v
   · rw [cond_false, ih s (by omega), List.filter_cons, hx]; rfl
   · have ha : apok (len s) 1 24 = true := decide_eq_true ⟨by show s.length + 1 ≤ _; omega, by show (s.length + 1) * 24 ≤ _; omega⟩
     rw [cond_true, ha, cond_true, ih _ (by simp [appL]; omega), List.filter_cons, hx]
     simp [appL]
theorem F68_spec {K : Nat} (hK : 100 ≤ K) (g : GGraph) (v : Int) : F68 K g v = some (outs g v) := by
 rw [F68, F64_spec hK, Option.bind_some, outs]
 cases hc : ieq (gcheck g) 0
 · rfl
 · obtain ⟨h1, h2, h3, h4⟩ := gcheck_ok hc
   have e : F68_l0_0 K g v K [] 0 = _ := scanL (l := g.Edges) (L := fun k s i => F68_l0_0 K g v k s i) (fun x (s : List GEdge) c => bif (ieq x.From v) then (bif (apok (len s) 1 24) then c (appL s [x]) else none) else c s) (fun s => some s) (fun k s i _ => rfl) (by omega) (by omega) []
   rw [cond_true, cond_true, e, out_go _ _ _ (by simpa using h3)]; rfl
theorem outs_len {g : GGraph} {v : Int} : (outs g v).length ≤ 80 := by
 rw [outs]
 cases hc : ieq (gcheck g) 0
 · simp
 · obtain ⟨h1, h2, h3, h4⟩ := gcheck_ok hc
   exact Nat.le_trans (List.length_filter_le _ _) h3
def sendS (p val : Int) (e : GEdge) (many : Int) : Int × Bool := bif ieq p 1 then addS val e.W else bif ieq p 3 then addS val 1 else bif ieq p 5 then ratioS val 1 many else (val, true)
def sendA (p val many : Int) : List GEdge → List GMsg → Option (List GMsg)
 | [], s => some s
 | e :: l, s => bif (sendS p val e many).2 then sendA p val many l (s ++ [GMsg.mk e.To (sendS p val e many).1]) else none
def sumO {α : Type} : Option α → Unit ⊕ α
 | none => .inl ()
 | some s => .inr s
def sendO (rest : Bool) (val : Int) : Option (List GMsg) → Int × List GMsg × Bool × Int
 | none => (0, [], false, 8)
 | some s => (val, s, rest, 0)
theorem sum_elim (rest : Bool) (val : Int) (o : Option (List GMsg)) : (some (sumO o)).bind (fun y => Sum.elim (fun w => some ((0, ([], (false, 8))) : Int × List GMsg × Bool × Int)) (fun w => some (val, (w, (rest, 0)))) y) = some (sendO rest val o) := by
 cases o <;> rfl
theorem sum_elim' (rest : Bool) (val : Int) (o : Option (List GMsg)) : Sum.elim (fun w => some ((0, ([], (false, 8))) : Int × List GMsg × Bool × Int)) (fun w => some (val, (w, (rest, 0)))) (sumO o) = some (sendO rest val o) := by
 cases o <;> rfl
theorem send_go (p val many : Int) (f : GEdge → Option (Int × Bool)) (l : List GEdge) (hf : ∀ e ∈ l, f e = some (sendS p val e many)) : ∀ (s : List GMsg), s.length + l.length ≤ 80 →
   goL (fun e (s : List GMsg) c => (f e).bind fun r => bif r.2 then (bif (apok (len s) 1 16) then c (appL s [(GMsg.mk e.To r.1)]) else none) else some (.inl ())) (fun s => some (.inr s)) l s = some (sumO (sendA p val many l s)) := by
 induction l with
 | nil => intro s _; rfl
 | cons x l ih =>
   intro s hs
   simp only [List.length_cons] at hs
   rw [goL, hf x List.mem_cons_self, Option.bind_some, sendA]
   cases (sendS p val x many).2
   · rfl
   · have ha : apok (len s) 1 16 = true := decide_eq_true ⟨by show s.length + 1 ≤ _; omega, by show (s.length + 1) * 16 ≤ _; omega⟩
     rw [cond_true, ha, cond_true, ih (fun e he => hf e (List.mem_cons_of_mem _ he)) _ (by simp [appL]; omega), cond_true]; rfl
theorem outs_W {g : GGraph} {v : Int} {e : GEdge} (h : e ∈ outs g v) : 0 ≤ e.W ∧ e.W ≤ 4611686018427387904 := by
 rw [outs] at h
 cases hc : ieq (gcheck g) 0
 · rw [hc] at h; cases h
 · obtain ⟨h1, h2, h3, h4⟩ := gcheck_ok hc
   rw [hc] at h
   have := badE_ok (gchk_mem h4 e (List.mem_filter.1 h).1)
   omega
theorem F160_spec (K : Nat) {val : Int} {e : GEdge} (many : Int) (hv : i64 val) (he : i64 e.W) : F160 K val e = some (sendS 1 val e many) := by
 rw [F160, F144_spec K hv he]; rfl
theorem F161_spec (K : Nat) {val : Int} (e : GEdge) (many : Int) (hv : i64 val) : F161 K val e = some (sendS 3 val e many) := by
 rw [F161, F144_spec K hv (by unfold i64; omega)]; rfl
theorem F148_spec (K : Nat) (p : Int) {val many : Int} {e : GEdge} (hv : i64 val) (he : i64 e.W) : F148 K p val e many = some (sendS p val e many) := by
 rw [F148, sendS, F145_spec K hv he, F145_spec K hv (show i64 1 by unfold i64; omega), F168_spec K many hv (show (1 : Int) ≤ 1 by omega) (show (1 : Int) ≤ 1000 by omega)]
 cases ieq p 1 <;> cases ieq p 3 <;> cases ieq p 5 <;> rfl
def manyO (g : GGraph) (v : Int) : Int := nlen (len (outs g v))
section loops
variable {K : Nat} (hK : 100 ≤ K) (g : GGraph) (v : Int) {val : Int} (hv : i64 val)
include hK hv
theorem loop99_0 (b : Bool) : F99_l0_0 K val b (outs g v) K [] 0 = some (sumO (sendA 1 val (manyO g v) (outs g v) [])) := by
 have hl := outs_len (g := g) (v := v)
 have e := scanL (l := outs g v) (L := fun k s i => F99_l0_0 K val b (outs g v) k s i) (fun e (s : List GMsg) c => (F160 K val e).bind fun r => bif r.2 then (bif (apok (len s) 1 16) then c (appL s [(GMsg.mk e.To r.1)]) else none) else some (.inl ())) (fun s => some (.inr s)) (fun k s i _ => rfl) (K := K) (by omega) (by omega) []
 exact e.trans (send_go 1 val (manyO g v) (F160 K val) _ (fun e he => F160_spec K _ hv (by have := outs_W he; unfold i64; omega)) [] (by simpa using hl))
theorem loop99_1 (b : Bool) : F99_l0_1 K val b (outs g v) K [] 0 = some (sumO (sendA 3 val (manyO g v) (outs g v) [])) := by
 have hl := outs_len (g := g) (v := v)
 have e := scanL (l := outs g v) (L := fun k s i => F99_l0_1 K val b (outs g v) k s i) (fun e (s : List GMsg) c => (F161 K val e).bind fun r => bif r.2 then (bif (apok (len s) 1 16) then c (appL s [(GMsg.mk e.To r.1)]) else none) else some (.inl ())) (fun s => some (.inr s)) (fun k s i _ => rfl) (K := K) (by omega) (by omega) []
 exact e.trans (send_go 3 val (manyO g v) (F161 K val) _ (fun e he => F161_spec K e _ hv) [] (by simpa using hl))
omit hv in
theorem loop99_2 (val : Int) (b : Bool) : F99_l0_2 K val b (outs g v) K [] 0 = some (sumO (sendA 2 val (manyO g v) (outs g v) [])) := by
 have hl := outs_len (g := g) (v := v)
 have e := scanL (l := outs g v) (L := fun k s i => F99_l0_2 K val b (outs g v) k s i) (fun e (s : List GMsg) c => (F163 K val e).bind fun r => bif r.2 then (bif (apok (len s) 1 16) then c (appL s [(GMsg.mk e.To r.1)]) else none) else some (.inl ())) (fun s => some (.inr s)) (fun k s i _ => rfl) (K := K) (by omega) (by omega) []
 exact e.trans (send_go 2 val (manyO g v) (F163 K val) _ (fun e he => rfl) [] (by simpa using hl))
omit hv in
theorem loop99_3 (val : Int) (b : Bool) : F99_l0_3 K val b (outs g v) K [] 0 = some (sumO (sendA 4 val (manyO g v) (outs g v) [])) := by
 have hl := outs_len (g := g) (v := v)
 have e := scanL (l := outs g v) (L := fun k s i => F99_l0_3 K val b (outs g v) k s i) (fun e (s : List GMsg) c => (F163 K val e).bind fun r => bif r.2 then (bif (apok (len s) 1 16) then c (appL s [(GMsg.mk e.To r.1)]) else none) else some (.inl ())) (fun s => some (.inr s)) (fun k s i _ => rfl) (K := K) (by omega) (by omega) []
 exact e.trans (send_go 4 val (manyO g v) (F163 K val) _ (fun e he => rfl) [] (by simpa using hl))
theorem loop146 : F146_l0_0 K (outs g v) val K [] 0 = some (sumO (sendA 5 val (manyO g v) (outs g v) [])) := by
 have hl := outs_len (g := g) (v := v)
 have e := scanL (l := outs g v) (L := fun k s i => F146_l0_0 K (outs g v) val k s i) (fun e (s : List GMsg) c => (F167 K val 1 (nlen (len (outs g v)))).bind fun r => bif r.2 then (bif (apok (len s) 1 16) then c (appL s [(GMsg.mk e.To r.1)]) else none) else some (.inl ())) (fun s => some (.inr s)) (fun k s i _ => rfl) (K := K) (by omega) (by omega) []
 exact e.trans (send_go 5 val (manyO g v) (fun _ => F167 K val 1 (nlen (len (outs g v)))) _ (fun e he => F167_spec K _ hv (by omega) (by omega)) [] (by simpa using hl))
theorem loop100_1 (p a b c : Int) : F100_l0_1 K val p a b c (outs g v) K [] 0 = some (sumO (sendA p val (manyO g v) (outs g v) [])) := by
 have hl := outs_len (g := g) (v := v)
 have e := scanL (l := outs g v) (L := fun k s i => F100_l0_1 K val p a b c (outs g v) k s i) (fun e (s : List GMsg) c => (F148 K p val e (nlen (len (outs g v)))).bind fun r => bif r.2 then (bif (apok (len s) 1 16) then c (appL s [(GMsg.mk e.To r.1)]) else none) else some (.inl ())) (fun s => some (.inr s)) (fun k s i _ => rfl) (K := K) (by omega) (by omega) []
 exact e.trans (send_go p val (manyO g v) (fun e => F148 K p val e (nlen (len (outs g v)))) _ (fun e he => F148_spec K p hv (by have := outs_W he; unfold i64; omega)) [] (by simpa using hl))
theorem loop100_0 (p a b c : Int) (m : Bool) : F100_l0_0 K val p a b c m (outs g v) K [] 0 = some (bif m then sumO (sendA p val (manyO g v) (outs g v) []) else .inr []) := by
 have hl := outs_len (g := g) (v := v)
 cases m
 · obtain ⟨k, rfl⟩ : ∃ k, K = k + 1 := ⟨K - 1, by omega⟩
   rw [F100_l0_0]
   cases ilt 0 (nlen (len (outs g v))) <;> rfl
 · have e := scanL (l := outs g v) (L := fun k s i => F100_l0_0 K val p a b c true (outs g v) k s i) (fun e (s : List GMsg) c => (F148 K p val e (nlen (len (outs g v)))).bind fun r => bif r.2 then (bif (apok (len s) 1 16) then c (appL s [(GMsg.mk e.To r.1)]) else none) else some (.inl ())) (fun s => some (.inr s)) (fun k s i _ => rfl) (K := K) (by omega) (by omega) []
   exact e.trans (send_go p val (manyO g v) (fun e => F148 K p val e (nlen (len (outs g v)))) _ (fun e he => F148_spec K p hv (by have := outs_W he; unfold i64; omega)) [] (by simpa using hl))
theorem loop100_2 (p a b c : Int) (m : Bool) : F100_l0_2 K val p a b c m (outs g v) K [] 0 = some (bif m then sumO (sendA p val (manyO g v) (outs g v) []) else .inr []) := by
 have hl := outs_len (g := g) (v := v)
 cases m
 · obtain ⟨k, rfl⟩ : ∃ k, K = k + 1 := ⟨K - 1, by omega⟩
   rw [F100_l0_2]
   cases ilt 0 (nlen (len (outs g v))) <;> rfl
 · have e := scanL (l := outs g v) (L := fun k s i => F100_l0_2 K val p a b c true (outs g v) k s i) (fun e (s : List GMsg) c => (F148 K p val e (nlen (len (outs g v)))).bind fun r => bif r.2 then (bif (apok (len s) 1 16) then c (appL s [(GMsg.mk e.To r.1)]) else none) else some (.inl ())) (fun s => some (.inr s)) (fun k s i _ => rfl) (K := K) (by omega) (by omega) []
   exact e.trans (send_go p val (manyO g v) (fun e => F148 K p val e (nlen (len (outs g v)))) _ (fun e he => F148_spec K p hv (by have := outs_W he; unfold i64; omega)) [] (by simpa using hl))
omit hv in
theorem loop100_3 (val p a b c : Int) : F100_l0_3 K val p a b c (outs g v) K [] 0 = some (.inl []) := by
 obtain ⟨k, rfl⟩ : ∃ k, K = k + 1 := ⟨K - 1, by omega⟩
 rw [F100_l0_3, ieq_refl]
 cases ilt 0 (nlen (len (outs g v))) <;> rfl
end loops
def rankW (step val got : Int) (sm : Bool) : Int × Bool := bif ilt 0 step then sumS (bif sm then got else 0) else (val, true)
def rankS (step : Int) (w : Int × Bool) (many : Int) (l : List GEdge) : Int × List GMsg × Bool × Int :=
 bif w.2 then (bif ile 10 step then (w.1, [], true, 0) else sendO false w.1 (sendA 5 w.1 many l [])) else (0, [], false, 8)
def turnV (p val got : Int) (sm : Bool) : Int := bif sm then (foldS p val got).1 else val
def turnM (p src step v val w : Int) : Bool := bif ieq step 0 && (bif ieq p 1 || ieq p 3 then ieq v src else true) then true else ine w val
def moveS (p : Int) (m : Bool) (w many : Int) (l : List GEdge) : Int × List GMsg × Bool × Int :=
 bif m then sendO true w (sendA p w many l []) else (w, [], true, 0)
def turnS (g : GGraph) (j : GJob) (step v val got : Int) (sm : Bool) : Int × List GMsg × Bool × Int :=
 bif ieq (jcheck g j) 0 then
   (bif ilt v 0 then (0, [], false, 4) else bif ile g.N v then (0, [], false, 4)
    else bif ilt step 0 then (0, [], false, 1) else bif ilt 40 step then (0, [], false, 1)
    else bif ieq j.Prog 5 then rankS step (rankW step val got sm) (manyO g v) (outs g v)
    else moveS j.Prog (turnM j.Prog j.Source step v val (turnV j.Prog val got sm)) (turnV j.Prog val got sm) (manyO g v) (outs g v))
 else (0, [], false, jcheck g j)
theorem F146_spec {K : Nat} (hK : 100 ≤ K) (g : GGraph) (v step : Int) {val got : Int} (hv : i64 val) (hg : i64 got) : F146 K (outs g v) step val got = some (rankS step (rankW step val got true) (manyO g v) (outs g v)) := by
 rw [F146, F167_spec K 100 hg (by omega) (by omega), Option.bind_some, F144_spec K (by unfold i64; omega) ratioS_i64, rankW, rankS]
 cases hs : ilt 0 step
 · rw [loop146 hK g v hv, sum_elim]
   cases ile 10 step <;> rfl
 · rw [cond_true, cond_true, Option.bind_some, cond_true, sumS]
   cases (ratioS got 85 100).2
   · rfl
   · cases h2 : (addS 150000 (ratioS got 85 100).1).2
     · rw [cond_true, cond_true, h2]; rfl
     · rw [cond_true, cond_true, cond_true, h2, cond_true, loop146 hK g v addS_i64, sum_elim]
       cases ile 10 step <;> rfl
theorem F99_spec {K : Nat} (hK : 100 ≤ K) (g : GGraph) (j : GJob) (step v : Int) {val got : Int} (sm : Bool) (hv : i64 val) (hg : i64 got) : F99 K g j step v val got sm = some (turnS g j step v val got sm) := by
 rw [F99, F94_spec hK, Option.bind_some, turnS]
 cases hc : ieq (jcheck g j) 0
 · rfl
 · obtain ⟨hgc, p1, p2, p3, p4, p5, p6, p7, p8⟩ := jcheck_ok hc
   rw [cond_true, cond_true]
   cases h1 : ilt v 0
   · cases h2 : ile g.N v
     · cases h3 : ilt step 0
       · cases h4 : ilt 40 step
         · simp only [cond_false]
           rcases prog_cases j.Prog with q | q | q | q | q | q
           · have e5 : ieq 1 5 = false := rfl
             have e4 : ieq 1 4 = false := rfl
             have e1 : ieq 1 1 = true := rfl
             have e3 : ieq 1 3 = false := rfl
             have eb : pbad 1 = false := rfl
             rw [F68_spec hK, q, F143_1, turnM, turnV, foldS, e5, e4, e1, e3, eb, moveS]
             simp only [Option.bind_some, cond_true, cond_false, af_1_1, af_1_3, af_1_2, af_1_4, af_1_5, af_1_0, af_3_1, af_3_3, af_3_2, af_3_4, af_3_5, af_3_0, af_2_1, af_2_3, af_2_2, af_2_4, af_2_5, af_2_0, af_4_1, af_4_3, af_4_2, af_4_4, af_4_5, af_4_0, af_5_1, af_5_3, af_5_2, af_5_4, af_5_5, af_5_0, af_0_1, af_0_3, af_0_2, af_0_4, af_0_5, af_0_0, loop99_0 hK g v hv, loop99_0 hK g v hg, F159, sum_elim', Bool.or_true, Bool.true_or, Bool.or_false, Bool.and_true]
             cases sm
             · have : ine val val = false := ine_t (ieq_refl val)
               simp only [cond_false, this]
               cases ieq step 0 <;> cases ieq v j.Source <;> rfl
             · cases hb : ilt got val
               · have : ine val val = false := ine_t (ieq_refl val)
                 simp only [cond_true, cond_false, this]
                 cases ieq step 0 <;> cases ieq v j.Source <;> rfl
               · have : ine got val = true := ine_f (ieq_f.2 (by have := ilt_iff.1 hb; omega))
                 simp only [cond_true, cond_false, this]
                 cases ieq step 0 <;> cases ieq v j.Source <;> rfl
           · have e5 : ieq 2 5 = false := rfl
             have e4 : ieq 2 4 = false := rfl
             have e1 : ieq 2 1 = false := rfl
             have e3 : ieq 2 3 = false := rfl
             have eb : pbad 2 = false := rfl
             rw [F68_spec hK, q, F143_2, turnM, turnV, foldS, e5, e4, e1, e3, eb, moveS]
             simp only [Option.bind_some, cond_true, cond_false, af_1_1, af_1_3, af_1_2, af_1_4, af_1_5, af_1_0, af_3_1, af_3_3, af_3_2, af_3_4, af_3_5, af_3_0, af_2_1, af_2_3, af_2_2, af_2_4, af_2_5, af_2_0, af_4_1, af_4_3, af_4_2, af_4_4, af_4_5, af_4_0, af_5_1, af_5_3, af_5_2, af_5_4, af_5_5, af_5_0, af_0_1, af_0_3, af_0_2, af_0_4, af_0_5, af_0_0, loop99_2 hK g v val, loop99_2 hK g v got, F159, sum_elim', Bool.or_true, Bool.true_or, Bool.or_false, Bool.and_true]
             cases sm
             · have : ine val val = false := ine_t (ieq_refl val)
               simp only [cond_false, this]
               cases ieq step 0 <;> rfl
             · cases hb : ilt got val
               · have : ine val val = false := ine_t (ieq_refl val)
                 simp only [cond_true, cond_false, this]
                 cases ieq step 0 <;> rfl
               · have : ine got val = true := ine_f (ieq_f.2 (by have := ilt_iff.1 hb; omega))
                 simp only [cond_true, cond_false, this]
                 cases ieq step 0 <;> rfl
           · have e5 : ieq 3 5 = false := rfl
             have e4 : ieq 3 4 = false := rfl
             have e1 : ieq 3 1 = false := rfl
             have e3 : ieq 3 3 = true := rfl
             have eb : pbad 3 = false := rfl
             rw [F68_spec hK, q, F143_3, turnM, turnV, foldS, e5, e4, e1, e3, eb, moveS]
             simp only [Option.bind_some, cond_true, cond_false, af_1_1, af_1_3, af_1_2, af_1_4, af_1_5, af_1_0, af_3_1, af_3_3, af_3_2, af_3_4, af_3_5, af_3_0, af_2_1, af_2_3, af_2_2, af_2_4, af_2_5, af_2_0, af_4_1, af_4_3, af_4_2, af_4_4, af_4_5, af_4_0, af_5_1, af_5_3, af_5_2, af_5_4, af_5_5, af_5_0, af_0_1, af_0_3, af_0_2, af_0_4, af_0_5, af_0_0, loop99_1 hK g v hv, loop99_1 hK g v hg, F159, sum_elim', Bool.or_true, Bool.true_or, Bool.or_false, Bool.and_true]
             cases sm
             · have : ine val val = false := ine_t (ieq_refl val)
               simp only [cond_false, this]
               cases ieq step 0 <;> cases ieq v j.Source <;> rfl
             · cases hb : ilt got val
               · have : ine val val = false := ine_t (ieq_refl val)
                 simp only [cond_true, cond_false, this]
                 cases ieq step 0 <;> cases ieq v j.Source <;> rfl
               · have : ine got val = true := ine_f (ieq_f.2 (by have := ilt_iff.1 hb; omega))
                 simp only [cond_true, cond_false, this]
                 cases ieq step 0 <;> cases ieq v j.Source <;> rfl
           · have e5 : ieq 4 5 = false := rfl
             have e4 : ieq 4 4 = true := rfl
             have e1 : ieq 4 1 = false := rfl
             have e3 : ieq 4 3 = false := rfl
             have eb : pbad 4 = false := rfl
             rw [F68_spec hK, q, F143_4, turnM, turnV, foldS, e5, e4, e1, e3, eb, moveS]
             simp only [Option.bind_some, cond_true, cond_false, af_1_1, af_1_3, af_1_2, af_1_4, af_1_5, af_1_0, af_3_1, af_3_3, af_3_2, af_3_4, af_3_5, af_3_0, af_2_1, af_2_3, af_2_2, af_2_4, af_2_5, af_2_0, af_4_1, af_4_3, af_4_2, af_4_4, af_4_5, af_4_0, af_5_1, af_5_3, af_5_2, af_5_4, af_5_5, af_5_0, af_0_1, af_0_3, af_0_2, af_0_4, af_0_5, af_0_0, loop99_3 hK g v val, loop99_3 hK g v got, F165, igt, sum_elim', Bool.or_true, Bool.true_or, Bool.or_false, Bool.and_true]
             have hd : decide (got > val) = ilt val got := rfl
             rw [hd]
             cases sm
             · have : ine val val = false := ine_t (ieq_refl val)
               simp only [cond_false, this]
               cases ieq step 0 <;> rfl
             · cases hb : ilt val got
               · have : ine val val = false := ine_t (ieq_refl val)
                 simp only [cond_true, cond_false, this]
                 cases ieq step 0 <;> rfl
               · have : ine got val = true := ine_f (ieq_f.2 (by have := ilt_iff.1 hb; omega))
                 simp only [cond_true, cond_false, this]
                 cases ieq step 0 <;> rfl
           · have e5 : ieq 5 5 = true := rfl
             rw [F68_spec hK, q, F143_5, e5]
             simp only [Option.bind_some, cond_true, cond_false, af_1_1, af_1_3, af_1_2, af_1_4, af_1_5, af_1_0, af_3_1, af_3_3, af_3_2, af_3_4, af_3_5, af_3_0, af_2_1, af_2_3, af_2_2, af_2_4, af_2_5, af_2_0, af_4_1, af_4_3, af_4_2, af_4_4, af_4_5, af_4_0, af_5_1, af_5_3, af_5_2, af_5_4, af_5_5, af_5_0, af_0_1, af_0_3, af_0_2, af_0_4, af_0_5, af_0_0, F146_spec hK g v step hv hg, F146_spec hK g v step hv (show i64 0 by unfold i64; omega)]
             cases sm <;> rfl
           · omega
         · rfl
       · rfl
     · rfl
   · rfl
theorem sendA_To {p val many : Int} : ∀ {l : List GEdge} {s r : List GMsg}, sendA p val many l s = some r → r.map (·.To) = s.map (·.To) ++ l.map (·.To)
 | [], s, r, h => by injection h with h; subst h; simp
 | e :: l, s, r, h => by
   rw [sendA] at h
   cases hq : (sendS p val e many).2
   · rw [hq] at h; cases h
   · rw [hq, cond_true] at h
     rw [sendA_To h]; simp
theorem turn_out {g : GGraph} {j : GJob} {step v val got : Int} {sm : Bool} (h : ieq (turnS g j step v val got sm).2.2.2 0 = true) :
   (turnS g j step v val got sm).2.1 = [] ∨ ((turnS g j step v val got sm).2.1.map (·.To) = (outs g v).map (·.To)) := by
 have hs : ∀ (b : Bool) (w : Int) (p : Int), (sendO b w (sendA p w (manyO g v) (outs g v) [])).2.1 = [] ∨ (sendO b w (sendA p w (manyO g v) (outs g v) [])).2.1.map (·.To) = (outs g v).map (·.To) := fun b w p => by
   cases hq : sendA p w (manyO g v) (outs g v) []
   · left; rfl
   · right; have := sendA_To hq; simpa [sendO] using this
 rw [turnS]
 cases ieq (jcheck g j) 0
 · left; rfl
 · cases ilt v 0
   · cases ile g.N v
     · cases ilt step 0
       · cases ilt 40 step
         · simp only [cond_true, cond_false]
           cases ieq j.Prog 5
           · rw [cond_false, moveS]
             cases turnM j.Prog j.Source step v val (turnV j.Prog val got sm)
             · left; rfl
             · exact hs _ _ _
           · rw [cond_true, rankS]
             cases (rankW step val got sm).2
             · left; rfl
             · cases ile 10 step
               · exact hs _ _ _
               · left; rfl
         · left; rfl
       · left; rfl
     · left; rfl
   · left; rfl
theorem turn_bad {g : GGraph} {j : GJob} {step v val got : Int} {sm : Bool} (h : ieq (turnS g j step v val got sm).2.2.2 0 = false) : (turnS g j step v val got sm).1 = 0 ∧ (turnS g j step v val got sm).2.1 = [] := by
 have hs : ∀ (b : Bool) (w : Int) (o : Option (List GMsg)), ieq (sendO b w o).2.2.2 0 = false → (sendO b w o).1 = 0 ∧ (sendO b w o).2.1 = [] := fun b w o => by
   cases o
   · intro _; exact ⟨rfl, rfl⟩
   · intro h; cases h
 rw [turnS] at h ⊢
 cases hc : ieq (jcheck g j) 0
 · exact ⟨rfl, rfl⟩
 · rw [hc] at h
   cases h1 : ilt v 0
   · cases h2 : ile g.N v
     · cases h3 : ilt step 0
       · cases h4 : ilt 40 step
         · rw [h1, h2, h3, h4] at h
           simp only [cond_true, cond_false] at h ⊢
           cases h5 : ieq j.Prog 5
           · rw [h5, cond_false, moveS] at h
             rw [cond_false, moveS]
             cases hm : turnM j.Prog j.Source step v val (turnV j.Prog val got sm)
             · rw [hm] at h; cases h
             · rw [hm] at h; exact hs _ _ _ h
           · rw [h5, cond_true, rankS] at h
             rw [cond_true, rankS]
             cases hw : (rankW step val got sm).2
             · exact ⟨rfl, rfl⟩
             · rw [hw] at h
               cases h10 : ile 10 step
               · rw [h10] at h; exact hs _ _ _ h
               · rw [h10] at h; cases h
         · exact ⟨rfl, rfl⟩
       · exact ⟨rfl, rfl⟩
     · exact ⟨rfl, rfl⟩
   · exact ⟨rfl, rfl⟩
theorem turn_len {g : GGraph} {j : GJob} {step v val got : Int} {sm : Bool} : (turnS g j step v val got sm).2.1.length ≤ 80 := by
 have ho := outs_len (g := g) (v := v)
 cases h : ieq (turnS g j step v val got sm).2.2.2 0
 · rw [(turn_bad h).2]; simp
 · rcases turn_out h with hz | hz
   · rw [hz]; simp
   · have := congrArg List.length hz
     simp only [List.length_map] at this
     omega
abbrev Tri := List Int × List Bool × List GMsg
theorem sendS_i64 {p val many : Int} {e : GEdge} (hv : i64 val) : i64 (sendS p val e many).1 := by
 rw [sendS]
 cases ieq p 1
 · cases ieq p 3
   · cases ieq p 5
     · exact hv
     · exact ratioS_i64
   · exact addS_i64
 · exact addS_i64
theorem sendA_i64 {p val many : Int} (hv : i64 val) : ∀ {l : List GEdge} {s r : List GMsg}, (∀ m ∈ s, i64 m.V) → sendA p val many l s = some r → ∀ m ∈ r, i64 m.V
 | [], s, r, hs, h => by injection h with h; subst h; exact hs
 | e :: l, s, r, hs, h => by
   rw [sendA] at h
   cases hq : (sendS p val e many).2
   · rw [hq] at h; cases h
   · rw [hq, cond_true] at h
     refine sendA_i64 hv (fun m hm => ?_) h
     rcases List.mem_append.1 hm with hm | hm
     · exact hs m hm
     · rw [List.mem_singleton.1 hm]; exact sendS_i64 hv
theorem sendO_i64 {p w many : Int} {b : Bool} {l : List GEdge} (hw : i64 w) : i64 (sendO b w (sendA p w many l [])).1 ∧ ∀ m ∈ (sendO b w (sendA p w many l [])).2.1, i64 m.V := by
 have h0 : i64 0 := by unfold i64; omega
 cases hq : sendA p w many l []
 · exact ⟨h0, fun m hm => absurd hm (List.not_mem_nil)⟩
 · exact ⟨hw, sendA_i64 hw (fun m hm => absurd hm (List.not_mem_nil)) hq⟩
theorem turn_i64 {g : GGraph} {j : GJob} {step v val got : Int} {sm : Bool} (hv : i64 val) (hg : i64 got) : i64 (turnS g j step v val got sm).1 ∧ ∀ m ∈ (turnS g j step v val got sm).2.1, i64 m.V := by
 have h0 : i64 0 := by unfold i64; omega
 have hn : ∀ m ∈ ([] : List GMsg), i64 m.V := fun m hm => absurd hm (List.not_mem_nil)
 rw [turnS]
 cases ieq (jcheck g j) 0
 · exact ⟨h0, hn⟩
 · cases ilt v 0
   · cases ile g.N v
     · cases ilt step 0
       · cases ilt 40 step
         · simp only [cond_true, cond_false]
           cases ieq j.Prog 5
           · have hw : i64 (turnV j.Prog val got sm) := by
               rw [turnV]
               cases sm
               · exact hv
               · exact foldS_i64 hv hg
             rw [cond_false, moveS]
             cases turnM j.Prog j.Source step v val (turnV j.Prog val got sm)
             · exact ⟨hw, hn⟩
             · exact sendO_i64 hw
           · have hw : i64 (rankW step val got sm).1 := by
               rw [rankW]
               cases ilt 0 step
               · exact hv
               · exact sumS_i64
             rw [cond_true, rankS]
             cases (rankW step val got sm).2
             · exact ⟨h0, hn⟩
             · cases ile 10 step
               · exact sendO_i64 hw
               · exact ⟨hw, hn⟩
         · exact ⟨h0, hn⟩
       · exact ⟨h0, hn⟩
     · exact ⟨h0, hn⟩
   · exact ⟨h0, hn⟩
theorem elAt_get {α : Type} {l : List α} {i : Nat} (h : i < l.length) (d : α) : inr (i : Int) (len l) = true ∧ elAt l (i : Int) = some (l.getD i d) := by
 refine ⟨decide_eq_true ⟨by omega, by show (i : Int) < (l.length : Int); omega⟩, ?_⟩
 rw [elAt_nat, List.getElem?_eq_getElem h, List.getD_eq_getElem?_getD, List.getElem?_eq_getElem h]; rfl
theorem foldC_rise (p : Int) : ∀ (r : List GMsg) (c : GMsg) (d w : List GMsg), foldC p r c d = .inr w → (∀ x ∈ r, c.To ≤ x.To) → r.Pairwise (fun a b => a.To ≤ b.To) → (d ++ [c]).Pairwise (fun a b => a.To < b.To) →
   w.Pairwise (fun a b => a.To < b.To) ∧ ∀ t ∈ w, ∃ s ∈ d ++ c :: r, s.To = t.To
 | [], c, d, w, h, _, _, hd => by
   injection h with h
   subst h
   exact ⟨hd, fun t ht => ⟨t, ht, rfl⟩⟩
 | x :: r, c, d, w, h, hc, hr, hd => by
   rw [foldC] at h
   obtain ⟨hx, hr'⟩ := List.pairwise_cons.1 hr
   cases h1 : ieq c.To x.To
   · rw [h1, cond_false] at h
     have hne := ieq_f.1 h1
     have hlt := hc x List.mem_cons_self
     obtain ⟨q1, q2⟩ := foldC_rise p r x (d ++ [c]) w h hx hr' (by
       refine List.pairwise_append.2 ⟨hd, List.pairwise_singleton _ _, fun u hu v hv => ?_⟩
       rw [List.mem_singleton.1 hv]
       rcases List.mem_append.1 hu with hu | hu
       · have := (List.pairwise_append.1 hd).2.2 u hu c (List.mem_singleton.2 rfl); omega
       · rw [List.mem_singleton.1 hu]; omega)
     exact ⟨q1, fun t ht => by
       obtain ⟨s, hs, e⟩ := q2 t ht
       exact ⟨s, by simpa using hs, e⟩⟩
   · rw [h1, cond_true] at h
     cases h2 : ieq (foldS p c.V x.V).2 0
     · rw [h2] at h; cases h
     · rw [h2, cond_true] at h
       obtain ⟨q1, q2⟩ := foldC_rise p r (GMsg.mk c.To (foldS p c.V x.V).1) d w h (fun y hy => hc y (List.mem_cons_of_mem _ hy)) hr' (by
         obtain ⟨a, b, e⟩ := List.pairwise_append.1 hd
         exact List.pairwise_append.2 ⟨a, List.pairwise_singleton _ _, fun u hu v hv => by rw [List.mem_singleton.1 hv]; exact e u hu c (List.mem_singleton.2 rfl)⟩)
       refine ⟨q1, fun t ht => ?_⟩
       obtain ⟨s, hs, e⟩ := q2 t ht
       rcases List.mem_append.1 hs with hs | hs
       · exact ⟨s, List.mem_append_left _ hs, e⟩
       · rcases List.mem_cons.1 hs with rfl | hs
         · exact ⟨c, List.mem_append_right _ List.mem_cons_self, e⟩
         · exact ⟨s, List.mem_append_right _ (List.mem_cons_of_mem _ (List.mem_cons_of_mem _ hs)), e⟩
theorem boxS_rise {p : Int} {l : List GMsg} : (boxS p l).1.Pairwise (fun a b => a.To < b.To) ∧ ∀ t ∈ (boxS p l).1, ∃ s ∈ l, s.To = t.To := by
 have hn : (([] : List GMsg).Pairwise (fun a b => a.To < b.To)) ∧ ∀ t ∈ ([] : List GMsg), ∃ s ∈ l, s.To = t.To := ⟨List.Pairwise.nil, fun t ht => absurd ht List.not_mem_nil⟩
 have hp := sortM_perm l
 have hs : (sortM l).Pairwise (fun a b => a.To ≤ b.To) := (sortM_srt l).imp fun {a b} h => by have := leM_iff.1 h; omega
 rw [boxS]
 cases pbad p
 · rw [cond_false]
   generalize sortM l = m at *
   cases m with
   | nil => exact hn
   | cons x r =>
     rw [foldO]
     cases hq : foldC p r x [] with
     | inl e => exact hn
     | inr w =>
       obtain ⟨h1, h2⟩ := List.pairwise_cons.1 hs
       obtain ⟨q1, q2⟩ := foldC_rise p r x [] w hq h1 h2 (List.pairwise_singleton _ _)
       exact ⟨q1, fun t ht => by
         obtain ⟨s, hs, e⟩ := q2 t ht
         exact ⟨s, hp.mem_iff.1 hs, e⟩⟩
 · exact hn
theorem outs_To {g : GGraph} {v : Int} {e : GEdge} (h : e ∈ outs g v) : 0 ≤ e.To ∧ e.To < g.N := by
 rw [outs] at h
 cases hc : ieq (gcheck g) 0
 · rw [hc] at h; cases h
 · obtain ⟨h1, h2, h3, h4⟩ := gcheck_ok hc
   rw [hc] at h
   have := badE_ok (gchk_mem h4 e (List.mem_filter.1 h).1)
   omega
theorem turn_To {g : GGraph} {j : GJob} {step v val got : Int} {sm : Bool} : ∀ m ∈ (turnS g j step v val got sm).2.1, 0 ≤ m.To ∧ m.To < g.N := by
 intro m hm
 cases h : ieq (turnS g j step v val got sm).2.2.2 0
 · rw [(turn_bad h).2] at hm; exact absurd hm List.not_mem_nil
 · rcases turn_out h with hz | hz
   · rw [hz] at hm; exact absurd hm List.not_mem_nil
   · have : m.To ∈ (turnS g j step v val got sm).2.1.map (·.To) := List.mem_map.2 ⟨m, hm, rfl⟩
     rw [hz] at this
     obtain ⟨e, he, q⟩ := List.mem_map.1 this
     rw [← q]; exact outs_To he
theorem foldC_ok (p : Int) : ∀ (r : List GMsg) (c : GMsg) (d w : List GMsg), foldC p r c d = .inr w → i64 c.V → (∀ x ∈ r, i64 x.V) → (∀ x ∈ d, i64 x.V) → w.length ≤ d.length + r.length + 1 ∧ ∀ x ∈ w, i64 x.V
 | [], c, d, w, h, hc, _, hd => by
   injection h with h
   subst h
   refine ⟨by simp, fun x hx => ?_⟩
   rcases List.mem_append.1 hx with hx | hx
   · exact hd x hx
   · rw [List.mem_singleton.1 hx]; exact hc
 | x :: r, c, d, w, h, hc, hr, hd => by
   rw [foldC] at h
   have hx := hr x List.mem_cons_self
   have hr' := fun y hy => hr y (List.mem_cons_of_mem _ hy)
   cases h1 : ieq c.To x.To
   · rw [h1, cond_false] at h
     have := foldC_ok p r x (d ++ [c]) w h hx hr' (fun y hy => by
       rcases List.mem_append.1 hy with hy | hy
       · exact hd y hy
       · rw [List.mem_singleton.1 hy]; exact hc)
     rw [List.length_append] at this
     simp only [List.length_singleton] at this
     exact ⟨by simp only [List.length_cons]; omega, this.2⟩
   · rw [h1, cond_true] at h
     cases h2 : ieq (foldS p c.V x.V).2 0
     · rw [h2] at h; cases h
     · rw [h2, cond_true] at h
       have := foldC_ok p r _ d w h (foldS_i64 hc hx) hr' hd
       exact ⟨by simp only [List.length_cons]; omega, this.2⟩
theorem boxS_ok {p : Int} {l : List GMsg} (hl : ∀ x ∈ l, i64 x.V) : (boxS p l).1.length ≤ l.length ∧ ∀ x ∈ (boxS p l).1, i64 x.V := by
 have hn : ∀ x ∈ ([] : List GMsg), i64 x.V := fun x hx => absurd hx List.not_mem_nil
 have hs : ∀ x ∈ sortM l, i64 x.V := fun x hx => hl x ((sortM_perm l).mem_iff.1 hx)
 have hsl := sortM_len l
 rw [boxS]
 cases pbad p
 · rw [cond_false]
   generalize sortM l = m at *
   cases m with
   | nil => exact ⟨Nat.zero_le _, hn⟩
   | cons x r =>
     rw [foldO]
     cases hq : foldC p r x [] with
     | inl e => exact ⟨Nat.zero_le _, hn⟩
     | inr w =>
       have := foldC_ok p r x [] w hq (hs x List.mem_cons_self) (fun y hy => hs y (List.mem_cons_of_mem _ hy)) hn
       simp only [List.length_cons, List.length_nil] at hsl this
       exact ⟨by show w.length ≤ _; omega, this.2⟩
 · exact ⟨Nat.zero_le _, hn⟩
noncomputable def hn113 : Hint := { H 113 with nt := 7, prot := 0 }
def F113_res (r1 : Bool) : Res := ⟨[(.one (.im (.lit (.bool r1))))], []⟩
def F113 (K : Nat) (a1 : GGraph) : Option (Bool) :=
 some (igt (nlen (len a1.Edges)) 200)
theorem F113_ok (K : Nat) (a1 : GGraph) (r : Bool) (hF : F113 K a1 = some r) : Evt E H 113 [.agg (eGGraph a1)] (F113_res r) := by
 rw [F113] at hF
 obtain rfl := Option.some.inj hF
 have pz : HoldAll E H hn113 [.int (nlen (len a1.Edges)) (nlen (len a1.Edges))] := ⟨rfl, trivial⟩
 exact fn_playC hn113 (r := F113_res (igt (nlen (len a1.Edges)) 200)) pz (by kernel_rfl) (by kernel_rfl)
noncomputable def hn114 : Hint := { H 114 with nt := 19, prot := 0 }
def F114_res (r1 : Bool) : Res := ⟨[(.one (.im (.lit (.bool r1))))], []⟩
def F114 (K : Nat) (a1 : GPart) : Option (Bool) :=
 bif (ilt 100 (nlen (len a1.Vals))) then
  (some true)
 else
 bif (ilt 100 (nlen (len a1.Rest))) then
  (some true)
 else
 some (igt (nlen (len a1.In)) 300)
theorem F114_ok (K : Nat) (a1 : GPart) (r : Bool) (hF : F114 K a1 = some r) : Evt E H 114 [.agg (eGPart a1)] (F114_res r) := by
 rw [F114] at hF
 refine cond_some hF (fun h2 hF => ?_) (fun h2 hF => ?_)
 ·
  obtain rfl := Option.some.inj hF
  have pz : HoldAll E H hn114 [.int (nlen (len a1.Vals)) (nlen (len a1.Vals)), .test (beqb (igt (nlen (len a1.Vals)) 100) false) false, .test (beqb (igt (nlen (len a1.Vals)) 100) false) false, .test (beqb (igt (nlen (len a1.Vals)) 100) false) false, .test (beqb (igt (nlen (len a1.Vals)) 100) false) false, .test (igt (nlen (len a1.Vals)) 100) true, .test (beqb true false) false, .test (beqb true false) false, .test (beqb true false) false, .test (beqb true false) false, .test true true] := ⟨rfl, (beqb_ft (igt_eq h2)), (beqb_ft (igt_eq h2)), (beqb_ft (igt_eq h2)), (beqb_ft (igt_eq h2)), (igt_eq h2), (beqb_ft rfl), (beqb_ft rfl), (beqb_ft rfl), (beqb_ft rfl), rfl, trivial⟩
  exact fn_playC hn114 (r := F114_res true) pz (by kernel_rfl) (by kernel_rfl)
 have q4 : PQ hn114 fun l => (.int (nlen (len a1.Vals)) (nlen (len a1.Vals)) :: .test (beqb (igt (nlen (len a1.Vals)) 100) false) true :: .test (beqb (igt (nlen (len a1.Vals)) 100) false) true :: .test (beqb (igt (nlen (len a1.Vals)) 100) false) true :: .int (nlen (len a1.Rest)) (nlen (len a1.Rest)) :: .test (beqb (igt (nlen (len a1.Vals)) 100) false) true :: .test (igt (nlen (len a1.Vals)) 100) false :: l) := fun z => ⟨rfl, (beqb_ff (igt_eq h2)), (beqb_ff (igt_eq h2)), (beqb_ff (igt_eq h2)), rfl, (beqb_ff (igt_eq h2)), (igt_eq h2), z⟩
 refine cond_some hF (fun h3 hF => ?_) (fun h3 hF => ?_)
 ·
  obtain rfl := Option.some.inj hF
  have pz : HoldAll E H hn114 [.test (beqb (igt (nlen (len a1.Rest)) 100) false) false, .test (beqb (igt (nlen (len a1.Rest)) 100) false) false, .test (beqb (igt (nlen (len a1.Rest)) 100) false) false, .test (beqb (igt (nlen (len a1.Rest)) 100) false) false, .test (igt (nlen (len a1.Rest)) 100) true] := ⟨(beqb_ft (igt_eq h3)), (beqb_ft (igt_eq h3)), (beqb_ft (igt_eq h3)), (beqb_ft (igt_eq h3)), (igt_eq h3), trivial⟩
  exact fn_playC hn114 (r := F114_res true) (q4 pz) (by kernel_rfl) (by kernel_rfl)
 obtain rfl := Option.some.inj hF
 have pz : HoldAll E H hn114 [.test (beqb (igt (nlen (len a1.Rest)) 100) false) true, .test (beqb (igt (nlen (len a1.Rest)) 100) false) true, .test (beqb (igt (nlen (len a1.Rest)) 100) false) true, .int (nlen (len a1.In)) (nlen (len a1.In)), .test (beqb (igt (nlen (len a1.Rest)) 100) false) true, .test (igt (nlen (len a1.Rest)) 100) false] := ⟨(beqb_ff (igt_eq h3)), (beqb_ff (igt_eq h3)), (beqb_ff (igt_eq h3)), rfl, (beqb_ff (igt_eq h3)), (igt_eq h3), trivial⟩
 exact fn_playC hn114 (r := F114_res (igt (nlen (len a1.In)) 300)) (q4 pz) (by kernel_rfl) (by kernel_rfl)
def broadP8 (x : GPart) : Bool := ilt 100 (nlen (len x.Vals)) || (ilt 100 (nlen (len x.Rest)) || ilt 300 (nlen (len x.In)))
theorem F114_spec (K : Nat) (x : GPart) : F114 K x = some (broadP8 x) := by
 have : igt (nlen (len x.In)) 300 = ilt 300 (nlen (len x.In)) := rfl
 rw [F114, this, broadP8]
 cases ilt 100 (nlen (len x.Vals)) <;> cases ilt 100 (nlen (len x.Rest)) <;> rfl
theorem broadP8_f {x : GPart} (h : broadP8 x = false) : x.Vals.length ≤ 100 ∧ x.Rest.length ≤ 100 ∧ x.In.length ≤ 300 := by
 simp only [broadP8, Bool.or_eq_false_iff, ilt_f, nlen, len] at h
 omega
def oneP (g : GGraph) (j : GJob) (x : GPart) (i v : Nat) : Int × List GMsg × Bool × Int :=
 bif x.Rest.getD i false && !(atS x.In (v : Int)).2 then (x.Vals.getD i 0, [], true, 0)
 else turnS g j x.Step (v : Int) (x.Vals.getD i 0) (atS x.In (v : Int)).1 (atS x.In (v : Int)).2
def doA (g : GGraph) (j : GJob) (x : GPart) : List Nat → Nat → List Int → List Bool → List GMsg → Int ⊕ Tri
 | [], _, a, b, c => .inr (a, b, c)
 | v :: l, i, a, b, c => bif ieq (oneP g j x i v).2.2.2 0 then doA g j x l (i + 1) (a ++ [(oneP g j x i v).1]) (b ++ [(oneP g j x i v).2.2.1]) (c ++ (oneP g j x i v).2.1) else .inl (oneP g j x i v).2.2.2
def toS (j : GJob) (c : List GMsg) (q : Int) : List GMsg := c.filter fun m => ieq (homeS j m.To) q
def tellS (j : GJob) (c : List GMsg) : List Nat → List (List GMsg) → Int ⊕ List (List GMsg)
 | [], d => .inr d
 | q :: l, d => bif ieq (boxS j.Prog (toS j c (q : Int))).2 0 then tellS j c l (d ++ [(boxS j.Prog (toS j c (q : Int))).1]) else .inl (boxS j.Prog (toS j c (q : Int))).2
abbrev Did := GPart × List (List GMsg) × Int
def doC (x : GPart) (w : Tri) : Int ⊕ List (List GMsg) → Did
 | .inl e => (zeroP, [], e)
 | .inr t => (GPart.mk x.P (x.Step + 1) w.1 w.2.1 [], t, 0)
def doB (j : GJob) (x : GPart) : Int ⊕ Tri → Did
 | .inl e => (zeroP, [], e)
 | .inr w => doC x w (tellS j w.2.2 (List.range j.Parts.toNat) [])
def doS (g : GGraph) (j : GJob) (x : GPart) : Did :=
 bif ieq (jcheck g j) 0 then (bif partRight g j x then (bif ieq x.Step 40 then (zeroP, [], 6) else doB j x (doA g j x (vertsS g j x.P) 0 [] [] [])) else (zeroP, [], 1)) else (zeroP, [], jcheck g j)
def niceP (x : GPart) : Prop := (∀ v ∈ x.Vals, i64 v) ∧ (∀ m ∈ x.In, i64 m.V)
theorem wf_niceP {x : GPart} (h : WGPart x) : niceP x := ⟨fun v hv => i64_wf (h.2.2.1.2 v hv), fun m hm => i64_wf ((h.2.2.2.2.1).2 m hm).2.1⟩
theorem onep_i64 {g : GGraph} {j : GJob} {x : GPart} (hn : niceP x) {i v : Nat} : i64 (oneP g j x i v).1 ∧ ∀ m ∈ (oneP g j x i v).2.1, i64 m.V := by
 have h0 : i64 0 := by unfold i64; omega
 have hx : i64 (x.Vals.getD i 0) := by
   rw [List.getD_eq_getElem?_getD]
   cases hq : x.Vals[i]? with
   | none => exact h0
   | some y => exact hn.1 y (List.mem_of_getElem? hq)
 rw [oneP]
 cases x.Rest.getD i false && !(atS x.In (v : Int)).2
 · exact turn_i64 hx (atS_i64 hn.2)
 · exact ⟨hx, fun m hm => absurd hm (List.not_mem_nil)⟩
theorem onep_outs {g : GGraph} {j : GJob} {x : GPart} {i v : Nat} : (oneP g j x i v).2.1.length ≤ 80 ∧ ∀ m ∈ (oneP g j x i v).2.1, 0 ≤ m.To ∧ m.To < g.N := by
 rw [oneP]
 cases x.Rest.getD i false && !(atS x.In (v : Int)).2
 · exact ⟨turn_len, turn_To⟩
 · exact ⟨Nat.zero_le _, fun m hm => absurd hm (List.not_mem_nil)⟩
structure keepP (g : GGraph) (i : Nat) (a : List Int) (b : List Bool) (c : List GMsg) : Prop where
 la : a.length = i
 lb : b.length = i
 lc : c.length ≤ 80 * i
 va : ∀ v ∈ a, i64 v
 vc : ∀ m ∈ c, i64 m.V
 vt : ∀ m ∈ c, 0 ≤ m.To ∧ m.To < g.N
theorem keepP0 (g : GGraph) : keepP g 0 [] [] [] := ⟨rfl, rfl, Nat.zero_le _, fun v hv => absurd hv (List.not_mem_nil), fun m hm => absurd hm (List.not_mem_nil), fun m hm => absurd hm (List.not_mem_nil)⟩
theorem keepP_next {g : GGraph} {j : GJob} {x : GPart} (hn : niceP x) {i : Nat} (v : Nat) {a : List Int} {b : List Bool} {c : List GMsg} (h : keepP g i a b c) :
   keepP g (i + 1) (a ++ [(oneP g j x i v).1]) (b ++ [(oneP g j x i v).2.2.1]) (c ++ (oneP g j x i v).2.1) := by
 obtain ⟨o1, o2⟩ := onep_i64 (g := g) (j := j) hn (i := i) (v := v)
 obtain ⟨o3, o4⟩ := onep_outs (g := g) (j := j) (x := x) (i := i) (v := v)
 refine ⟨by simp [h.la], by simp [h.lb], ?_, fun v hv => ?_, fun m hm => ?_, fun m hm => ?_⟩
 · have h3 := h.lc
   rw [List.length_append]; omega
 · rcases List.mem_append.1 hv with hv | hv
   · exact h.va v hv
   · rw [List.mem_singleton.1 hv]; exact o1
 · rcases List.mem_append.1 hm with hm | hm
   · exact h.vc m hm
   · exact o2 m hm
 · rcases List.mem_append.1 hm with hm | hm
   · exact h.vt m hm
   · exact o4 m hm
theorem doA_keep {g : GGraph} {j : GJob} {x : GPart} (hn : niceP x) : ∀ (l : List Nat) (i : Nat) (a : List Int) (b : List Bool) (c : List GMsg), keepP g i a b c → ∀ w, doA g j x l i a b c = .inr w → keepP g (i + l.length) w.1 w.2.1 w.2.2 := by
 intro l
 induction l with
 | nil => intro i a b c h w hw; injection hw with hw; subst hw; exact h
 | cons v l ih =>
   intro i a b c h w hw
   rw [doA] at hw
   cases hq : ieq (oneP g j x i v).2.2.2 0
   · rw [hq] at hw; cases hw
   · rw [hq] at hw
     have := ih (i + 1) _ _ _ (keepP_next hn v h) w hw
     rwa [show i + 1 + l.length = i + (l.length + 1) by omega] at this
theorem toS_app (j : GJob) (c d : List GMsg) (q : Int) : toS j (c ++ d) q = toS j c q ++ toS j d q := List.filter_append _ _
theorem toS_len (j : GJob) (c : List GMsg) (q : Int) : (toS j c q).length ≤ c.length := List.length_filter_le _ _
theorem toS_mem {j : GJob} {c : List GMsg} {q : Int} {m : GMsg} (h : m ∈ toS j c q) : m ∈ c ∧ homeS j m.To = q := by
 obtain ⟨a, b⟩ := List.mem_filter.1 h
 exact ⟨a, ieq_iff.1 b⟩
noncomputable def hn116 : Hint := { H 116 with nt := 160, prot := 0 }
noncomputable def c116_0 : Code := loopOf E 116 0
noncomputable def c116_1 : Code := loopOf E 116 1
noncomputable def c116_2 : Code := loopOf E 116 2
def F116_res (r1 : GPart × List (List GMsg) × Int) : Res := ⟨[(.agg [(.im (.lit (.int .i64 r1.1.P))), (.im (.lit (.int .i64 r1.1.Step))), (.own 2 (.sl (len r1.1.Vals) (flat (eInt .i64) r1.1.Vals))), (.own 4 (.sl (len r1.1.Rest) (flat eBool r1.1.Rest))), (.own 130 (.sl (len r1.1.In) (flat eGMsg r1.1.In)))]), (.one (.own 40 (.sl (len r1.2.1) (flat (eSl eGMsg) r1.2.1)))), (.one (.im (.lit (.int .i64 r1.2.2))))], []⟩
def F116_l1_1 (K : Nat) (v1 : Int) (v2 : List GEdge) (v3 : Int) (v4 : Int) (v5 : Int) (v6 : Int) (v7 : Int) (v8 : Int) (v9 : List Int) (v10 : List Bool) (v11 : List GMsg) (v12 : List Int) (v13 : List Bool) (v14 : Int) (v15 : Bool) (v16 : List GMsg) (v17 : Int) : Nat → List GMsg → List GMsg → List GMsg → List GMsg → List GMsg → List GMsg → Int → Option (List GMsg × List GMsg × List GMsg × List GMsg × List GMsg × List GMsg)
 | 0, _, _, _, _, _, _, _ => none
 | k + 1, v18, v19, v20, v21, v22, v23, v24 =>
  bif (ilt v24 (nlen (len v16))) then
   (bif (inr v24 (len v16)) then
   (elAt v16 v24).bind fun x25 =>
   (F75 K (GJob.mk v3 v4 v5 v6) x25.To).bind fun r26 =>
   bif (ieq r26 0) then
    (bif (apok (len v18) 1 16) then
    F116_l1_1 K v1 v2 v3 v4 v5 v6 v7 v8 v9 v10 v11 v12 v13 v14 v15 v16 v17 k (appL v18 [x25]) v19 v20 v21 v22 v23 (wadd .i64 v24 1)
    else none)
   else
   bif (ieq r26 1) then
    (bif (apok (len v19) 1 16) then
    F116_l1_1 K v1 v2 v3 v4 v5 v6 v7 v8 v9 v10 v11 v12 v13 v14 v15 v16 v17 k v18 (appL v19 [x25]) v20 v21 v22 v23 (wadd .i64 v24 1)
    else none)
   else
   bif (ieq r26 2) then
    (bif (apok (len v20) 1 16) then
    F116_l1_1 K v1 v2 v3 v4 v5 v6 v7 v8 v9 v10 v11 v12 v13 v14 v15 v16 v17 k v18 v19 (appL v20 [x25]) v21 v22 v23 (wadd .i64 v24 1)
    else none)
   else
   bif (ieq r26 3) then
    (bif (apok (len v21) 1 16) then
    F116_l1_1 K v1 v2 v3 v4 v5 v6 v7 v8 v9 v10 v11 v12 v13 v14 v15 v16 v17 k v18 v19 v20 (appL v21 [x25]) v22 v23 (wadd .i64 v24 1)
    else none)
   else
   bif (ieq r26 4) then
    (bif (apok (len v22) 1 16) then
    F116_l1_1 K v1 v2 v3 v4 v5 v6 v7 v8 v9 v10 v11 v12 v13 v14 v15 v16 v17 k v18 v19 v20 v21 (appL v22 [x25]) v23 (wadd .i64 v24 1)
    else none)
   else
   bif (ieq r26 5) then
   bif (apok (len v23) 1 16) then
   F116_l1_1 K v1 v2 v3 v4 v5 v6 v7 v8 v9 v10 v11 v12 v13 v14 v15 v16 v17 k v18 v19 v20 v21 v22 (appL v23 [x25]) (wadd .i64 v24 1)
   else none
   else none
   else none)
  else
  some (v18, (v19, (v20, (v21, (v22, v23)))))
def F116_l1_1_S (v1 : Int) (v2 : List GEdge) (v3 : Int) (v4 : Int) (v5 : Int) (v6 : Int) (v7 : Int) (v8 : Int) (v9 : List Int) (v10 : List Bool) (v11 : List GMsg) (v12 : List Int) (v13 : List Bool) (v14 : Int) (v15 : Bool) (v16 : List GMsg) (v17 : Int) (v18 : List GMsg) (v19 : List GMsg) (v20 : List GMsg) (v21 : List GMsg) (v22 : List GMsg) (v23 : List GMsg) (v24 : Int) : TS := .on [192, 193, 194, 256, 257, 258, 259, 260, 320, 321, 322, 323, 324, 325, 384, 385, 386, 387, 388, 389, 640, 641, 642, 643, 644, 645, 704, 705, 706, 707, 708, 709, 710, 832, 833, 1088, 1089, 1216, 1217, 3328, 3392, 3393, 3456, 3457, 3520, 3521, 6592, 6593, 6656, 6657, 6720, 6721] [(192, ⟨(.box 62 2), 0, nob⟩), (193, ⟨.im, 0, (.lit (.int .i64 v1))⟩), (194, ⟨.im, 0, (.sl (len v2) (flat eGEdge v2))⟩), (256, ⟨(.box 64 4), 0, nob⟩), (257, ⟨.im, 0, (.lit (.int .i64 v3))⟩), (258, ⟨.im, 0, (.lit (.int .i64 v4))⟩), (259, ⟨.im, 0, (.lit (.int .i64 v5))⟩), (260, ⟨.im, 0, (.lit (.int .i64 v6))⟩), (320, ⟨(.box 42 5), 0, nob⟩), (321, ⟨.im, 0, (.lit (.int .i64 v7))⟩), (322, ⟨.im, 0, (.lit (.int .i64 v8))⟩), (323, ⟨.im, 0, (.sl (len v9) (flat (eInt .i64) v9))⟩), (324, ⟨.im, 0, (.sl (len v10) (flat eBool v10))⟩), (325, ⟨.im, 0, (.sl (len v11) (flat eGMsg v11))⟩), (384, ⟨(.box 42 5), 0, nob⟩), (385, ⟨.im, 0, (.lit (.int .i64 0))⟩), (386, ⟨.im, 0, (.lit (.int .i64 0))⟩), (387, ⟨(.own 2), 0, (.sl 0 [])⟩), (388, ⟨(.own 4), 0, (.sl 0 [])⟩), (389, ⟨(.own 130), 0, (.sl 0 [])⟩), (640, ⟨(.box 42 5), 0, nob⟩), (641, ⟨.im, 0, (.lit (.int .i64 v7))⟩), (642, ⟨.im, 0, (.lit (.int .i64 (wadd .i64 v8 1)))⟩), (643, ⟨(.own 2), 0, (.sl (len v12) (flat (eInt .i64) v12))⟩), (644, ⟨(.own 4), 0, (.sl (len v13) (flat eBool v13))⟩), (645, ⟨(.own 130), 0, (.sl 0 [])⟩), (704, ⟨(.box 188 6), 0, nob⟩), (705, ⟨(.own 130), 0, (.sl (len v18) (flat eGMsg v18))⟩), (706, ⟨(.own 130), 0, (.sl (len v19) (flat eGMsg v19))⟩), (707, ⟨(.own 130), 0, (.sl (len v20) (flat eGMsg v20))⟩), (708, ⟨(.own 130), 0, (.sl (len v21) (flat eGMsg v21))⟩), (709, ⟨(.own 130), 0, (.sl (len v22) (flat eGMsg v22))⟩), (710, ⟨(.own 130), 0, (.sl (len v23) (flat eGMsg v23))⟩), (832, ⟨.one, 0, nob⟩), (833, ⟨.im, 0, (.lit (.int .i64 v14))⟩), (1088, ⟨.one, 0, nob⟩), (1089, ⟨.im, 0, (.lit (.bool v15))⟩), (1216, ⟨.one, 0, nob⟩), (1217, ⟨(.own 130), 0, (.sl (len v16) (flat eGMsg v16))⟩), (3328, ⟨(.ad 5 0 2), 0, nob⟩), (3392, ⟨.one, 0, nob⟩), (3393, ⟨.im, 0, (.sl (len v9) (flat (eInt .i64) v9))⟩), (3456, ⟨.one, 0, nob⟩), (3457, ⟨.im, 0, (.lit (.int .i64 (nlen (len v9))))⟩), (3520, ⟨.one, 0, nob⟩), (3521, ⟨.im, 0, (.lit (.int .i64 v17))⟩), (6592, ⟨.one, 0, nob⟩), (6593, ⟨(.vw 1217 0), 0, nob⟩), (6656, ⟨.one, 0, nob⟩), (6657, ⟨.im, 0, (.lit (.int .i64 (nlen (len v16))))⟩), (6720, ⟨.one, 0, nob⟩), (6721, ⟨.im, 0, (.lit (.int .i64 v24))⟩)]
def F116_l1_1_X0 (v1 : Int) (v2 : List GEdge) (v3 : Int) (v4 : Int) (v5 : Int) (v6 : Int) (v7 : Int) (v8 : Int) (v9 : List Int) (v10 : List Bool) (v11 : List GMsg) (v12 : List Int) (v13 : List Bool) (v14 : Int) (v15 : Bool) (v16 : List GMsg) (v17 : Int) (w18 : List GMsg × List GMsg × List GMsg × List GMsg × List GMsg × List GMsg) : TS := .on [192, 193, 194, 256, 257, 258, 259, 260, 320, 321, 322, 323, 324, 325, 384, 385, 386, 387, 388, 389, 640, 641, 642, 643, 644, 645, 704, 705, 706, 707, 708, 709, 710, 832, 833, 1088, 1089, 3328, 3392, 3393, 3456, 3457, 3520, 3521] [(192, ⟨(.box 62 2), 0, nob⟩), (193, ⟨.im, 0, (.lit (.int .i64 v1))⟩), (194, ⟨.im, 0, (.sl (len v2) (flat eGEdge v2))⟩), (256, ⟨(.box 64 4), 0, nob⟩), (257, ⟨.im, 0, (.lit (.int .i64 v3))⟩), (258, ⟨.im, 0, (.lit (.int .i64 v4))⟩), (259, ⟨.im, 0, (.lit (.int .i64 v5))⟩), (260, ⟨.im, 0, (.lit (.int .i64 v6))⟩), (320, ⟨(.box 42 5), 0, nob⟩), (321, ⟨.im, 0, (.lit (.int .i64 v7))⟩), (322, ⟨.im, 0, (.lit (.int .i64 v8))⟩), (323, ⟨.im, 0, (.sl (len v9) (flat (eInt .i64) v9))⟩), (324, ⟨.im, 0, (.sl (len v10) (flat eBool v10))⟩), (325, ⟨.im, 0, (.sl (len v11) (flat eGMsg v11))⟩), (384, ⟨(.box 42 5), 0, nob⟩), (385, ⟨.im, 0, (.lit (.int .i64 0))⟩), (386, ⟨.im, 0, (.lit (.int .i64 0))⟩), (387, ⟨(.own 2), 0, (.sl 0 [])⟩), (388, ⟨(.own 4), 0, (.sl 0 [])⟩), (389, ⟨(.own 130), 0, (.sl 0 [])⟩), (640, ⟨(.box 42 5), 0, nob⟩), (641, ⟨.im, 0, (.lit (.int .i64 v7))⟩), (642, ⟨.im, 0, (.lit (.int .i64 (wadd .i64 v8 1)))⟩), (643, ⟨(.own 2), 0, (.sl (len v12) (flat (eInt .i64) v12))⟩), (644, ⟨(.own 4), 0, (.sl (len v13) (flat eBool v13))⟩), (645, ⟨(.own 130), 0, (.sl 0 [])⟩), (704, ⟨(.box 188 6), 0, nob⟩), (705, ⟨(.own 130), 0, (.sl (len w18.1) (flat eGMsg w18.1))⟩), (706, ⟨(.own 130), 0, (.sl (len w18.2.1) (flat eGMsg w18.2.1))⟩), (707, ⟨(.own 130), 0, (.sl (len w18.2.2.1) (flat eGMsg w18.2.2.1))⟩), (708, ⟨(.own 130), 0, (.sl (len w18.2.2.2.1) (flat eGMsg w18.2.2.2.1))⟩), (709, ⟨(.own 130), 0, (.sl (len w18.2.2.2.2.1) (flat eGMsg w18.2.2.2.2.1))⟩), (710, ⟨(.own 130), 0, (.sl (len w18.2.2.2.2.2) (flat eGMsg w18.2.2.2.2.2))⟩), (832, ⟨.one, 0, nob⟩), (833, ⟨.im, 0, (.lit (.int .i64 v14))⟩), (1088, ⟨.one, 0, nob⟩), (1089, ⟨.im, 0, (.lit (.bool v15))⟩), (3328, ⟨(.ad 5 0 2), 0, nob⟩), (3392, ⟨.one, 0, nob⟩), (3393, ⟨.im, 0, (.sl (len v9) (flat (eInt .i64) v9))⟩), (3456, ⟨.one, 0, nob⟩), (3457, ⟨.im, 0, (.lit (.int .i64 (nlen (len v9))))⟩), (3520, ⟨.one, 0, nob⟩), (3521, ⟨.im, 0, (.lit (.int .i64 v17))⟩)]
theorem F116_l1_1_ok (K : Nat) (v1 : Int) (v2 : List GEdge) (v3 : Int) (v4 : Int) (v5 : Int) (v6 : Int) (v7 : Int) (v8 : Int) (v9 : List Int) (v10 : List Bool) (v11 : List GMsg) (v12 : List Int) (v13 : List Bool) (v14 : Int) (v15 : Bool) (v16 : List GMsg) (v17 : Int) : ∀ (k : Nat) (v18 : List GMsg) (v19 : List GMsg) (v20 : List GMsg) (v21 : List GMsg) (v22 : List GMsg) (v23 : List GMsg) (v24 : Int) (r : List GMsg × List GMsg × List GMsg × List GMsg × List GMsg × List GMsg), F116_l1_1 K v1 v2 v3 v4 v5 v6 v7 v8 v9 v10 v11 v12 v13 v14 v15 v16 v17 k v18 v19 v20 v21 v22 v23 v24 = some r → LoopEv E H hn116 2 c116_1 (F116_l1_1_S v1 v2 v3 v4 v5 v6 v7 v8 v9 v10 v11 v12 v13 v14 v15 v16 v17 v18 v19 v20 v21 v22 v23 v24) (.exit 2) (F116_l1_1_X0 v1 v2 v3 v4 v5 v6 v7 v8 v9 v10 v11 v12 v13 v14 v15 v16 v17 r) := by
 intro k
 induction k with
 | zero => intro v18 v19 v20 v21 v22 v23 v24 r hF; cases hF
 | succ k ih =>
  intro v18 v19 v20 v21 v22 v23 v24 r hF
  rw [F116_l1_1] at hF
  refine cond_some hF (fun h25 hF => ?_) (fun h25 hF => ?_)
  ·
   refine cond_some hF (fun h26 hF => ?_) (fun _ hF => nomatch hF)
   refine bind_some hF (fun x27 h28 hF => ?_)
   refine bind_some hF (fun r29 h30 hF => ?_)
   have q43 : PQ hn116 fun l => (.test (ilt v24 (nlen (len v16))) true :: .test (inr v24 (len v16)) true :: .sub (flat eGMsg v16) (nidx v24 2) 2 [(.lit (.int .i64 x27.To)), (.lit (.int .i64 x27.V))] :: .call 75 [.agg (eGJob (GJob.mk v3 v4 v5 v6)), .one (.lit (.int .i64 x27.To))] (F75_res r29) :: .test (leadsAny (Res.mk [(.one (.im (.lit (.int .i64 r29))))] [])) false :: l) := fun z => ⟨h25, h26, ⟨rfl, sub_flat0 eGMsg_len h28 2 (by decide)⟩, (F75_ok K (GJob.mk v3 v4 v5 v6) x27.To _ h30), (leads_ok (by simp [leadsAny, RV.leads, RC.leads, leadsT, hasSl_lit, flat_ns eGJob_ns, flat_ns eGMsg_ns])), z⟩
   refine cond_some hF (fun h31 hF => ?_) (fun h31 hF => ?_)
   ·
    refine cond_some hF (fun h32 hF => ?_) (fun _ hF => nomatch hF)
    have pz : HoldAll E H hn116 [.test (ieq r29 0) true, .test (leqm [(.lit (.int .i64 x27.To)), (.lit (.int .i64 x27.V))] 1 2) true, .test (apok (len v18) 1 16) true, .sl (nadd (len v18) 1) (lapp (flat eGMsg v18) [(.lit (.int .i64 x27.To)), (.lit (.int .i64 x27.V))]) (len (α := GMsg) (appL v18 [x27])) (flat eGMsg (appL v18 [x27])), .test (ieq r29 0) true, .int (wadd .i64 v24 1) (wadd .i64 v24 1)] := ⟨h31, rfl, h32, (app_ok (enc := eGMsg) (v18 : List GMsg) [x27]), h31, rfl, trivial⟩
    have h0 := ih _ _ _ _ _ _ _ _ hF
    have hn := fun ex ts' => loop_nextC (h := hn116) (l := 2) (c := c116_1) (ts := F116_l1_1_S v1 v2 v3 v4 v5 v6 v7 v8 v9 v10 v11 v12 v13 v14 v15 v16 v17 v18 v19 v20 v21 v22 v23 v24) (ts1 := (F116_l1_1_S v1 v2 v3 v4 v5 v6 v7 v8 v9 v10 v11 v12 v13 v14 v15 v16 v17 (appL v18 [x27]) v19 v20 v21 v22 v23 (wadd .i64 v24 1))) (ex := ex) (ts' := ts') (q43 pz) (by kernel_rfl)
    exact hn _ _ h0
   refine cond_some hF (fun h33 hF => ?_) (fun h33 hF => ?_)
   ·
    refine cond_some hF (fun h34 hF => ?_) (fun _ hF => nomatch hF)
    have pz : HoldAll E H hn116 [.test (ieq r29 0) false, .test (ieq r29 1) true, .test (leqm [(.lit (.int .i64 x27.To)), (.lit (.int .i64 x27.V))] 1 2) true, .test (apok (len v19) 1 16) true, .sl (nadd (len v19) 1) (lapp (flat eGMsg v19) [(.lit (.int .i64 x27.To)), (.lit (.int .i64 x27.V))]) (len (α := GMsg) (appL v19 [x27])) (flat eGMsg (appL v19 [x27])), .test (ieq r29 0) false, .test (ieq r29 1) true, .int (wadd .i64 v24 1) (wadd .i64 v24 1)] := ⟨h31, h33, rfl, h34, (app_ok (enc := eGMsg) (v19 : List GMsg) [x27]), h31, h33, rfl, trivial⟩
    have h0 := ih _ _ _ _ _ _ _ _ hF
    have hn := fun ex ts' => loop_nextC (h := hn116) (l := 2) (c := c116_1) (ts := F116_l1_1_S v1 v2 v3 v4 v5 v6 v7 v8 v9 v10 v11 v12 v13 v14 v15 v16 v17 v18 v19 v20 v21 v22 v23 v24) (ts1 := (F116_l1_1_S v1 v2 v3 v4 v5 v6 v7 v8 v9 v10 v11 v12 v13 v14 v15 v16 v17 v18 (appL v19 [x27]) v20 v21 v22 v23 (wadd .i64 v24 1))) (ex := ex) (ts' := ts') (q43 pz) (by kernel_rfl)
    exact hn _ _ h0
   refine cond_some hF (fun h35 hF => ?_) (fun h35 hF => ?_)
   ·
    refine cond_some hF (fun h36 hF => ?_) (fun _ hF => nomatch hF)
    have pz : HoldAll E H hn116 [.test (ieq r29 0) false, .test (ieq r29 1) false, .test (ieq r29 2) true, .test (leqm [(.lit (.int .i64 x27.To)), (.lit (.int .i64 x27.V))] 1 2) true, .test (apok (len v20) 1 16) true, .sl (nadd (len v20) 1) (lapp (flat eGMsg v20) [(.lit (.int .i64 x27.To)), (.lit (.int .i64 x27.V))]) (len (α := GMsg) (appL v20 [x27])) (flat eGMsg (appL v20 [x27])), .test (ieq r29 0) false, .test (ieq r29 1) false, .test (ieq r29 2) true, .int (wadd .i64 v24 1) (wadd .i64 v24 1)] := ⟨h31, h33, h35, rfl, h36, (app_ok (enc := eGMsg) (v20 : List GMsg) [x27]), h31, h33, h35, rfl, trivial⟩
    have h0 := ih _ _ _ _ _ _ _ _ hF
    have hn := fun ex ts' => loop_nextC (h := hn116) (l := 2) (c := c116_1) (ts := F116_l1_1_S v1 v2 v3 v4 v5 v6 v7 v8 v9 v10 v11 v12 v13 v14 v15 v16 v17 v18 v19 v20 v21 v22 v23 v24) (ts1 := (F116_l1_1_S v1 v2 v3 v4 v5 v6 v7 v8 v9 v10 v11 v12 v13 v14 v15 v16 v17 v18 v19 (appL v20 [x27]) v21 v22 v23 (wadd .i64 v24 1))) (ex := ex) (ts' := ts') (q43 pz) (by kernel_rfl)
    exact hn _ _ h0
   have q44 : PQ hn116 fun l => (.test (ieq r29 0) false :: .test (ieq r29 1) false :: .test (ieq r29 2) false :: l) := fun z => ⟨h31, h33, h35, z⟩
   refine cond_some hF (fun h37 hF => ?_) (fun h37 hF => ?_)
   ·
    refine cond_some hF (fun h38 hF => ?_) (fun _ hF => nomatch hF)
    have pz : HoldAll E H hn116 [.test (ieq r29 3) true, .test (leqm [(.lit (.int .i64 x27.To)), (.lit (.int .i64 x27.V))] 1 2) true, .test (apok (len v21) 1 16) true, .sl (nadd (len v21) 1) (lapp (flat eGMsg v21) [(.lit (.int .i64 x27.To)), (.lit (.int .i64 x27.V))]) (len (α := GMsg) (appL v21 [x27])) (flat eGMsg (appL v21 [x27])), .test (ieq r29 0) false, .test (ieq r29 1) false, .test (ieq r29 2) false, .test (ieq r29 3) true, .int (wadd .i64 v24 1) (wadd .i64 v24 1)] := ⟨h37, rfl, h38, (app_ok (enc := eGMsg) (v21 : List GMsg) [x27]), h31, h33, h35, h37, rfl, trivial⟩
    have h0 := ih _ _ _ _ _ _ _ _ hF
    have hn := fun ex ts' => loop_nextC (h := hn116) (l := 2) (c := c116_1) (ts := F116_l1_1_S v1 v2 v3 v4 v5 v6 v7 v8 v9 v10 v11 v12 v13 v14 v15 v16 v17 v18 v19 v20 v21 v22 v23 v24) (ts1 := (F116_l1_1_S v1 v2 v3 v4 v5 v6 v7 v8 v9 v10 v11 v12 v13 v14 v15 v16 v17 v18 v19 v20 (appL v21 [x27]) v22 v23 (wadd .i64 v24 1))) (ex := ex) (ts' := ts') (q43 (q44 pz)) (by kernel_rfl)
    exact hn _ _ h0
   refine cond_some hF (fun h39 hF => ?_) (fun h39 hF => ?_)
   ·
    refine cond_some hF (fun h40 hF => ?_) (fun _ hF => nomatch hF)
    have pz : HoldAll E H hn116 [.test (ieq r29 3) false, .test (ieq r29 4) true, .test (leqm [(.lit (.int .i64 x27.To)), (.lit (.int .i64 x27.V))] 1 2) true, .test (apok (len v22) 1 16) true, .sl (nadd (len v22) 1) (lapp (flat eGMsg v22) [(.lit (.int .i64 x27.To)), (.lit (.int .i64 x27.V))]) (len (α := GMsg) (appL v22 [x27])) (flat eGMsg (appL v22 [x27])), .test (ieq r29 0) false, .test (ieq r29 1) false, .test (ieq r29 2) false, .test (ieq r29 3) false, .test (ieq r29 4) true, .int (wadd .i64 v24 1) (wadd .i64 v24 1)] := ⟨h37, h39, rfl, h40, (app_ok (enc := eGMsg) (v22 : List GMsg) [x27]), h31, h33, h35, h37, h39, rfl, trivial⟩
    have h0 := ih _ _ _ _ _ _ _ _ hF
    have hn := fun ex ts' => loop_nextC (h := hn116) (l := 2) (c := c116_1) (ts := F116_l1_1_S v1 v2 v3 v4 v5 v6 v7 v8 v9 v10 v11 v12 v13 v14 v15 v16 v17 v18 v19 v20 v21 v22 v23 v24) (ts1 := (F116_l1_1_S v1 v2 v3 v4 v5 v6 v7 v8 v9 v10 v11 v12 v13 v14 v15 v16 v17 v18 v19 v20 v21 (appL v22 [x27]) v23 (wadd .i64 v24 1))) (ex := ex) (ts' := ts') (q43 (q44 pz)) (by kernel_rfl)
    exact hn _ _ h0
   refine cond_some hF (fun h41 hF => ?_) (fun _ hF => nomatch hF)
   refine cond_some hF (fun h42 hF => ?_) (fun _ hF => nomatch hF)
   have pz : HoldAll E H hn116 [.test (ieq r29 3) false, .test (ieq r29 4) false, .test (ieq r29 5) true, .test (leqm [(.lit (.int .i64 x27.To)), (.lit (.int .i64 x27.V))] 1 2) true, .test (apok (len v23) 1 16) true, .sl (nadd (len v23) 1) (lapp (flat eGMsg v23) [(.lit (.int .i64 x27.To)), (.lit (.int .i64 x27.V))]) (len (α := GMsg) (appL v23 [x27])) (flat eGMsg (appL v23 [x27])), .test (ieq r29 0) false, .test (ieq r29 1) false, .test (ieq r29 2) false, .test (ieq r29 3) false, .test (ieq r29 4) false, .test (ieq r29 5) true, .int (wadd .i64 v24 1) (wadd .i64 v24 1)] := ⟨h37, h39, h41, rfl, h42, (app_ok (enc := eGMsg) (v23 : List GMsg) [x27]), h31, h33, h35, h37, h39, h41, rfl, trivial⟩
   have h0 := ih _ _ _ _ _ _ _ _ hF
   have hn := fun ex ts' => loop_nextC (h := hn116) (l := 2) (c := c116_1) (ts := F116_l1_1_S v1 v2 v3 v4 v5 v6 v7 v8 v9 v10 v11 v12 v13 v14 v15 v16 v17 v18 v19 v20 v21 v22 v23 v24) (ts1 := (F116_l1_1_S v1 v2 v3 v4 v5 v6 v7 v8 v9 v10 v11 v12 v13 v14 v15 v16 v17 v18 v19 v20 v21 v22 (appL v23 [x27]) (wadd .i64 v24 1))) (ex := ex) (ts' := ts') (q43 (q44 pz)) (by kernel_rfl)
   exact hn _ _ h0
  obtain rfl := Option.some.inj hF
  have pz : HoldAll E H hn116 [.test (ilt v24 (nlen (len v16))) false] := ⟨h25, trivial⟩
  exact loop_endC (h := hn116) (l := 2) (c := c116_1) (ts := F116_l1_1_S v1 v2 v3 v4 v5 v6 v7 v8 v9 v10 v11 v12 v13 v14 v15 v16 v17 v18 v19 v20 v21 v22 v23 v24) (ts' := F116_l1_1_X0 v1 v2 v3 v4 v5 v6 v7 v8 v9 v10 v11 v12 v13 v14 v15 v16 v17 (v18, (v19, (v20, (v21, (v22, v23)))))) (ex := (.exit 2)) pz (by kernel_rfl) trivial
def F116_l0_0 (K : Nat) (v1 : Int) (v2 : List GEdge) (v3 : Int) (v4 : Int) (v5 : Int) (v6 : Int) (v7 : Int) (v8 : Int) (v9 : List Int) (v10 : List Bool) (v11 : List GMsg) : Nat → List Int → List Bool → List GMsg → List GMsg → List GMsg → List GMsg → List GMsg → List GMsg → Int → Option ((Int) ⊕ (List Int × List Bool × List GMsg × List GMsg × List GMsg × List GMsg × List GMsg × List GMsg))
 | 0, _, _, _, _, _, _, _, _, _ => none
 | k + 1, v12, v13, v14, v15, v16, v17, v18, v19, v20 =>
  bif (ilt v20 (nlen (len v9))) then
   (bif (inr v20 (len v9)) then
   (elAt v9 v20).bind fun x21 =>
   (F149 K v11 (wadd .i64 v7 (wmul .i64 v20 v6))).bind fun r22 =>
   bif (inr v20 (len v10)) then
   (elAt v10 v20).bind fun x23 =>
   bif x23 then
    (bif r22.2 then
     ((F99 K (GGraph.mk v1 v2) (GJob.mk v3 v4 v5 v6) v8 (wadd .i64 v7 (wmul .i64 v20 v6)) x21 r22.1 r22.2).bind fun r24 =>
     bif (ieq r24.2.2.2 0) then
      ((F116_l1_1 K v1 v2 v3 v4 v5 v6 v7 v8 v9 v10 v11 v12 v13 r24.1 r24.2.2.1 r24.2.1 v20 K v14 v15 v16 v17 v18 v19 0).bind fun w25 =>
      bif (apok (len v12) 1 8) then
      bif (apok (len v13) 1 1) then
      F116_l0_0 K v1 v2 v3 v4 v5 v6 v7 v8 v9 v10 v11 k (appL v12 [r24.1]) (appL v13 [r24.2.2.1]) w25.1 w25.2.1 w25.2.2.1 w25.2.2.2.1 w25.2.2.2.2.1 w25.2.2.2.2.2 (wadd .i64 v20 1)
      else none
      else none)
     else
     some (.inl r24.2.2.2))
    else
    bif (apok (len v12) 1 8) then
    bif (apok (len v13) 1 1) then
    F116_l0_0 K v1 v2 v3 v4 v5 v6 v7 v8 v9 v10 v11 k (appL v12 [x21]) (appL v13 [true]) v14 v15 v16 v17 v18 v19 (wadd .i64 v20 1)
    else none
    else none)
   else
   (F99 K (GGraph.mk v1 v2) (GJob.mk v3 v4 v5 v6) v8 (wadd .i64 v7 (wmul .i64 v20 v6)) x21 r22.1 r22.2).bind fun r26 =>
   bif (ieq r26.2.2.2 0) then
    ((F116_l1_1 K v1 v2 v3 v4 v5 v6 v7 v8 v9 v10 v11 v12 v13 r26.1 r26.2.2.1 r26.2.1 v20 K v14 v15 v16 v17 v18 v19 0).bind fun w27 =>
    bif (apok (len v12) 1 8) then
    bif (apok (len v13) 1 1) then
    F116_l0_0 K v1 v2 v3 v4 v5 v6 v7 v8 v9 v10 v11 k (appL v12 [r26.1]) (appL v13 [r26.2.2.1]) w27.1 w27.2.1 w27.2.2.1 w27.2.2.2.1 w27.2.2.2.2.1 w27.2.2.2.2.2 (wadd .i64 v20 1)
    else none
    else none)
   else
   some (.inl r26.2.2.2)
   else none
   else none)
  else
  some (.inr (v12, (v13, (v14, (v15, (v16, (v17, (v18, v19))))))))
def F116_l0_0_S (v1 : Int) (v2 : List GEdge) (v3 : Int) (v4 : Int) (v5 : Int) (v6 : Int) (v7 : Int) (v8 : Int) (v9 : List Int) (v10 : List Bool) (v11 : List GMsg) (v12 : List Int) (v13 : List Bool) (v14 : List GMsg) (v15 : List GMsg) (v16 : List GMsg) (v17 : List GMsg) (v18 : List GMsg) (v19 : List GMsg) (v20 : Int) : TS := .on [192, 193, 194, 256, 257, 258, 259, 260, 320, 321, 322, 323, 324, 325, 384, 385, 386, 387, 388, 389, 640, 641, 642, 643, 644, 645, 704, 705, 706, 707, 708, 709, 710, 3328, 3392, 3393, 3456, 3457, 3520, 3521] [(192, ⟨(.box 62 2), 0, nob⟩), (193, ⟨.im, 0, (.lit (.int .i64 v1))⟩), (194, ⟨.im, 0, (.sl (len v2) (flat eGEdge v2))⟩), (256, ⟨(.box 64 4), 0, nob⟩), (257, ⟨.im, 0, (.lit (.int .i64 v3))⟩), (258, ⟨.im, 0, (.lit (.int .i64 v4))⟩), (259, ⟨.im, 0, (.lit (.int .i64 v5))⟩), (260, ⟨.im, 0, (.lit (.int .i64 v6))⟩), (320, ⟨(.box 42 5), 0, nob⟩), (321, ⟨.im, 0, (.lit (.int .i64 v7))⟩), (322, ⟨.im, 0, (.lit (.int .i64 v8))⟩), (323, ⟨.im, 0, (.sl (len v9) (flat (eInt .i64) v9))⟩), (324, ⟨.im, 0, (.sl (len v10) (flat eBool v10))⟩), (325, ⟨.im, 0, (.sl (len v11) (flat eGMsg v11))⟩), (384, ⟨(.box 42 5), 0, nob⟩), (385, ⟨.im, 0, (.lit (.int .i64 0))⟩), (386, ⟨.im, 0, (.lit (.int .i64 0))⟩), (387, ⟨(.own 2), 0, (.sl 0 [])⟩), (388, ⟨(.own 4), 0, (.sl 0 [])⟩), (389, ⟨(.own 130), 0, (.sl 0 [])⟩), (640, ⟨(.box 42 5), 0, nob⟩), (641, ⟨.im, 0, (.lit (.int .i64 v7))⟩), (642, ⟨.im, 0, (.lit (.int .i64 (wadd .i64 v8 1)))⟩), (643, ⟨(.own 2), 0, (.sl (len v12) (flat (eInt .i64) v12))⟩), (644, ⟨(.own 4), 0, (.sl (len v13) (flat eBool v13))⟩), (645, ⟨(.own 130), 0, (.sl 0 [])⟩), (704, ⟨(.box 188 6), 0, nob⟩), (705, ⟨(.own 130), 0, (.sl (len v14) (flat eGMsg v14))⟩), (706, ⟨(.own 130), 0, (.sl (len v15) (flat eGMsg v15))⟩), (707, ⟨(.own 130), 0, (.sl (len v16) (flat eGMsg v16))⟩), (708, ⟨(.own 130), 0, (.sl (len v17) (flat eGMsg v17))⟩), (709, ⟨(.own 130), 0, (.sl (len v18) (flat eGMsg v18))⟩), (710, ⟨(.own 130), 0, (.sl (len v19) (flat eGMsg v19))⟩), (3328, ⟨(.ad 5 0 2), 0, nob⟩), (3392, ⟨.one, 0, nob⟩), (3393, ⟨.im, 0, (.sl (len v9) (flat (eInt .i64) v9))⟩), (3456, ⟨.one, 0, nob⟩), (3457, ⟨.im, 0, (.lit (.int .i64 (nlen (len v9))))⟩), (3520, ⟨.one, 0, nob⟩), (3521, ⟨.im, 0, (.lit (.int .i64 v20))⟩)]
def F116_l0_0_X0 (v1 : Int) (v2 : List GEdge) (v3 : Int) (v4 : Int) (v5 : Int) (v6 : Int) (v7 : Int) (v8 : Int) (v9 : List Int) (v10 : List Bool) (v11 : List GMsg) (w12 : Int) : TS := .on [384, 385, 386, 387, 388, 389, 448, 449, 512, 513] [(384, ⟨(.box 42 5), 0, nob⟩), (385, ⟨.im, 0, (.lit (.int .i64 0))⟩), (386, ⟨.im, 0, (.lit (.int .i64 0))⟩), (387, ⟨(.own 2), 0, (.sl 0 [])⟩), (388, ⟨(.own 4), 0, (.sl 0 [])⟩), (389, ⟨(.own 130), 0, (.sl 0 [])⟩), (448, ⟨.one, 0, nob⟩), (449, ⟨(.own 40), 0, (.sl 0 [])⟩), (512, ⟨.one, 0, nob⟩), (513, ⟨.im, 0, (.lit (.int .i64 w12))⟩)]
def F116_l0_0_X1 (v1 : Int) (v2 : List GEdge) (v3 : Int) (v4 : Int) (v5 : Int) (v6 : Int) (v7 : Int) (v8 : Int) (v9 : List Int) (v10 : List Bool) (v11 : List GMsg) (w12 : List Int × List Bool × List GMsg × List GMsg × List GMsg × List GMsg × List GMsg × List GMsg) : TS := .on [256, 257, 258, 259, 260, 384, 385, 386, 387, 388, 389, 640, 641, 642, 643, 644, 645, 704, 705, 706, 707, 708, 709, 710] [(256, ⟨(.box 64 4), 0, nob⟩), (257, ⟨.im, 0, (.lit (.int .i64 v3))⟩), (258, ⟨.im, 0, (.lit (.int .i64 v4))⟩), (259, ⟨.im, 0, (.lit (.int .i64 v5))⟩), (260, ⟨.im, 0, (.lit (.int .i64 v6))⟩), (384, ⟨(.box 42 5), 0, nob⟩), (385, ⟨.im, 0, (.lit (.int .i64 0))⟩), (386, ⟨.im, 0, (.lit (.int .i64 0))⟩), (387, ⟨(.own 2), 0, (.sl 0 [])⟩), (388, ⟨(.own 4), 0, (.sl 0 [])⟩), (389, ⟨(.own 130), 0, (.sl 0 [])⟩), (640, ⟨(.box 42 5), 0, nob⟩), (641, ⟨.im, 0, (.lit (.int .i64 v7))⟩), (642, ⟨.im, 0, (.lit (.int .i64 (wadd .i64 v8 1)))⟩), (643, ⟨(.own 2), 0, (.sl (len w12.1) (flat (eInt .i64) w12.1))⟩), (644, ⟨(.own 4), 0, (.sl (len w12.2.1) (flat eBool w12.2.1))⟩), (645, ⟨(.own 130), 0, (.sl 0 [])⟩), (704, ⟨(.box 188 6), 0, nob⟩), (705, ⟨(.own 130), 0, (.sl (len w12.2.2.1) (flat eGMsg w12.2.2.1))⟩), (706, ⟨(.own 130), 0, (.sl (len w12.2.2.2.1) (flat eGMsg w12.2.2.2.1))⟩), (707, ⟨(.own 130), 0, (.sl (len w12.2.2.2.2.1) (flat eGMsg w12.2.2.2.2.1))⟩), (708, ⟨(.own 130), 0, (.sl (len w12.2.2.2.2.2.1) (flat eGMsg w12.2.2.2.2.2.1))⟩), (709, ⟨(.own 130), 0, (.sl (len w12.2.2.2.2.2.2.1) (flat eGMsg w12.2.2.2.2.2.2.1))⟩), (710, ⟨(.own 130), 0, (.sl (len w12.2.2.2.2.2.2.2) (flat eGMsg w12.2.2.2.2.2.2.2))⟩)]
theorem F116_l0_0_ok (K : Nat) (v1 : Int) (v2 : List GEdge) (v3 : Int) (v4 : Int) (v5 : Int) (v6 : Int) (v7 : Int) (v8 : Int) (v9 : List Int) (v10 : List Bool) (v11 : List GMsg) : ∀ (k : Nat) (v12 : List Int) (v13 : List Bool) (v14 : List GMsg) (v15 : List GMsg) (v16 : List GMsg) (v17 : List GMsg) (v18 : List GMsg) (v19 : List GMsg) (v20 : Int) (r : (Int) ⊕ (List Int × List Bool × List GMsg × List GMsg × List GMsg × List GMsg × List GMsg × List GMsg)), F116_l0_0 K v1 v2 v3 v4 v5 v6 v7 v8 v9 v10 v11 k v12 v13 v14 v15 v16 v17 v18 v19 v20 = some r → (Sum.elim (fun w => LoopEv E H hn116 0 c116_0 (F116_l0_0_S v1 v2 v3 v4 v5 v6 v7 v8 v9 v10 v11 v12 v13 v14 v15 v16 v17 v18 v19 v20) .ret (F116_l0_0_X0 v1 v2 v3 v4 v5 v6 v7 v8 v9 v10 v11 w)) (fun w => LoopEv E H hn116 0 c116_0 (F116_l0_0_S v1 v2 v3 v4 v5 v6 v7 v8 v9 v10 v11 v12 v13 v14 v15 v16 v17 v18 v19 v20) (.exit 0) (F116_l0_0_X1 v1 v2 v3 v4 v5 v6 v7 v8 v9 v10 v11 w))) r := by
 intro k
 induction k with
 | zero => intro v12 v13 v14 v15 v16 v17 v18 v19 v20 r hF; cases hF
 | succ k ih =>
  intro v12 v13 v14 v15 v16 v17 v18 v19 v20 r hF
  rw [F116_l0_0] at hF
  refine cond_some hF (fun h21 hF => ?_) (fun h21 hF => ?_)
  ·
   refine cond_some hF (fun h22 hF => ?_) (fun _ hF => nomatch hF)
   refine bind_some hF (fun x23 h24 hF => ?_)
   refine bind_some hF (fun r25 h26 hF => ?_)
   refine cond_some hF (fun h27 hF => ?_) (fun _ hF => nomatch hF)
   refine bind_some hF (fun x28 h29 hF => ?_)
   have q48 : PQ hn116 fun l => (.test (ilt v20 (nlen (len v9))) true :: .test (inr v20 (len v9)) true :: .sub (flat (eInt .i64) v9) (nidx v20 1) 1 [(.lit (.int .i64 x23))] :: .int (wmul .i64 v20 v6) (wmul .i64 v20 v6) :: .int (wadd .i64 v7 (wmul .i64 v20 v6)) (wadd .i64 v7 (wmul .i64 v20 v6)) :: .call 149 [.one (.sl (len v11) (flat eGMsg v11)), .one (.lit (.int .i64 (wadd .i64 v7 (wmul .i64 v20 v6))))] (F149_res r25) :: .test (leadsAny (Res.mk [(.one (.im (.lit (.int .i64 r25.1)))), (.one (.im (.lit (.bool r25.2))))] [])) false :: .test (inr v20 (len v10)) true :: .sub (flat eBool v10) (nidx v20 1) 1 [(.lit (.bool x28))] :: l) := fun z => ⟨h21, h22, ⟨rfl, sub_flat0 (eInt_len _) h24 1 (by decide)⟩, rfl, rfl, (F149_ok K v11 (wadd .i64 v7 (wmul .i64 v20 v6)) _ h26), (leads_ok (by simp [leadsAny, RV.leads, RC.leads, leadsT, hasSl_lit, flat_ns (eInt_ns _), flat_ns eBool_ns, flat_ns eGMsg_ns])), h27, ⟨rfl, sub_flat0 eBool_len h29 1 (by decide)⟩, z⟩
   refine cond_some hF (fun h30 hF => ?_) (fun h30 hF => ?_)
   ·
    refine cond_some hF (fun h31 hF => ?_) (fun h31 hF => ?_)
    ·
     refine bind_some hF (fun r32 h33 hF => ?_)
     have q49 : PQ hn116 fun l => (.test (beqb (bnot x28) false) true :: .test (bnot x28) false :: .test r25.2 true :: .call 99 [.agg (eGGraph (GGraph.mk v1 v2)), .agg (eGJob (GJob.mk v3 v4 v5 v6)), .one (.lit (.int .i64 v8)), .one (.lit (.int .i64 (wadd .i64 v7 (wmul .i64 v20 v6)))), .one (.lit (.int .i64 x23)), .one (.lit (.int .i64 r25.1)), .one (.lit (.bool r25.2))] (F99_res r32) :: .test (leadsAny (Res.mk [(.one (.im (.lit (.int .i64 r32.1)))), (.one (.own 130 (.sl (len r32.2.1) (flat eGMsg r32.2.1)))), (.one (.im (.lit (.bool r32.2.2.1)))), (.one (.im (.lit (.int .i64 r32.2.2.2))))] [])) false :: l) := fun z => ⟨(beqb_ff (bnot_t h30)), (bnot_t h30), h31, (F99_ok K (GGraph.mk v1 v2) (GJob.mk v3 v4 v5 v6) v8 (wadd .i64 v7 (wmul .i64 v20 v6)) x23 r25.1 r25.2 _ h33), (leads_ok (by simp [leadsAny, RV.leads, RC.leads, leadsT, hasSl_lit, flat_ns eGJob_ns, flat_ns eGMsg_ns])), z⟩
     refine cond_some hF (fun h34 hF => ?_) (fun h34 hF => ?_)
     ·
      refine bind_some hF (fun w36 h35 hF => ?_)
      refine cond_some hF (fun h37 hF => ?_) (fun _ hF => nomatch hF)
      refine cond_some hF (fun h38 hF => ?_) (fun _ hF => nomatch hF)
      have pz : HoldAll E H hn116 [.test (ine r32.2.2.2 0) false, .int (nlen (len r32.2.1)) (nlen (len r32.2.1)), .loop 2 c116_1 (F116_l1_1_S v1 v2 v3 v4 v5 v6 v7 v8 v9 v10 v11 v12 v13 r32.1 r32.2.2.1 r32.2.1 v20 v14 v15 v16 v17 v18 v19 0) (.exit 2) (F116_l1_1_X0 v1 v2 v3 v4 v5 v6 v7 v8 v9 v10 v11 v12 v13 r32.1 r32.2.2.1 r32.2.1 v20 w36), .test (leqm [(.lit (.int .i64 r32.1))] 1 1) true, .test (apok (len v12) 1 8) true, .sl (nadd (len v12) 1) (lapp (flat (eInt .i64) v12) [(.lit (.int .i64 r32.1))]) (len (α := Int) (appL v12 [r32.1])) (flat (eInt .i64) (appL v12 [r32.1])), .test (leqm [(.lit (.bool r32.2.2.1))] 1 1) true, .test (apok (len v13) 1 1) true, .sl (nadd (len v13) 1) (lapp (flat eBool v13) [(.lit (.bool r32.2.2.1))]) (len (α := Bool) (appL v13 [r32.2.2.1])) (flat eBool (appL v13 [r32.2.2.1])), .int (wadd .i64 v20 1) (wadd .i64 v20 1)] := ⟨(ine_t h34), rfl, (F116_l1_1_ok K v1 v2 v3 v4 v5 v6 v7 v8 v9 v10 v11 v12 v13 r32.1 r32.2.2.1 r32.2.1 v20 K v14 v15 v16 v17 v18 v19 0 _ h35), rfl, h37, (app_ok (enc := (eInt .i64)) (v12 : List Int) [r32.1]), rfl, h38, (app_ok (enc := eBool) (v13 : List Bool) [r32.2.2.1]), rfl, trivial⟩
      have h0 := ih _ _ _ _ _ _ _ _ _ _ hF
      have hn := fun ex ts' => loop_nextC (h := hn116) (l := 0) (c := c116_0) (ts := F116_l0_0_S v1 v2 v3 v4 v5 v6 v7 v8 v9 v10 v11 v12 v13 v14 v15 v16 v17 v18 v19 v20) (ts1 := (F116_l0_0_S v1 v2 v3 v4 v5 v6 v7 v8 v9 v10 v11 (appL v12 [r32.1]) (appL v13 [r32.2.2.1]) w36.1 w36.2.1 w36.2.2.1 w36.2.2.2.1 w36.2.2.2.2.1 w36.2.2.2.2.2 (wadd .i64 v20 1))) (ex := ex) (ts' := ts') (q48 (q49 pz)) (by kernel_rfl)
      cases r with
      | inl w => exact hn _ _ h0
      | inr w => exact hn _ _ h0
     obtain rfl := Option.some.inj hF
     have pz : HoldAll E H hn116 [.test (ine r32.2.2.2 0) true] := ⟨(ine_f h34), trivial⟩
     exact loop_endC (h := hn116) (l := 0) (c := c116_0) (ts := F116_l0_0_S v1 v2 v3 v4 v5 v6 v7 v8 v9 v10 v11 v12 v13 v14 v15 v16 v17 v18 v19 v20) (ts' := F116_l0_0_X0 v1 v2 v3 v4 v5 v6 v7 v8 v9 v10 v11 r32.2.2.2) (ex := .ret) (q48 (q49 pz)) (by kernel_rfl) trivial
    refine cond_some hF (fun h39 hF => ?_) (fun _ hF => nomatch hF)
    refine cond_some hF (fun h40 hF => ?_) (fun _ hF => nomatch hF)
    have pz : HoldAll E H hn116 [.test (beqb (bnot x28) false) true, .test (bnot x28) false, .test r25.2 false, .test (leqm [(.lit (.int .i64 x23))] 1 1) true, .test (apok (len v12) 1 8) true, .sl (nadd (len v12) 1) (lapp (flat (eInt .i64) v12) [(.lit (.int .i64 x23))]) (len (α := Int) (appL v12 [x23])) (flat (eInt .i64) (appL v12 [x23])), .test (leqm [(.lit (.bool true))] 1 1) true, .test (apok (len v13) 1 1) true, .sl (nadd (len v13) 1) (lapp (flat eBool v13) [(.lit (.bool true))]) (len (α := Bool) (appL v13 [true])) (flat eBool (appL v13 [true])), .int (wadd .i64 v20 1) (wadd .i64 v20 1)] := ⟨(beqb_ff (bnot_t h30)), (bnot_t h30), h31, rfl, h39, (app_ok (enc := (eInt .i64)) (v12 : List Int) [x23]), rfl, h40, (app_ok (enc := eBool) (v13 : List Bool) [true]), rfl, trivial⟩
    have h0 := ih _ _ _ _ _ _ _ _ _ _ hF
    have hn := fun ex ts' => loop_nextC (h := hn116) (l := 0) (c := c116_0) (ts := F116_l0_0_S v1 v2 v3 v4 v5 v6 v7 v8 v9 v10 v11 v12 v13 v14 v15 v16 v17 v18 v19 v20) (ts1 := (F116_l0_0_S v1 v2 v3 v4 v5 v6 v7 v8 v9 v10 v11 (appL v12 [x23]) (appL v13 [true]) v14 v15 v16 v17 v18 v19 (wadd .i64 v20 1))) (ex := ex) (ts' := ts') (q48 pz) (by kernel_rfl)
    cases r with
    | inl w => exact hn _ _ h0
    | inr w => exact hn _ _ h0
   refine bind_some hF (fun r41 h42 hF => ?_)
   have q50 : PQ hn116 fun l => (.test (beqb (bnot x28) false) false :: .test (bnot x28) true :: .test true true :: .call 99 [.agg (eGGraph (GGraph.mk v1 v2)), .agg (eGJob (GJob.mk v3 v4 v5 v6)), .one (.lit (.int .i64 v8)), .one (.lit (.int .i64 (wadd .i64 v7 (wmul .i64 v20 v6)))), .one (.lit (.int .i64 x23)), .one (.lit (.int .i64 r25.1)), .one (.lit (.bool r25.2))] (F99_res r41) :: .test (leadsAny (Res.mk [(.one (.im (.lit (.int .i64 r41.1)))), (.one (.own 130 (.sl (len r41.2.1) (flat eGMsg r41.2.1)))), (.one (.im (.lit (.bool r41.2.2.1)))), (.one (.im (.lit (.int .i64 r41.2.2.2))))] [])) false :: l) := fun z => ⟨(beqb_ft (bnot_f h30)), (bnot_f h30), rfl, (F99_ok K (GGraph.mk v1 v2) (GJob.mk v3 v4 v5 v6) v8 (wadd .i64 v7 (wmul .i64 v20 v6)) x23 r25.1 r25.2 _ h42), (leads_ok (by simp [leadsAny, RV.leads, RC.leads, leadsT, hasSl_lit, flat_ns eGJob_ns, flat_ns eGMsg_ns])), z⟩
   refine cond_some hF (fun h43 hF => ?_) (fun h43 hF => ?_)
   ·
    refine bind_some hF (fun w45 h44 hF => ?_)
    refine cond_some hF (fun h46 hF => ?_) (fun _ hF => nomatch hF)
    refine cond_some hF (fun h47 hF => ?_) (fun _ hF => nomatch hF)
    have pz : HoldAll E H hn116 [.test (ine r41.2.2.2 0) false, .int (nlen (len r41.2.1)) (nlen (len r41.2.1)), .loop 2 c116_1 (F116_l1_1_S v1 v2 v3 v4 v5 v6 v7 v8 v9 v10 v11 v12 v13 r41.1 r41.2.2.1 r41.2.1 v20 v14 v15 v16 v17 v18 v19 0) (.exit 2) (F116_l1_1_X0 v1 v2 v3 v4 v5 v6 v7 v8 v9 v10 v11 v12 v13 r41.1 r41.2.2.1 r41.2.1 v20 w45), .test (leqm [(.lit (.int .i64 r41.1))] 1 1) true, .test (apok (len v12) 1 8) true, .sl (nadd (len v12) 1) (lapp (flat (eInt .i64) v12) [(.lit (.int .i64 r41.1))]) (len (α := Int) (appL v12 [r41.1])) (flat (eInt .i64) (appL v12 [r41.1])), .test (leqm [(.lit (.bool r41.2.2.1))] 1 1) true, .test (apok (len v13) 1 1) true, .sl (nadd (len v13) 1) (lapp (flat eBool v13) [(.lit (.bool r41.2.2.1))]) (len (α := Bool) (appL v13 [r41.2.2.1])) (flat eBool (appL v13 [r41.2.2.1])), .int (wadd .i64 v20 1) (wadd .i64 v20 1)] := ⟨(ine_t h43), rfl, (F116_l1_1_ok K v1 v2 v3 v4 v5 v6 v7 v8 v9 v10 v11 v12 v13 r41.1 r41.2.2.1 r41.2.1 v20 K v14 v15 v16 v17 v18 v19 0 _ h44), rfl, h46, (app_ok (enc := (eInt .i64)) (v12 : List Int) [r41.1]), rfl, h47, (app_ok (enc := eBool) (v13 : List Bool) [r41.2.2.1]), rfl, trivial⟩
    have h0 := ih _ _ _ _ _ _ _ _ _ _ hF
    have hn := fun ex ts' => loop_nextC (h := hn116) (l := 0) (c := c116_0) (ts := F116_l0_0_S v1 v2 v3 v4 v5 v6 v7 v8 v9 v10 v11 v12 v13 v14 v15 v16 v17 v18 v19 v20) (ts1 := (F116_l0_0_S v1 v2 v3 v4 v5 v6 v7 v8 v9 v10 v11 (appL v12 [r41.1]) (appL v13 [r41.2.2.1]) w45.1 w45.2.1 w45.2.2.1 w45.2.2.2.1 w45.2.2.2.2.1 w45.2.2.2.2.2 (wadd .i64 v20 1))) (ex := ex) (ts' := ts') (q48 (q50 pz)) (by kernel_rfl)
    cases r with
    | inl w => exact hn _ _ h0
    | inr w => exact hn _ _ h0
   obtain rfl := Option.some.inj hF
   have pz : HoldAll E H hn116 [.test (ine r41.2.2.2 0) true] := ⟨(ine_f h43), trivial⟩
   exact loop_endC (h := hn116) (l := 0) (c := c116_0) (ts := F116_l0_0_S v1 v2 v3 v4 v5 v6 v7 v8 v9 v10 v11 v12 v13 v14 v15 v16 v17 v18 v19 v20) (ts' := F116_l0_0_X0 v1 v2 v3 v4 v5 v6 v7 v8 v9 v10 v11 r41.2.2.2) (ex := .ret) (q48 (q50 pz)) (by kernel_rfl) trivial
  obtain rfl := Option.some.inj hF
  have pz : HoldAll E H hn116 [.test (ilt v20 (nlen (len v9))) false] := ⟨h21, trivial⟩
  exact loop_endC (h := hn116) (l := 0) (c := c116_0) (ts := F116_l0_0_S v1 v2 v3 v4 v5 v6 v7 v8 v9 v10 v11 v12 v13 v14 v15 v16 v17 v18 v19 v20) (ts' := F116_l0_0_X1 v1 v2 v3 v4 v5 v6 v7 v8 v9 v10 v11 (v12, (v13, (v14, (v15, (v16, (v17, (v18, v19)))))))) (ex := (.exit 0)) pz (by kernel_rfl) trivial
def F116_l2_2 (K : Nat) (v1 : Int) (v2 : Int) (v3 : Int) (v4 : Int) (v5 : Int) (v6 : Int) (v7 : List Int) (v8 : List Bool) (v9 : List GMsg) (v10 : List GMsg) (v11 : List GMsg) (v12 : List GMsg) (v13 : List GMsg) (v14 : List GMsg) : Nat → List (List GMsg) → Int → Option ((Int) ⊕ (List (List GMsg)))
 | 0, _, _ => none
 | k + 1, v15, v16 =>
  bif (ilt v16 v4) then
   (bif (ieq v16 0) then
    ((F150 K v1 v9).bind fun r17 =>
    bif (ieq r17.2 0) then
     (bif (apok (len v15) 1 24) then
     F116_l2_2 K v1 v2 v3 v4 v5 v6 v7 v8 v9 v10 v11 v12 v13 v14 k (appL v15 [r17.1]) (wadd .i64 v16 1)
     else none)
    else
    some (.inl r17.2))
   else
   bif (ieq v16 1) then
    ((F150 K v1 v10).bind fun r18 =>
    bif (ieq r18.2 0) then
     (bif (apok (len v15) 1 24) then
     F116_l2_2 K v1 v2 v3 v4 v5 v6 v7 v8 v9 v10 v11 v12 v13 v14 k (appL v15 [r18.1]) (wadd .i64 v16 1)
     else none)
    else
    some (.inl r18.2))
   else
   bif (ieq v16 2) then
    ((F150 K v1 v11).bind fun r19 =>
    bif (ieq r19.2 0) then
     (bif (apok (len v15) 1 24) then
     F116_l2_2 K v1 v2 v3 v4 v5 v6 v7 v8 v9 v10 v11 v12 v13 v14 k (appL v15 [r19.1]) (wadd .i64 v16 1)
     else none)
    else
    some (.inl r19.2))
   else
   bif (ieq v16 3) then
    ((F150 K v1 v12).bind fun r20 =>
    bif (ieq r20.2 0) then
     (bif (apok (len v15) 1 24) then
     F116_l2_2 K v1 v2 v3 v4 v5 v6 v7 v8 v9 v10 v11 v12 v13 v14 k (appL v15 [r20.1]) (wadd .i64 v16 1)
     else none)
    else
    some (.inl r20.2))
   else
   bif (ieq v16 4) then
    ((F150 K v1 v13).bind fun r21 =>
    bif (ieq r21.2 0) then
     (bif (apok (len v15) 1 24) then
     F116_l2_2 K v1 v2 v3 v4 v5 v6 v7 v8 v9 v10 v11 v12 v13 v14 k (appL v15 [r21.1]) (wadd .i64 v16 1)
     else none)
    else
    some (.inl r21.2))
   else
   bif (ieq v16 5) then
   (F150 K v1 v14).bind fun r22 =>
   bif (ieq r22.2 0) then
    (bif (apok (len v15) 1 24) then
    F116_l2_2 K v1 v2 v3 v4 v5 v6 v7 v8 v9 v10 v11 v12 v13 v14 k (appL v15 [r22.1]) (wadd .i64 v16 1)
    else none)
   else
   some (.inl r22.2)
   else none)
  else
  some (.inr v15)
def F116_l2_2_S (v1 : Int) (v2 : Int) (v3 : Int) (v4 : Int) (v5 : Int) (v6 : Int) (v7 : List Int) (v8 : List Bool) (v9 : List GMsg) (v10 : List GMsg) (v11 : List GMsg) (v12 : List GMsg) (v13 : List GMsg) (v14 : List GMsg) (v15 : List (List GMsg)) (v16 : Int) : TS := .on [256, 257, 258, 259, 260, 384, 385, 386, 387, 388, 389, 640, 641, 642, 643, 644, 645, 704, 705, 706, 707, 708, 709, 710, 1600, 1601, 8704, 8705, 8768, 8769] [(256, ⟨(.box 64 4), 0, nob⟩), (257, ⟨.im, 0, (.lit (.int .i64 v1))⟩), (258, ⟨.im, 0, (.lit (.int .i64 v2))⟩), (259, ⟨.im, 0, (.lit (.int .i64 v3))⟩), (260, ⟨.im, 0, (.lit (.int .i64 v4))⟩), (384, ⟨(.box 42 5), 0, nob⟩), (385, ⟨.im, 0, (.lit (.int .i64 0))⟩), (386, ⟨.im, 0, (.lit (.int .i64 0))⟩), (387, ⟨(.own 2), 0, (.sl 0 [])⟩), (388, ⟨(.own 4), 0, (.sl 0 [])⟩), (389, ⟨(.own 130), 0, (.sl 0 [])⟩), (640, ⟨(.box 42 5), 0, nob⟩), (641, ⟨.im, 0, (.lit (.int .i64 v5))⟩), (642, ⟨.im, 0, (.lit (.int .i64 v6))⟩), (643, ⟨(.own 2), 0, (.sl (len v7) (flat (eInt .i64) v7))⟩), (644, ⟨(.own 4), 0, (.sl (len v8) (flat eBool v8))⟩), (645, ⟨(.own 130), 0, (.sl 0 [])⟩), (704, ⟨(.box 188 6), 0, nob⟩), (705, ⟨(.own 130), 0, (.sl (len v9) (flat eGMsg v9))⟩), (706, ⟨(.own 130), 0, (.sl (len v10) (flat eGMsg v10))⟩), (707, ⟨(.own 130), 0, (.sl (len v11) (flat eGMsg v11))⟩), (708, ⟨(.own 130), 0, (.sl (len v12) (flat eGMsg v12))⟩), (709, ⟨(.own 130), 0, (.sl (len v13) (flat eGMsg v13))⟩), (710, ⟨(.own 130), 0, (.sl (len v14) (flat eGMsg v14))⟩), (1600, ⟨.one, 0, nob⟩), (1601, ⟨(.own 40), 0, (.sl (len v15) (flat (eSl eGMsg) v15))⟩), (8704, ⟨.one, 0, nob⟩), (8705, ⟨.im, 0, (.lit (.int .i64 v4))⟩), (8768, ⟨.one, 0, nob⟩), (8769, ⟨.im, 0, (.lit (.int .i64 v16))⟩)]
def F116_l2_2_X0 (v1 : Int) (v2 : Int) (v3 : Int) (v4 : Int) (v5 : Int) (v6 : Int) (v7 : List Int) (v8 : List Bool) (v9 : List GMsg) (v10 : List GMsg) (v11 : List GMsg) (v12 : List GMsg) (v13 : List GMsg) (v14 : List GMsg) (w15 : Int) : TS := .on [384, 385, 386, 387, 388, 389, 448, 449, 512, 513] [(384, ⟨(.box 42 5), 0, nob⟩), (385, ⟨.im, 0, (.lit (.int .i64 0))⟩), (386, ⟨.im, 0, (.lit (.int .i64 0))⟩), (387, ⟨(.own 2), 0, (.sl 0 [])⟩), (388, ⟨(.own 4), 0, (.sl 0 [])⟩), (389, ⟨(.own 130), 0, (.sl 0 [])⟩), (448, ⟨.one, 0, nob⟩), (449, ⟨(.own 40), 0, (.sl 0 [])⟩), (512, ⟨.one, 0, nob⟩), (513, ⟨.im, 0, (.lit (.int .i64 w15))⟩)]
def F116_l2_2_X1 (v1 : Int) (v2 : Int) (v3 : Int) (v4 : Int) (v5 : Int) (v6 : Int) (v7 : List Int) (v8 : List Bool) (v9 : List GMsg) (v10 : List GMsg) (v11 : List GMsg) (v12 : List GMsg) (v13 : List GMsg) (v14 : List GMsg) (w15 : List (List GMsg)) : TS := .on [384, 385, 386, 387, 388, 389, 640, 641, 642, 643, 644, 645, 1600, 1601] [(384, ⟨(.box 42 5), 0, nob⟩), (385, ⟨.im, 0, (.lit (.int .i64 0))⟩), (386, ⟨.im, 0, (.lit (.int .i64 0))⟩), (387, ⟨(.own 2), 0, (.sl 0 [])⟩), (388, ⟨(.own 4), 0, (.sl 0 [])⟩), (389, ⟨(.own 130), 0, (.sl 0 [])⟩), (640, ⟨(.box 42 5), 0, nob⟩), (641, ⟨.im, 0, (.lit (.int .i64 v5))⟩), (642, ⟨.im, 0, (.lit (.int .i64 v6))⟩), (643, ⟨(.own 2), 0, (.sl (len v7) (flat (eInt .i64) v7))⟩), (644, ⟨(.own 4), 0, (.sl (len v8) (flat eBool v8))⟩), (645, ⟨(.own 130), 0, (.sl 0 [])⟩), (1600, ⟨.one, 0, nob⟩), (1601, ⟨(.own 40), 0, (.sl (len w15) (flat (eSl eGMsg) w15))⟩)]
end Go.Proofs.Ytnjanliihnadjaa.Tm

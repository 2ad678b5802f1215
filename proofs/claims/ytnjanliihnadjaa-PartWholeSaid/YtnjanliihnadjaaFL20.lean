/- Printed by program: what each function computes, and that the machine answers so. Conditions: none. -/
import Derived.Test.YtnjanliihnadjaaTy
import Derived.Test.YtnjanliihnadjaaTab
import Derived.Test.YtnjanliihnadjaaKn
import Derived.Test.YtnjanliihnadjaaFE
import Derived.Test.YtnjanliihnadjaaFPs
import Derived.Test.YtnjanliihnadjaaFQ
import Derived.Test.YtnjanliihnadjaaFQr
import Derived.Test.YtnjanliihnadjaaFQs
import Derived.Test.YtnjanliihnadjaaFR
import Derived.KernelRfl
set_option linter.unusedVariables false
set_option linter.unusedSimpArgs false
namespace Go.Proofs.Ytnjanliihnadjaa.Tm
open Go
/-! ### haywain/haywainlaw07.PartWhole -/
noncomputable def hn20 : Hint := { H 20 with nt := 144, prot := 0 }
noncomputable def c20_0 : Code := loopOf E 20 0
noncomputable def c20_1 : Code := loopOf E 20 1
def F20_res (r4056 : Bool) : Res := ⟨[(.one (.im (.lit (.bool r4056))))], []⟩
def F20_l0_0 (K : Nat) (a3925 : GGraph) (a3926 : GJob) (a3927 : GState) (r3937 : List GPart × Int) : Nat → Int → List (List GMsg) → Int → Option ((Unit) ⊕ (Int × List (List GMsg)))
  | 0, _, _, _ => none
  | k + 1, v3951, v3952, v3953 =>
    bif (ilt v3953 (nlen (len r3937.1))) then
      (bif (inr v3953 (len r3937.1)) then
      (elAt r3937.1 v3953).bind fun x3956 =>
      (F77 K a3925 a3926 v3953).bind fun r3958 =>
      bif (ieq r3958 (nlen (len x3956.Vals))) then
        ((F80 K a3925 a3926 x3956).bind fun r3961 =>
        bif r3961 then
          (bif (apok (len v3952) 1 24) then
          F20_l0_0 K a3925 a3926 a3927 r3937 k (wadd .i64 v3951 (nlen (len x3956.Vals))) (appL v3952 [x3956.In]) (wadd .i64 v3953 1)
          else none)
        else
        some (.inl ()))
      else
      some (.inl ())
      else none)
    else
    some (.inr (v3951, v3952))
def F20_l0_0_S (a3925 : GGraph) (a3926 : GJob) (a3927 : GState) (r3937 : List GPart × Int) (v3951 : Int) (v3952 : List (List GMsg)) (v3953 : Int) : TS := .on [192, 193, 194, 256, 257, 258, 259, 260, 320, 321, 322, 323, 324, 448, 449, 576, 577, 640, 641, 704, 705] [(192, ⟨(.box 62 2), 0, nob⟩), (193, ⟨.im, 0, (.lit (.int .i64 a3925.N))⟩), (194, ⟨.im, 0, (.sl (len a3925.Edges) (flat eGEdge a3925.Edges))⟩), (256, ⟨(.box 64 4), 0, nob⟩), (257, ⟨.im, 0, (.lit (.int .i64 a3926.Prog))⟩), (258, ⟨.im, 0, (.lit (.int .i64 a3926.Source))⟩), (259, ⟨.im, 0, (.lit (.int .i64 a3926.Limit))⟩), (260, ⟨.im, 0, (.lit (.int .i64 a3926.Parts))⟩), (320, ⟨(.box 74 4), 0, nob⟩), (321, ⟨.im, 0, (.lit (.int .i64 a3927.Step))⟩), (322, ⟨.im, 0, (.sl (len a3927.Vals) (flat (eInt .i64) a3927.Vals))⟩), (323, ⟨.im, 0, (.sl (len a3927.Rest) (flat eBool a3927.Rest))⟩), (324, ⟨.im, 0, (.sl (len a3927.In) (flat eGMsg a3927.In))⟩), (448, ⟨.one, 0, nob⟩), (449, ⟨(.own 42), 0, (.sl (len r3937.1) (flat eGPart r3937.1))⟩), (576, ⟨.one, 0, nob⟩), (577, ⟨.im, 0, (.lit (.int .i64 v3951))⟩), (640, ⟨.one, 0, nob⟩), (641, ⟨(.own 40), 0, (.sl (len v3952) (flat (eSl eGMsg) v3952))⟩), (704, ⟨.one, 0, nob⟩), (705, ⟨.im, 0, (.lit (.int .i64 v3953))⟩)]
def F20_l0_0_X0 (a3925 : GGraph) (a3926 : GJob) (a3927 : GState) (r3937 : List GPart × Int) (w3965 : Unit) : TS := .on [384, 385] [(384, ⟨.one, 0, nob⟩), (385, ⟨.im, 0, (.lit (.bool false))⟩)]
def F20_l0_0_X1 (a3925 : GGraph) (a3926 : GJob) (a3927 : GState) (r3937 : List GPart × Int) (w3966 : Int × List (List GMsg)) : TS := .on [192, 193, 194, 256, 257, 258, 259, 260, 320, 321, 322, 323, 324, 448, 449, 576, 577, 640, 641] [(192, ⟨(.box 62 2), 0, nob⟩), (193, ⟨.im, 0, (.lit (.int .i64 a3925.N))⟩), (194, ⟨.im, 0, (.sl (len a3925.Edges) (flat eGEdge a3925.Edges))⟩), (256, ⟨(.box 64 4), 0, nob⟩), (257, ⟨.im, 0, (.lit (.int .i64 a3926.Prog))⟩), (258, ⟨.im, 0, (.lit (.int .i64 a3926.Source))⟩), (259, ⟨.im, 0, (.lit (.int .i64 a3926.Limit))⟩), (260, ⟨.im, 0, (.lit (.int .i64 a3926.Parts))⟩), (320, ⟨(.box 74 4), 0, nob⟩), (321, ⟨.im, 0, (.lit (.int .i64 a3927.Step))⟩), (322, ⟨.im, 0, (.sl (len a3927.Vals) (flat (eInt .i64) a3927.Vals))⟩), (323, ⟨.im, 0, (.sl (len a3927.Rest) (flat eBool a3927.Rest))⟩), (324, ⟨.im, 0, (.sl (len a3927.In) (flat eGMsg a3927.In))⟩), (448, ⟨.one, 0, nob⟩), (449, ⟨(.own 42), 0, (.sl (len r3937.1) (flat eGPart r3937.1))⟩), (576, ⟨.one, 0, nob⟩), (577, ⟨.im, 0, (.lit (.int .i64 w3966.1))⟩), (640, ⟨.one, 0, nob⟩), (641, ⟨(.own 40), 0, (.sl (len w3966.2) (flat (eSl eGMsg) w3966.2))⟩)]
theorem F20_l0_0_ok (K : Nat) (a3925 : GGraph) (a3926 : GJob) (a3927 : GState) (r3937 : List GPart × Int) : ∀ (k : Nat) (v3951 : Int) (v3952 : List (List GMsg)) (v3953 : Int) (r : (Unit) ⊕ (Int × List (List GMsg))), F20_l0_0 K a3925 a3926 a3927 r3937 k v3951 v3952 v3953 = some r → (Sum.elim (fun w => LoopEv E H hn20 0 c20_0 (F20_l0_0_S a3925 a3926 a3927 r3937 v3951 v3952 v3953) .ret (F20_l0_0_X0 a3925 a3926 a3927 r3937 w)) (fun w => LoopEv E H hn20 0 c20_0 (F20_l0_0_S a3925 a3926 a3927 r3937 v3951 v3952 v3953) (.exit 0) (F20_l0_0_X1 a3925 a3926 a3927 r3937 w))) r := by
  intro k
  induction k with
  | zero => intro v3951 v3952 v3953 r hF; cases hF
  | succ k ih =>
    intro v3951 v3952 v3953 r hF
    rw [F20_l0_0] at hF
    refine cond_some hF (fun h3954 hF => ?_) (fun h3954 hF => ?_)
    ·
      refine cond_some hF (fun h3955 hF => ?_) (fun _ hF => nomatch hF)
      refine bind_some hF (fun x3956 h3957 hF => ?_)
      refine bind_some hF (fun r3958 h3959 hF => ?_)
      have pq3969 : ∀ {l : List Cond}, HoldAll E H hn20 l → HoldAll E H hn20 (.int (nlen (len r3937.1)) (nlen (len r3937.1)) :: .test (ilt v3953 (nlen (len r3937.1))) true :: .test (inr v3953 (len r3937.1)) true :: .sub (flat eGPart r3937.1) (nadd (nidx v3953 5) 2) 1 [(.sl (len x3956.Vals) (flat (eInt .i64) x3956.Vals))] :: .int (nlen (len x3956.Vals)) (nlen (len x3956.Vals)) :: .int (wadd .i64 v3951 (nlen (len x3956.Vals))) (wadd .i64 v3951 (nlen (len x3956.Vals))) :: .call 77 [.agg (eGGraph a3925), .agg (eGJob a3926), .one (.lit (.int .i64 v3953))] (F77_res r3958) :: .test (leadsAny (Res.mk [(.one (.im (.lit (.int .i64 r3958))))] [])) false :: .test (inr v3953 (len r3937.1)) true :: .sub (flat eGPart r3937.1) (nadd (nidx v3953 5) 2) 1 [(.sl (len x3956.Vals) (flat (eInt .i64) x3956.Vals))] :: .int (nlen (len x3956.Vals)) (nlen (len x3956.Vals)) :: l) := fun z => ⟨rfl, h3954, h3955, ⟨rfl, sub_flat eGPart_len h3957 2 1 (by decide)⟩, rfl, rfl, (F77_ok K a3925 a3926 v3953 _ h3959), (leads_ok (by simp only [leadsAny, List.any_cons, List.any_nil, RV.leads, RC.leads, leadsT, hasSl_lit, Bool.or_false, flat_ns (eInt_ns _), flat_ns eBool_ns, flat_ns eStr_ns, flat_ns eGJob_ns, flat_ns eGEdge_ns, flat_ns eGAsked_ns, flat_ns eGMsg_ns, flat_ns eGrule_ns, flat_ns eGA199_ns, flat_ns eGA202_ns])), h3955, ⟨rfl, sub_flat eGPart_len h3957 2 1 (by decide)⟩, rfl, z⟩
      refine cond_some hF (fun h3960 hF => ?_) (fun h3960 hF => ?_)
      ·
        refine bind_some hF (fun r3961 h3962 hF => ?_)
        have pq3970 : ∀ {l : List Cond}, HoldAll E H hn20 l → HoldAll E H hn20 (.test (beqb (ine r3958 (nlen (len x3956.Vals))) false) true :: .test (beqb (ine r3958 (nlen (len x3956.Vals))) false) true :: .test (beqb (ine r3958 (nlen (len x3956.Vals))) false) true :: .test (beqb (ine r3958 (nlen (len x3956.Vals))) false) true :: .test (beqb (ine r3958 (nlen (len x3956.Vals))) false) true :: .test (inr v3953 (len r3937.1)) true :: .test (beqb (ine r3958 (nlen (len x3956.Vals))) false) true :: .sub (flat eGPart r3937.1) (nidx v3953 5) 5 [(.lit (.int .i64 x3956.P)), (.lit (.int .i64 x3956.Step)), (.sl (len x3956.Vals) (flat (eInt .i64) x3956.Vals)), (.sl (len x3956.Rest) (flat eBool x3956.Rest)), (.sl (len x3956.In) (flat eGMsg x3956.In))] :: .test (beqb (ine r3958 (nlen (len x3956.Vals))) false) true :: .call 80 [.agg (eGGraph a3925), .agg (eGJob a3926), .agg (eGPart x3956)] (F80_res r3961) :: .test (leadsAny (Res.mk [(.one (.im (.lit (.bool r3961))))] [])) false :: .test (beqb (ine r3958 (nlen (len x3956.Vals))) false) true :: .test (ine r3958 (nlen (len x3956.Vals))) false :: l) := fun z => ⟨(beqb_ff (ine_t h3960)), (beqb_ff (ine_t h3960)), (beqb_ff (ine_t h3960)), (beqb_ff (ine_t h3960)), (beqb_ff (ine_t h3960)), h3955, (beqb_ff (ine_t h3960)), ⟨rfl, sub_flat0 eGPart_len h3957 5 (by decide)⟩, (beqb_ff (ine_t h3960)), (F80_ok K a3925 a3926 x3956 _ h3962), (leads_ok (by simp only [leadsAny, List.any_cons, List.any_nil, RV.leads, RC.leads, leadsT, hasSl_lit, Bool.or_false, flat_ns (eInt_ns _), flat_ns eBool_ns, flat_ns eStr_ns, flat_ns eGJob_ns, flat_ns eGEdge_ns, flat_ns eGAsked_ns, flat_ns eGMsg_ns, flat_ns eGrule_ns, flat_ns eGA199_ns, flat_ns eGA202_ns])), (beqb_ff (ine_t h3960)), (ine_t h3960), z⟩
        refine cond_some hF (fun h3963 hF => ?_) (fun h3963 hF => ?_)
        ·
          refine cond_some hF (fun h3964 hF => ?_) (fun _ hF => nomatch hF)
          have pz : HoldAll E H hn20 [.test (bnot r3961) false, .test (inr v3953 (len r3937.1)) true, .sub (flat eGPart r3937.1) (nadd (nidx v3953 5) 4) 1 [(.sl (len x3956.In) (flat eGMsg x3956.In))], .test (leqm [(.sl (len x3956.In) (flat eGMsg x3956.In))] 1 1) true, .test (apok (len v3952) 1 24) true, .sl (nadd (len v3952) 1) (lapp (flat (eSl eGMsg) v3952) [(.sl (len x3956.In) (flat eGMsg x3956.In))]) (len (α := List GMsg) (appL v3952 [x3956.In])) (flat (eSl eGMsg) (appL v3952 [x3956.In])), .int (wadd .i64 v3953 1) (wadd .i64 v3953 1)] := ⟨(bnot_t h3963), h3955, ⟨rfl, sub_flat eGPart_len h3957 4 1 (by decide)⟩, rfl, h3964, (app_ok (enc := (eSl eGMsg)) (v3952 : List (List GMsg)) [x3956.In]), rfl, trivial⟩
          have h0 := ih _ _ _ _ hF
          have hn := fun ex ts' => loop_nextC (h := hn20) (l := 0) (c := c20_0) (ts := F20_l0_0_S a3925 a3926 a3927 r3937 v3951 v3952 v3953) (ts1 := (F20_l0_0_S a3925 a3926 a3927 r3937 (wadd .i64 v3951 (nlen (len x3956.Vals))) (appL v3952 [x3956.In]) (wadd .i64 v3953 1))) (ex := ex) (ts' := ts') (pq3969 (pq3970 pz)) (by kernel_rfl)
          cases r with
          | inl w => exact hn _ _ h0
          | inr w => exact hn _ _ h0
        have hr := Option.some.inj hF
        subst hr
        have pz : HoldAll E H hn20 [.test (bnot r3961) true] := ⟨(bnot_f h3963), trivial⟩
        exact loop_endC (h := hn20) (l := 0) (c := c20_0) (ts := F20_l0_0_S a3925 a3926 a3927 r3937 v3951 v3952 v3953) (ts' := F20_l0_0_X0 a3925 a3926 a3927 r3937 ()) (ex := .ret) (pq3969 (pq3970 pz)) (by kernel_rfl) trivial
      have hr := Option.some.inj hF
      subst hr
      have pz : HoldAll E H hn20 [.test (beqb (ine r3958 (nlen (len x3956.Vals))) false) false, .test (beqb (ine r3958 (nlen (len x3956.Vals))) false) false, .test (beqb (ine r3958 (nlen (len x3956.Vals))) false) false, .test (beqb (ine r3958 (nlen (len x3956.Vals))) false) false, .test (beqb (ine r3958 (nlen (len x3956.Vals))) false) false, .test (beqb (ine r3958 (nlen (len x3956.Vals))) false) false, .test (beqb (ine r3958 (nlen (len x3956.Vals))) false) false, .test (beqb (ine r3958 (nlen (len x3956.Vals))) false) false, .test (ine r3958 (nlen (len x3956.Vals))) true, .test true true] := ⟨(beqb_ft (ine_f h3960)), (beqb_ft (ine_f h3960)), (beqb_ft (ine_f h3960)), (beqb_ft (ine_f h3960)), (beqb_ft (ine_f h3960)), (beqb_ft (ine_f h3960)), (beqb_ft (ine_f h3960)), (beqb_ft (ine_f h3960)), (ine_f h3960), rfl, trivial⟩
      exact loop_endC (h := hn20) (l := 0) (c := c20_0) (ts := F20_l0_0_S a3925 a3926 a3927 r3937 v3951 v3952 v3953) (ts' := F20_l0_0_X0 a3925 a3926 a3927 r3937 ()) (ex := .ret) (pq3969 pz) (by kernel_rfl) trivial
    have hr := Option.some.inj hF
    subst hr
    have pz : HoldAll E H hn20 [.int (nlen (len r3937.1)) (nlen (len r3937.1)), .test (ilt v3953 (nlen (len r3937.1))) false] := ⟨rfl, h3954, trivial⟩
    exact loop_endC (h := hn20) (l := 0) (c := c20_0) (ts := F20_l0_0_S a3925 a3926 a3927 r3937 v3951 v3952 v3953) (ts' := F20_l0_0_X1 a3925 a3926 a3927 r3937 (v3951, v3952)) (ex := (.exit 0)) pz (by kernel_rfl) trivial

def F20_l1_1 (K : Nat) (a3925 : GGraph) (a3926 : GJob) (a3927 : GState) (r3937 : List GPart × Int) (w3974 : Int × List (List GMsg)) : Nat → Int → Option ((Unit) ⊕ (Unit))
  | 0, _ => none
  | k + 1, v3994 =>
    bif (ilt v3994 a3925.N) then
      ((F75 K a3926 v3994).bind fun r3996 =>
      bif (ilt r3996 0) then
        (some (.inl ()))
      else
      bif (ile (nlen (len r3937.1)) r3996) then
        (some (.inl ()))
      else
      bif (izero a3926.Parts) then none else
      bif (inr r3996 (len r3937.1)) then
      (elAt r3937.1 r3996).bind fun x4002 =>
      bif (ile (nlen (len x4002.Vals)) (wquo .i64 v3994 a3926.Parts)) then
        (some (.inl ()))
      else
      bif (inr (wquo .i64 v3994 a3926.Parts) (len x4002.Vals)) then
      (elAt x4002.Vals (wquo .i64 v3994 a3926.Parts)).bind fun x4006 =>
      bif (inr v3994 (len a3927.Vals)) then
      (elAt a3927.Vals v3994).bind fun x4009 =>
      bif (ieq x4006 x4009) then
        (F20_l1_1 K a3925 a3926 a3927 r3937 w3974 k (wadd .i64 v3994 1))
      else
      some (.inl ())
      else none
      else none
      else none)
    else
    some (.inr ())
def F20_l1_1_S (a3925 : GGraph) (a3926 : GJob) (a3927 : GState) (r3937 : List GPart × Int) (w3974 : Int × List (List GMsg)) (v3994 : Int) : TS := .on [192, 193, 194, 256, 257, 258, 259, 260, 320, 321, 322, 323, 324, 448, 449, 576, 577, 640, 641, 768, 769] [(192, ⟨(.box 62 2), 0, nob⟩), (193, ⟨.im, 0, (.lit (.int .i64 a3925.N))⟩), (194, ⟨.im, 0, (.sl (len a3925.Edges) (flat eGEdge a3925.Edges))⟩), (256, ⟨(.box 64 4), 0, nob⟩), (257, ⟨.im, 0, (.lit (.int .i64 a3926.Prog))⟩), (258, ⟨.im, 0, (.lit (.int .i64 a3926.Source))⟩), (259, ⟨.im, 0, (.lit (.int .i64 a3926.Limit))⟩), (260, ⟨.im, 0, (.lit (.int .i64 a3926.Parts))⟩), (320, ⟨(.box 74 4), 0, nob⟩), (321, ⟨.im, 0, (.lit (.int .i64 a3927.Step))⟩), (322, ⟨.im, 0, (.sl (len a3927.Vals) (flat (eInt .i64) a3927.Vals))⟩), (323, ⟨.im, 0, (.sl (len a3927.Rest) (flat eBool a3927.Rest))⟩), (324, ⟨.im, 0, (.sl (len a3927.In) (flat eGMsg a3927.In))⟩), (448, ⟨.one, 0, nob⟩), (449, ⟨(.own 42), 0, (.sl (len r3937.1) (flat eGPart r3937.1))⟩), (576, ⟨.one, 0, nob⟩), (577, ⟨.im, 0, (.lit (.int .i64 w3974.1))⟩), (640, ⟨.one, 0, nob⟩), (641, ⟨(.own 40), 0, (.sl (len w3974.2) (flat (eSl eGMsg) w3974.2))⟩), (768, ⟨.one, 0, nob⟩), (769, ⟨.im, 0, (.lit (.int .i64 v3994))⟩)]
def F20_l1_1_X0 (a3925 : GGraph) (a3926 : GJob) (a3927 : GState) (r3937 : List GPart × Int) (w3974 : Int × List (List GMsg)) (w4012 : Unit) : TS := .on [384, 385] [(384, ⟨.one, 0, nob⟩), (385, ⟨.im, 0, (.lit (.bool false))⟩)]
def F20_l1_1_X1 (a3925 : GGraph) (a3926 : GJob) (a3927 : GState) (r3937 : List GPart × Int) (w3974 : Int × List (List GMsg)) (w4013 : Unit) : TS := .on [192, 193, 194, 320, 321, 322, 323, 324, 576, 577, 640, 641] [(192, ⟨(.box 62 2), 0, nob⟩), (193, ⟨.im, 0, (.lit (.int .i64 a3925.N))⟩), (194, ⟨.im, 0, (.sl (len a3925.Edges) (flat eGEdge a3925.Edges))⟩), (320, ⟨(.box 74 4), 0, nob⟩), (321, ⟨.im, 0, (.lit (.int .i64 a3927.Step))⟩), (322, ⟨.im, 0, (.sl (len a3927.Vals) (flat (eInt .i64) a3927.Vals))⟩), (323, ⟨.im, 0, (.sl (len a3927.Rest) (flat eBool a3927.Rest))⟩), (324, ⟨.im, 0, (.sl (len a3927.In) (flat eGMsg a3927.In))⟩), (576, ⟨.one, 0, nob⟩), (577, ⟨.im, 0, (.lit (.int .i64 w3974.1))⟩), (640, ⟨.one, 0, nob⟩), (641, ⟨(.own 40), 0, (.sl (len w3974.2) (flat (eSl eGMsg) w3974.2))⟩)]
theorem F20_l1_1_ok (K : Nat) (a3925 : GGraph) (a3926 : GJob) (a3927 : GState) (r3937 : List GPart × Int) (w3974 : Int × List (List GMsg)) : ∀ (k : Nat) (v3994 : Int) (r : (Unit) ⊕ (Unit)), F20_l1_1 K a3925 a3926 a3927 r3937 w3974 k v3994 = some r → (Sum.elim (fun w => LoopEv E H hn20 2 c20_1 (F20_l1_1_S a3925 a3926 a3927 r3937 w3974 v3994) .ret (F20_l1_1_X0 a3925 a3926 a3927 r3937 w3974 w)) (fun w => LoopEv E H hn20 2 c20_1 (F20_l1_1_S a3925 a3926 a3927 r3937 w3974 v3994) (.exit 2) (F20_l1_1_X1 a3925 a3926 a3927 r3937 w3974 w))) r := by
  intro k
  induction k with
  | zero => intro v3994 r hF; cases hF
  | succ k ih =>
    intro v3994 r hF
    rw [F20_l1_1] at hF
    refine cond_some hF (fun h3995 hF => ?_) (fun h3995 hF => ?_)
    ·
      refine bind_some hF (fun r3996 h3997 hF => ?_)
      have pq4014 : ∀ {l : List Cond}, HoldAll E H hn20 l → HoldAll E H hn20 (.test (ilt v3994 a3925.N) true :: .call 75 [.agg (eGJob a3926), .one (.lit (.int .i64 v3994))] (F75_res r3996) :: .test (leadsAny (Res.mk [(.one (.im (.lit (.int .i64 r3996))))] [])) false :: l) := fun z => ⟨h3995, (F75_ok K a3926 v3994 _ h3997), (leads_ok (by simp only [leadsAny, List.any_cons, List.any_nil, RV.leads, RC.leads, leadsT, hasSl_lit, Bool.or_false, flat_ns (eInt_ns _), flat_ns eBool_ns, flat_ns eStr_ns, flat_ns eGJob_ns, flat_ns eGEdge_ns, flat_ns eGAsked_ns, flat_ns eGMsg_ns, flat_ns eGrule_ns, flat_ns eGA199_ns, flat_ns eGA202_ns])), z⟩
      refine cond_some hF (fun h3998 hF => ?_) (fun h3998 hF => ?_)
      ·
        have hr := Option.some.inj hF
        subst hr
        have pz : HoldAll E H hn20 [.test (beqb (ilt r3996 0) false) false, .test (beqb (ilt r3996 0) false) false, .test (beqb (ilt r3996 0) false) false, .test (beqb (ilt r3996 0) false) false, .test (ilt r3996 0) true, .test (beqb true false) false, .test (beqb true false) false, .test (beqb true false) false, .test (beqb true false) false, .test (beqb true false) false, .test (beqb true false) false, .test (beqb true false) false, .test (beqb true false) false, .test (beqb true false) false, .test (beqb true false) false, .test (beqb true false) false, .test true true, .test (beqb true false) false, .test (beqb true false) false, .test (beqb true false) false, .test (beqb true false) false, .test (beqb true false) false, .test (beqb true false) false, .test (beqb true false) false, .test (beqb true false) false, .test (beqb true false) false, .test (beqb true false) false, .test (beqb true false) false, .test (beqb true false) false, .test (beqb true false) false, .test (beqb true false) false, .test (beqb true false) false, .test (beqb true false) false, .test (beqb true false) false, .test true true, .test true true] := ⟨(beqb_ft h3998), (beqb_ft h3998), (beqb_ft h3998), (beqb_ft h3998), h3998, (beqb_ft rfl), (beqb_ft rfl), (beqb_ft rfl), (beqb_ft rfl), (beqb_ft rfl), (beqb_ft rfl), (beqb_ft rfl), (beqb_ft rfl), (beqb_ft rfl), (beqb_ft rfl), (beqb_ft rfl), rfl, (beqb_ft rfl), (beqb_ft rfl), (beqb_ft rfl), (beqb_ft rfl), (beqb_ft rfl), (beqb_ft rfl), (beqb_ft rfl), (beqb_ft rfl), (beqb_ft rfl), (beqb_ft rfl), (beqb_ft rfl), (beqb_ft rfl), (beqb_ft rfl), (beqb_ft rfl), (beqb_ft rfl), (beqb_ft rfl), (beqb_ft rfl), rfl, rfl, trivial⟩
        exact loop_endC (h := hn20) (l := 2) (c := c20_1) (ts := F20_l1_1_S a3925 a3926 a3927 r3937 w3974 v3994) (ts' := F20_l1_1_X0 a3925 a3926 a3927 r3937 w3974 ()) (ex := .ret) (pq4014 pz) (by kernel_rfl) trivial
      have pq4015 : ∀ {l : List Cond}, HoldAll E H hn20 l → HoldAll E H hn20 (.test (beqb (ilt r3996 0) false) true :: .test (beqb (ilt r3996 0) false) true :: .test (beqb (ilt r3996 0) false) true :: .int (nlen (len r3937.1)) (nlen (len r3937.1)) :: .test (beqb (ilt r3996 0) false) true :: .test (ilt r3996 0) false :: l) := fun z => ⟨(beqb_ff h3998), (beqb_ff h3998), (beqb_ff h3998), rfl, (beqb_ff h3998), h3998, z⟩
      refine cond_some hF (fun h3999 hF => ?_) (fun h3999 hF => ?_)
      ·
        have hr := Option.some.inj hF
        subst hr
        have pz : HoldAll E H hn20 [.test (beqb (ige r3996 (nlen (len r3937.1))) false) false, .test (beqb (ige r3996 (nlen (len r3937.1))) false) false, .test (beqb (ige r3996 (nlen (len r3937.1))) false) false, .test (beqb (ige r3996 (nlen (len r3937.1))) false) false, .test (beqb (ige r3996 (nlen (len r3937.1))) false) false, .test (beqb (ige r3996 (nlen (len r3937.1))) false) false, .test (beqb (ige r3996 (nlen (len r3937.1))) false) false, .test (beqb (ige r3996 (nlen (len r3937.1))) false) false, .test (beqb (ige r3996 (nlen (len r3937.1))) false) false, .test (beqb (ige r3996 (nlen (len r3937.1))) false) false, .test (beqb (ige r3996 (nlen (len r3937.1))) false) false, .test (ige r3996 (nlen (len r3937.1))) true, .test (beqb true false) false, .test (beqb true false) false, .test (beqb true false) false, .test (beqb true false) false, .test (beqb true false) false, .test (beqb true false) false, .test (beqb true false) false, .test (beqb true false) false, .test (beqb true false) false, .test (beqb true false) false, .test (beqb true false) false, .test (beqb true false) false, .test (beqb true false) false, .test (beqb true false) false, .test (beqb true false) false, .test (beqb true false) false, .test (beqb true false) false, .test true true, .test true true] := ⟨(beqb_ft (ige_eq h3999)), (beqb_ft (ige_eq h3999)), (beqb_ft (ige_eq h3999)), (beqb_ft (ige_eq h3999)), (beqb_ft (ige_eq h3999)), (beqb_ft (ige_eq h3999)), (beqb_ft (ige_eq h3999)), (beqb_ft (ige_eq h3999)), (beqb_ft (ige_eq h3999)), (beqb_ft (ige_eq h3999)), (beqb_ft (ige_eq h3999)), (ige_eq h3999), (beqb_ft rfl), (beqb_ft rfl), (beqb_ft rfl), (beqb_ft rfl), (beqb_ft rfl), (beqb_ft rfl), (beqb_ft rfl), (beqb_ft rfl), (beqb_ft rfl), (beqb_ft rfl), (beqb_ft rfl), (beqb_ft rfl), (beqb_ft rfl), (beqb_ft rfl), (beqb_ft rfl), (beqb_ft rfl), (beqb_ft rfl), rfl, rfl, trivial⟩
        exact loop_endC (h := hn20) (l := 2) (c := c20_1) (ts := F20_l1_1_S a3925 a3926 a3927 r3937 w3974 v3994) (ts' := F20_l1_1_X0 a3925 a3926 a3927 r3937 w3974 ()) (ex := .ret) (pq4014 (pq4015 pz)) (by kernel_rfl) trivial
      refine cond_some hF (fun _ hF => nomatch hF) (fun h4000 hF => ?_)
      refine cond_some hF (fun h4001 hF => ?_) (fun _ hF => nomatch hF)
      refine bind_some hF (fun x4002 h4003 hF => ?_)
      have pq4016 : ∀ {l : List Cond}, HoldAll E H hn20 l → HoldAll E H hn20 (.test (beqb (ige r3996 (nlen (len r3937.1))) false) true :: .test (beqb (ige r3996 (nlen (len r3937.1))) false) true :: .test (beqb (ige r3996 (nlen (len r3937.1))) false) true :: .test (beqb (ige r3996 (nlen (len r3937.1))) false) true :: .test (izero a3926.Parts) false :: .int (wquo .i64 v3994 a3926.Parts) (wquo .i64 v3994 a3926.Parts) :: .test (beqb (ige r3996 (nlen (len r3937.1))) false) true :: .test (beqb (ige r3996 (nlen (len r3937.1))) false) true :: .test (beqb (ige r3996 (nlen (len r3937.1))) false) true :: .test (inr r3996 (len r3937.1)) true :: .test (beqb (ige r3996 (nlen (len r3937.1))) false) true :: .test (beqb (ige r3996 (nlen (len r3937.1))) false) true :: .sub (flat eGPart r3937.1) (nadd (nidx r3996 5) 2) 1 [(.sl (len x4002.Vals) (flat (eInt .i64) x4002.Vals))] :: .test (beqb (ige r3996 (nlen (len r3937.1))) false) true :: .int (nlen (len x4002.Vals)) (nlen (len x4002.Vals)) :: .test (beqb (ige r3996 (nlen (len r3937.1))) false) true :: .test (ige r3996 (nlen (len r3937.1))) false :: l) := fun z => ⟨(beqb_ff (ige_eq h3999)), (beqb_ff (ige_eq h3999)), (beqb_ff (ige_eq h3999)), (beqb_ff (ige_eq h3999)), h4000, rfl, (beqb_ff (ige_eq h3999)), (beqb_ff (ige_eq h3999)), (beqb_ff (ige_eq h3999)), h4001, (beqb_ff (ige_eq h3999)), (beqb_ff (ige_eq h3999)), ⟨rfl, sub_flat eGPart_len h4003 2 1 (by decide)⟩, (beqb_ff (ige_eq h3999)), rfl, (beqb_ff (ige_eq h3999)), (ige_eq h3999), z⟩
      refine cond_some hF (fun h4004 hF => ?_) (fun h4004 hF => ?_)
      ·
        have hr := Option.some.inj hF
        subst hr
        have pz : HoldAll E H hn20 [.test (beqb (ige (wquo .i64 v3994 a3926.Parts) (nlen (len x4002.Vals))) false) false, .test (beqb (ige (wquo .i64 v3994 a3926.Parts) (nlen (len x4002.Vals))) false) false, .test (beqb (ige (wquo .i64 v3994 a3926.Parts) (nlen (len x4002.Vals))) false) false, .test (beqb (ige (wquo .i64 v3994 a3926.Parts) (nlen (len x4002.Vals))) false) false, .test (beqb (ige (wquo .i64 v3994 a3926.Parts) (nlen (len x4002.Vals))) false) false, .test (beqb (ige (wquo .i64 v3994 a3926.Parts) (nlen (len x4002.Vals))) false) false, .test (beqb (ige (wquo .i64 v3994 a3926.Parts) (nlen (len x4002.Vals))) false) false, .test (beqb (ige (wquo .i64 v3994 a3926.Parts) (nlen (len x4002.Vals))) false) false, .test (beqb (ige (wquo .i64 v3994 a3926.Parts) (nlen (len x4002.Vals))) false) false, .test (beqb (ige (wquo .i64 v3994 a3926.Parts) (nlen (len x4002.Vals))) false) false, .test (beqb (ige (wquo .i64 v3994 a3926.Parts) (nlen (len x4002.Vals))) false) false, .test (beqb (ige (wquo .i64 v3994 a3926.Parts) (nlen (len x4002.Vals))) false) false, .test (beqb (ige (wquo .i64 v3994 a3926.Parts) (nlen (len x4002.Vals))) false) false, .test (beqb (ige (wquo .i64 v3994 a3926.Parts) (nlen (len x4002.Vals))) false) false, .test (beqb (ige (wquo .i64 v3994 a3926.Parts) (nlen (len x4002.Vals))) false) false, .test (beqb (ige (wquo .i64 v3994 a3926.Parts) (nlen (len x4002.Vals))) false) false, .test (beqb (ige (wquo .i64 v3994 a3926.Parts) (nlen (len x4002.Vals))) false) false, .test (ige (wquo .i64 v3994 a3926.Parts) (nlen (len x4002.Vals))) true, .test true true] := ⟨(beqb_ft (ige_eq h4004)), (beqb_ft (ige_eq h4004)), (beqb_ft (ige_eq h4004)), (beqb_ft (ige_eq h4004)), (beqb_ft (ige_eq h4004)), (beqb_ft (ige_eq h4004)), (beqb_ft (ige_eq h4004)), (beqb_ft (ige_eq h4004)), (beqb_ft (ige_eq h4004)), (beqb_ft (ige_eq h4004)), (beqb_ft (ige_eq h4004)), (beqb_ft (ige_eq h4004)), (beqb_ft (ige_eq h4004)), (beqb_ft (ige_eq h4004)), (beqb_ft (ige_eq h4004)), (beqb_ft (ige_eq h4004)), (beqb_ft (ige_eq h4004)), (ige_eq h4004), rfl, trivial⟩
        exact loop_endC (h := hn20) (l := 2) (c := c20_1) (ts := F20_l1_1_S a3925 a3926 a3927 r3937 w3974 v3994) (ts' := F20_l1_1_X0 a3925 a3926 a3927 r3937 w3974 ()) (ex := .ret) (pq4014 (pq4015 (pq4016 pz))) (by kernel_rfl) trivial
      refine cond_some hF (fun h4005 hF => ?_) (fun _ hF => nomatch hF)
      refine bind_some hF (fun x4006 h4007 hF => ?_)
      refine cond_some hF (fun h4008 hF => ?_) (fun _ hF => nomatch hF)
      refine bind_some hF (fun x4009 h4010 hF => ?_)
      have pq4017 : ∀ {l : List Cond}, HoldAll E H hn20 l → HoldAll E H hn20 (.test (beqb (ige (wquo .i64 v3994 a3926.Parts) (nlen (len x4002.Vals))) false) true :: .test (beqb (ige (wquo .i64 v3994 a3926.Parts) (nlen (len x4002.Vals))) false) true :: .test (beqb (ige (wquo .i64 v3994 a3926.Parts) (nlen (len x4002.Vals))) false) true :: .test (inr r3996 (len r3937.1)) true :: .test (beqb (ige (wquo .i64 v3994 a3926.Parts) (nlen (len x4002.Vals))) false) true :: .test (beqb (ige (wquo .i64 v3994 a3926.Parts) (nlen (len x4002.Vals))) false) true :: .sub (flat eGPart r3937.1) (nadd (nidx r3996 5) 2) 1 [(.sl (len x4002.Vals) (flat (eInt .i64) x4002.Vals))] :: .test (beqb (ige (wquo .i64 v3994 a3926.Parts) (nlen (len x4002.Vals))) false) true :: .test (beqb (ige (wquo .i64 v3994 a3926.Parts) (nlen (len x4002.Vals))) false) true :: .test (beqb (ige (wquo .i64 v3994 a3926.Parts) (nlen (len x4002.Vals))) false) true :: .test (beqb (ige (wquo .i64 v3994 a3926.Parts) (nlen (len x4002.Vals))) false) true :: .test (izero a3926.Parts) false :: .int (wquo .i64 v3994 a3926.Parts) (wquo .i64 v3994 a3926.Parts) :: .test (beqb (ige (wquo .i64 v3994 a3926.Parts) (nlen (len x4002.Vals))) false) true :: .test (inr (wquo .i64 v3994 a3926.Parts) (len x4002.Vals)) true :: .test (beqb (ige (wquo .i64 v3994 a3926.Parts) (nlen (len x4002.Vals))) false) true :: .sub (flat (eInt .i64) x4002.Vals) (nidx (wquo .i64 v3994 a3926.Parts) 1) 1 [(.lit (.int .i64 x4006))] :: .test (beqb (ige (wquo .i64 v3994 a3926.Parts) (nlen (len x4002.Vals))) false) true :: .test (beqb (ige (wquo .i64 v3994 a3926.Parts) (nlen (len x4002.Vals))) false) true :: .test (beqb (ige (wquo .i64 v3994 a3926.Parts) (nlen (len x4002.Vals))) false) true :: .test (beqb (ige (wquo .i64 v3994 a3926.Parts) (nlen (len x4002.Vals))) false) true :: .test (inr v3994 (len a3927.Vals)) true :: .test (beqb (ige (wquo .i64 v3994 a3926.Parts) (nlen (len x4002.Vals))) false) true :: .sub (flat (eInt .i64) a3927.Vals) (nidx v3994 1) 1 [(.lit (.int .i64 x4009))] :: .test (beqb (ige (wquo .i64 v3994 a3926.Parts) (nlen (len x4002.Vals))) false) true :: .test (ige (wquo .i64 v3994 a3926.Parts) (nlen (len x4002.Vals))) false :: l) := fun z => ⟨(beqb_ff (ige_eq h4004)), (beqb_ff (ige_eq h4004)), (beqb_ff (ige_eq h4004)), h4001, (beqb_ff (ige_eq h4004)), (beqb_ff (ige_eq h4004)), ⟨rfl, sub_flat eGPart_len h4003 2 1 (by decide)⟩, (beqb_ff (ige_eq h4004)), (beqb_ff (ige_eq h4004)), (beqb_ff (ige_eq h4004)), (beqb_ff (ige_eq h4004)), h4000, rfl, (beqb_ff (ige_eq h4004)), h4005, (beqb_ff (ige_eq h4004)), ⟨rfl, sub_flat0 (eInt_len _) h4007 1 (by decide)⟩, (beqb_ff (ige_eq h4004)), (beqb_ff (ige_eq h4004)), (beqb_ff (ige_eq h4004)), (beqb_ff (ige_eq h4004)), h4008, (beqb_ff (ige_eq h4004)), ⟨rfl, sub_flat0 (eInt_len _) h4010 1 (by decide)⟩, (beqb_ff (ige_eq h4004)), (ige_eq h4004), z⟩
      refine cond_some hF (fun h4011 hF => ?_) (fun h4011 hF => ?_)
      ·
        have pz : HoldAll E H hn20 [.test (ine x4006 x4009) false, .int (wadd .i64 v3994 1) (wadd .i64 v3994 1)] := ⟨(ine_t h4011), rfl, trivial⟩
        have h0 := ih _ _ hF
        have hn := fun ex ts' => loop_nextC (h := hn20) (l := 2) (c := c20_1) (ts := F20_l1_1_S a3925 a3926 a3927 r3937 w3974 v3994) (ts1 := (F20_l1_1_S a3925 a3926 a3927 r3937 w3974 (wadd .i64 v3994 1))) (ex := ex) (ts' := ts') (pq4014 (pq4015 (pq4016 (pq4017 pz)))) (by kernel_rfl)
        cases r with
        | inl w => exact hn _ _ h0
        | inr w => exact hn _ _ h0
      have hr := Option.some.inj hF
      subst hr
      have pz : HoldAll E H hn20 [.test (ine x4006 x4009) true] := ⟨(ine_f h4011), trivial⟩
      exact loop_endC (h := hn20) (l := 2) (c := c20_1) (ts := F20_l1_1_S a3925 a3926 a3927 r3937 w3974 v3994) (ts' := F20_l1_1_X0 a3925 a3926 a3927 r3937 w3974 ()) (ex := .ret) (pq4014 (pq4015 (pq4016 (pq4017 pz)))) (by kernel_rfl) trivial
    have hr := Option.some.inj hF
    subst hr
    have pz : HoldAll E H hn20 [.test (ilt v3994 a3925.N) false] := ⟨h3995, trivial⟩
    exact loop_endC (h := hn20) (l := 2) (c := c20_1) (ts := F20_l1_1_S a3925 a3926 a3927 r3937 w3974 v3994) (ts' := F20_l1_1_X1 a3925 a3926 a3927 r3937 w3974 ()) (ex := (.exit 2)) pz (by kernel_rfl) trivial

def F20 (K : Nat) (a3925 : GGraph) (a3926 : GJob) (a3927 : GState) : Option (Bool) :=
  (F73 K a3925).bind fun r3928 =>
  bif r3928 then
    (some true)
  else
  (F82 K a3927).bind fun r3931 =>
  bif r3931 then
    (some true)
  else
  (F88 K a3925 a3926 a3927).bind fun r3934 =>
  bif r3934 then
    ((F83 K a3925 a3926 a3927).bind fun r3937 =>
    bif (ieq r3937.2 0) then
      ((F20_l0_0 K a3925 a3926 a3927 r3937 K 0 [] 0).bind fun y3972 =>
      Sum.elim (fun w3973 =>
        some false)
        (fun w3974 =>
        (F20_l1_1 K a3925 a3926 a3927 r3937 w3974 K 0).bind fun y4019 =>
        Sum.elim (fun w4020 =>
          some false)
          (fun w4021 =>
          bif (ieq w3974.1 a3925.N) then
            ((F90 K w3974.2).bind fun r4045 =>
            (F91 K a3927.In).bind fun r4047 =>
            (F89 K r4045 r4047).bind fun r4049 =>
            bif r4049 then
              (some true)
            else
            some false)
          else
          some false) y4019) y3972)
    else
    some false)
  else
  some true
theorem F20_ok (K : Nat) (a3925 : GGraph) (a3926 : GJob) (a3927 : GState) (r : Bool) (hF : F20 K a3925 a3926 a3927 = some r) : Evt E H 20 [.agg (eGGraph a3925), .agg (eGJob a3926), .agg (eGState a3927)] (F20_res r) := by
  rw [F20] at hF
  refine bind_some hF (fun r3928 h3929 hF => ?_)
  refine cond_some hF (fun h3930 hF => ?_) (fun h3930 hF => ?_)
  ·
    have hr := Option.some.inj hF
    subst hr
    have pz : HoldAll E H hn20 [.call 73 [.agg (eGGraph a3925)] (F73_res r3928), .test (leadsAny (Res.mk [(.one (.im (.lit (.bool r3928))))] [])) false, .test (beqb r3928 false) false, .test (beqb r3928 false) false, .test r3928 true, .test (beqb true false) false, .test (beqb true false) false, .test (beqb true false) false, .test (beqb true false) false, .test (beqb true false) false, .test true true, .test true true, .call 74 [] (Res.mk [(.one (.im (.lit (.bool true))))] []), .test (leadsAny (Res.mk [(.one (.im (.lit (.bool true))))] [])) false] := ⟨(F73_ok K a3925 _ h3929), (leads_ok (by simp only [leadsAny, List.any_cons, List.any_nil, RV.leads, RC.leads, leadsT, hasSl_lit, Bool.or_false, flat_ns (eInt_ns _), flat_ns eBool_ns, flat_ns eStr_ns, flat_ns eGJob_ns, flat_ns eGEdge_ns, flat_ns eGAsked_ns, flat_ns eGMsg_ns, flat_ns eGrule_ns, flat_ns eGA199_ns, flat_ns eGA202_ns])), (beqb_ft h3930), (beqb_ft h3930), h3930, (beqb_ft rfl), (beqb_ft rfl), (beqb_ft rfl), (beqb_ft rfl), (beqb_ft rfl), rfl, rfl, knows74, (leads_ok (by simp only [leadsAny, List.any_cons, List.any_nil, RV.leads, RC.leads, leadsT, hasSl_lit, Bool.or_false, flat_ns (eInt_ns _), flat_ns eBool_ns, flat_ns eStr_ns, flat_ns eGJob_ns, flat_ns eGEdge_ns, flat_ns eGAsked_ns, flat_ns eGMsg_ns, flat_ns eGrule_ns, flat_ns eGA199_ns, flat_ns eGA202_ns])), trivial⟩
    exact fn_playC hn20 (f := 20) (ads := [.agg (eGGraph a3925), .agg (eGJob a3926), .agg (eGState a3927)]) (r := F20_res true) pz (by kernel_rfl) (by kernel_rfl)
  refine bind_some hF (fun r3931 h3932 hF => ?_)
  have pq4052 : ∀ {l : List Cond}, HoldAll E H hn20 l → HoldAll E H hn20 (.call 73 [.agg (eGGraph a3925)] (F73_res r3928) :: .test (leadsAny (Res.mk [(.one (.im (.lit (.bool r3928))))] [])) false :: .test (beqb r3928 false) true :: .test (beqb r3928 false) true :: .call 82 [.agg (eGState a3927)] (F82_res r3931) :: .test (leadsAny (Res.mk [(.one (.im (.lit (.bool r3931))))] [])) false :: .test r3928 false :: l) := fun z => ⟨(F73_ok K a3925 _ h3929), (leads_ok (by simp only [leadsAny, List.any_cons, List.any_nil, RV.leads, RC.leads, leadsT, hasSl_lit, Bool.or_false, flat_ns (eInt_ns _), flat_ns eBool_ns, flat_ns eStr_ns, flat_ns eGJob_ns, flat_ns eGEdge_ns, flat_ns eGAsked_ns, flat_ns eGMsg_ns, flat_ns eGrule_ns, flat_ns eGA199_ns, flat_ns eGA202_ns])), (beqb_ff h3930), (beqb_ff h3930), (F82_ok K a3927 _ h3932), (leads_ok (by simp only [leadsAny, List.any_cons, List.any_nil, RV.leads, RC.leads, leadsT, hasSl_lit, Bool.or_false, flat_ns (eInt_ns _), flat_ns eBool_ns, flat_ns eStr_ns, flat_ns eGJob_ns, flat_ns eGEdge_ns, flat_ns eGAsked_ns, flat_ns eGMsg_ns, flat_ns eGrule_ns, flat_ns eGA199_ns, flat_ns eGA202_ns])), h3930, z⟩
  refine cond_some hF (fun h3933 hF => ?_) (fun h3933 hF => ?_)
  ·
    have hr := Option.some.inj hF
    subst hr
    have pz : HoldAll E H hn20 [.test (beqb r3931 false) false, .test (beqb r3931 false) false, .test (beqb r3931 false) false, .test (beqb r3931 false) false, .test (beqb r3931 false) false, .test r3931 true, .test true true, .call 74 [] (Res.mk [(.one (.im (.lit (.bool true))))] []), .test (leadsAny (Res.mk [(.one (.im (.lit (.bool true))))] [])) false] := ⟨(beqb_ft h3933), (beqb_ft h3933), (beqb_ft h3933), (beqb_ft h3933), (beqb_ft h3933), h3933, rfl, knows74, (leads_ok (by simp only [leadsAny, List.any_cons, List.any_nil, RV.leads, RC.leads, leadsT, hasSl_lit, Bool.or_false, flat_ns (eInt_ns _), flat_ns eBool_ns, flat_ns eStr_ns, flat_ns eGJob_ns, flat_ns eGEdge_ns, flat_ns eGAsked_ns, flat_ns eGMsg_ns, flat_ns eGrule_ns, flat_ns eGA199_ns, flat_ns eGA202_ns])), trivial⟩
    exact fn_playC hn20 (f := 20) (ads := [.agg (eGGraph a3925), .agg (eGJob a3926), .agg (eGState a3927)]) (r := F20_res true) (pq4052 pz) (by kernel_rfl) (by kernel_rfl)
  refine bind_some hF (fun r3934 h3935 hF => ?_)
  have pq4053 : ∀ {l : List Cond}, HoldAll E H hn20 l → HoldAll E H hn20 (.test (beqb r3931 false) true :: .test (beqb r3931 false) true :: .test (beqb r3931 false) true :: .test (beqb r3931 false) true :: .call 88 [.agg (eGGraph a3925), .agg (eGJob a3926), .agg (eGState a3927)] (F88_res r3934) :: .test (leadsAny (Res.mk [(.one (.im (.lit (.bool r3934))))] [])) false :: .test (beqb r3931 false) true :: .test r3931 false :: l) := fun z => ⟨(beqb_ff h3933), (beqb_ff h3933), (beqb_ff h3933), (beqb_ff h3933), (F88_ok K a3925 a3926 a3927 _ h3935), (leads_ok (by simp only [leadsAny, List.any_cons, List.any_nil, RV.leads, RC.leads, leadsT, hasSl_lit, Bool.or_false, flat_ns (eInt_ns _), flat_ns eBool_ns, flat_ns eStr_ns, flat_ns eGJob_ns, flat_ns eGEdge_ns, flat_ns eGAsked_ns, flat_ns eGMsg_ns, flat_ns eGrule_ns, flat_ns eGA199_ns, flat_ns eGA202_ns])), (beqb_ff h3933), h3933, z⟩
  refine cond_some hF (fun h3936 hF => ?_) (fun h3936 hF => ?_)
  ·
    refine bind_some hF (fun r3937 h3938 hF => ?_)
    refine cond_some hF (fun h3939 hF => ?_) (fun h3939 hF => ?_)
    ·
      have pq4054 : ∀ {l : List Cond}, HoldAll E H hn20 l → HoldAll E H hn20 (.test (bnot r3934) false :: .call 83 [.agg (eGGraph a3925), .agg (eGJob a3926), .agg (eGState a3927)] (F83_res r3937) :: .test (ine r3937.2 0) false :: l) := fun z => ⟨(bnot_t h3936), (F83_ok K a3925 a3926 a3927 _ h3938), (ine_t h3939), z⟩
      refine bind_some hF (fun y3972 h3971 hF => ?_)
      refine sum_some hF (fun w3973 hx hF => ?_) (fun w3974 hx hF => ?_)
      ·
        subst hx
        have hr := Option.some.inj hF
        subst hr
        have pz : HoldAll E H hn20 [.loop 0 c20_0 (F20_l0_0_S a3925 a3926 a3927 r3937 0 [] 0) .ret (F20_l0_0_X0 a3925 a3926 a3927 r3937 w3973)] := ⟨(F20_l0_0_ok K a3925 a3926 a3927 r3937 K 0 [] 0 _ h3971), trivial⟩
        exact fn_playC hn20 (f := 20) (ads := [.agg (eGGraph a3925), .agg (eGJob a3926), .agg (eGState a3927)]) (r := F20_res false) (pq4052 (pq4053 (pq4054 pz))) (by kernel_rfl) (by kernel_rfl)
      subst hx
      refine bind_some hF (fun y4019 h4018 hF => ?_)
      refine sum_some hF (fun w4020 hx hF => ?_) (fun w4021 hx hF => ?_)
      ·
        subst hx
        have hr := Option.some.inj hF
        subst hr
        have pz : HoldAll E H hn20 [.loop 0 c20_0 (F20_l0_0_S a3925 a3926 a3927 r3937 0 [] 0) (.exit 0) (F20_l0_0_X1 a3925 a3926 a3927 r3937 w3974), .loop 2 c20_1 (F20_l1_1_S a3925 a3926 a3927 r3937 w3974 0) .ret (F20_l1_1_X0 a3925 a3926 a3927 r3937 w3974 w4020)] := ⟨(F20_l0_0_ok K a3925 a3926 a3927 r3937 K 0 [] 0 _ h3971), (F20_l1_1_ok K a3925 a3926 a3927 r3937 w3974 K 0 _ h4018), trivial⟩
        exact fn_playC hn20 (f := 20) (ads := [.agg (eGGraph a3925), .agg (eGJob a3926), .agg (eGState a3927)]) (r := F20_res false) (pq4052 (pq4053 (pq4054 pz))) (by kernel_rfl) (by kernel_rfl)
      subst hx
      refine cond_some hF (fun h4022 hF => ?_) (fun h4022 hF => ?_)
      ·
        refine bind_some hF (fun r4045 h4046 hF => ?_)
        refine bind_some hF (fun r4047 h4048 hF => ?_)
        refine bind_some hF (fun r4049 h4050 hF => ?_)
        have pq4055 : ∀ {l : List Cond}, HoldAll E H hn20 l → HoldAll E H hn20 (.loop 0 c20_0 (F20_l0_0_S a3925 a3926 a3927 r3937 0 [] 0) (.exit 0) (F20_l0_0_X1 a3925 a3926 a3927 r3937 w3974) :: .loop 2 c20_1 (F20_l1_1_S a3925 a3926 a3927 r3937 w3974 0) (.exit 2) (F20_l1_1_X1 a3925 a3926 a3927 r3937 w3974 w4021) :: .test (beqb (ieq w3974.1 a3925.N) true) true :: .test (beqb (ieq w3974.1 a3925.N) true) true :: .call 90 [.one (.sl (len w3974.2) (flat (eSl eGMsg) w3974.2))] (F90_res r4045) :: .test (leadsAny (Res.mk [(.one (.own 130 (.sl (len r4045) (flat eGMsg r4045))))] [])) false :: .test (beqb (ieq w3974.1 a3925.N) true) true :: .test (beqb (ieq w3974.1 a3925.N) true) true :: .test (beqb (ieq w3974.1 a3925.N) true) true :: .call 91 [.one (.sl (len a3927.In) (flat eGMsg a3927.In))] (F91_res r4047) :: .test (leadsAny (Res.mk [(.one (.own 130 (.sl (len r4047) (flat eGMsg r4047))))] [])) false :: .test (beqb (ieq w3974.1 a3925.N) true) true :: .call 89 [.one (.sl (len r4045) (flat eGMsg r4045)), .one (.sl (len r4047) (flat eGMsg r4047))] (F89_res r4049) :: .test (leadsAny (Res.mk [(.one (.im (.lit (.bool r4049))))] [])) false :: .test (ieq w3974.1 a3925.N) true :: l) := fun z => ⟨(F20_l0_0_ok K a3925 a3926 a3927 r3937 K 0 [] 0 _ h3971), (F20_l1_1_ok K a3925 a3926 a3927 r3937 w3974 K 0 _ h4018), (beqb_t h4022), (beqb_t h4022), (F90_ok K w3974.2 _ h4046), (leads_ok (by simp only [leadsAny, List.any_cons, List.any_nil, RV.leads, RC.leads, leadsT, hasSl_lit, Bool.or_false, flat_ns (eInt_ns _), flat_ns eBool_ns, flat_ns eStr_ns, flat_ns eGJob_ns, flat_ns eGEdge_ns, flat_ns eGAsked_ns, flat_ns eGMsg_ns, flat_ns eGrule_ns, flat_ns eGA199_ns, flat_ns eGA202_ns])), (beqb_t h4022), (beqb_t h4022), (beqb_t h4022), (F91_ok K a3927.In _ h4048), (leads_ok (by simp only [leadsAny, List.any_cons, List.any_nil, RV.leads, RC.leads, leadsT, hasSl_lit, Bool.or_false, flat_ns (eInt_ns _), flat_ns eBool_ns, flat_ns eStr_ns, flat_ns eGJob_ns, flat_ns eGEdge_ns, flat_ns eGAsked_ns, flat_ns eGMsg_ns, flat_ns eGrule_ns, flat_ns eGA199_ns, flat_ns eGA202_ns])), (beqb_t h4022), (F89_ok K r4045 r4047 _ h4050), (leads_ok (by simp only [leadsAny, List.any_cons, List.any_nil, RV.leads, RC.leads, leadsT, hasSl_lit, Bool.or_false, flat_ns (eInt_ns _), flat_ns eBool_ns, flat_ns eStr_ns, flat_ns eGJob_ns, flat_ns eGEdge_ns, flat_ns eGAsked_ns, flat_ns eGMsg_ns, flat_ns eGrule_ns, flat_ns eGA199_ns, flat_ns eGA202_ns])), h4022, z⟩
        refine cond_some hF (fun h4051 hF => ?_) (fun h4051 hF => ?_)
        ·
          have hr := Option.some.inj hF
          subst hr
          have pz : HoldAll E H hn20 [.test (beqb r4049 true) true, .call 74 [] (Res.mk [(.one (.im (.lit (.bool true))))] []), .test (leadsAny (Res.mk [(.one (.im (.lit (.bool true))))] [])) false, .test r4049 true] := ⟨(beqb_t h4051), knows74, (leads_ok (by simp only [leadsAny, List.any_cons, List.any_nil, RV.leads, RC.leads, leadsT, hasSl_lit, Bool.or_false, flat_ns (eInt_ns _), flat_ns eBool_ns, flat_ns eStr_ns, flat_ns eGJob_ns, flat_ns eGEdge_ns, flat_ns eGAsked_ns, flat_ns eGMsg_ns, flat_ns eGrule_ns, flat_ns eGA199_ns, flat_ns eGA202_ns])), h4051, trivial⟩
          exact fn_playC hn20 (f := 20) (ads := [.agg (eGGraph a3925), .agg (eGJob a3926), .agg (eGState a3927)]) (r := F20_res true) (pq4052 (pq4053 (pq4054 (pq4055 pz)))) (by kernel_rfl) (by kernel_rfl)
        have hr := Option.some.inj hF
        subst hr
        have pz : HoldAll E H hn20 [.test (beqb r4049 true) false, .test r4049 false] := ⟨(beqb_t h4051), h4051, trivial⟩
        exact fn_playC hn20 (f := 20) (ads := [.agg (eGGraph a3925), .agg (eGJob a3926), .agg (eGState a3927)]) (r := F20_res false) (pq4052 (pq4053 (pq4054 (pq4055 pz)))) (by kernel_rfl) (by kernel_rfl)
      have hr := Option.some.inj hF
      subst hr
      have pz : HoldAll E H hn20 [.loop 0 c20_0 (F20_l0_0_S a3925 a3926 a3927 r3937 0 [] 0) (.exit 0) (F20_l0_0_X1 a3925 a3926 a3927 r3937 w3974), .loop 2 c20_1 (F20_l1_1_S a3925 a3926 a3927 r3937 w3974 0) (.exit 2) (F20_l1_1_X1 a3925 a3926 a3927 r3937 w3974 w4021), .test (beqb (ieq w3974.1 a3925.N) true) false, .test (beqb (ieq w3974.1 a3925.N) true) false, .test (beqb (ieq w3974.1 a3925.N) true) false, .test (beqb (ieq w3974.1 a3925.N) true) false, .test (beqb (ieq w3974.1 a3925.N) true) false, .test (beqb (ieq w3974.1 a3925.N) true) false, .test (ieq w3974.1 a3925.N) false, .test (beqb false true) false, .test false false] := ⟨(F20_l0_0_ok K a3925 a3926 a3927 r3937 K 0 [] 0 _ h3971), (F20_l1_1_ok K a3925 a3926 a3927 r3937 w3974 K 0 _ h4018), (beqb_t h4022), (beqb_t h4022), (beqb_t h4022), (beqb_t h4022), (beqb_t h4022), (beqb_t h4022), h4022, (beqb_t rfl), rfl, trivial⟩
      exact fn_playC hn20 (f := 20) (ads := [.agg (eGGraph a3925), .agg (eGJob a3926), .agg (eGState a3927)]) (r := F20_res false) (pq4052 (pq4053 (pq4054 pz))) (by kernel_rfl) (by kernel_rfl)
    have hr := Option.some.inj hF
    subst hr
    have pz : HoldAll E H hn20 [.test (bnot r3934) false, .call 83 [.agg (eGGraph a3925), .agg (eGJob a3926), .agg (eGState a3927)] (F83_res r3937), .test (ine r3937.2 0) true] := ⟨(bnot_t h3936), (F83_ok K a3925 a3926 a3927 _ h3938), (ine_f h3939), trivial⟩
    exact fn_playC hn20 (f := 20) (ads := [.agg (eGGraph a3925), .agg (eGJob a3926), .agg (eGState a3927)]) (r := F20_res false) (pq4052 (pq4053 pz)) (by kernel_rfl) (by kernel_rfl)
  have hr := Option.some.inj hF
  subst hr
  have pz : HoldAll E H hn20 [.test (bnot r3934) true, .call 74 [] (Res.mk [(.one (.im (.lit (.bool true))))] []), .test (leadsAny (Res.mk [(.one (.im (.lit (.bool true))))] [])) false] := ⟨(bnot_f h3936), knows74, (leads_ok (by simp only [leadsAny, List.any_cons, List.any_nil, RV.leads, RC.leads, leadsT, hasSl_lit, Bool.or_false, flat_ns (eInt_ns _), flat_ns eBool_ns, flat_ns eStr_ns, flat_ns eGJob_ns, flat_ns eGEdge_ns, flat_ns eGAsked_ns, flat_ns eGMsg_ns, flat_ns eGrule_ns, flat_ns eGA199_ns, flat_ns eGA202_ns])), trivial⟩
  exact fn_playC hn20 (f := 20) (ads := [.agg (eGGraph a3925), .agg (eGJob a3926), .agg (eGState a3927)]) (r := F20_res true) (pq4052 (pq4053 pz)) (by kernel_rfl) (by kernel_rfl)

end Go.Proofs.Ytnjanliihnadjaa.Tm

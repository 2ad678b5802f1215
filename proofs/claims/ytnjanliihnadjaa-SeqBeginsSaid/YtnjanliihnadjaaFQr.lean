/- Printed by program: what each function computes, and that the machine answers so. Conditions: none. -/
import Derived.Test.YtnjanliihnadjaaTy
import Derived.Test.YtnjanliihnadjaaTab
import Derived.Test.YtnjanliihnadjaaKn
import Derived.Test.YtnjanliihnadjaaFP
import Derived.Test.YtnjanliihnadjaaFQ
import Derived.KernelRfl
set_option linter.unusedVariables false
set_option linter.unusedSimpArgs false
namespace Go.Proofs.Ytnjanliihnadjaa.Tm
open Go
/-! ### haywain/haywainlaw07.broad -/
noncomputable def hn79 : Hint := { H 79 with nt := 19, prot := 0 }
def F79_res (r3274 : Bool) : Res := ⟨[(.one (.im (.lit (.bool r3274))))], []⟩
def F79 (K : Nat) (a3270 : GPart) : Option (Bool) :=
  bif (ilt 100 (nlen (len a3270.Vals))) then
    (some true)
  else
  bif (ilt 100 (nlen (len a3270.Rest))) then
    (some true)
  else
  some (igt (nlen (len a3270.In)) 300)
theorem F79_ok (K : Nat) (a3270 : GPart) (r : Bool) (hF : F79 K a3270 = some r) : Evt E H 79 [.agg (eGPart a3270)] (F79_res r) := by
  rw [F79] at hF
  refine cond_some hF (fun h3271 hF => ?_) (fun h3271 hF => ?_)
  ·
    have hr := Option.some.inj hF
    subst hr
    have pz : HoldAll E H hn79 [.int (nlen (len a3270.Vals)) (nlen (len a3270.Vals)), .test (beqb (igt (nlen (len a3270.Vals)) 100) false) false, .test (beqb (igt (nlen (len a3270.Vals)) 100) false) false, .test (beqb (igt (nlen (len a3270.Vals)) 100) false) false, .test (beqb (igt (nlen (len a3270.Vals)) 100) false) false, .test (igt (nlen (len a3270.Vals)) 100) true, .test (beqb true false) false, .test (beqb true false) false, .test (beqb true false) false, .test (beqb true false) false, .test true true] := ⟨rfl, (beqb_ft (igt_eq h3271)), (beqb_ft (igt_eq h3271)), (beqb_ft (igt_eq h3271)), (beqb_ft (igt_eq h3271)), (igt_eq h3271), (beqb_ft rfl), (beqb_ft rfl), (beqb_ft rfl), (beqb_ft rfl), rfl, trivial⟩
    exact fn_playC hn79 (f := 79) (ads := [.agg (eGPart a3270)]) (r := F79_res true) pz (by kernel_rfl) (by kernel_rfl)
  have pq3273 : ∀ {l : List Cond}, HoldAll E H hn79 l → HoldAll E H hn79 (.int (nlen (len a3270.Vals)) (nlen (len a3270.Vals)) :: .test (beqb (igt (nlen (len a3270.Vals)) 100) false) true :: .test (beqb (igt (nlen (len a3270.Vals)) 100) false) true :: .test (beqb (igt (nlen (len a3270.Vals)) 100) false) true :: .int (nlen (len a3270.Rest)) (nlen (len a3270.Rest)) :: .test (beqb (igt (nlen (len a3270.Vals)) 100) false) true :: .test (igt (nlen (len a3270.Vals)) 100) false :: l) := fun z => ⟨rfl, (beqb_ff (igt_eq h3271)), (beqb_ff (igt_eq h3271)), (beqb_ff (igt_eq h3271)), rfl, (beqb_ff (igt_eq h3271)), (igt_eq h3271), z⟩
  refine cond_some hF (fun h3272 hF => ?_) (fun h3272 hF => ?_)
  ·
    have hr := Option.some.inj hF
    subst hr
    have pz : HoldAll E H hn79 [.test (beqb (igt (nlen (len a3270.Rest)) 100) false) false, .test (beqb (igt (nlen (len a3270.Rest)) 100) false) false, .test (beqb (igt (nlen (len a3270.Rest)) 100) false) false, .test (beqb (igt (nlen (len a3270.Rest)) 100) false) false, .test (igt (nlen (len a3270.Rest)) 100) true] := ⟨(beqb_ft (igt_eq h3272)), (beqb_ft (igt_eq h3272)), (beqb_ft (igt_eq h3272)), (beqb_ft (igt_eq h3272)), (igt_eq h3272), trivial⟩
    exact fn_playC hn79 (f := 79) (ads := [.agg (eGPart a3270)]) (r := F79_res true) (pq3273 pz) (by kernel_rfl) (by kernel_rfl)
  have hr := Option.some.inj hF
  subst hr
  have pz : HoldAll E H hn79 [.test (beqb (igt (nlen (len a3270.Rest)) 100) false) true, .test (beqb (igt (nlen (len a3270.Rest)) 100) false) true, .test (beqb (igt (nlen (len a3270.Rest)) 100) false) true, .int (nlen (len a3270.In)) (nlen (len a3270.In)), .test (beqb (igt (nlen (len a3270.Rest)) 100) false) true, .test (igt (nlen (len a3270.Rest)) 100) false] := ⟨(beqb_ff (igt_eq h3272)), (beqb_ff (igt_eq h3272)), (beqb_ff (igt_eq h3272)), rfl, (beqb_ff (igt_eq h3272)), (igt_eq h3272), trivial⟩
  exact fn_playC hn79 (f := 79) (ads := [.agg (eGPart a3270)]) (r := F79_res (igt (nlen (len a3270.In)) 300)) (pq3273 pz) (by kernel_rfl) (by kernel_rfl)

/-! ### haywain/part.Right -/
noncomputable def hn80 : Hint := { H 80 with nt := 85, prot := 0 }
noncomputable def c80_0 : Code := loopOf E 80 0
def F80_res (r3325 : Bool) : Res := ⟨[(.one (.im (.lit (.bool r3325))))], []⟩
def F80_l0_0 (K : Nat) (a3278 : GGraph) (a3279 : GJob) (a3280 : GPart) : Nat → Int → Int → Option ((Unit) ⊕ (Unit))
  | 0, _, _ => none
  | k + 1, v3300, v3301 =>
    bif (ilt v3301 (nlen (len a3280.In))) then
      (bif (inr v3301 (len a3280.In)) then
      (elAt a3280.In v3301).bind fun x3304 =>
      bif (ile x3304.To v3300) then
        (some (.inl ()))
      else
      bif (ile a3278.N x3304.To) then
        (some (.inl ()))
      else
      bif (izero a3279.Parts) then none else
      bif (ieq (wrem x3304.To a3279.Parts) a3280.P) then
        (F80_l0_0 K a3278 a3279 a3280 k x3304.To (wadd .i64 v3301 1))
      else
      some (.inl ())
      else none)
    else
    some (.inr ())
def F80_l0_0_S (a3278 : GGraph) (a3279 : GJob) (a3280 : GPart) (v3300 : Int) (v3301 : Int) : TS := .on [192, 193, 194, 256, 257, 258, 259, 260, 320, 321, 322, 323, 324, 325, 512, 513, 3456, 3520, 3521, 3584, 3585, 3648, 3649] [(192, ⟨(.box 62 2), 0, nob⟩), (193, ⟨.im, 0, (.lit (.int .i64 a3278.N))⟩), (194, ⟨.im, 0, (.sl (len a3278.Edges) (flat eGEdge a3278.Edges))⟩), (256, ⟨(.box 64 4), 0, nob⟩), (257, ⟨.im, 0, (.lit (.int .i64 a3279.Prog))⟩), (258, ⟨.im, 0, (.lit (.int .i64 a3279.Source))⟩), (259, ⟨.im, 0, (.lit (.int .i64 a3279.Limit))⟩), (260, ⟨.im, 0, (.lit (.int .i64 a3279.Parts))⟩), (320, ⟨(.box 42 5), 0, nob⟩), (321, ⟨.im, 0, (.lit (.int .i64 a3280.P))⟩), (322, ⟨.im, 0, (.lit (.int .i64 a3280.Step))⟩), (323, ⟨.im, 0, (.sl (len a3280.Vals) (flat (eInt .i64) a3280.Vals))⟩), (324, ⟨.im, 0, (.sl (len a3280.Rest) (flat eBool a3280.Rest))⟩), (325, ⟨.im, 0, (.sl (len a3280.In) (flat eGMsg a3280.In))⟩), (512, ⟨.one, 0, nob⟩), (513, ⟨.im, 0, (.lit (.int .i64 v3300))⟩), (3456, ⟨(.ad 5 0 4), 0, nob⟩), (3520, ⟨.one, 0, nob⟩), (3521, ⟨.im, 0, (.sl (len a3280.In) (flat eGMsg a3280.In))⟩), (3584, ⟨.one, 0, nob⟩), (3585, ⟨.im, 0, (.lit (.int .i64 (nlen (len a3280.In))))⟩), (3648, ⟨.one, 0, nob⟩), (3649, ⟨.im, 0, (.lit (.int .i64 v3301))⟩)]
def F80_l0_0_X0 (a3278 : GGraph) (a3279 : GJob) (a3280 : GPart) (w3310 : Unit) : TS := .on [384, 385] [(384, ⟨.one, 0, nob⟩), (385, ⟨.im, 0, (.lit (.bool false))⟩)]
def F80_l0_0_X1 (a3278 : GGraph) (a3279 : GJob) (a3280 : GPart) (w3311 : Unit) : TS := .on [] []
theorem F80_l0_0_ok (K : Nat) (a3278 : GGraph) (a3279 : GJob) (a3280 : GPart) : ∀ (k : Nat) (v3300 : Int) (v3301 : Int) (r : (Unit) ⊕ (Unit)), F80_l0_0 K a3278 a3279 a3280 k v3300 v3301 = some r → (Sum.elim (fun w => LoopEv E H hn80 0 c80_0 (F80_l0_0_S a3278 a3279 a3280 v3300 v3301) .ret (F80_l0_0_X0 a3278 a3279 a3280 w)) (fun w => LoopEv E H hn80 0 c80_0 (F80_l0_0_S a3278 a3279 a3280 v3300 v3301) (.exit 0) (F80_l0_0_X1 a3278 a3279 a3280 w))) r := by
  intro k
  induction k with
  | zero => intro v3300 v3301 r hF; cases hF
  | succ k ih =>
    intro v3300 v3301 r hF
    rw [F80_l0_0] at hF
    refine cond_some hF (fun h3302 hF => ?_) (fun h3302 hF => ?_)
    ·
      refine cond_some hF (fun h3303 hF => ?_) (fun _ hF => nomatch hF)
      refine bind_some hF (fun x3304 h3305 hF => ?_)
      have pq3312 : ∀ {l : List Cond}, HoldAll E H hn80 l → HoldAll E H hn80 (.test (ilt v3301 (nlen (len a3280.In))) true :: .test (inr v3301 (len a3280.In)) true :: .sub (flat eGMsg a3280.In) (nidx v3301 2) 2 [(.lit (.int .i64 x3304.To)), (.lit (.int .i64 x3304.V))] :: l) := fun z => ⟨h3302, h3303, ⟨rfl, sub_flat0 eGMsg_len h3305 2 (by decide)⟩, z⟩
      refine cond_some hF (fun h3306 hF => ?_) (fun h3306 hF => ?_)
      ·
        have hr := Option.some.inj hF
        subst hr
        have pz : HoldAll E H hn80 [.test (beqb (ile x3304.To v3300) false) false, .test (beqb (ile x3304.To v3300) false) false, .test (beqb (ile x3304.To v3300) false) false, .test (beqb (ile x3304.To v3300) false) false, .test (beqb (ile x3304.To v3300) false) false, .test (ile x3304.To v3300) true, .test (beqb true false) false, .test (beqb true false) false, .test (beqb true false) false, .test (beqb true false) false, .test (beqb true false) false, .test (beqb true false) false, .test (beqb true false) false, .test (beqb true false) false, .test true true, .test true true] := ⟨(beqb_ft h3306), (beqb_ft h3306), (beqb_ft h3306), (beqb_ft h3306), (beqb_ft h3306), h3306, (beqb_ft rfl), (beqb_ft rfl), (beqb_ft rfl), (beqb_ft rfl), (beqb_ft rfl), (beqb_ft rfl), (beqb_ft rfl), (beqb_ft rfl), rfl, rfl, trivial⟩
        exact loop_endC (h := hn80) (l := 0) (c := c80_0) (ts := F80_l0_0_S a3278 a3279 a3280 v3300 v3301) (ts' := F80_l0_0_X0 a3278 a3279 a3280 ()) (ex := .ret) (pq3312 pz) (by kernel_rfl) trivial
      have pq3313 : ∀ {l : List Cond}, HoldAll E H hn80 l → HoldAll E H hn80 (.test (beqb (ile x3304.To v3300) false) true :: .test (beqb (ile x3304.To v3300) false) true :: .test (beqb (ile x3304.To v3300) false) true :: .test (beqb (ile x3304.To v3300) false) true :: .test (beqb (ile x3304.To v3300) false) true :: .test (ile x3304.To v3300) false :: l) := fun z => ⟨(beqb_ff h3306), (beqb_ff h3306), (beqb_ff h3306), (beqb_ff h3306), (beqb_ff h3306), h3306, z⟩
      refine cond_some hF (fun h3307 hF => ?_) (fun h3307 hF => ?_)
      ·
        have hr := Option.some.inj hF
        subst hr
        have pz : HoldAll E H hn80 [.test (beqb (ige x3304.To a3278.N) false) false, .test (beqb (ige x3304.To a3278.N) false) false, .test (beqb (ige x3304.To a3278.N) false) false, .test (beqb (ige x3304.To a3278.N) false) false, .test (beqb (ige x3304.To a3278.N) false) false, .test (beqb (ige x3304.To a3278.N) false) false, .test (beqb (ige x3304.To a3278.N) false) false, .test (beqb (ige x3304.To a3278.N) false) false, .test (ige x3304.To a3278.N) true, .test true true] := ⟨(beqb_ft (ige_eq h3307)), (beqb_ft (ige_eq h3307)), (beqb_ft (ige_eq h3307)), (beqb_ft (ige_eq h3307)), (beqb_ft (ige_eq h3307)), (beqb_ft (ige_eq h3307)), (beqb_ft (ige_eq h3307)), (beqb_ft (ige_eq h3307)), (ige_eq h3307), rfl, trivial⟩
        exact loop_endC (h := hn80) (l := 0) (c := c80_0) (ts := F80_l0_0_S a3278 a3279 a3280 v3300 v3301) (ts' := F80_l0_0_X0 a3278 a3279 a3280 ()) (ex := .ret) (pq3312 (pq3313 pz)) (by kernel_rfl) trivial
      refine cond_some hF (fun _ hF => nomatch hF) (fun h3308 hF => ?_)
      have pq3314 : ∀ {l : List Cond}, HoldAll E H hn80 l → HoldAll E H hn80 (.test (beqb (ige x3304.To a3278.N) false) true :: .test (beqb (ige x3304.To a3278.N) false) true :: .test (beqb (ige x3304.To a3278.N) false) true :: .test (beqb (ige x3304.To a3278.N) false) true :: .test (beqb (ige x3304.To a3278.N) false) true :: .test (izero a3279.Parts) false :: .int (wrem x3304.To a3279.Parts) (wrem x3304.To a3279.Parts) :: .test (beqb (ige x3304.To a3278.N) false) true :: .test (beqb (ige x3304.To a3278.N) false) true :: .test (beqb (ige x3304.To a3278.N) false) true :: .test (ige x3304.To a3278.N) false :: l) := fun z => ⟨(beqb_ff (ige_eq h3307)), (beqb_ff (ige_eq h3307)), (beqb_ff (ige_eq h3307)), (beqb_ff (ige_eq h3307)), (beqb_ff (ige_eq h3307)), h3308, rfl, (beqb_ff (ige_eq h3307)), (beqb_ff (ige_eq h3307)), (beqb_ff (ige_eq h3307)), (ige_eq h3307), z⟩
      refine cond_some hF (fun h3309 hF => ?_) (fun h3309 hF => ?_)
      ·
        have pz : HoldAll E H hn80 [.test (ine (wrem x3304.To a3279.Parts) a3280.P) false, .int (wadd .i64 v3301 1) (wadd .i64 v3301 1)] := ⟨(ine_t h3309), rfl, trivial⟩
        have h0 := ih _ _ _ hF
        have hn := fun ex ts' => loop_nextC (h := hn80) (l := 0) (c := c80_0) (ts := F80_l0_0_S a3278 a3279 a3280 v3300 v3301) (ts1 := (F80_l0_0_S a3278 a3279 a3280 x3304.To (wadd .i64 v3301 1))) (ex := ex) (ts' := ts') (pq3312 (pq3313 (pq3314 pz))) (by kernel_rfl)
        cases r with
        | inl w => exact hn _ _ h0
        | inr w => exact hn _ _ h0
      have hr := Option.some.inj hF
      subst hr
      have pz : HoldAll E H hn80 [.test (ine (wrem x3304.To a3279.Parts) a3280.P) true] := ⟨(ine_f h3309), trivial⟩
      exact loop_endC (h := hn80) (l := 0) (c := c80_0) (ts := F80_l0_0_S a3278 a3279 a3280 v3300 v3301) (ts' := F80_l0_0_X0 a3278 a3279 a3280 ()) (ex := .ret) (pq3312 (pq3313 (pq3314 pz))) (by kernel_rfl) trivial
    have hr := Option.some.inj hF
    subst hr
    have pz : HoldAll E H hn80 [.test (ilt v3301 (nlen (len a3280.In))) false] := ⟨h3302, trivial⟩
    exact loop_endC (h := hn80) (l := 0) (c := c80_0) (ts := F80_l0_0_S a3278 a3279 a3280 v3300 v3301) (ts' := F80_l0_0_X1 a3278 a3279 a3280 ()) (ex := (.exit 0)) pz (by kernel_rfl) trivial

def F80 (K : Nat) (a3278 : GGraph) (a3279 : GJob) (a3280 : GPart) : Option (Bool) :=
  (F94 K a3278 a3279).bind fun r3281 =>
  bif (ieq r3281 0) then
    (bif (ilt a3280.P 0) then
      (some false)
    else
    bif (ile a3279.Parts a3280.P) then
      (some false)
    else
    bif (ilt a3280.Step 0) then
      (some false)
    else
    bif (ilt 40 a3280.Step) then
      (some false)
    else
    (F77 K a3278 a3279 a3280.P).bind fun r3288 =>
    bif (ieq (nlen (len a3280.Vals)) r3288) then
      (bif (ieq (nlen (len a3280.Rest)) r3288) then
        ((F80_l0_0 K a3278 a3279 a3280 K (-1) 0).bind fun y3316 =>
        Sum.elim (fun w3317 =>
          some false)
          (fun w3318 =>
          some true) y3316)
      else
      some false)
    else
    some false)
  else
  some false
theorem F80_ok (K : Nat) (a3278 : GGraph) (a3279 : GJob) (a3280 : GPart) (r : Bool) (hF : F80 K a3278 a3279 a3280 = some r) : Evt E H 80 [.agg (eGGraph a3278), .agg (eGJob a3279), .agg (eGPart a3280)] (F80_res r) := by
  rw [F80] at hF
  refine bind_some hF (fun r3281 h3282 hF => ?_)
  refine cond_some hF (fun h3283 hF => ?_) (fun h3283 hF => ?_)
  ·
    have pq3319 : ∀ {l : List Cond}, HoldAll E H hn80 l → HoldAll E H hn80 (.call 94 [.agg (eGGraph a3278), .agg (eGJob a3279)] (F94_res r3281) :: .test (leadsAny (Res.mk [(.one (.im (.lit (.int .i64 r3281))))] [])) false :: .test (beqb (ine r3281 0) false) true :: .test (beqb (ine r3281 0) false) true :: .test (beqb (ine r3281 0) false) true :: .test (ine r3281 0) false :: l) := fun z => ⟨(F94_ok K a3278 a3279 _ h3282), (leads_ok (by simp only [leadsAny, List.any_cons, List.any_nil, RV.leads, RC.leads, leadsT, hasSl_lit, Bool.or_false, flat_ns (eInt_ns _), flat_ns eBool_ns, flat_ns eStr_ns, flat_ns eGJob_ns, flat_ns eGEdge_ns, flat_ns eGAsked_ns, flat_ns eGMsg_ns, flat_ns eGrule_ns, flat_ns eGA199_ns, flat_ns eGA202_ns])), (beqb_ff (ine_t h3283)), (beqb_ff (ine_t h3283)), (beqb_ff (ine_t h3283)), (ine_t h3283), z⟩
    refine cond_some hF (fun h3284 hF => ?_) (fun h3284 hF => ?_)
    ·
      have hr := Option.some.inj hF
      subst hr
      have pz : HoldAll E H hn80 [.test (beqb (ilt a3280.P 0) false) false, .test (beqb (ilt a3280.P 0) false) false, .test (beqb (ilt a3280.P 0) false) false, .test (beqb (ilt a3280.P 0) false) false, .test (beqb (ilt a3280.P 0) false) false, .test (ilt a3280.P 0) true, .test (beqb true false) false, .test (beqb true false) false, .test (beqb true false) false, .test true true, .test (beqb true false) false, .test (beqb true false) false, .test (beqb true false) false, .test true true, .test true true] := ⟨(beqb_ft h3284), (beqb_ft h3284), (beqb_ft h3284), (beqb_ft h3284), (beqb_ft h3284), h3284, (beqb_ft rfl), (beqb_ft rfl), (beqb_ft rfl), rfl, (beqb_ft rfl), (beqb_ft rfl), (beqb_ft rfl), rfl, rfl, trivial⟩
      exact fn_playC hn80 (f := 80) (ads := [.agg (eGGraph a3278), .agg (eGJob a3279), .agg (eGPart a3280)]) (r := F80_res false) (pq3319 pz) (by kernel_rfl) (by kernel_rfl)
    have pq3320 : ∀ {l : List Cond}, HoldAll E H hn80 l → HoldAll E H hn80 (.test (beqb (ilt a3280.P 0) false) true :: .test (beqb (ilt a3280.P 0) false) true :: .test (beqb (ilt a3280.P 0) false) true :: .test (beqb (ilt a3280.P 0) false) true :: .test (beqb (ilt a3280.P 0) false) true :: .test (ilt a3280.P 0) false :: l) := fun z => ⟨(beqb_ff h3284), (beqb_ff h3284), (beqb_ff h3284), (beqb_ff h3284), (beqb_ff h3284), h3284, z⟩
    refine cond_some hF (fun h3285 hF => ?_) (fun h3285 hF => ?_)
    ·
      have hr := Option.some.inj hF
      subst hr
      have pz : HoldAll E H hn80 [.test (beqb (ige a3280.P a3279.Parts) false) false, .test (beqb (ige a3280.P a3279.Parts) false) false, .test (beqb (ige a3280.P a3279.Parts) false) false, .test (ige a3280.P a3279.Parts) true, .test (beqb true false) false, .test (beqb true false) false, .test (beqb true false) false, .test true true, .test true true] := ⟨(beqb_ft (ige_eq h3285)), (beqb_ft (ige_eq h3285)), (beqb_ft (ige_eq h3285)), (ige_eq h3285), (beqb_ft rfl), (beqb_ft rfl), (beqb_ft rfl), rfl, rfl, trivial⟩
      exact fn_playC hn80 (f := 80) (ads := [.agg (eGGraph a3278), .agg (eGJob a3279), .agg (eGPart a3280)]) (r := F80_res false) (pq3319 (pq3320 pz)) (by kernel_rfl) (by kernel_rfl)
    have pq3321 : ∀ {l : List Cond}, HoldAll E H hn80 l → HoldAll E H hn80 (.test (beqb (ige a3280.P a3279.Parts) false) true :: .test (beqb (ige a3280.P a3279.Parts) false) true :: .test (beqb (ige a3280.P a3279.Parts) false) true :: .test (ige a3280.P a3279.Parts) false :: l) := fun z => ⟨(beqb_ff (ige_eq h3285)), (beqb_ff (ige_eq h3285)), (beqb_ff (ige_eq h3285)), (ige_eq h3285), z⟩
    refine cond_some hF (fun h3286 hF => ?_) (fun h3286 hF => ?_)
    ·
      have hr := Option.some.inj hF
      subst hr
      have pz : HoldAll E H hn80 [.test (beqb (ilt a3280.Step 0) false) false, .test (beqb (ilt a3280.Step 0) false) false, .test (beqb (ilt a3280.Step 0) false) false, .test (ilt a3280.Step 0) true, .test true true] := ⟨(beqb_ft h3286), (beqb_ft h3286), (beqb_ft h3286), h3286, rfl, trivial⟩
      exact fn_playC hn80 (f := 80) (ads := [.agg (eGGraph a3278), .agg (eGJob a3279), .agg (eGPart a3280)]) (r := F80_res false) (pq3319 (pq3320 (pq3321 pz))) (by kernel_rfl) (by kernel_rfl)
    have pq3322 : ∀ {l : List Cond}, HoldAll E H hn80 l → HoldAll E H hn80 (.test (beqb (ilt a3280.Step 0) false) true :: .test (beqb (ilt a3280.Step 0) false) true :: .test (beqb (ilt a3280.Step 0) false) true :: .test (ilt a3280.Step 0) false :: l) := fun z => ⟨(beqb_ff h3286), (beqb_ff h3286), (beqb_ff h3286), h3286, z⟩
    refine cond_some hF (fun h3287 hF => ?_) (fun h3287 hF => ?_)
    ·
      have hr := Option.some.inj hF
      subst hr
      have pz : HoldAll E H hn80 [.test (igt a3280.Step 40) true] := ⟨(igt_eq h3287), trivial⟩
      exact fn_playC hn80 (f := 80) (ads := [.agg (eGGraph a3278), .agg (eGJob a3279), .agg (eGPart a3280)]) (r := F80_res false) (pq3319 (pq3320 (pq3321 (pq3322 pz)))) (by kernel_rfl) (by kernel_rfl)
    refine bind_some hF (fun r3288 h3289 hF => ?_)
    have pq3323 : ∀ {l : List Cond}, HoldAll E H hn80 l → HoldAll E H hn80 (.test (igt a3280.Step 40) false :: .call 77 [.agg (eGGraph a3278), .agg (eGJob a3279), .one (.lit (.int .i64 a3280.P))] (F77_res r3288) :: .test (leadsAny (Res.mk [(.one (.im (.lit (.int .i64 r3288))))] [])) false :: .int (nlen (len a3280.Vals)) (nlen (len a3280.Vals)) :: l) := fun z => ⟨(igt_eq h3287), (F77_ok K a3278 a3279 a3280.P _ h3289), (leads_ok (by simp only [leadsAny, List.any_cons, List.any_nil, RV.leads, RC.leads, leadsT, hasSl_lit, Bool.or_false, flat_ns (eInt_ns _), flat_ns eBool_ns, flat_ns eStr_ns, flat_ns eGJob_ns, flat_ns eGEdge_ns, flat_ns eGAsked_ns, flat_ns eGMsg_ns, flat_ns eGrule_ns, flat_ns eGA199_ns, flat_ns eGA202_ns])), rfl, z⟩
    refine cond_some hF (fun h3290 hF => ?_) (fun h3290 hF => ?_)
    ·
      have pq3324 : ∀ {l : List Cond}, HoldAll E H hn80 l → HoldAll E H hn80 (.test (beqb (ine (nlen (len a3280.Vals)) r3288) false) true :: .test (beqb (ine (nlen (len a3280.Vals)) r3288) false) true :: .test (beqb (ine (nlen (len a3280.Vals)) r3288) false) true :: .int (nlen (len a3280.Rest)) (nlen (len a3280.Rest)) :: .test (beqb (ine (nlen (len a3280.Vals)) r3288) false) true :: .test (beqb (ine (nlen (len a3280.Vals)) r3288) false) true :: .test (ine (nlen (len a3280.Vals)) r3288) false :: l) := fun z => ⟨(beqb_ff (ine_t h3290)), (beqb_ff (ine_t h3290)), (beqb_ff (ine_t h3290)), rfl, (beqb_ff (ine_t h3290)), (beqb_ff (ine_t h3290)), (ine_t h3290), z⟩
      refine cond_some hF (fun h3291 hF => ?_) (fun h3291 hF => ?_)
      ·
        refine bind_some hF (fun y3316 h3315 hF => ?_)
        refine sum_some hF (fun w3317 hx hF => ?_) (fun w3318 hx hF => ?_)
        ·
          subst hx
          have hr := Option.some.inj hF
          subst hr
          have pz : HoldAll E H hn80 [.test (ine (nlen (len a3280.Rest)) r3288) false, .int (nlen (len a3280.In)) (nlen (len a3280.In)), .loop 0 c80_0 (F80_l0_0_S a3278 a3279 a3280 (-1) 0) .ret (F80_l0_0_X0 a3278 a3279 a3280 w3317)] := ⟨(ine_t h3291), rfl, (F80_l0_0_ok K a3278 a3279 a3280 K (-1) 0 _ h3315), trivial⟩
          exact fn_playC hn80 (f := 80) (ads := [.agg (eGGraph a3278), .agg (eGJob a3279), .agg (eGPart a3280)]) (r := F80_res false) (pq3319 (pq3320 (pq3321 (pq3322 (pq3323 (pq3324 pz)))))) (by kernel_rfl) (by kernel_rfl)
        subst hx
        have hr := Option.some.inj hF
        subst hr
        have pz : HoldAll E H hn80 [.test (ine (nlen (len a3280.Rest)) r3288) false, .int (nlen (len a3280.In)) (nlen (len a3280.In)), .loop 0 c80_0 (F80_l0_0_S a3278 a3279 a3280 (-1) 0) (.exit 0) (F80_l0_0_X1 a3278 a3279 a3280 w3318)] := ⟨(ine_t h3291), rfl, (F80_l0_0_ok K a3278 a3279 a3280 K (-1) 0 _ h3315), trivial⟩
        exact fn_playC hn80 (f := 80) (ads := [.agg (eGGraph a3278), .agg (eGJob a3279), .agg (eGPart a3280)]) (r := F80_res true) (pq3319 (pq3320 (pq3321 (pq3322 (pq3323 (pq3324 pz)))))) (by kernel_rfl) (by kernel_rfl)
      have hr := Option.some.inj hF
      subst hr
      have pz : HoldAll E H hn80 [.test (ine (nlen (len a3280.Rest)) r3288) true] := ⟨(ine_f h3291), trivial⟩
      exact fn_playC hn80 (f := 80) (ads := [.agg (eGGraph a3278), .agg (eGJob a3279), .agg (eGPart a3280)]) (r := F80_res false) (pq3319 (pq3320 (pq3321 (pq3322 (pq3323 (pq3324 pz)))))) (by kernel_rfl) (by kernel_rfl)
    have hr := Option.some.inj hF
    subst hr
    have pz : HoldAll E H hn80 [.test (beqb (ine (nlen (len a3280.Vals)) r3288) false) false, .test (beqb (ine (nlen (len a3280.Vals)) r3288) false) false, .test (beqb (ine (nlen (len a3280.Vals)) r3288) false) false, .test (beqb (ine (nlen (len a3280.Vals)) r3288) false) false, .test (beqb (ine (nlen (len a3280.Vals)) r3288) false) false, .test (ine (nlen (len a3280.Vals)) r3288) true, .test true true] := ⟨(beqb_ft (ine_f h3290)), (beqb_ft (ine_f h3290)), (beqb_ft (ine_f h3290)), (beqb_ft (ine_f h3290)), (beqb_ft (ine_f h3290)), (ine_f h3290), rfl, trivial⟩
    exact fn_playC hn80 (f := 80) (ads := [.agg (eGGraph a3278), .agg (eGJob a3279), .agg (eGPart a3280)]) (r := F80_res false) (pq3319 (pq3320 (pq3321 (pq3322 (pq3323 pz))))) (by kernel_rfl) (by kernel_rfl)
  have hr := Option.some.inj hF
  subst hr
  have pz : HoldAll E H hn80 [.call 94 [.agg (eGGraph a3278), .agg (eGJob a3279)] (F94_res r3281), .test (leadsAny (Res.mk [(.one (.im (.lit (.int .i64 r3281))))] [])) false, .test (beqb (ine r3281 0) false) false, .test (beqb (ine r3281 0) false) false, .test (beqb (ine r3281 0) false) false, .test (ine r3281 0) true, .test (beqb true false) false, .test (beqb true false) false, .test (beqb true false) false, .test (beqb true false) false, .test (beqb true false) false, .test true true, .test (beqb true false) false, .test (beqb true false) false, .test (beqb true false) false, .test true true, .test (beqb true false) false, .test (beqb true false) false, .test (beqb true false) false, .test true true, .test true true] := ⟨(F94_ok K a3278 a3279 _ h3282), (leads_ok (by simp only [leadsAny, List.any_cons, List.any_nil, RV.leads, RC.leads, leadsT, hasSl_lit, Bool.or_false, flat_ns (eInt_ns _), flat_ns eBool_ns, flat_ns eStr_ns, flat_ns eGJob_ns, flat_ns eGEdge_ns, flat_ns eGAsked_ns, flat_ns eGMsg_ns, flat_ns eGrule_ns, flat_ns eGA199_ns, flat_ns eGA202_ns])), (beqb_ft (ine_f h3283)), (beqb_ft (ine_f h3283)), (beqb_ft (ine_f h3283)), (ine_f h3283), (beqb_ft rfl), (beqb_ft rfl), (beqb_ft rfl), (beqb_ft rfl), (beqb_ft rfl), rfl, (beqb_ft rfl), (beqb_ft rfl), (beqb_ft rfl), rfl, (beqb_ft rfl), (beqb_ft rfl), (beqb_ft rfl), rfl, rfl, trivial⟩
  exact fn_playC hn80 (f := 80) (ads := [.agg (eGGraph a3278), .agg (eGJob a3279), .agg (eGPart a3280)]) (r := F80_res false) pz (by kernel_rfl) (by kernel_rfl)

/-! ### haywain/haywainref07.Right -/
noncomputable def hn81 : Hint := { H 81 with nt := 102, prot := 0 }
noncomputable def c81_0 : Code := loopOf E 81 0
noncomputable def c81_1 : Code := loopOf E 81 1
def F81_res (r3407 : Bool) : Res := ⟨[(.one (.im (.lit (.bool r3407))))], []⟩
def F81_l1_1 (K : Nat) (a3330 : GPart) (r3338 : List Int) (v3364 : Int) (x3367 : GMsg) : Nat → Bool → Int → Option (Bool)
  | 0, _, _ => none
  | k + 1, v3373, v3374 =>
    bif (ilt v3374 (nlen (len r3338))) then
      (bif v3373 then
        (F81_l1_1 K a3330 r3338 v3364 x3367 k true (wadd .i64 v3374 1))
      else
      bif (inr v3374 (len r3338)) then
      (elAt r3338 v3374).bind fun x3378 =>
      F81_l1_1 K a3330 r3338 v3364 x3367 k (ieq x3378 x3367.To) (wadd .i64 v3374 1)
      else none)
    else
    some v3373
def F81_l1_1_S (a3330 : GPart) (r3338 : List Int) (v3364 : Int) (x3367 : GMsg) (v3373 : Bool) (v3374 : Int) : TS := .on [320, 321, 322, 323, 324, 325, 448, 449, 512, 513, 576, 577, 640, 641, 704, 705] [(320, ⟨(.box 42 5), 0, nob⟩), (321, ⟨.im, 0, (.lit (.int .i64 a3330.P))⟩), (322, ⟨.im, 0, (.lit (.int .i64 a3330.Step))⟩), (323, ⟨.im, 0, (.sl (len a3330.Vals) (flat (eInt .i64) a3330.Vals))⟩), (324, ⟨.im, 0, (.sl (len a3330.Rest) (flat eBool a3330.Rest))⟩), (325, ⟨.im, 0, (.sl (len a3330.In) (flat eGMsg a3330.In))⟩), (448, ⟨.one, 0, nob⟩), (449, ⟨(.own 3), 0, (.sl (len r3338) (flat (eInt .i64) r3338))⟩), (512, ⟨.one, 0, nob⟩), (513, ⟨.im, 0, (.lit (.int .i64 v3364))⟩), (576, ⟨.one, 0, nob⟩), (577, ⟨.im, 0, (.lit (.int .i64 x3367.To))⟩), (640, ⟨.one, 0, nob⟩), (641, ⟨.im, 0, (.lit (.bool v3373))⟩), (704, ⟨.one, 0, nob⟩), (705, ⟨.im, 0, (.lit (.int .i64 v3374))⟩)]
def F81_l1_1_X0 (a3330 : GPart) (r3338 : List Int) (v3364 : Int) (x3367 : GMsg) (w3380 : Bool) : TS := .on [320, 321, 322, 323, 324, 325, 448, 449, 512, 513, 576, 577, 640, 641] [(320, ⟨(.box 42 5), 0, nob⟩), (321, ⟨.im, 0, (.lit (.int .i64 a3330.P))⟩), (322, ⟨.im, 0, (.lit (.int .i64 a3330.Step))⟩), (323, ⟨.im, 0, (.sl (len a3330.Vals) (flat (eInt .i64) a3330.Vals))⟩), (324, ⟨.im, 0, (.sl (len a3330.Rest) (flat eBool a3330.Rest))⟩), (325, ⟨.im, 0, (.sl (len a3330.In) (flat eGMsg a3330.In))⟩), (448, ⟨.one, 0, nob⟩), (449, ⟨(.own 3), 0, (.sl (len r3338) (flat (eInt .i64) r3338))⟩), (512, ⟨.one, 0, nob⟩), (513, ⟨.im, 0, (.lit (.int .i64 v3364))⟩), (576, ⟨.one, 0, nob⟩), (577, ⟨.im, 0, (.lit (.int .i64 x3367.To))⟩), (640, ⟨.one, 0, nob⟩), (641, ⟨.im, 0, (.lit (.bool w3380))⟩)]
theorem F81_l1_1_ok (K : Nat) (a3330 : GPart) (r3338 : List Int) (v3364 : Int) (x3367 : GMsg) : ∀ (k : Nat) (v3373 : Bool) (v3374 : Int) (r : Bool), F81_l1_1 K a3330 r3338 v3364 x3367 k v3373 v3374 = some r → LoopEv E H hn81 2 c81_1 (F81_l1_1_S a3330 r3338 v3364 x3367 v3373 v3374) (.exit 2) (F81_l1_1_X0 a3330 r3338 v3364 x3367 r) := by
  intro k
  induction k with
  | zero => intro v3373 v3374 r hF; cases hF
  | succ k ih =>
    intro v3373 v3374 r hF
    rw [F81_l1_1] at hF
    refine cond_some hF (fun h3375 hF => ?_) (fun h3375 hF => ?_)
    ·
      refine cond_some hF (fun h3376 hF => ?_) (fun h3376 hF => ?_)
      ·
        have pz : HoldAll E H hn81 [.int (nlen (len r3338)) (nlen (len r3338)), .test (ilt v3374 (nlen (len r3338))) true, .test (beqb v3373 false) false, .test (beqb v3373 false) false, .test (beqb v3373 false) false, .test (beqb v3373 false) false, .test (beqb v3373 false) false, .test (beqb v3373 false) false, .test v3373 true, .int (wadd .i64 v3374 1) (wadd .i64 v3374 1)] := ⟨rfl, h3375, (beqb_ft h3376), (beqb_ft h3376), (beqb_ft h3376), (beqb_ft h3376), (beqb_ft h3376), (beqb_ft h3376), h3376, rfl, trivial⟩
        have h0 := ih _ _ _ hF
        have hn := fun ex ts' => loop_nextC (h := hn81) (l := 2) (c := c81_1) (ts := F81_l1_1_S a3330 r3338 v3364 x3367 v3373 v3374) (ts1 := (F81_l1_1_S a3330 r3338 v3364 x3367 true (wadd .i64 v3374 1))) (ex := ex) (ts' := ts') pz (by kernel_rfl)
        exact hn _ _ h0
      refine cond_some hF (fun h3377 hF => ?_) (fun _ hF => nomatch hF)
      refine bind_some hF (fun x3378 h3379 hF => ?_)
      have pz : HoldAll E H hn81 [.int (nlen (len r3338)) (nlen (len r3338)), .test (ilt v3374 (nlen (len r3338))) true, .test (beqb v3373 false) true, .test (beqb v3373 false) true, .test (beqb v3373 false) true, .test (inr v3374 (len r3338)) true, .test (beqb v3373 false) true, .sub (flat (eInt .i64) r3338) (nidx v3374 1) 1 [(.lit (.int .i64 x3378))], .test (beqb v3373 false) true, .test (beqb v3373 false) true, .test v3373 false, .int (wadd .i64 v3374 1) (wadd .i64 v3374 1)] := ⟨rfl, h3375, (beqb_ff h3376), (beqb_ff h3376), (beqb_ff h3376), h3377, (beqb_ff h3376), ⟨rfl, sub_flat0 (eInt_len _) h3379 1 (by decide)⟩, (beqb_ff h3376), (beqb_ff h3376), h3376, rfl, trivial⟩
      have h0 := ih _ _ _ hF
      have hn := fun ex ts' => loop_nextC (h := hn81) (l := 2) (c := c81_1) (ts := F81_l1_1_S a3330 r3338 v3364 x3367 v3373 v3374) (ts1 := (F81_l1_1_S a3330 r3338 v3364 x3367 (ieq x3378 x3367.To) (wadd .i64 v3374 1))) (ex := ex) (ts' := ts') pz (by kernel_rfl)
      exact hn _ _ h0
    have hr := Option.some.inj hF
    subst hr
    have pz : HoldAll E H hn81 [.int (nlen (len r3338)) (nlen (len r3338)), .test (ilt v3374 (nlen (len r3338))) false] := ⟨rfl, h3375, trivial⟩
    exact loop_endC (h := hn81) (l := 2) (c := c81_1) (ts := F81_l1_1_S a3330 r3338 v3364 x3367 v3373 v3374) (ts' := F81_l1_1_X0 a3330 r3338 v3364 x3367 v3373) (ex := (.exit 2)) pz (by kernel_rfl) trivial

def F81_l0_0 (K : Nat) (a3330 : GPart) (r3338 : List Int) : Nat → Int → Option ((Unit) ⊕ (Unit))
  | 0, _ => none
  | k + 1, v3364 =>
    bif (ilt v3364 (nlen (len a3330.In))) then
      (bif (inr v3364 (len a3330.In)) then
      (elAt a3330.In v3364).bind fun x3367 =>
      (F81_l1_1 K a3330 r3338 v3364 x3367 K false 0).bind fun w3384 =>
      bif w3384 then
        (bif (ilt 0 v3364) then
          (bif (inr (wsub .i64 v3364 1) (len a3330.In)) then
          (elAt a3330.In (wsub .i64 v3364 1)).bind fun x3389 =>
          bif (ile x3367.To x3389.To) then
            (some (.inl ()))
          else
          F81_l0_0 K a3330 r3338 k (wadd .i64 v3364 1)
          else none)
        else
        F81_l0_0 K a3330 r3338 k (wadd .i64 v3364 1))
      else
      some (.inl ())
      else none)
    else
    some (.inr ())
def F81_l0_0_S (a3330 : GPart) (r3338 : List Int) (v3364 : Int) : TS := .on [320, 321, 322, 323, 324, 325, 448, 449, 512, 513] [(320, ⟨(.box 42 5), 0, nob⟩), (321, ⟨.im, 0, (.lit (.int .i64 a3330.P))⟩), (322, ⟨.im, 0, (.lit (.int .i64 a3330.Step))⟩), (323, ⟨.im, 0, (.sl (len a3330.Vals) (flat (eInt .i64) a3330.Vals))⟩), (324, ⟨.im, 0, (.sl (len a3330.Rest) (flat eBool a3330.Rest))⟩), (325, ⟨.im, 0, (.sl (len a3330.In) (flat eGMsg a3330.In))⟩), (448, ⟨.one, 0, nob⟩), (449, ⟨(.own 3), 0, (.sl (len r3338) (flat (eInt .i64) r3338))⟩), (512, ⟨.one, 0, nob⟩), (513, ⟨.im, 0, (.lit (.int .i64 v3364))⟩)]
def F81_l0_0_X0 (a3330 : GPart) (r3338 : List Int) (w3392 : Unit) : TS := .on [384, 385] [(384, ⟨.one, 0, nob⟩), (385, ⟨.im, 0, (.lit (.bool false))⟩)]
def F81_l0_0_X1 (a3330 : GPart) (r3338 : List Int) (w3393 : Unit) : TS := .on [] []
theorem F81_l0_0_ok (K : Nat) (a3330 : GPart) (r3338 : List Int) : ∀ (k : Nat) (v3364 : Int) (r : (Unit) ⊕ (Unit)), F81_l0_0 K a3330 r3338 k v3364 = some r → (Sum.elim (fun w => LoopEv E H hn81 0 c81_0 (F81_l0_0_S a3330 r3338 v3364) .ret (F81_l0_0_X0 a3330 r3338 w)) (fun w => LoopEv E H hn81 0 c81_0 (F81_l0_0_S a3330 r3338 v3364) (.exit 0) (F81_l0_0_X1 a3330 r3338 w))) r := by
  intro k
  induction k with
  | zero => intro v3364 r hF; cases hF
  | succ k ih =>
    intro v3364 r hF
    rw [F81_l0_0] at hF
    refine cond_some hF (fun h3365 hF => ?_) (fun h3365 hF => ?_)
    ·
      refine cond_some hF (fun h3366 hF => ?_) (fun _ hF => nomatch hF)
      refine bind_some hF (fun x3367 h3368 hF => ?_)
      refine bind_some hF (fun w3384 h3382 hF => ?_)
      have pq3394 : ∀ {l : List Cond}, HoldAll E H hn81 l → HoldAll E H hn81 (.int (nlen (len a3330.In)) (nlen (len a3330.In)) :: .test (ilt v3364 (nlen (len a3330.In))) true :: .test (inr v3364 (len a3330.In)) true :: .sub (flat eGMsg a3330.In) (nadd (nidx v3364 2) 0) 1 [(.lit (.int .i64 x3367.To))] :: .loop 2 c81_1 (F81_l1_1_S a3330 r3338 v3364 x3367 false 0) (.exit 2) (F81_l1_1_X0 a3330 r3338 v3364 x3367 w3384) :: l) := fun z => ⟨rfl, h3365, h3366, ⟨rfl, sub_flat eGMsg_len h3368 0 1 (by decide)⟩, (F81_l1_1_ok K a3330 r3338 v3364 x3367 K false 0 _ h3382), z⟩
      refine cond_some hF (fun h3386 hF => ?_) (fun h3386 hF => ?_)
      ·
        have pq3395 : ∀ {l : List Cond}, HoldAll E H hn81 l → HoldAll E H hn81 (.test (beqb (bnot w3384) false) true :: .test (beqb (bnot w3384) false) true :: .test (beqb (bnot w3384) false) true :: l) := fun z => ⟨(beqb_ff (bnot_t h3386)), (beqb_ff (bnot_t h3386)), (beqb_ff (bnot_t h3386)), z⟩
        refine cond_some hF (fun h3387 hF => ?_) (fun h3387 hF => ?_)
        ·
          refine cond_some hF (fun h3388 hF => ?_) (fun _ hF => nomatch hF)
          refine bind_some hF (fun x3389 h3390 hF => ?_)
          have pq3396 : ∀ {l : List Cond}, HoldAll E H hn81 l → HoldAll E H hn81 (.test (beqb (igt v3364 0) true) true :: .test (beqb (igt v3364 0) true) true :: .test (beqb (igt v3364 0) true) true :: .test (beqb (igt v3364 0) true) true :: .int (wsub .i64 v3364 1) (wsub .i64 v3364 1) :: .test (beqb (igt v3364 0) true) true :: .test (inr (wsub .i64 v3364 1) (len a3330.In)) true :: .test (beqb (igt v3364 0) true) true :: .test (beqb (igt v3364 0) true) true :: .sub (flat eGMsg a3330.In) (nadd (nidx (wsub .i64 v3364 1) 2) 0) 1 [(.lit (.int .i64 x3389.To))] :: .test (beqb (igt v3364 0) true) true :: .test (beqb (igt v3364 0) true) true :: .test (beqb (bnot w3384) false) true :: .test (igt v3364 0) true :: .test (bnot w3384) false :: l) := fun z => ⟨(beqb_t (igt_eq h3387)), (beqb_t (igt_eq h3387)), (beqb_t (igt_eq h3387)), (beqb_t (igt_eq h3387)), rfl, (beqb_t (igt_eq h3387)), h3388, (beqb_t (igt_eq h3387)), (beqb_t (igt_eq h3387)), ⟨rfl, sub_flat eGMsg_len h3390 0 1 (by decide)⟩, (beqb_t (igt_eq h3387)), (beqb_t (igt_eq h3387)), (beqb_ff (bnot_t h3386)), (igt_eq h3387), (bnot_t h3386), z⟩
          refine cond_some hF (fun h3391 hF => ?_) (fun h3391 hF => ?_)
          ·
            have hr := Option.some.inj hF
            subst hr
            have pz : HoldAll E H hn81 [.test (ige x3389.To x3367.To) true] := ⟨(ige_eq h3391), trivial⟩
            exact loop_endC (h := hn81) (l := 0) (c := c81_0) (ts := F81_l0_0_S a3330 r3338 v3364) (ts' := F81_l0_0_X0 a3330 r3338 ()) (ex := .ret) (pq3394 (pq3395 (pq3396 pz))) (by kernel_rfl) trivial
          have pz : HoldAll E H hn81 [.test (ige x3389.To x3367.To) false, .int (wadd .i64 v3364 1) (wadd .i64 v3364 1)] := ⟨(ige_eq h3391), rfl, trivial⟩
          have h0 := ih _ _ hF
          have hn := fun ex ts' => loop_nextC (h := hn81) (l := 0) (c := c81_0) (ts := F81_l0_0_S a3330 r3338 v3364) (ts1 := (F81_l0_0_S a3330 r3338 (wadd .i64 v3364 1))) (ex := ex) (ts' := ts') (pq3394 (pq3395 (pq3396 pz))) (by kernel_rfl)
          cases r with
          | inl w => exact hn _ _ h0
          | inr w => exact hn _ _ h0
        have pz : HoldAll E H hn81 [.test (beqb (igt v3364 0) true) false, .test (beqb (igt v3364 0) true) false, .test (beqb (igt v3364 0) true) false, .test (beqb (igt v3364 0) true) false, .test (beqb (igt v3364 0) true) false, .test (beqb (igt v3364 0) true) false, .test (beqb (igt v3364 0) true) false, .test (beqb (igt v3364 0) true) false, .test (beqb (igt v3364 0) true) false, .test (beqb (bnot w3384) false) true, .test (igt v3364 0) false, .test (bnot w3384) false, .test false false, .int (wadd .i64 v3364 1) (wadd .i64 v3364 1)] := ⟨(beqb_t (igt_eq h3387)), (beqb_t (igt_eq h3387)), (beqb_t (igt_eq h3387)), (beqb_t (igt_eq h3387)), (beqb_t (igt_eq h3387)), (beqb_t (igt_eq h3387)), (beqb_t (igt_eq h3387)), (beqb_t (igt_eq h3387)), (beqb_t (igt_eq h3387)), (beqb_ff (bnot_t h3386)), (igt_eq h3387), (bnot_t h3386), rfl, rfl, trivial⟩
        have h0 := ih _ _ hF
        have hn := fun ex ts' => loop_nextC (h := hn81) (l := 0) (c := c81_0) (ts := F81_l0_0_S a3330 r3338 v3364) (ts1 := (F81_l0_0_S a3330 r3338 (wadd .i64 v3364 1))) (ex := ex) (ts' := ts') (pq3394 (pq3395 pz)) (by kernel_rfl)
        cases r with
        | inl w => exact hn _ _ h0
        | inr w => exact hn _ _ h0
      have hr := Option.some.inj hF
      subst hr
      have pz : HoldAll E H hn81 [.test (beqb (bnot w3384) false) false, .test (beqb (bnot w3384) false) false, .test (beqb (bnot w3384) false) false, .test (beqb (bnot w3384) false) false, .test (bnot w3384) true, .test true true] := ⟨(beqb_ft (bnot_f h3386)), (beqb_ft (bnot_f h3386)), (beqb_ft (bnot_f h3386)), (beqb_ft (bnot_f h3386)), (bnot_f h3386), rfl, trivial⟩
      exact loop_endC (h := hn81) (l := 0) (c := c81_0) (ts := F81_l0_0_S a3330 r3338 v3364) (ts' := F81_l0_0_X0 a3330 r3338 ()) (ex := .ret) (pq3394 pz) (by kernel_rfl) trivial
    have hr := Option.some.inj hF
    subst hr
    have pz : HoldAll E H hn81 [.int (nlen (len a3330.In)) (nlen (len a3330.In)), .test (ilt v3364 (nlen (len a3330.In))) false] := ⟨rfl, h3365, trivial⟩
    exact loop_endC (h := hn81) (l := 0) (c := c81_0) (ts := F81_l0_0_S a3330 r3338 v3364) (ts' := F81_l0_0_X1 a3330 r3338 ()) (ex := (.exit 0)) pz (by kernel_rfl) trivial

def F81 (K : Nat) (a3328 : GGraph) (a3329 : GJob) (a3330 : GPart) : Option (Bool) :=
  (F59 K a3328 a3329).bind fun r3331 =>
  bif (ieq r3331 0) then
    (bif (ilt a3330.P 0) then
      (some false)
    else
    bif (ile a3329.Parts a3330.P) then
      (some false)
    else
    bif (ilt a3330.Step 0) then
      (some false)
    else
    bif (ilt 40 a3330.Step) then
      (some false)
    else
    (F139 K a3328 a3329 a3330.P).bind fun r3338 =>
    bif (ieq (nlen (len a3330.Vals)) (nlen (len r3338))) then
      (bif (ieq (nlen (len a3330.Rest)) (nlen (len r3338))) then
        ((F81_l0_0 K a3330 r3338 K 0).bind fun y3398 =>
        Sum.elim (fun w3399 =>
          some false)
          (fun w3400 =>
          some true) y3398)
      else
      some false)
    else
    some false)
  else
  some false
theorem F81_ok (K : Nat) (a3328 : GGraph) (a3329 : GJob) (a3330 : GPart) (r : Bool) (hF : F81 K a3328 a3329 a3330 = some r) : Evt E H 81 [.agg (eGGraph a3328), .agg (eGJob a3329), .agg (eGPart a3330)] (F81_res r) := by
  rw [F81] at hF
  refine bind_some hF (fun r3331 h3332 hF => ?_)
  refine cond_some hF (fun h3333 hF => ?_) (fun h3333 hF => ?_)
  ·
    have pq3401 : ∀ {l : List Cond}, HoldAll E H hn81 l → HoldAll E H hn81 (.call 59 [.agg (eGGraph a3328), .agg (eGJob a3329)] (F59_res r3331) :: .test (leadsAny (Res.mk [(.one (.im (.lit (.int .i64 r3331))))] [])) false :: .test (beqb (ine r3331 0) false) true :: .test (beqb (ine r3331 0) false) true :: .test (beqb (ine r3331 0) false) true :: .test (ine r3331 0) false :: l) := fun z => ⟨(F59_ok K a3328 a3329 _ h3332), (leads_ok (by simp only [leadsAny, List.any_cons, List.any_nil, RV.leads, RC.leads, leadsT, hasSl_lit, Bool.or_false, flat_ns (eInt_ns _), flat_ns eBool_ns, flat_ns eStr_ns, flat_ns eGJob_ns, flat_ns eGEdge_ns, flat_ns eGAsked_ns, flat_ns eGMsg_ns, flat_ns eGrule_ns, flat_ns eGA199_ns, flat_ns eGA202_ns])), (beqb_ff (ine_t h3333)), (beqb_ff (ine_t h3333)), (beqb_ff (ine_t h3333)), (ine_t h3333), z⟩
    refine cond_some hF (fun h3334 hF => ?_) (fun h3334 hF => ?_)
    ·
      have hr := Option.some.inj hF
      subst hr
      have pz : HoldAll E H hn81 [.test (beqb (ilt a3330.P 0) false) false, .test (beqb (ilt a3330.P 0) false) false, .test (beqb (ilt a3330.P 0) false) false, .test (beqb (ilt a3330.P 0) false) false, .test (beqb (ilt a3330.P 0) false) false, .test (ilt a3330.P 0) true, .test (beqb true false) false, .test (beqb true false) false, .test (beqb true false) false, .test true true, .test (beqb true false) false, .test (beqb true false) false, .test (beqb true false) false, .test true true, .test true true] := ⟨(beqb_ft h3334), (beqb_ft h3334), (beqb_ft h3334), (beqb_ft h3334), (beqb_ft h3334), h3334, (beqb_ft rfl), (beqb_ft rfl), (beqb_ft rfl), rfl, (beqb_ft rfl), (beqb_ft rfl), (beqb_ft rfl), rfl, rfl, trivial⟩
      exact fn_playC hn81 (f := 81) (ads := [.agg (eGGraph a3328), .agg (eGJob a3329), .agg (eGPart a3330)]) (r := F81_res false) (pq3401 pz) (by kernel_rfl) (by kernel_rfl)
    have pq3402 : ∀ {l : List Cond}, HoldAll E H hn81 l → HoldAll E H hn81 (.test (beqb (ilt a3330.P 0) false) true :: .test (beqb (ilt a3330.P 0) false) true :: .test (beqb (ilt a3330.P 0) false) true :: .test (beqb (ilt a3330.P 0) false) true :: .test (beqb (ilt a3330.P 0) false) true :: .test (ilt a3330.P 0) false :: l) := fun z => ⟨(beqb_ff h3334), (beqb_ff h3334), (beqb_ff h3334), (beqb_ff h3334), (beqb_ff h3334), h3334, z⟩
    refine cond_some hF (fun h3335 hF => ?_) (fun h3335 hF => ?_)
    ·
      have hr := Option.some.inj hF
      subst hr
      have pz : HoldAll E H hn81 [.test (beqb (ige a3330.P a3329.Parts) false) false, .test (beqb (ige a3330.P a3329.Parts) false) false, .test (beqb (ige a3330.P a3329.Parts) false) false, .test (ige a3330.P a3329.Parts) true, .test (beqb true false) false, .test (beqb true false) false, .test (beqb true false) false, .test true true, .test true true] := ⟨(beqb_ft (ige_eq h3335)), (beqb_ft (ige_eq h3335)), (beqb_ft (ige_eq h3335)), (ige_eq h3335), (beqb_ft rfl), (beqb_ft rfl), (beqb_ft rfl), rfl, rfl, trivial⟩
      exact fn_playC hn81 (f := 81) (ads := [.agg (eGGraph a3328), .agg (eGJob a3329), .agg (eGPart a3330)]) (r := F81_res false) (pq3401 (pq3402 pz)) (by kernel_rfl) (by kernel_rfl)
    have pq3403 : ∀ {l : List Cond}, HoldAll E H hn81 l → HoldAll E H hn81 (.test (beqb (ige a3330.P a3329.Parts) false) true :: .test (beqb (ige a3330.P a3329.Parts) false) true :: .test (beqb (ige a3330.P a3329.Parts) false) true :: .test (ige a3330.P a3329.Parts) false :: l) := fun z => ⟨(beqb_ff (ige_eq h3335)), (beqb_ff (ige_eq h3335)), (beqb_ff (ige_eq h3335)), (ige_eq h3335), z⟩
    refine cond_some hF (fun h3336 hF => ?_) (fun h3336 hF => ?_)
    ·
      have hr := Option.some.inj hF
      subst hr
      have pz : HoldAll E H hn81 [.test (beqb (ilt a3330.Step 0) false) false, .test (beqb (ilt a3330.Step 0) false) false, .test (beqb (ilt a3330.Step 0) false) false, .test (ilt a3330.Step 0) true, .test true true] := ⟨(beqb_ft h3336), (beqb_ft h3336), (beqb_ft h3336), h3336, rfl, trivial⟩
      exact fn_playC hn81 (f := 81) (ads := [.agg (eGGraph a3328), .agg (eGJob a3329), .agg (eGPart a3330)]) (r := F81_res false) (pq3401 (pq3402 (pq3403 pz))) (by kernel_rfl) (by kernel_rfl)
    have pq3404 : ∀ {l : List Cond}, HoldAll E H hn81 l → HoldAll E H hn81 (.test (beqb (ilt a3330.Step 0) false) true :: .test (beqb (ilt a3330.Step 0) false) true :: .test (beqb (ilt a3330.Step 0) false) true :: .test (ilt a3330.Step 0) false :: l) := fun z => ⟨(beqb_ff h3336), (beqb_ff h3336), (beqb_ff h3336), h3336, z⟩
    refine cond_some hF (fun h3337 hF => ?_) (fun h3337 hF => ?_)
    ·
      have hr := Option.some.inj hF
      subst hr
      have pz : HoldAll E H hn81 [.test (igt a3330.Step 40) true] := ⟨(igt_eq h3337), trivial⟩
      exact fn_playC hn81 (f := 81) (ads := [.agg (eGGraph a3328), .agg (eGJob a3329), .agg (eGPart a3330)]) (r := F81_res false) (pq3401 (pq3402 (pq3403 (pq3404 pz)))) (by kernel_rfl) (by kernel_rfl)
    refine bind_some hF (fun r3338 h3339 hF => ?_)
    have pq3405 : ∀ {l : List Cond}, HoldAll E H hn81 l → HoldAll E H hn81 (.test (igt a3330.Step 40) false :: .call 139 [.agg (eGGraph a3328), .agg (eGJob a3329), .one (.lit (.int .i64 a3330.P))] (F139_res r3338) :: .test (leadsAny (Res.mk [(.one (.own 3 (.sl (len r3338) (flat (eInt .i64) r3338))))] [])) false :: .int (nlen (len a3330.Vals)) (nlen (len a3330.Vals)) :: .int (nlen (len r3338)) (nlen (len r3338)) :: l) := fun z => ⟨(igt_eq h3337), (F139_ok K a3328 a3329 a3330.P _ h3339), (leads_ok (by simp only [leadsAny, List.any_cons, List.any_nil, RV.leads, RC.leads, leadsT, hasSl_lit, Bool.or_false, flat_ns (eInt_ns _), flat_ns eBool_ns, flat_ns eStr_ns, flat_ns eGJob_ns, flat_ns eGEdge_ns, flat_ns eGAsked_ns, flat_ns eGMsg_ns, flat_ns eGrule_ns, flat_ns eGA199_ns, flat_ns eGA202_ns])), rfl, rfl, z⟩
    refine cond_some hF (fun h3340 hF => ?_) (fun h3340 hF => ?_)
    ·
      have pq3406 : ∀ {l : List Cond}, HoldAll E H hn81 l → HoldAll E H hn81 (.test (beqb (ine (nlen (len a3330.Vals)) (nlen (len r3338))) false) true :: .test (beqb (ine (nlen (len a3330.Vals)) (nlen (len r3338))) false) true :: .test (beqb (ine (nlen (len a3330.Vals)) (nlen (len r3338))) false) true :: .int (nlen (len a3330.Rest)) (nlen (len a3330.Rest)) :: .test (beqb (ine (nlen (len a3330.Vals)) (nlen (len r3338))) false) true :: .test (beqb (ine (nlen (len a3330.Vals)) (nlen (len r3338))) false) true :: .int (nlen (len r3338)) (nlen (len r3338)) :: .test (beqb (ine (nlen (len a3330.Vals)) (nlen (len r3338))) false) true :: .test (ine (nlen (len a3330.Vals)) (nlen (len r3338))) false :: l) := fun z => ⟨(beqb_ff (ine_t h3340)), (beqb_ff (ine_t h3340)), (beqb_ff (ine_t h3340)), rfl, (beqb_ff (ine_t h3340)), (beqb_ff (ine_t h3340)), rfl, (beqb_ff (ine_t h3340)), (ine_t h3340), z⟩
      refine cond_some hF (fun h3341 hF => ?_) (fun h3341 hF => ?_)
      ·
        refine bind_some hF (fun y3398 h3397 hF => ?_)
        refine sum_some hF (fun w3399 hx hF => ?_) (fun w3400 hx hF => ?_)
        ·
          subst hx
          have hr := Option.some.inj hF
          subst hr
          have pz : HoldAll E H hn81 [.test (ine (nlen (len a3330.Rest)) (nlen (len r3338))) false, .loop 0 c81_0 (F81_l0_0_S a3330 r3338 0) .ret (F81_l0_0_X0 a3330 r3338 w3399)] := ⟨(ine_t h3341), (F81_l0_0_ok K a3330 r3338 K 0 _ h3397), trivial⟩
          exact fn_playC hn81 (f := 81) (ads := [.agg (eGGraph a3328), .agg (eGJob a3329), .agg (eGPart a3330)]) (r := F81_res false) (pq3401 (pq3402 (pq3403 (pq3404 (pq3405 (pq3406 pz)))))) (by kernel_rfl) (by kernel_rfl)
        subst hx
        have hr := Option.some.inj hF
        subst hr
        have pz : HoldAll E H hn81 [.test (ine (nlen (len a3330.Rest)) (nlen (len r3338))) false, .loop 0 c81_0 (F81_l0_0_S a3330 r3338 0) (.exit 0) (F81_l0_0_X1 a3330 r3338 w3400)] := ⟨(ine_t h3341), (F81_l0_0_ok K a3330 r3338 K 0 _ h3397), trivial⟩
        exact fn_playC hn81 (f := 81) (ads := [.agg (eGGraph a3328), .agg (eGJob a3329), .agg (eGPart a3330)]) (r := F81_res true) (pq3401 (pq3402 (pq3403 (pq3404 (pq3405 (pq3406 pz)))))) (by kernel_rfl) (by kernel_rfl)
      have hr := Option.some.inj hF
      subst hr
      have pz : HoldAll E H hn81 [.test (ine (nlen (len a3330.Rest)) (nlen (len r3338))) true] := ⟨(ine_f h3341), trivial⟩
      exact fn_playC hn81 (f := 81) (ads := [.agg (eGGraph a3328), .agg (eGJob a3329), .agg (eGPart a3330)]) (r := F81_res false) (pq3401 (pq3402 (pq3403 (pq3404 (pq3405 (pq3406 pz)))))) (by kernel_rfl) (by kernel_rfl)
    have hr := Option.some.inj hF
    subst hr
    have pz : HoldAll E H hn81 [.test (beqb (ine (nlen (len a3330.Vals)) (nlen (len r3338))) false) false, .test (beqb (ine (nlen (len a3330.Vals)) (nlen (len r3338))) false) false, .test (beqb (ine (nlen (len a3330.Vals)) (nlen (len r3338))) false) false, .test (beqb (ine (nlen (len a3330.Vals)) (nlen (len r3338))) false) false, .test (beqb (ine (nlen (len a3330.Vals)) (nlen (len r3338))) false) false, .test (beqb (ine (nlen (len a3330.Vals)) (nlen (len r3338))) false) false, .test (ine (nlen (len a3330.Vals)) (nlen (len r3338))) true, .test true true] := ⟨(beqb_ft (ine_f h3340)), (beqb_ft (ine_f h3340)), (beqb_ft (ine_f h3340)), (beqb_ft (ine_f h3340)), (beqb_ft (ine_f h3340)), (beqb_ft (ine_f h3340)), (ine_f h3340), rfl, trivial⟩
    exact fn_playC hn81 (f := 81) (ads := [.agg (eGGraph a3328), .agg (eGJob a3329), .agg (eGPart a3330)]) (r := F81_res false) (pq3401 (pq3402 (pq3403 (pq3404 (pq3405 pz))))) (by kernel_rfl) (by kernel_rfl)
  have hr := Option.some.inj hF
  subst hr
  have pz : HoldAll E H hn81 [.call 59 [.agg (eGGraph a3328), .agg (eGJob a3329)] (F59_res r3331), .test (leadsAny (Res.mk [(.one (.im (.lit (.int .i64 r3331))))] [])) false, .test (beqb (ine r3331 0) false) false, .test (beqb (ine r3331 0) false) false, .test (beqb (ine r3331 0) false) false, .test (ine r3331 0) true, .test (beqb true false) false, .test (beqb true false) false, .test (beqb true false) false, .test (beqb true false) false, .test (beqb true false) false, .test true true, .test (beqb true false) false, .test (beqb true false) false, .test (beqb true false) false, .test true true, .test (beqb true false) false, .test (beqb true false) false, .test (beqb true false) false, .test true true, .test true true] := ⟨(F59_ok K a3328 a3329 _ h3332), (leads_ok (by simp only [leadsAny, List.any_cons, List.any_nil, RV.leads, RC.leads, leadsT, hasSl_lit, Bool.or_false, flat_ns (eInt_ns _), flat_ns eBool_ns, flat_ns eStr_ns, flat_ns eGJob_ns, flat_ns eGEdge_ns, flat_ns eGAsked_ns, flat_ns eGMsg_ns, flat_ns eGrule_ns, flat_ns eGA199_ns, flat_ns eGA202_ns])), (beqb_ft (ine_f h3333)), (beqb_ft (ine_f h3333)), (beqb_ft (ine_f h3333)), (ine_f h3333), (beqb_ft rfl), (beqb_ft rfl), (beqb_ft rfl), (beqb_ft rfl), (beqb_ft rfl), rfl, (beqb_ft rfl), (beqb_ft rfl), (beqb_ft rfl), rfl, (beqb_ft rfl), (beqb_ft rfl), (beqb_ft rfl), rfl, rfl, trivial⟩
  exact fn_playC hn81 (f := 81) (ads := [.agg (eGGraph a3328), .agg (eGJob a3329), .agg (eGPart a3330)]) (r := F81_res false) pz (by kernel_rfl) (by kernel_rfl)

end Go.Proofs.Ytnjanliihnadjaa.Tm

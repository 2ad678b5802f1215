/- What the row of WorkAgain leans on: printed functions and plain laws. Conditions: none. -/
import Derived.Test.YtnjanliihnadjaaTy
import Derived.Test.YtnjanliihnadjaaTab
import Derived.Test.YtnjanliihnadjaaKn
import Derived.Test.YtnjanliihnadjaaWf
import Derived.IntWalk
import Derived.KernelRfl
import Derived.OpenShut
import Derived.Test.YtnjanliihnadjaaBWorkAgain1
set_option linter.unusedVariables false
set_option linter.unusedSimpArgs false
namespace Go.Proofs.Ytnjanliihnadjaa.Tm
open Go
theorem F80_l0_0_ok (K : Nat) (a3278 : GGraph) (a3279 : GJob) (a3280 : GPart) : ∀ (k : Nat) (v3300 : Int) (v3301 : Int) (r : (Unit) ⊕ (Unit)), F80_l0_0 K a3278 a3279 a3280 k v3300 v3301 = some r → (Sum.elim (fun w => LoopEv E H hn80 0 c80_0 (F80_l0_0_S a3278 a3279 a3280 v3300 v3301) .ret (F80_l0_0_X0 a3278 a3279 a3280 w)) (fun w => LoopEv E H hn80 0 c80_0 (F80_l0_0_S a3278 a3279 a3280 v3300 v3301) (.exit 0) (F80_l0_0_X1 a3278 a3279 a3280 w))) r := by
 intro k
 induction k with
 | zero => intro v3300 v3301 r hF; cases hF
 | succ k ih =>
  intro v3300 v3301 r hF
  rw [F80_l0_0] at hF
  refine cond_some hF (fun h3302 hF => ?_) (fun h3302 hF => ?_)
  ·
   refine cond_some hF (fun h3303 hF => ?_) (fun _ hF => nomatch hF)
   refine bind_some hF (fun x3304 h3305 hF => ?_)
   have pq3312 : ∀ {l : List Cond}, HoldAll E H hn80 l → HoldAll E H hn80 (.test (ilt v3301 (nlen (len a3280.In))) true :: .test (inr v3301 (len a3280.In)) true :: .sub (flat eGMsg a3280.In) (nidx v3301 2) 2 [(.lit (.int .i64 x3304.To)), (.lit (.int .i64 x3304.V))] :: l) := fun z => ⟨h3302, h3303, ⟨rfl, sub_flat0 eGMsg_len h3305 2 (by decide)⟩, z⟩
   refine cond_some hF (fun h3306 hF => ?_) (fun h3306 hF => ?_)
   ·
    obtain rfl := Option.some.inj hF
    have pz : HoldAll E H hn80 [.test (beqb (ile x3304.To v3300) false) false, .test (beqb (ile x3304.To v3300) false) false, .test (beqb (ile x3304.To v3300) false) false, .test (beqb (ile x3304.To v3300) false) false, .test (beqb (ile x3304.To v3300) false) false, .test (ile x3304.To v3300) true, .test (beqb true false) false, .test (beqb true false) false, .test (beqb true false) false, .test (beqb true false) false, .test (beqb true false) false, .test (beqb true false) false, .test (beqb true false) false, .test (beqb true false) false, .test true true, .test true true] := ⟨(beqb_ft h3306), (beqb_ft h3306), (beqb_ft h3306), (beqb_ft h3306), (beqb_ft h3306), h3306, (beqb_ft rfl), (beqb_ft rfl), (beqb_ft rfl), (beqb_ft rfl), (beqb_ft rfl), (beqb_ft rfl), (beqb_ft rfl), (beqb_ft rfl), rfl, rfl, trivial⟩
    exact loop_endC (h := hn80) (l := 0) (c := c80_0) (ts := F80_l0_0_S a3278 a3279 a3280 v3300 v3301) (ts' := F80_l0_0_X0 a3278 a3279 a3280 ()) (ex := .ret) (pq3312 pz) (by kernel_rfl) trivial
   have pq3313 : ∀ {l : List Cond}, HoldAll E H hn80 l → HoldAll E H hn80 (.test (beqb (ile x3304.To v3300) false) true :: .test (beqb (ile x3304.To v3300) false) true :: .test (beqb (ile x3304.To v3300) false) true :: .test (beqb (ile x3304.To v3300) false) true :: .test (beqb (ile x3304.To v3300) false) true :: .test (ile x3304.To v3300) false :: l) := fun z => ⟨(beqb_ff h3306), (beqb_ff h3306), (beqb_ff h3306), (beqb_ff h3306), (beqb_ff h3306), h3306, z⟩
   refine cond_some hF (fun h3307 hF => ?_) (fun h3307 hF => ?_)
   ·
    obtain rfl := Option.some.inj hF
    have pz : HoldAll E H hn80 [.test (beqb (ige x3304.To a3278.N) false) false, .test (beqb (ige x3304.To a3278.N) false) false, .test (beqb (ige x3304.To a3278.N) false) false, .test (beqb (ige x3304.To a3278.N) false) false, .test (beqb (ige x3304.To a3278.N) false) false, .test (beqb (ige x3304.To a3278.N) false) false, .test (beqb (ige x3304.To a3278.N) false) false, .test (beqb (ige x3304.To a3278.N) false) false, .test (ige x3304.To a3278.N) true, .test true true] := ⟨(beqb_ft (ige_eq h3307)), (beqb_ft (ige_eq h3307)), (beqb_ft (ige_eq h3307)), (beqb_ft (ige_eq h3307)), (beqb_ft (ige_eq h3307)), (beqb_ft (ige_eq h3307)), (beqb_ft (ige_eq h3307)), (beqb_ft (ige_eq h3307)), (ige_eq h3307), rfl, trivial⟩
    exact loop_endC (h := hn80) (l := 0) (c := c80_0) (ts := F80_l0_0_S a3278 a3279 a3280 v3300 v3301) (ts' := F80_l0_0_X0 a3278 a3279 a3280 ()) (ex := .ret) (pq3312 (pq3313 pz)) (by kernel_rfl) trivial
   refine cond_some hF (fun _ hF => nomatch hF) (fun h3308 hF => ?_)
   have pq3314 : ∀ {l : List Cond}, HoldAll E H hn80 l → HoldAll E H hn80 (.test (beqb (ige x3304.To a3278.N) false) true :: .test (beqb (ige x3304.To a3278.N) false) true :: .test (beqb (ige x3304.To a3278.N) false) true :: .test (beqb (ige x3304.To a3278.N) false) true :: .test (beqb (ige x3304.To a3278.N) false) true :: .test (izero a3279.Parts) false :: .int (wrem x3304.To a3279.Parts) (wrem x3304.To a3279.Parts) :: .test (beqb (ige x3304.To a3278.N) false) true :: .test (beqb (ige x3304.To a3278.N) false) true :: .test (beqb (ige x3304.To a3278.N) false) true :: .test (ige x3304.To a3278.N) false :: l) := fun z => ⟨(beqb_ff (ige_eq h3307)), (beqb_ff (ige_eq h3307)), (beqb_ff (ige_eq h3307)), (beqb_ff (ige_eq h3307)), (beqb_ff (ige_eq h3307)), h3308, rfl, (beqb_ff (ige_eq h3307)), (beqb_ff (ige_eq h3307)), (beqb_ff (ige_eq h3307)), (ige_eq h3307), z⟩
   refine cond_some hF (fun h3309 hF => ?_) (fun h3309 hF => ?_)
   ·
    have pz : HoldAll E H hn80 [.test (ine (wrem x3304.To a3279.Parts) a3280.P) false, .int (wadd .i64 v3301 1) (wadd .i64 v3301 1)] := ⟨(ine_t h3309), rfl, trivial⟩
    have h0 := ih _ _ _ hF
    have hn := fun ex ts' => loop_nextC (h := hn80) (l := 0) (c := c80_0) (ts := F80_l0_0_S a3278 a3279 a3280 v3300 v3301) (ts1 := (F80_l0_0_S a3278 a3279 a3280 x3304.To (wadd .i64 v3301 1))) (ex := ex) (ts' := ts') (pq3312 (pq3313 (pq3314 pz))) (by kernel_rfl)
    cases r with
    | inl w => exact hn _ _ h0
    | inr w => exact hn _ _ h0
   obtain rfl := Option.some.inj hF
   have pz : HoldAll E H hn80 [.test (ine (wrem x3304.To a3279.Parts) a3280.P) true] := ⟨(ine_f h3309), trivial⟩
   exact loop_endC (h := hn80) (l := 0) (c := c80_0) (ts := F80_l0_0_S a3278 a3279 a3280 v3300 v3301) (ts' := F80_l0_0_X0 a3278 a3279 a3280 ()) (ex := .ret) (pq3312 (pq3313 (pq3314 pz))) (by kernel_rfl) trivial
  obtain rfl := Option.some.inj hF
  have pz : HoldAll E H hn80 [.test (ilt v3301 (nlen (len a3280.In))) false] := ⟨h3302, trivial⟩
  exact loop_endC (h := hn80) (l := 0) (c := c80_0) (ts := F80_l0_0_S a3278 a3279 a3280 v3300 v3301) (ts' := F80_l0_0_X1 a3278 a3279 a3280 ()) (ex := (.exit 0)) pz (by kernel_rfl) trivial
def F80 (K : Nat) (a3278 : GGraph) (a3279 : GJob) (a3280 : GPart) : Option (Bool) :=
 (F94 K a3278 a3279).bind fun r3281 =>
 bif (ieq r3281 0) then
  (bif (ilt a3280.P 0) then
   (some false)
  else
  bif (ile a3279.Parts a3280.P) then
   (some false)
  else
  bif (ilt a3280.Step 0) then
   (some false)
  else
  bif (ilt 40 a3280.Step) then
   (some false)
  else
  (F77 K a3278 a3279 a3280.P).bind fun r3288 =>
  bif (ieq (nlen (len a3280.Vals)) r3288) then
   (bif (ieq (nlen (len a3280.Rest)) r3288) then
    ((F80_l0_0 K a3278 a3279 a3280 K (-1) 0).bind fun y3316 =>
    Sum.elim (fun w3317 =>
     some false)
     (fun w3318 =>
     some true) y3316)
   else
   some false)
  else
  some false)
 else
 some false
theorem F80_ok (K : Nat) (a3278 : GGraph) (a3279 : GJob) (a3280 : GPart) (r : Bool) (hF : F80 K a3278 a3279 a3280 = some r) : Evt E H 80 [.agg (eGGraph a3278), .agg (eGJob a3279), .agg (eGPart a3280)] (F80_res r) := by
 rw [F80] at hF
 refine bind_some hF (fun r3281 h3282 hF => ?_)
 refine cond_some hF (fun h3283 hF => ?_) (fun h3283 hF => ?_)
 ·
  have pq3319 : ∀ {l : List Cond}, HoldAll E H hn80 l → HoldAll E H hn80 (.call 94 [.agg (eGGraph a3278), .agg (eGJob a3279)] (F94_res r3281) :: .test (leadsAny (Res.mk [(.one (.im (.lit (.int .i64 r3281))))] [])) false :: .test (beqb (ine r3281 0) false) true :: .test (beqb (ine r3281 0) false) true :: .test (beqb (ine r3281 0) false) true :: .test (ine r3281 0) false :: l) := fun z => ⟨(F94_ok K a3278 a3279 _ h3282), (leads_ok (by simp [leadsAny, RV.leads, RC.leads, leadsT, hasSl_lit, flat_ns eGJob_ns])), (beqb_ff (ine_t h3283)), (beqb_ff (ine_t h3283)), (beqb_ff (ine_t h3283)), (ine_t h3283), z⟩
  refine cond_some hF (fun h3284 hF => ?_) (fun h3284 hF => ?_)
  ·
   obtain rfl := Option.some.inj hF
   have pz : HoldAll E H hn80 [.test (beqb (ilt a3280.P 0) false) false, .test (beqb (ilt a3280.P 0) false) false, .test (beqb (ilt a3280.P 0) false) false, .test (beqb (ilt a3280.P 0) false) false, .test (beqb (ilt a3280.P 0) false) false, .test (ilt a3280.P 0) true, .test (beqb true false) false, .test (beqb true false) false, .test (beqb true false) false, .test true true, .test (beqb true false) false, .test (beqb true false) false, .test (beqb true false) false, .test true true, .test true true] := ⟨(beqb_ft h3284), (beqb_ft h3284), (beqb_ft h3284), (beqb_ft h3284), (beqb_ft h3284), h3284, (beqb_ft rfl), (beqb_ft rfl), (beqb_ft rfl), rfl, (beqb_ft rfl), (beqb_ft rfl), (beqb_ft rfl), rfl, rfl, trivial⟩
   exact fn_playC hn80 (r := F80_res false) (pq3319 pz) (by kernel_rfl) (by kernel_rfl)
  have pq3320 : ∀ {l : List Cond}, HoldAll E H hn80 l → HoldAll E H hn80 (.test (beqb (ilt a3280.P 0) false) true :: .test (beqb (ilt a3280.P 0) false) true :: .test (beqb (ilt a3280.P 0) false) true :: .test (beqb (ilt a3280.P 0) false) true :: .test (beqb (ilt a3280.P 0) false) true :: .test (ilt a3280.P 0) false :: l) := fun z => ⟨(beqb_ff h3284), (beqb_ff h3284), (beqb_ff h3284), (beqb_ff h3284), (beqb_ff h3284), h3284, z⟩
  refine cond_some hF (fun h3285 hF => ?_) (fun h3285 hF => ?_)
  ·
   obtain rfl := Option.some.inj hF
   have pz : HoldAll E H hn80 [.test (beqb (ige a3280.P a3279.Parts) false) false, .test (beqb (ige a3280.P a3279.Parts) false) false, .test (beqb (ige a3280.P a3279.Parts) false) false, .test (ige a3280.P a3279.Parts) true, .test (beqb true false) false, .test (beqb true false) false, .test (beqb true false) false, .test true true, .test true true] := ⟨(beqb_ft (ige_eq h3285)), (beqb_ft (ige_eq h3285)), (beqb_ft (ige_eq h3285)), (ige_eq h3285), (beqb_ft rfl), (beqb_ft rfl), (beqb_ft rfl), rfl, rfl, trivial⟩
   exact fn_playC hn80 (r := F80_res false) (pq3319 (pq3320 pz)) (by kernel_rfl) (by kernel_rfl)
  have pq3321 : ∀ {l : List Cond}, HoldAll E H hn80 l → HoldAll E H hn80 (.test (beqb (ige a3280.P a3279.Parts) false) true :: .test (beqb (ige a3280.P a3279.Parts) false) true :: .test (beqb (ige a3280.P a3279.Parts) false) true :: .test (ige a3280.P a3279.Parts) false :: l) := fun z => ⟨(beqb_ff (ige_eq h3285)), (beqb_ff (ige_eq h3285)), (beqb_ff (ige_eq h3285)), (ige_eq h3285), z⟩
  refine cond_some hF (fun h3286 hF => ?_) (fun h3286 hF => ?_)
  ·
   obtain rfl := Option.some.inj hF
   have pz : HoldAll E H hn80 [.test (beqb (ilt a3280.Step 0) false) false, .test (beqb (ilt a3280.Step 0) false) false, .test (beqb (ilt a3280.Step 0) false) false, .test (ilt a3280.Step 0) true, .test true true] := ⟨(beqb_ft h3286), (beqb_ft h3286), (beqb_ft h3286), h3286, rfl, trivial⟩
   exact fn_playC hn80 (r := F80_res false) (pq3319 (pq3320 (pq3321 pz))) (by kernel_rfl) (by kernel_rfl)
  have pq3322 : ∀ {l : List Cond}, HoldAll E H hn80 l → HoldAll E H hn80 (.test (beqb (ilt a3280.Step 0) false) true :: .test (beqb (ilt a3280.Step 0) false) true :: .test (beqb (ilt a3280.Step 0) false) true :: .test (ilt a3280.Step 0) false :: l) := fun z => ⟨(beqb_ff h3286), (beqb_ff h3286), (beqb_ff h3286), h3286, z⟩
  refine cond_some hF (fun h3287 hF => ?_) (fun h3287 hF => ?_)
  ·
   obtain rfl := Option.some.inj hF
   have pz : HoldAll E H hn80 [.test (igt a3280.Step 40) true] := ⟨(igt_eq h3287), trivial⟩
   exact fn_playC hn80 (r := F80_res false) (pq3319 (pq3320 (pq3321 (pq3322 pz)))) (by kernel_rfl) (by kernel_rfl)
  refine bind_some hF (fun r3288 h3289 hF => ?_)
  have pq3323 : ∀ {l : List Cond}, HoldAll E H hn80 l → HoldAll E H hn80 (.test (igt a3280.Step 40) false :: .call 77 [.agg (eGGraph a3278), .agg (eGJob a3279), .one (.lit (.int .i64 a3280.P))] (F77_res r3288) :: .test (leadsAny (Res.mk [(.one (.im (.lit (.int .i64 r3288))))] [])) false :: .int (nlen (len a3280.Vals)) (nlen (len a3280.Vals)) :: l) := fun z => ⟨(igt_eq h3287), (F77_ok K a3278 a3279 a3280.P _ h3289), (leads_ok (by simp [leadsAny, RV.leads, RC.leads, leadsT, hasSl_lit, flat_ns eGJob_ns])), rfl, z⟩
  refine cond_some hF (fun h3290 hF => ?_) (fun h3290 hF => ?_)
  ·
   have pq3324 : ∀ {l : List Cond}, HoldAll E H hn80 l → HoldAll E H hn80 (.test (beqb (ine (nlen (len a3280.Vals)) r3288) false) true :: .test (beqb (ine (nlen (len a3280.Vals)) r3288) false) true :: .test (beqb (ine (nlen (len a3280.Vals)) r3288) false) true :: .int (nlen (len a3280.Rest)) (nlen (len a3280.Rest)) :: .test (beqb (ine (nlen (len a3280.Vals)) r3288) false) true :: .test (beqb (ine (nlen (len a3280.Vals)) r3288) false) true :: .test (ine (nlen (len a3280.Vals)) r3288) false :: l) := fun z => ⟨(beqb_ff (ine_t h3290)), (beqb_ff (ine_t h3290)), (beqb_ff (ine_t h3290)), rfl, (beqb_ff (ine_t h3290)), (beqb_ff (ine_t h3290)), (ine_t h3290), z⟩
   refine cond_some hF (fun h3291 hF => ?_) (fun h3291 hF => ?_)
   ·
    refine bind_some hF (fun y3316 h3315 hF => ?_)
    refine sum_some hF (fun w3317 hx hF => ?_) (fun w3318 hx hF => ?_)
    ·
     subst hx
     obtain rfl := Option.some.inj hF
     have pz : HoldAll E H hn80 [.test (ine (nlen (len a3280.Rest)) r3288) false, .int (nlen (len a3280.In)) (nlen (len a3280.In)), .loop 0 c80_0 (F80_l0_0_S a3278 a3279 a3280 (-1) 0) .ret (F80_l0_0_X0 a3278 a3279 a3280 w3317)] := ⟨(ine_t h3291), rfl, (F80_l0_0_ok K a3278 a3279 a3280 K (-1) 0 _ h3315), trivial⟩
     exact fn_playC hn80 (r := F80_res false) (pq3319 (pq3320 (pq3321 (pq3322 (pq3323 (pq3324 pz)))))) (by kernel_rfl) (by kernel_rfl)
    subst hx
    obtain rfl := Option.some.inj hF
    have pz : HoldAll E H hn80 [.test (ine (nlen (len a3280.Rest)) r3288) false, .int (nlen (len a3280.In)) (nlen (len a3280.In)), .loop 0 c80_0 (F80_l0_0_S a3278 a3279 a3280 (-1) 0) (.exit 0) (F80_l0_0_X1 a3278 a3279 a3280 w3318)] := ⟨(ine_t h3291), rfl, (F80_l0_0_ok K a3278 a3279 a3280 K (-1) 0 _ h3315), trivial⟩
    exact fn_playC hn80 (r := F80_res true) (pq3319 (pq3320 (pq3321 (pq3322 (pq3323 (pq3324 pz)))))) (by kernel_rfl) (by kernel_rfl)
   obtain rfl := Option.some.inj hF
   have pz : HoldAll E H hn80 [.test (ine (nlen (len a3280.Rest)) r3288) true] := ⟨(ine_f h3291), trivial⟩
   exact fn_playC hn80 (r := F80_res false) (pq3319 (pq3320 (pq3321 (pq3322 (pq3323 (pq3324 pz)))))) (by kernel_rfl) (by kernel_rfl)
  obtain rfl := Option.some.inj hF
  have pz : HoldAll E H hn80 [.test (beqb (ine (nlen (len a3280.Vals)) r3288) false) false, .test (beqb (ine (nlen (len a3280.Vals)) r3288) false) false, .test (beqb (ine (nlen (len a3280.Vals)) r3288) false) false, .test (beqb (ine (nlen (len a3280.Vals)) r3288) false) false, .test (beqb (ine (nlen (len a3280.Vals)) r3288) false) false, .test (ine (nlen (len a3280.Vals)) r3288) true, .test true true] := ⟨(beqb_ft (ine_f h3290)), (beqb_ft (ine_f h3290)), (beqb_ft (ine_f h3290)), (beqb_ft (ine_f h3290)), (beqb_ft (ine_f h3290)), (ine_f h3290), rfl, trivial⟩
  exact fn_playC hn80 (r := F80_res false) (pq3319 (pq3320 (pq3321 (pq3322 (pq3323 pz))))) (by kernel_rfl) (by kernel_rfl)
 obtain rfl := Option.some.inj hF
 have pz : HoldAll E H hn80 [.call 94 [.agg (eGGraph a3278), .agg (eGJob a3279)] (F94_res r3281), .test (leadsAny (Res.mk [(.one (.im (.lit (.int .i64 r3281))))] [])) false, .test (beqb (ine r3281 0) false) false, .test (beqb (ine r3281 0) false) false, .test (beqb (ine r3281 0) false) false, .test (ine r3281 0) true, .test (beqb true false) false, .test (beqb true false) false, .test (beqb true false) false, .test (beqb true false) false, .test (beqb true false) false, .test true true, .test (beqb true false) false, .test (beqb true false) false, .test (beqb true false) false, .test true true, .test (beqb true false) false, .test (beqb true false) false, .test (beqb true false) false, .test true true, .test true true] := ⟨(F94_ok K a3278 a3279 _ h3282), (leads_ok (by simp [leadsAny, RV.leads, RC.leads, leadsT, hasSl_lit, flat_ns eGJob_ns])), (beqb_ft (ine_f h3283)), (beqb_ft (ine_f h3283)), (beqb_ft (ine_f h3283)), (ine_f h3283), (beqb_ft rfl), (beqb_ft rfl), (beqb_ft rfl), (beqb_ft rfl), (beqb_ft rfl), rfl, (beqb_ft rfl), (beqb_ft rfl), (beqb_ft rfl), rfl, (beqb_ft rfl), (beqb_ft rfl), (beqb_ft rfl), rfl, rfl, trivial⟩
 exact fn_playC hn80 (r := F80_res false) pz (by kernel_rfl) (by kernel_rfl)
noncomputable def hn81 : Hint := { H 81 with nt := 102, prot := 0 }
noncomputable def c81_0 : Code := loopOf E 81 0
noncomputable def c81_1 : Code := loopOf E 81 1
def F81_res (r3407 : Bool) : Res := ⟨[(.one (.im (.lit (.bool r3407))))], []⟩
def F81_l1_1 (K : Nat) (a3330 : GPart) (r3338 : List Int) (v3364 : Int) (x3367 : GMsg) : Nat → Bool → Int → Option (Bool)
 | 0, _, _ => none
 | k + 1, v3373, v3374 =>
  bif (ilt v3374 (nlen (len r3338))) then
   (bif v3373 then
    (F81_l1_1 K a3330 r3338 v3364 x3367 k true (wadd .i64 v3374 1))
   else
   bif (inr v3374 (len r3338)) then
   (elAt r3338 v3374).bind fun x3378 =>
   F81_l1_1 K a3330 r3338 v3364 x3367 k (ieq x3378 x3367.To) (wadd .i64 v3374 1)
   else none)
  else
  some v3373
def F81_l1_1_S (a3330 : GPart) (r3338 : List Int) (v3364 : Int) (x3367 : GMsg) (v3373 : Bool) (v3374 : Int) : TS := .on [320, 321, 322, 323, 324, 325, 448, 449, 512, 513, 576, 577, 640, 641, 704, 705] [(320, ⟨(.box 42 5), 0, nob⟩), (321, ⟨.im, 0, (.lit (.int .i64 a3330.P))⟩), (322, ⟨.im, 0, (.lit (.int .i64 a3330.Step))⟩), (323, ⟨.im, 0, (.sl (len a3330.Vals) (flat (eInt .i64) a3330.Vals))⟩), (324, ⟨.im, 0, (.sl (len a3330.Rest) (flat eBool a3330.Rest))⟩), (325, ⟨.im, 0, (.sl (len a3330.In) (flat eGMsg a3330.In))⟩), (448, ⟨.one, 0, nob⟩), (449, ⟨(.own 3), 0, (.sl (len r3338) (flat (eInt .i64) r3338))⟩), (512, ⟨.one, 0, nob⟩), (513, ⟨.im, 0, (.lit (.int .i64 v3364))⟩), (576, ⟨.one, 0, nob⟩), (577, ⟨.im, 0, (.lit (.int .i64 x3367.To))⟩), (640, ⟨.one, 0, nob⟩), (641, ⟨.im, 0, (.lit (.bool v3373))⟩), (704, ⟨.one, 0, nob⟩), (705, ⟨.im, 0, (.lit (.int .i64 v3374))⟩)]
def F81_l1_1_X0 (a3330 : GPart) (r3338 : List Int) (v3364 : Int) (x3367 : GMsg) (w3380 : Bool) : TS := .on [320, 321, 322, 323, 324, 325, 448, 449, 512, 513, 576, 577, 640, 641] [(320, ⟨(.box 42 5), 0, nob⟩), (321, ⟨.im, 0, (.lit (.int .i64 a3330.P))⟩), (322, ⟨.im, 0, (.lit (.int .i64 a3330.Step))⟩), (323, ⟨.im, 0, (.sl (len a3330.Vals) (flat (eInt .i64) a3330.Vals))⟩), (324, ⟨.im, 0, (.sl (len a3330.Rest) (flat eBool a3330.Rest))⟩), (325, ⟨.im, 0, (.sl (len a3330.In) (flat eGMsg a3330.In))⟩), (448, ⟨.one, 0, nob⟩), (449, ⟨(.own 3), 0, (.sl (len r3338) (flat (eInt .i64) r3338))⟩), (512, ⟨.one, 0, nob⟩), (513, ⟨.im, 0, (.lit (.int .i64 v3364))⟩), (576, ⟨.one, 0, nob⟩), (577, ⟨.im, 0, (.lit (.int .i64 x3367.To))⟩), (640, ⟨.one, 0, nob⟩), (641, ⟨.im, 0, (.lit (.bool w3380))⟩)]
theorem F81_l1_1_ok (K : Nat) (a3330 : GPart) (r3338 : List Int) (v3364 : Int) (x3367 : GMsg) : ∀ (k : Nat) (v3373 : Bool) (v3374 : Int) (r : Bool), F81_l1_1 K a3330 r3338 v3364 x3367 k v3373 v3374 = some r → LoopEv E H hn81 2 c81_1 (F81_l1_1_S a3330 r3338 v3364 x3367 v3373 v3374) (.exit 2) (F81_l1_1_X0 a3330 r3338 v3364 x3367 r) := by
 intro k
 induction k with
 | zero => intro v3373 v3374 r hF; cases hF
 | succ k ih =>
  intro v3373 v3374 r hF
  rw [F81_l1_1] at hF
  refine cond_some hF (fun h3375 hF => ?_) (fun h3375 hF => ?_)
  ·
   refine cond_some hF (fun h3376 hF => ?_) (fun h3376 hF => ?_)
   ·
    have pz : HoldAll E H hn81 [.int (nlen (len r3338)) (nlen (len r3338)), .test (ilt v3374 (nlen (len r3338))) true, .test (beqb v3373 false) false, .test (beqb v3373 false) false, .test (beqb v3373 false) false, .test (beqb v3373 false) false, .test (beqb v3373 false) false, .test (beqb v3373 false) false, .test v3373 true, .int (wadd .i64 v3374 1) (wadd .i64 v3374 1)] := ⟨rfl, h3375, (beqb_ft h3376), (beqb_ft h3376), (beqb_ft h3376), (beqb_ft h3376), (beqb_ft h3376), (beqb_ft h3376), h3376, rfl, trivial⟩
    have h0 := ih _ _ _ hF
    have hn := fun ex ts' => loop_nextC (h := hn81) (l := 2) (c := c81_1) (ts := F81_l1_1_S a3330 r3338 v3364 x3367 v3373 v3374) (ts1 := (F81_l1_1_S a3330 r3338 v3364 x3367 true (wadd .i64 v3374 1))) (ex := ex) (ts' := ts') pz (by kernel_rfl)
    exact hn _ _ h0
   refine cond_some hF (fun h3377 hF => ?_) (fun _ hF => nomatch hF)
   refine bind_some hF (fun x3378 h3379 hF => ?_)
   have pz : HoldAll E H hn81 [.int (nlen (len r3338)) (nlen (len r3338)), .test (ilt v3374 (nlen (len r3338))) true, .test (beqb v3373 false) true, .test (beqb v3373 false) true, .test (beqb v3373 false) true, .test (inr v3374 (len r3338)) true, .test (beqb v3373 false) true, .sub (flat (eInt .i64) r3338) (nidx v3374 1) 1 [(.lit (.int .i64 x3378))], .test (beqb v3373 false) true, .test (beqb v3373 false) true, .test v3373 false, .int (wadd .i64 v3374 1) (wadd .i64 v3374 1)] := ⟨rfl, h3375, (beqb_ff h3376), (beqb_ff h3376), (beqb_ff h3376), h3377, (beqb_ff h3376), ⟨rfl, sub_flat0 (eInt_len _) h3379 1 (by decide)⟩, (beqb_ff h3376), (beqb_ff h3376), h3376, rfl, trivial⟩
   have h0 := ih _ _ _ hF
   have hn := fun ex ts' => loop_nextC (h := hn81) (l := 2) (c := c81_1) (ts := F81_l1_1_S a3330 r3338 v3364 x3367 v3373 v3374) (ts1 := (F81_l1_1_S a3330 r3338 v3364 x3367 (ieq x3378 x3367.To) (wadd .i64 v3374 1))) (ex := ex) (ts' := ts') pz (by kernel_rfl)
   exact hn _ _ h0
  obtain rfl := Option.some.inj hF
  have pz : HoldAll E H hn81 [.int (nlen (len r3338)) (nlen (len r3338)), .test (ilt v3374 (nlen (len r3338))) false] := ⟨rfl, h3375, trivial⟩
  exact loop_endC (h := hn81) (l := 2) (c := c81_1) (ts := F81_l1_1_S a3330 r3338 v3364 x3367 v3373 v3374) (ts' := F81_l1_1_X0 a3330 r3338 v3364 x3367 v3373) (ex := (.exit 2)) pz (by kernel_rfl) trivial
def F81_l0_0 (K : Nat) (a3330 : GPart) (r3338 : List Int) : Nat → Int → Option ((Unit) ⊕ (Unit))
 | 0, _ => none
 | k + 1, v3364 =>
  bif (ilt v3364 (nlen (len a3330.In))) then
   (bif (inr v3364 (len a3330.In)) then
   (elAt a3330.In v3364).bind fun x3367 =>
   (F81_l1_1 K a3330 r3338 v3364 x3367 K false 0).bind fun w3384 =>
   bif w3384 then
    (bif (ilt 0 v3364) then
     (bif (inr (wsub .i64 v3364 1) (len a3330.In)) then
     (elAt a3330.In (wsub .i64 v3364 1)).bind fun x3389 =>
     bif (ile x3367.To x3389.To) then
      (some (.inl ()))
     else
     F81_l0_0 K a3330 r3338 k (wadd .i64 v3364 1)
     else none)
    else
    F81_l0_0 K a3330 r3338 k (wadd .i64 v3364 1))
   else
   some (.inl ())
   else none)
  else
  some (.inr ())
def F81_l0_0_S (a3330 : GPart) (r3338 : List Int) (v3364 : Int) : TS := .on [320, 321, 322, 323, 324, 325, 448, 449, 512, 513] [(320, ⟨(.box 42 5), 0, nob⟩), (321, ⟨.im, 0, (.lit (.int .i64 a3330.P))⟩), (322, ⟨.im, 0, (.lit (.int .i64 a3330.Step))⟩), (323, ⟨.im, 0, (.sl (len a3330.Vals) (flat (eInt .i64) a3330.Vals))⟩), (324, ⟨.im, 0, (.sl (len a3330.Rest) (flat eBool a3330.Rest))⟩), (325, ⟨.im, 0, (.sl (len a3330.In) (flat eGMsg a3330.In))⟩), (448, ⟨.one, 0, nob⟩), (449, ⟨(.own 3), 0, (.sl (len r3338) (flat (eInt .i64) r3338))⟩), (512, ⟨.one, 0, nob⟩), (513, ⟨.im, 0, (.lit (.int .i64 v3364))⟩)]
def F81_l0_0_X0 (a3330 : GPart) (r3338 : List Int) (w3392 : Unit) : TS := .on [384, 385] [(384, ⟨.one, 0, nob⟩), (385, ⟨.im, 0, (.lit (.bool false))⟩)]
def F81_l0_0_X1 (a3330 : GPart) (r3338 : List Int) (w3393 : Unit) : TS := .on [] []
theorem F81_l0_0_ok (K : Nat) (a3330 : GPart) (r3338 : List Int) : ∀ (k : Nat) (v3364 : Int) (r : (Unit) ⊕ (Unit)), F81_l0_0 K a3330 r3338 k v3364 = some r → (Sum.elim (fun w => LoopEv E H hn81 0 c81_0 (F81_l0_0_S a3330 r3338 v3364) .ret (F81_l0_0_X0 a3330 r3338 w)) (fun w => LoopEv E H hn81 0 c81_0 (F81_l0_0_S a3330 r3338 v3364) (.exit 0) (F81_l0_0_X1 a3330 r3338 w))) r := by
 intro k
 induction k with
 | zero => intro v3364 r hF; cases hF
 | succ k ih =>
  intro v3364 r hF
  rw [F81_l0_0] at hF
  refine cond_some hF (fun h3365 hF => ?_) (fun h3365 hF => ?_)
  ·
   refine cond_some hF (fun h3366 hF => ?_) (fun _ hF => nomatch hF)
   refine bind_some hF (fun x3367 h3368 hF => ?_)
   refine bind_some hF (fun w3384 h3382 hF => ?_)
   have pq3394 : ∀ {l : List Cond}, HoldAll E H hn81 l → HoldAll E H hn81 (.int (nlen (len a3330.In)) (nlen (len a3330.In)) :: .test (ilt v3364 (nlen (len a3330.In))) true :: .test (inr v3364 (len a3330.In)) true :: .sub (flat eGMsg a3330.In) (nadd (nidx v3364 2) 0) 1 [(.lit (.int .i64 x3367.To))] :: .loop 2 c81_1 (F81_l1_1_S a3330 r3338 v3364 x3367 false 0) (.exit 2) (F81_l1_1_X0 a3330 r3338 v3364 x3367 w3384) :: l) := fun z => ⟨rfl, h3365, h3366, ⟨rfl, sub_flat eGMsg_len h3368 0 1 (by decide)⟩, (F81_l1_1_ok K a3330 r3338 v3364 x3367 K false 0 _ h3382), z⟩
   refine cond_some hF (fun h3386 hF => ?_) (fun h3386 hF => ?_)
   ·
    have pq3395 : ∀ {l : List Cond}, HoldAll E H hn81 l → HoldAll E H hn81 (.test (beqb (bnot w3384) false) true :: .test (beqb (bnot w3384) false) true :: .test (beqb (bnot w3384) false) true :: l) := fun z => ⟨(beqb_ff (bnot_t h3386)), (beqb_ff (bnot_t h3386)), (beqb_ff (bnot_t h3386)), z⟩
    refine cond_some hF (fun h3387 hF => ?_) (fun h3387 hF => ?_)
    ·
     refine cond_some hF (fun h3388 hF => ?_) (fun _ hF => nomatch hF)
     refine bind_some hF (fun x3389 h3390 hF => ?_)
     have pq3396 : ∀ {l : List Cond}, HoldAll E H hn81 l → HoldAll E H hn81 (.test (beqb (igt v3364 0) true) true :: .test (beqb (igt v3364 0) true) true :: .test (beqb (igt v3364 0) true) true :: .test (beqb (igt v3364 0) true) true :: .int (wsub .i64 v3364 1) (wsub .i64 v3364 1) :: .test (beqb (igt v3364 0) true) true :: .test (inr (wsub .i64 v3364 1) (len a3330.In)) true :: .test (beqb (igt v3364 0) true) true :: .test (beqb (igt v3364 0) true) true :: .sub (flat eGMsg a3330.In) (nadd (nidx (wsub .i64 v3364 1) 2) 0) 1 [(.lit (.int .i64 x3389.To))] :: .test (beqb (igt v3364 0) true) true :: .test (beqb (igt v3364 0) true) true :: .test (beqb (bnot w3384) false) true :: .test (igt v3364 0) true :: .test (bnot w3384) false :: l) := fun z => ⟨(beqb_t (igt_eq h3387)), (beqb_t (igt_eq h3387)), (beqb_t (igt_eq h3387)), (beqb_t (igt_eq h3387)), rfl, (beqb_t (igt_eq h3387)), h3388, (beqb_t (igt_eq h3387)), (beqb_t (igt_eq h3387)), ⟨rfl, sub_flat eGMsg_len h3390 0 1 (by decide)⟩, (beqb_t (igt_eq h3387)), (beqb_t (igt_eq h3387)), (beqb_ff (bnot_t h3386)), (igt_eq h3387), (bnot_t h3386), z⟩
     refine cond_some hF (fun h3391 hF => ?_) (fun h3391 hF => ?_)
     ·
      obtain rfl := Option.some.inj hF
      have pz : HoldAll E H hn81 [.test (ige x3389.To x3367.To) true] := ⟨(ige_eq h3391), trivial⟩
      exact loop_endC (h := hn81) (l := 0) (c := c81_0) (ts := F81_l0_0_S a3330 r3338 v3364) (ts' := F81_l0_0_X0 a3330 r3338 ()) (ex := .ret) (pq3394 (pq3395 (pq3396 pz))) (by kernel_rfl) trivial
     have pz : HoldAll E H hn81 [.test (ige x3389.To x3367.To) false, .int (wadd .i64 v3364 1) (wadd .i64 v3364 1)] := ⟨(ige_eq h3391), rfl, trivial⟩
     have h0 := ih _ _ hF
     have hn := fun ex ts' => loop_nextC (h := hn81) (l := 0) (c := c81_0) (ts := F81_l0_0_S a3330 r3338 v3364) (ts1 := (F81_l0_0_S a3330 r3338 (wadd .i64 v3364 1))) (ex := ex) (ts' := ts') (pq3394 (pq3395 (pq3396 pz))) (by kernel_rfl)
     cases r with
     | inl w => exact hn _ _ h0
     | inr w => exact hn _ _ h0
    have pz : HoldAll E H hn81 [.test (beqb (igt v3364 0) true) false, .test (beqb (igt v3364 0) true) false, .test (beqb (igt v3364 0) true) false, .test (beqb (igt v3364 0) true) false, .test (beqb (igt v3364 0) true) false, .test (beqb (igt v3364 0) true) false, .test (beqb (igt v3364 0) true) false, .test (beqb (igt v3364 0) true) false, .test (beqb (igt v3364 0) true) false, .test (beqb (bnot w3384) false) true, .test (igt v3364 0) false, .test (bnot w3384) false, .test false false, .int (wadd .i64 v3364 1) (wadd .i64 v3364 1)] := ⟨(beqb_t (igt_eq h3387)), (beqb_t (igt_eq h3387)), (beqb_t (igt_eq h3387)), (beqb_t (igt_eq h3387)), (beqb_t (igt_eq h3387)), (beqb_t (igt_eq h3387)), (beqb_t (igt_eq h3387)), (beqb_t (igt_eq h3387)), (beqb_t (igt_eq h3387)), (beqb_ff (bnot_t h3386)), (igt_eq h3387), (bnot_t h3386), rfl, rfl, trivial⟩
    have h0 := ih _ _ hF
    have hn := fun ex ts' => loop_nextC (h := hn81) (l := 0) (c := c81_0) (ts := F81_l0_0_S a3330 r3338 v3364) (ts1 := (F81_l0_0_S a3330 r3338 (wadd .i64 v3364 1))) (ex := ex) (ts' := ts') (pq3394 (pq3395 pz)) (by kernel_rfl)
    cases r with
    | inl w => exact hn _ _ h0
    | inr w => exact hn _ _ h0
   obtain rfl := Option.some.inj hF
   have pz : HoldAll E H hn81 [.test (beqb (bnot w3384) false) false, .test (beqb (bnot w3384) false) false, .test (beqb (bnot w3384) false) false, .test (beqb (bnot w3384) false) false, .test (bnot w3384) true, .test true true] := ⟨(beqb_ft (bnot_f h3386)), (beqb_ft (bnot_f h3386)), (beqb_ft (bnot_f h3386)), (beqb_ft (bnot_f h3386)), (bnot_f h3386), rfl, trivial⟩
   exact loop_endC (h := hn81) (l := 0) (c := c81_0) (ts := F81_l0_0_S a3330 r3338 v3364) (ts' := F81_l0_0_X0 a3330 r3338 ()) (ex := .ret) (pq3394 pz) (by kernel_rfl) trivial
  obtain rfl := Option.some.inj hF
  have pz : HoldAll E H hn81 [.int (nlen (len a3330.In)) (nlen (len a3330.In)), .test (ilt v3364 (nlen (len a3330.In))) false] := ⟨rfl, h3365, trivial⟩
  exact loop_endC (h := hn81) (l := 0) (c := c81_0) (ts := F81_l0_0_S a3330 r3338 v3364) (ts' := F81_l0_0_X1 a3330 r3338 ()) (ex := (.exit 0)) pz (by kernel_rfl) trivial
def F81 (K : Nat) (a3328 : GGraph) (a3329 : GJob) (a3330 : GPart) : Option (Bool) :=
 (F59 K a3328 a3329).bind fun r3331 =>
 bif (ieq r3331 0) then
  (bif (ilt a3330.P 0) then
   (some false)
  else
  bif (ile a3329.Parts a3330.P) then
   (some false)
  else
  bif (ilt a3330.Step 0) then
   (some false)
  else
  bif (ilt 40 a3330.Step) then
   (some false)
  else
  (F139 K a3328 a3329 a3330.P).bind fun r3338 =>
  bif (ieq (nlen (len a3330.Vals)) (nlen (len r3338))) then
   (bif (ieq (nlen (len a3330.Rest)) (nlen (len r3338))) then
    ((F81_l0_0 K a3330 r3338 K 0).bind fun y3398 =>
    Sum.elim (fun w3399 =>
     some false)
     (fun w3400 =>
     some true) y3398)
   else
   some false)
  else
  some false)
 else
 some false
theorem F81_ok (K : Nat) (a3328 : GGraph) (a3329 : GJob) (a3330 : GPart) (r : Bool) (hF : F81 K a3328 a3329 a3330 = some r) : Evt E H 81 [.agg (eGGraph a3328), .agg (eGJob a3329), .agg (eGPart a3330)] (F81_res r) := by
 rw [F81] at hF
 refine bind_some hF (fun r3331 h3332 hF => ?_)
 refine cond_some hF (fun h3333 hF => ?_) (fun h3333 hF => ?_)
 ·
  have pq3401 : ∀ {l : List Cond}, HoldAll E H hn81 l → HoldAll E H hn81 (.call 59 [.agg (eGGraph a3328), .agg (eGJob a3329)] (F59_res r3331) :: .test (leadsAny (Res.mk [(.one (.im (.lit (.int .i64 r3331))))] [])) false :: .test (beqb (ine r3331 0) false) true :: .test (beqb (ine r3331 0) false) true :: .test (beqb (ine r3331 0) false) true :: .test (ine r3331 0) false :: l) := fun z => ⟨(F59_ok K a3328 a3329 _ h3332), (leads_ok (by simp [leadsAny, RV.leads, RC.leads, leadsT, hasSl_lit, flat_ns eGJob_ns])), (beqb_ff (ine_t h3333)), (beqb_ff (ine_t h3333)), (beqb_ff (ine_t h3333)), (ine_t h3333), z⟩
  refine cond_some hF (fun h3334 hF => ?_) (fun h3334 hF => ?_)
  ·
   obtain rfl := Option.some.inj hF
   have pz : HoldAll E H hn81 [.test (beqb (ilt a3330.P 0) false) false, .test (beqb (ilt a3330.P 0) false) false, .test (beqb (ilt a3330.P 0) false) false, .test (beqb (ilt a3330.P 0) false) false, .test (beqb (ilt a3330.P 0) false) false, .test (ilt a3330.P 0) true, .test (beqb true false) false, .test (beqb true false) false, .test (beqb true false) false, .test true true, .test (beqb true false) false, .test (beqb true false) false, .test (beqb true false) false, .test true true, .test true true] := ⟨(beqb_ft h3334), (beqb_ft h3334), (beqb_ft h3334), (beqb_ft h3334), (beqb_ft h3334), h3334, (beqb_ft rfl), (beqb_ft rfl), (beqb_ft rfl), rfl, (beqb_ft rfl), (beqb_ft rfl), (beqb_ft rfl), rfl, rfl, trivial⟩
   exact fn_playC hn81 (r := F81_res false) (pq3401 pz) (by kernel_rfl) (by kernel_rfl)
  have pq3402 : ∀ {l : List Cond}, HoldAll E H hn81 l → HoldAll E H hn81 (.test (beqb (ilt a3330.P 0) false) true :: .test (beqb (ilt a3330.P 0) false) true :: .test (beqb (ilt a3330.P 0) false) true :: .test (beqb (ilt a3330.P 0) false) true :: .test (beqb (ilt a3330.P 0) false) true :: .test (ilt a3330.P 0) false :: l) := fun z => ⟨(beqb_ff h3334), (beqb_ff h3334), (beqb_ff h3334), (beqb_ff h3334), (beqb_ff h3334), h3334, z⟩
  refine cond_some hF (fun h3335 hF => ?_) (fun h3335 hF => ?_)
  ·
   obtain rfl := Option.some.inj hF
   have pz : HoldAll E H hn81 [.test (beqb (ige a3330.P a3329.Parts) false) false, .test (beqb (ige a3330.P a3329.Parts) false) false, .test (beqb (ige a3330.P a3329.Parts) false) false, .test (ige a3330.P a3329.Parts) true, .test (beqb true false) false, .test (beqb true false) false, .test (beqb true false) false, .test true true, .test true true] := ⟨(beqb_ft (ige_eq h3335)), (beqb_ft (ige_eq h3335)), (beqb_ft (ige_eq h3335)), (ige_eq h3335), (beqb_ft rfl), (beqb_ft rfl), (beqb_ft rfl), rfl, rfl, trivial⟩
   exact fn_playC hn81 (r := F81_res false) (pq3401 (pq3402 pz)) (by kernel_rfl) (by kernel_rfl)
  have pq3403 : ∀ {l : List Cond}, HoldAll E H hn81 l → HoldAll E H hn81 (.test (beqb (ige a3330.P a3329.Parts) false) true :: .test (beqb (ige a3330.P a3329.Parts) false) true :: .test (beqb (ige a3330.P a3329.Parts) false) true :: .test (ige a3330.P a3329.Parts) false :: l) := fun z => ⟨(beqb_ff (ige_eq h3335)), (beqb_ff (ige_eq h3335)), (beqb_ff (ige_eq h3335)), (ige_eq h3335), z⟩
  refine cond_some hF (fun h3336 hF => ?_) (fun h3336 hF => ?_)
  ·
   obtain rfl := Option.some.inj hF
   have pz : HoldAll E H hn81 [.test (beqb (ilt a3330.Step 0) false) false, .test (beqb (ilt a3330.Step 0) false) false, .test (beqb (ilt a3330.Step 0) false) false, .test (ilt a3330.Step 0) true, .test true true] := ⟨(beqb_ft h3336), (beqb_ft h3336), (beqb_ft h3336), h3336, rfl, trivial⟩
   exact fn_playC hn81 (r := F81_res false) (pq3401 (pq3402 (pq3403 pz))) (by kernel_rfl) (by kernel_rfl)
  have pq3404 : ∀ {l : List Cond}, HoldAll E H hn81 l → HoldAll E H hn81 (.test (beqb (ilt a3330.Step 0) false) true :: .test (beqb (ilt a3330.Step 0) false) true :: .test (beqb (ilt a3330.Step 0) false) true :: .test (ilt a3330.Step 0) false :: l) := fun z => ⟨(beqb_ff h3336), (beqb_ff h3336), (beqb_ff h3336), h3336, z⟩
  refine cond_some hF (fun h3337 hF => ?_) (fun h3337 hF => ?_)
  ·
   obtain rfl := Option.some.inj hF
   have pz : HoldAll E H hn81 [.test (igt a3330.Step 40) true] := ⟨(igt_eq h3337), trivial⟩
   exact fn_playC hn81 (r := F81_res false) (pq3401 (pq3402 (pq3403 (pq3404 pz)))) (by kernel_rfl) (by kernel_rfl)
  refine bind_some hF (fun r3338 h3339 hF => ?_)
  have pq3405 : ∀ {l : List Cond}, HoldAll E H hn81 l → HoldAll E H hn81 (.test (igt a3330.Step 40) false :: .call 139 [.agg (eGGraph a3328), .agg (eGJob a3329), .one (.lit (.int .i64 a3330.P))] (F139_res r3338) :: .test (leadsAny (Res.mk [(.one (.own 3 (.sl (len r3338) (flat (eInt .i64) r3338))))] [])) false :: .int (nlen (len a3330.Vals)) (nlen (len a3330.Vals)) :: .int (nlen (len r3338)) (nlen (len r3338)) :: l) := fun z => ⟨(igt_eq h3337), (F139_ok K a3328 a3329 a3330.P _ h3339), (leads_ok (by simp [leadsAny, RV.leads, RC.leads, leadsT, hasSl_lit, flat_ns (eInt_ns _), flat_ns eGJob_ns])), rfl, rfl, z⟩
  refine cond_some hF (fun h3340 hF => ?_) (fun h3340 hF => ?_)
  ·
   have pq3406 : ∀ {l : List Cond}, HoldAll E H hn81 l → HoldAll E H hn81 (.test (beqb (ine (nlen (len a3330.Vals)) (nlen (len r3338))) false) true :: .test (beqb (ine (nlen (len a3330.Vals)) (nlen (len r3338))) false) true :: .test (beqb (ine (nlen (len a3330.Vals)) (nlen (len r3338))) false) true :: .int (nlen (len a3330.Rest)) (nlen (len a3330.Rest)) :: .test (beqb (ine (nlen (len a3330.Vals)) (nlen (len r3338))) false) true :: .test (beqb (ine (nlen (len a3330.Vals)) (nlen (len r3338))) false) true :: .int (nlen (len r3338)) (nlen (len r3338)) :: .test (beqb (ine (nlen (len a3330.Vals)) (nlen (len r3338))) false) true :: .test (ine (nlen (len a3330.Vals)) (nlen (len r3338))) false :: l) := fun z => ⟨(beqb_ff (ine_t h3340)), (beqb_ff (ine_t h3340)), (beqb_ff (ine_t h3340)), rfl, (beqb_ff (ine_t h3340)), (beqb_ff (ine_t h3340)), rfl, (beqb_ff (ine_t h3340)), (ine_t h3340), z⟩
   refine cond_some hF (fun h3341 hF => ?_) (fun h3341 hF => ?_)
   ·
    refine bind_some hF (fun y3398 h3397 hF => ?_)
    refine sum_some hF (fun w3399 hx hF => ?_) (fun w3400 hx hF => ?_)
    ·
     subst hx
     obtain rfl := Option.some.inj hF
     have pz : HoldAll E H hn81 [.test (ine (nlen (len a3330.Rest)) (nlen (len r3338))) false, .loop 0 c81_0 (F81_l0_0_S a3330 r3338 0) .ret (F81_l0_0_X0 a3330 r3338 w3399)] := ⟨(ine_t h3341), (F81_l0_0_ok K a3330 r3338 K 0 _ h3397), trivial⟩
     exact fn_playC hn81 (r := F81_res false) (pq3401 (pq3402 (pq3403 (pq3404 (pq3405 (pq3406 pz)))))) (by kernel_rfl) (by kernel_rfl)
    subst hx
    obtain rfl := Option.some.inj hF
    have pz : HoldAll E H hn81 [.test (ine (nlen (len a3330.Rest)) (nlen (len r3338))) false, .loop 0 c81_0 (F81_l0_0_S a3330 r3338 0) (.exit 0) (F81_l0_0_X1 a3330 r3338 w3400)] := ⟨(ine_t h3341), (F81_l0_0_ok K a3330 r3338 K 0 _ h3397), trivial⟩
    exact fn_playC hn81 (r := F81_res true) (pq3401 (pq3402 (pq3403 (pq3404 (pq3405 (pq3406 pz)))))) (by kernel_rfl) (by kernel_rfl)
   obtain rfl := Option.some.inj hF
   have pz : HoldAll E H hn81 [.test (ine (nlen (len a3330.Rest)) (nlen (len r3338))) true] := ⟨(ine_f h3341), trivial⟩
   exact fn_playC hn81 (r := F81_res false) (pq3401 (pq3402 (pq3403 (pq3404 (pq3405 (pq3406 pz)))))) (by kernel_rfl) (by kernel_rfl)
  obtain rfl := Option.some.inj hF
  have pz : HoldAll E H hn81 [.test (beqb (ine (nlen (len a3330.Vals)) (nlen (len r3338))) false) false, .test (beqb (ine (nlen (len a3330.Vals)) (nlen (len r3338))) false) false, .test (beqb (ine (nlen (len a3330.Vals)) (nlen (len r3338))) false) false, .test (beqb (ine (nlen (len a3330.Vals)) (nlen (len r3338))) false) false, .test (beqb (ine (nlen (len a3330.Vals)) (nlen (len r3338))) false) false, .test (beqb (ine (nlen (len a3330.Vals)) (nlen (len r3338))) false) false, .test (ine (nlen (len a3330.Vals)) (nlen (len r3338))) true, .test true true] := ⟨(beqb_ft (ine_f h3340)), (beqb_ft (ine_f h3340)), (beqb_ft (ine_f h3340)), (beqb_ft (ine_f h3340)), (beqb_ft (ine_f h3340)), (beqb_ft (ine_f h3340)), (ine_f h3340), rfl, trivial⟩
  exact fn_playC hn81 (r := F81_res false) (pq3401 (pq3402 (pq3403 (pq3404 (pq3405 pz))))) (by kernel_rfl) (by kernel_rfl)
 obtain rfl := Option.some.inj hF
 have pz : HoldAll E H hn81 [.call 59 [.agg (eGGraph a3328), .agg (eGJob a3329)] (F59_res r3331), .test (leadsAny (Res.mk [(.one (.im (.lit (.int .i64 r3331))))] [])) false, .test (beqb (ine r3331 0) false) false, .test (beqb (ine r3331 0) false) false, .test (beqb (ine r3331 0) false) false, .test (ine r3331 0) true, .test (beqb true false) false, .test (beqb true false) false, .test (beqb true false) false, .test (beqb true false) false, .test (beqb true false) false, .test true true, .test (beqb true false) false, .test (beqb true false) false, .test (beqb true false) false, .test true true, .test (beqb true false) false, .test (beqb true false) false, .test (beqb true false) false, .test true true, .test true true] := ⟨(F59_ok K a3328 a3329 _ h3332), (leads_ok (by simp [leadsAny, RV.leads, RC.leads, leadsT, hasSl_lit, flat_ns eGJob_ns])), (beqb_ft (ine_f h3333)), (beqb_ft (ine_f h3333)), (beqb_ft (ine_f h3333)), (ine_f h3333), (beqb_ft rfl), (beqb_ft rfl), (beqb_ft rfl), (beqb_ft rfl), (beqb_ft rfl), rfl, (beqb_ft rfl), (beqb_ft rfl), (beqb_ft rfl), rfl, (beqb_ft rfl), (beqb_ft rfl), (beqb_ft rfl), rfl, rfl, trivial⟩
 exact fn_playC hn81 (r := F81_res false) pz (by kernel_rfl) (by kernel_rfl)
def inOkS (n parts p : Int) : Int → List GMsg → Bool
 | _, [] => true
 | prev, m :: r => ilt prev m.To && (ilt m.To n && (ieq (m.To % parts) p && inOkS n parts p m.To r))
def sumU (b : Bool) : Unit ⊕ Unit := bif b then .inr () else .inl ()
theorem sumU_elim (b : Bool) : (some (sumU b)).bind (fun y => Sum.elim (fun w => some false) (fun w => some true) y) = some b := by cases b <;> rfl
theorem not_ile {a b : Int} : ile a b = !(ilt b a) := by
 unfold ile ilt; by_cases h : b < a <;> simp [h] <;> omega
def partRight (g : GGraph) (j : GJob) (x : GPart) : Bool :=
 ieq (jcheck g j) 0 && (ile 0 x.P && (ilt x.P j.Parts && (ile 0 x.Step && (ile x.Step 40 && (ieq (x.Vals.length : Int) (countS g j x.P) && (ieq (x.Rest.length : Int) (countS g j x.P) && inOkS g.N j.Parts x.P (-1) x.In))))))
theorem F80_loop {K : Nat} (g : GGraph) (j : GJob) (x : GPart) (hp : 1 ≤ j.Parts) (hl : x.In.length < 1000000) (hK : x.In.length < K) : F80_l0_0 K g j x K (-1) 0 = some (sumU (inOkS g.N j.Parts x.P (-1) x.In)) := by
 let step : GMsg → Int → (Int → Option (Unit ⊕ Unit)) → Option (Unit ⊕ Unit) := fun m s c =>
   bif (ile m.To s) then (some (.inl ())) else bif (ile g.N m.To) then (some (.inl ())) else bif (izero j.Parts) then none else bif (ieq (wrem m.To j.Parts) x.P) then c m.To else some (.inl ())
 have h := scanL (l := x.In) (L := fun k s i => F80_l0_0 K g j x k s i) step (fun _ => some (.inr ())) (fun k s i _ => rfl) (by omega) (K := K) hK (-1)
 have hz : izero j.Parts = false := decide_eq_false (by omega)
 have hw : ∀ (l : List GMsg) (s : Int), -1 ≤ s → goL step (fun _ => some (.inr ())) l s = some (sumU (inOkS g.N j.Parts x.P s l)) := by
   intro l
   induction l with
   | nil => intro s _; rfl
   | cons m l ih =>
     intro s hs
     rw [goL]
     show (bif (ile m.To s) then (some (.inl ())) else bif (ile g.N m.To) then (some (.inl ())) else bif (izero j.Parts) then none else bif (ieq (wrem m.To j.Parts) x.P) then goL step (fun _ => some (.inr ())) l m.To else some (.inl ())) = _
     rw [inOkS, hz, not_ile, not_ile]
     cases h1 : ilt s m.To
     · rfl
     · have h1' := ilt_iff.1 h1
       rw [wrem_emod (by omega), ih m.To (by omega)]
       cases ilt m.To g.N <;> cases ieq (m.To % j.Parts) x.P <;> rfl
 rw [hw _ _ (by omega)] at h
 exact h
theorem F80_spec {K : Nat} (hK : 1000 ≤ K) (g : GGraph) (j : GJob) (x : GPart) (hl : x.In.length < 1000000) (hk : x.In.length < K) (hp : -9223372036854775808 ≤ x.P ∧ x.P ≤ 9223372036854775807) : F80 K g j x = some (partRight g j x) := by
 rw [F80, F94_spec (by omega), Option.bind_some, partRight]
 cases hc : ieq (jcheck g j) 0
 · rfl
 · obtain ⟨hg, p1, p2, p3, p4, p5, p6, p7, p8⟩ := jcheck_ok hc
   rw [cond_true, F77_spec (by omega) g j x.P hp, hc, F80_loop g j x p7 hl hk]
   have n1 : nlen (len x.Vals) = (x.Vals.length : Int) := rfl
   have n2 : nlen (len x.Rest) = (x.Rest.length : Int) := rfl
   rw [ilt_not' x.P 0, not_ile (a := j.Parts), ilt_not' x.Step 0, ilt_not' 40 x.Step, n1, n2, cond_true, Option.bind_some, sumU_elim]
   cases ile 0 x.P <;> cases ilt x.P j.Parts <;> cases ile 0 x.Step <;> cases ile x.Step 40 <;> cases ieq (x.Vals.length : Int) (countS g j x.P) <;> cases ieq (x.Rest.length : Int) (countS g j x.P) <;> rfl
theorem any_verts {g : GGraph} {j : GJob} (hp : 1 ≤ j.Parts) (p to : Int) : (((vertsS g j p).map Int.ofNat).any fun v => ieq v to) = (ile 0 to && (ilt to g.N && ieq (to % j.Parts) p)) := by
 rw [Bool.eq_iff_iff]
 simp only [List.any_map, List.any_eq_true, Function.comp, Bool.and_eq_true, ile_iff, ilt_iff, ieq_iff]
 constructor
 · rintro ⟨v, hv, e⟩
   have := (mem_verts hp).1 hv
   have e' : (v : Int) = to := e
   rw [← e']; exact ⟨by omega, this⟩
 · rintro ⟨h0, h1, h2⟩
   obtain ⟨v, rfl⟩ := Int.eq_ofNat_of_zero_le h0
   exact ⟨v, (mem_verts hp).2 ⟨h1, h2⟩, rfl⟩
theorem F81_inner {K : Nat} (x : GPart) (l : List Int) (v : Int) (m : GMsg) (hl : l.length < 1000000) (hk : l.length < K) : F81_l1_1 K x l v m K false 0 = some (l.any fun v => ieq v m.To) := by
 have h := scanL (l := l) (L := fun k s i => F81_l1_1 K x l v m k s i) (fun y s c => bif s then c true else c (ieq y m.To)) (fun s => some s) (fun k s i _ => by
   show F81_l1_1 K x l v m (k + 1) s i = _
   rw [F81_l1_1]
   rcases at_idx l i with ⟨z, e1, e2, e3, e4⟩ | ⟨e1, e2⟩
   · rw [e2, e3, e4]; cases s <;> rfl
   · rw [e2]; rfl) (by omega) (K := K) hk false
 have hw : ∀ (l : List Int) (s : Bool), goL (fun y s c => bif s then c true else c (ieq y m.To)) (fun s => some s) l s = some (s || l.any fun v => ieq v m.To) := by
   intro l
   induction l with
   | nil => intro s; simp [goL]
   | cons y l ih =>
     intro s
     rw [goL]
     cases s
     · rw [cond_false, ih, List.any_cons, Bool.false_or]
     · rw [cond_true, ih]; rfl
 rw [hw, Bool.false_or] at h
 exact h
theorem verts_len (g : GGraph) (j : GJob) (hn : g.N ≤ 24) (p : Int) : (vertsS g j p).length ≤ 24 := by
 unfold vertsS vertsN
 refine Nat.le_trans (List.length_filter_le _ _) ?_
 simp; omega
theorem F81_loop {K : Nat} (hK : 1000 ≤ K) (g : GGraph) (j : GJob) (x : GPart) (hp : 1 ≤ j.Parts) (hn : g.N ≤ 24) (hl : x.In.length < 1000000) (hk : x.In.length < K) : F81_l0_0 K x ((vertsS g j x.P).map Int.ofNat) K 0 = some (sumU (inOkS g.N j.Parts x.P (-1) x.In)) := by
 have hv := verts_len g j hn x.P
 let step : Nat → GMsg → Unit → (Unit → Option (Unit ⊕ Unit)) → Option (Unit ⊕ Unit) := fun i m _ c =>
     (F81_l1_1 K x ((vertsS g j x.P).map Int.ofNat) (i : Int) m K false 0).bind fun w3384 =>
     bif w3384 then
       (bif (ilt 0 (i : Int)) then
         (bif (inr (wsub .i64 (i : Int) 1) (len x.In)) then
         (elAt x.In (wsub .i64 (i : Int) 1)).bind fun x3389 =>
         bif (ile m.To x3389.To) then (some (.inl ())) else c ()
         else none)
       else c ())
     else some (.inl ())
 have h := scanI (l := x.In) (L := fun k (_ : Unit) i => F81_l0_0 K x ((vertsS g j x.P).map Int.ofNat) k i) step (fun _ => some (.inr ())) (fun k st i hi => rfl) (by omega) K () 0 (by omega) (by omega)
 have hw : ∀ (r : List GMsg) (i : Nat), x.In.drop i = r → goI step (fun _ => some (.inr ())) i r () = some (sumU (inOkS g.N j.Parts x.P (match prevOf x.In i with | none => -1 | some d => if 0 ≤ d.To then d.To else -1) r)) ∨ (∃ d, prevOf x.In i = some d ∧ d.To < 0) := by
   intro r
   induction r with
   | nil => intro i _; exact .inl rfl
   | cons m r ih =>
     intro i hr
     obtain ⟨n1, n2, hi⟩ := prev_next hr
     by_cases hneg : ∃ d, prevOf x.In i = some d ∧ d.To < 0
     · exact .inr hneg
     left
     rw [goI]
     show ((F81_l1_1 K x ((vertsS g j x.P).map Int.ofNat) (i : Int) m K false 0).bind fun w3384 =>
     bif w3384 then
       (bif (ilt 0 (i : Int)) then
         (bif (inr (wsub .i64 (i : Int) 1) (len x.In)) then
         (elAt x.In (wsub .i64 (i : Int) 1)).bind fun x3389 =>
         bif (ile m.To x3389.To) then (some (.inl ())) else goI step (fun _ => some (.inr ())) (i + 1) r ()
         else none)
       else goI step (fun _ => some (.inr ())) (i + 1) r ())
     else some (.inl ())) = _
     rw [F81_inner x _ _ m (by simp; omega) (by simp; omega), any_verts hp, Option.bind_some]
     cases h0 : ile 0 m.To
     · have := ile_f.1 h0
       have hno : ∀ a : Int, -1 ≤ a → ilt a m.To = false := fun a ha => ilt_f.2 (by omega)
       have hprev : (-1 : Int) ≤ (match prevOf x.In i with | none => -1 | some d => if 0 ≤ d.To then d.To else -1) := by
         split
         · omega
         · split <;> omega
       rw [inOkS, hno _ hprev]; rfl
     · have hm0 := ile_iff.1 h0
       have nx : goI step (fun _ => some (.inr ())) (i + 1) r () = some (sumU (inOkS g.N j.Parts x.P m.To r)) := by
         rcases ih (i + 1) n2 with q | ⟨d, q1, q2⟩
         · rw [n1] at q
           dsimp only at q
           rw [if_pos hm0] at q; exact q
         · rw [n1] at q1; cases q1; omega
       rw [nx, inOkS]
       cases i with
       | zero =>
         have e1 : ilt 0 ((0 : Nat) : Int) = false := rfl
         have e2 : (match prevOf x.In 0 with | none => (-1 : Int) | some d => if 0 ≤ d.To then d.To else -1) = -1 := rfl
         rw [e1, e2, ilt_iff.2 (by omega : (-1 : Int) < m.To)]
         cases ilt m.To g.N <;> cases ieq (m.To % j.Parts) x.P <;> rfl
       | succ q =>
         obtain ⟨d, p1, p2, p3, p4⟩ := prev_at (l := x.In) (i := q + 1) (by omega) hi (by omega)
         have hd : ¬ d.To < 0 := fun hh => hneg ⟨d, p1, hh⟩
         have e1 : ilt 0 ((q + 1 : Nat) : Int) = true := ilt_iff.2 (by omega)
         rw [e1, p2, p3, p4, p1]
         simp only [Option.bind_some, cond_true, Bool.true_and, not_ile (a := m.To), if_pos (show 0 ≤ d.To by omega)]
         cases ilt d.To m.To <;> cases ilt m.To g.N <;> cases ieq (m.To % j.Parts) x.P <;> rfl
 rcases hw x.In 0 rfl with q | ⟨d, q1, _⟩
 · rw [List.drop_zero, q] at h; exact h
 · cases q1
theorem F81_spec {K : Nat} (hK : 1000 ≤ K) (g : GGraph) (j : GJob) (x : GPart) (hl : x.In.length < 1000000) (hk : x.In.length < K) : F81 K g j x = some (partRight g j x) := by
 rw [F81, F59_spec (by omega), Option.bind_some, partRight]
 cases hc : ieq (jcheck g j) 0
 · rfl
 · obtain ⟨hg, p1, p2, p3, p4, p5, p6, p7, p8⟩ := jcheck_ok hc
   obtain ⟨g1, g2, _, _⟩ := gcheck_ok hg
   have n3 : nlen (len ((vertsS g j x.P).map Int.ofNat)) = countS g j x.P := by simp [nlen, len, countS]
   rw [cond_true, F139_spec (by omega) p7 p8 g2, Option.bind_some, F81_loop hK g j x p7 g2 hl hk, n3]
   have n1 : nlen (len x.Vals) = (x.Vals.length : Int) := rfl
   have n2 : nlen (len x.Rest) = (x.Rest.length : Int) := rfl
   rw [ilt_not' x.P 0, not_ile (a := j.Parts), ilt_not' x.Step 0, ilt_not' 40 x.Step, n1, n2, sumU_elim]
   cases ile 0 x.P <;> cases ilt x.P j.Parts <;> cases ile 0 x.Step <;> cases ile x.Step 40 <;> cases ieq (x.Vals.length : Int) (countS g j x.P) <;> cases ieq (x.Rest.length : Int) (countS g j x.P) <;> rfl
theorem partRight_ok {g : GGraph} {j : GJob} {x : GPart} (h : partRight g j x = true) : ieq (jcheck g j) 0 = true ∧ 0 ≤ x.P ∧ x.P < j.Parts ∧ 0 ≤ x.Step ∧ x.Step ≤ 40 ∧ (x.Vals.length : Int) = countS g j x.P ∧ (x.Rest.length : Int) = countS g j x.P ∧ inOkS g.N j.Parts x.P (-1) x.In = true := by
 simp only [partRight, Bool.and_eq_true, ile_iff, ilt_iff, ieq_iff] at h
 obtain ⟨h1, h2, h3, h4, h5, h6, h7, h8⟩ := h
 exact ⟨ieq_iff.2 h1, h2, h3, h4, h5, h6, h7, h8⟩
theorem inOkS_mk {n parts p : Int} : ∀ {l : List GMsg} {v : Int}, l.Pairwise (fun a b => a.To < b.To) → (∀ m ∈ l, v < m.To ∧ m.To < n ∧ m.To % parts = p) → inOkS n parts p v l = true
 | [], _, _, _ => rfl
 | m :: l, v, h, hm => by
   obtain ⟨a, b⟩ := List.pairwise_cons.1 h
   have h1 := hm m List.mem_cons_self
   rw [inOkS, ilt_iff.2 h1.1, ilt_iff.2 h1.2.1, ieq_iff.2 h1.2.2]
   exact inOkS_mk b fun x hx => ⟨a x hx, (hm x (List.mem_cons_of_mem _ hx)).2⟩
noncomputable def hn120 : Hint := { H 120 with nt := 19, prot := 0 }
noncomputable def c120_0 : Code := loopOf E 120 0
def F120_res (r6532 : Bool) : Res := ⟨[(.one (.im (.lit (.bool r6532))))], []⟩
def F120_l0_0 (K : Nat) (a6512 : List (List GMsg)) : Nat → Int → Option ((Unit) ⊕ (Unit))
 | 0, _ => none
 | k + 1, v6519 =>
  bif (ilt v6519 (nlen (len a6512))) then
   (bif (inr v6519 (len a6512)) then
   (elAt a6512 v6519).bind fun x6522 =>
   bif (ilt 100 (nlen (len x6522))) then
    (some (.inl ()))
   else
   F120_l0_0 K a6512 k (wadd .i64 v6519 1)
   else none)
  else
  some (.inr ())
def F120_l0_0_S (a6512 : List (List GMsg)) (v6519 : Int) : TS := .on [0, 1, 192, 193] [(0, ⟨.one, 0, nob⟩), (1, ⟨.im, 0, (.sl (len a6512) (flat (eSl eGMsg) a6512))⟩), (192, ⟨.one, 0, nob⟩), (193, ⟨.im, 0, (.lit (.int .i64 v6519))⟩)]
def F120_l0_0_X0 (a6512 : List (List GMsg)) (w6525 : Unit) : TS := .on [128, 129] [(128, ⟨.one, 0, nob⟩), (129, ⟨.im, 0, (.lit (.bool true))⟩)]
def F120_l0_0_X1 (a6512 : List (List GMsg)) (w6526 : Unit) : TS := .on [] []
theorem F120_l0_0_ok (K : Nat) (a6512 : List (List GMsg)) : ∀ (k : Nat) (v6519 : Int) (r : (Unit) ⊕ (Unit)), F120_l0_0 K a6512 k v6519 = some r → (Sum.elim (fun w => LoopEv E H hn120 0 c120_0 (F120_l0_0_S a6512 v6519) .ret (F120_l0_0_X0 a6512 w)) (fun w => LoopEv E H hn120 0 c120_0 (F120_l0_0_S a6512 v6519) (.exit 0) (F120_l0_0_X1 a6512 w))) r := by
 intro k
 induction k with
 | zero => intro v6519 r hF; cases hF
 | succ k ih =>
  intro v6519 r hF
  rw [F120_l0_0] at hF
  refine cond_some hF (fun h6520 hF => ?_) (fun h6520 hF => ?_)
  ·
   refine cond_some hF (fun h6521 hF => ?_) (fun _ hF => nomatch hF)
   refine bind_some hF (fun x6522 h6523 hF => ?_)
   have pq6527 : ∀ {l : List Cond}, HoldAll E H hn120 l → HoldAll E H hn120 (.int (nlen (len a6512)) (nlen (len a6512)) :: .test (ilt v6519 (nlen (len a6512))) true :: .test (inr v6519 (len a6512)) true :: .sub (flat (eSl eGMsg) a6512) (nidx v6519 1) 1 [(.sl (len x6522) (flat eGMsg x6522))] :: .int (nlen (len x6522)) (nlen (len x6522)) :: l) := fun z => ⟨rfl, h6520, h6521, ⟨rfl, sub_flat0 (eSl_len _) h6523 1 (by decide)⟩, rfl, z⟩
   refine cond_some hF (fun h6524 hF => ?_) (fun h6524 hF => ?_)
   ·
    obtain rfl := Option.some.inj hF
    have pz : HoldAll E H hn120 [.test (igt (nlen (len x6522)) 100) true] := ⟨(igt_eq h6524), trivial⟩
    exact loop_endC (h := hn120) (l := 0) (c := c120_0) (ts := F120_l0_0_S a6512 v6519) (ts' := F120_l0_0_X0 a6512 ()) (ex := .ret) (pq6527 pz) (by kernel_rfl) trivial
   have pz : HoldAll E H hn120 [.test (igt (nlen (len x6522)) 100) false, .int (wadd .i64 v6519 1) (wadd .i64 v6519 1)] := ⟨(igt_eq h6524), rfl, trivial⟩
   have h0 := ih _ _ hF
   have hn := fun ex ts' => loop_nextC (h := hn120) (l := 0) (c := c120_0) (ts := F120_l0_0_S a6512 v6519) (ts1 := (F120_l0_0_S a6512 (wadd .i64 v6519 1))) (ex := ex) (ts' := ts') (pq6527 pz) (by kernel_rfl)
   cases r with
   | inl w => exact hn _ _ h0
   | inr w => exact hn _ _ h0
  obtain rfl := Option.some.inj hF
  have pz : HoldAll E H hn120 [.int (nlen (len a6512)) (nlen (len a6512)), .test (ilt v6519 (nlen (len a6512))) false] := ⟨rfl, h6520, trivial⟩
  exact loop_endC (h := hn120) (l := 0) (c := c120_0) (ts := F120_l0_0_S a6512 v6519) (ts' := F120_l0_0_X1 a6512 ()) (ex := (.exit 0)) pz (by kernel_rfl) trivial
def F120 (K : Nat) (a6512 : List (List GMsg)) : Option (Bool) :=
 bif (ilt 20 (nlen (len a6512))) then
  (some true)
 else
 (F120_l0_0 K a6512 K 0).bind fun y6529 =>
 Sum.elim (fun w6530 =>
  some true)
  (fun w6531 =>
  some false) y6529
theorem F120_ok (K : Nat) (a6512 : List (List GMsg)) (r : Bool) (hF : F120 K a6512 = some r) : Evt E H 120 [.one (.sl (len a6512) (flat (eSl eGMsg) a6512))] (F120_res r) := by
 rw [F120] at hF
 refine cond_some hF (fun h6513 hF => ?_) (fun h6513 hF => ?_)
 ·
  obtain rfl := Option.some.inj hF
  have pz : HoldAll E H hn120 [.int (nlen (len a6512)) (nlen (len a6512)), .test (igt (nlen (len a6512)) 20) true] := ⟨rfl, (igt_eq h6513), trivial⟩
  exact fn_playC hn120 (r := F120_res true) pz (by kernel_rfl) (by kernel_rfl)
 refine bind_some hF (fun y6529 h6528 hF => ?_)
 refine sum_some hF (fun w6530 hx hF => ?_) (fun w6531 hx hF => ?_)
 ·
  subst hx
  obtain rfl := Option.some.inj hF
  have pz : HoldAll E H hn120 [.int (nlen (len a6512)) (nlen (len a6512)), .test (igt (nlen (len a6512)) 20) false, .loop 0 c120_0 (F120_l0_0_S a6512 0) .ret (F120_l0_0_X0 a6512 w6530)] := ⟨rfl, (igt_eq h6513), (F120_l0_0_ok K a6512 K 0 _ h6528), trivial⟩
  exact fn_playC hn120 (r := F120_res true) pz (by kernel_rfl) (by kernel_rfl)
 subst hx
 obtain rfl := Option.some.inj hF
 have pz : HoldAll E H hn120 [.int (nlen (len a6512)) (nlen (len a6512)), .test (igt (nlen (len a6512)) 20) false, .loop 0 c120_0 (F120_l0_0_S a6512 0) (.exit 0) (F120_l0_0_X1 a6512 w6531)] := ⟨rfl, (igt_eq h6513), (F120_l0_0_ok K a6512 K 0 _ h6528), trivial⟩
 exact fn_playC hn120 (r := F120_res false) pz (by kernel_rfl) (by kernel_rfl)
noncomputable def hn155 : Hint := { H 155 with nt := 14, prot := 0 }
def F155_res (r6602 : GPart) : Res := ⟨[(.agg [(.im (.lit (.int .i64 r6602.P))), (.im (.lit (.int .i64 r6602.Step))), (.own 2 (.sl (len r6602.Vals) (flat (eInt .i64) r6602.Vals))), (.own 4 (.sl (len r6602.Rest) (flat eBool r6602.Rest))), (.im (.sl (len r6602.In) (flat eGMsg r6602.In)))])], []⟩
def F155 (K : Nat) (a6599 : GPart) : Option (GPart) :=
 bif (apok 0 (len a6599.Vals) 8) then
 bif (apok 0 (len a6599.Rest) 1) then
 some (GPart.mk a6599.P a6599.Step (appL [] a6599.Vals) (appL [] a6599.Rest) a6599.In)
 else none
 else none
theorem F155_ok (K : Nat) (a6599 : GPart) (r : GPart) (hF : F155 K a6599 = some r) : Evt E H 155 [.agg (eGPart a6599)] (F155_res r) := by
 rw [F155] at hF
 refine cond_some hF (fun h6600 hF => ?_) (fun _ hF => nomatch hF)
 refine cond_some hF (fun h6601 hF => ?_) (fun _ hF => nomatch hF)
 obtain rfl := Option.some.inj hF
 have pz : HoldAll E H hn155 [.test (leqm (flat (eInt .i64) a6599.Vals) (len a6599.Vals) 1) true, .test (apok 0 (len a6599.Vals) 8) true, .sl (nadd 0 (len a6599.Vals)) (lapp [] (flat (eInt .i64) a6599.Vals)) (len (α := Int) (appL [] a6599.Vals)) (flat (eInt .i64) (appL [] a6599.Vals)), .test (leqm (flat eBool a6599.Rest) (len a6599.Rest) 1) true, .test (apok 0 (len a6599.Rest) 1) true, .sl (nadd 0 (len a6599.Rest)) (lapp [] (flat eBool a6599.Rest)) (len (α := Bool) (appL [] a6599.Rest)) (flat eBool (appL [] a6599.Rest))] := ⟨(leqm_flat (eInt_len _) _), h6600, (app_ok (enc := (eInt .i64)) ([] : List Int) a6599.Vals), (leqm_flat eBool_len _), h6601, (app_ok (enc := eBool) ([] : List Bool) a6599.Rest), trivial⟩
 exact fn_playC hn155 (r := F155_res (GPart.mk a6599.P a6599.Step (appL [] a6599.Vals) (appL [] a6599.Rest) a6599.In)) pz (by kernel_rfl) (by kernel_rfl)
noncomputable def hn121 : Hint := { H 121 with nt := 76, prot := 0 }
noncomputable def c121_0 : Code := loopOf E 121 0
def F121_res (r6609 : GPart × Int) : Res := ⟨[(.agg [(.im (.lit (.int .i64 r6609.1.P))), (.im (.lit (.int .i64 r6609.1.Step))), (.own 2 (.sl (len r6609.1.Vals) (flat (eInt .i64) r6609.1.Vals))), (.own 4 (.sl (len r6609.1.Rest) (flat eBool r6609.1.Rest))), (.own 130 (.sl (len r6609.1.In) (flat eGMsg r6609.1.In)))]), (.one (.im (.lit (.int .i64 r6609.2))))], []⟩
def F121_l0_0 (K : Nat) (a6536 : GGraph) (a6537 : GJob) (a6538 : GPart) (r6569 : List GMsg) : Nat → Int → Option ((Unit) ⊕ (Unit))
 | 0, _ => none
 | k + 1, v6579 =>
  bif (ilt v6579 (nlen (len r6569))) then
   (bif (inr v6579 (len r6569)) then
   (elAt r6569 v6579).bind fun x6582 =>
   bif (ile a6536.N x6582.To) then
    (some (.inl ()))
   else
   (F75 K a6537 x6582.To).bind fun r6585 =>
   bif (ieq r6585 a6538.P) then
    (F121_l0_0 K a6536 a6537 a6538 r6569 k (wadd .i64 v6579 1))
   else
   some (.inl ())
   else none)
  else
  some (.inr ())
def F121_l0_0_S (a6536 : GGraph) (a6537 : GJob) (a6538 : GPart) (r6569 : List GMsg) (v6579 : Int) : TS := .on [256, 257, 258, 320, 321, 322, 323, 324, 384, 385, 386, 387, 388, 389, 512, 513, 514, 515, 516, 517, 704, 705, 2432, 2433, 2496, 2497, 2560, 2561] [(256, ⟨(.box 62 2), 0, nob⟩), (257, ⟨.im, 0, (.lit (.int .i64 a6536.N))⟩), (258, ⟨.im, 0, (.sl (len a6536.Edges) (flat eGEdge a6536.Edges))⟩), (320, ⟨(.box 64 4), 0, nob⟩), (321, ⟨.im, 0, (.lit (.int .i64 a6537.Prog))⟩), (322, ⟨.im, 0, (.lit (.int .i64 a6537.Source))⟩), (323, ⟨.im, 0, (.lit (.int .i64 a6537.Limit))⟩), (324, ⟨.im, 0, (.lit (.int .i64 a6537.Parts))⟩), (384, ⟨(.box 42 5), 0, nob⟩), (385, ⟨.im, 0, (.lit (.int .i64 a6538.P))⟩), (386, ⟨.im, 0, (.lit (.int .i64 a6538.Step))⟩), (387, ⟨.im, 0, (.sl (len a6538.Vals) (flat (eInt .i64) a6538.Vals))⟩), (388, ⟨.im, 0, (.sl (len a6538.Rest) (flat eBool a6538.Rest))⟩), (389, ⟨.im, 0, (.sl (len a6538.In) (flat eGMsg a6538.In))⟩), (512, ⟨(.box 42 5), 0, nob⟩), (513, ⟨.im, 0, (.lit (.int .i64 0))⟩), (514, ⟨.im, 0, (.lit (.int .i64 0))⟩), (515, ⟨(.own 2), 0, (.sl 0 [])⟩), (516, ⟨(.own 4), 0, (.sl 0 [])⟩), (517, ⟨(.own 130), 0, (.sl 0 [])⟩), (704, ⟨.one, 0, nob⟩), (705, ⟨(.own 130), 0, (.sl (len r6569) (flat eGMsg r6569))⟩), (2432, ⟨.one, 0, nob⟩), (2433, ⟨(.vw 705 0), 0, nob⟩), (2496, ⟨.one, 0, nob⟩), (2497, ⟨.im, 0, (.lit (.int .i64 (nlen (len r6569))))⟩), (2560, ⟨.one, 0, nob⟩), (2561, ⟨.im, 0, (.lit (.int .i64 v6579))⟩)]
def F121_l0_0_X0 (a6536 : GGraph) (a6537 : GJob) (a6538 : GPart) (r6569 : List GMsg) (w6588 : Unit) : TS := .on [512, 513, 514, 515, 516, 517, 576, 577] [(512, ⟨(.box 42 5), 0, nob⟩), (513, ⟨.im, 0, (.lit (.int .i64 0))⟩), (514, ⟨.im, 0, (.lit (.int .i64 0))⟩), (515, ⟨(.own 2), 0, (.sl 0 [])⟩), (516, ⟨(.own 4), 0, (.sl 0 [])⟩), (517, ⟨(.own 130), 0, (.sl 0 [])⟩), (576, ⟨.one, 0, nob⟩), (577, ⟨.im, 0, (.lit (.int .i64 1))⟩)]
def F121_l0_0_X1 (a6536 : GGraph) (a6537 : GJob) (a6538 : GPart) (r6569 : List GMsg) (w6589 : Unit) : TS := .on [320, 321, 322, 323, 324, 384, 385, 386, 387, 388, 389, 512, 513, 514, 515, 516, 517, 704, 705] [(320, ⟨(.box 64 4), 0, nob⟩), (321, ⟨.im, 0, (.lit (.int .i64 a6537.Prog))⟩), (322, ⟨.im, 0, (.lit (.int .i64 a6537.Source))⟩), (323, ⟨.im, 0, (.lit (.int .i64 a6537.Limit))⟩), (324, ⟨.im, 0, (.lit (.int .i64 a6537.Parts))⟩), (384, ⟨(.box 42 5), 0, nob⟩), (385, ⟨.im, 0, (.lit (.int .i64 a6538.P))⟩), (386, ⟨.im, 0, (.lit (.int .i64 a6538.Step))⟩), (387, ⟨.im, 0, (.sl (len a6538.Vals) (flat (eInt .i64) a6538.Vals))⟩), (388, ⟨.im, 0, (.sl (len a6538.Rest) (flat eBool a6538.Rest))⟩), (389, ⟨.im, 0, (.sl (len a6538.In) (flat eGMsg a6538.In))⟩), (512, ⟨(.box 42 5), 0, nob⟩), (513, ⟨.im, 0, (.lit (.int .i64 0))⟩), (514, ⟨.im, 0, (.lit (.int .i64 0))⟩), (515, ⟨(.own 2), 0, (.sl 0 [])⟩), (516, ⟨(.own 4), 0, (.sl 0 [])⟩), (517, ⟨(.own 130), 0, (.sl 0 [])⟩), (704, ⟨.one, 0, nob⟩), (705, ⟨(.own 130), 0, (.sl (len r6569) (flat eGMsg r6569))⟩)]
theorem F121_l0_0_ok (K : Nat) (a6536 : GGraph) (a6537 : GJob) (a6538 : GPart) (r6569 : List GMsg) : ∀ (k : Nat) (v6579 : Int) (r : (Unit) ⊕ (Unit)), F121_l0_0 K a6536 a6537 a6538 r6569 k v6579 = some r → (Sum.elim (fun w => LoopEv E H hn121 0 c121_0 (F121_l0_0_S a6536 a6537 a6538 r6569 v6579) .ret (F121_l0_0_X0 a6536 a6537 a6538 r6569 w)) (fun w => LoopEv E H hn121 0 c121_0 (F121_l0_0_S a6536 a6537 a6538 r6569 v6579) (.exit 0) (F121_l0_0_X1 a6536 a6537 a6538 r6569 w))) r := by
 intro k
 induction k with
 | zero => intro v6579 r hF; cases hF
 | succ k ih =>
  intro v6579 r hF
  rw [F121_l0_0] at hF
  refine cond_some hF (fun h6580 hF => ?_) (fun h6580 hF => ?_)
  ·
   refine cond_some hF (fun h6581 hF => ?_) (fun _ hF => nomatch hF)
   refine bind_some hF (fun x6582 h6583 hF => ?_)
   have pq6590 : ∀ {l : List Cond}, HoldAll E H hn121 l → HoldAll E H hn121 (.test (ilt v6579 (nlen (len r6569))) true :: .test (inr v6579 (len r6569)) true :: .sub (flat eGMsg r6569) (nidx v6579 2) 2 [(.lit (.int .i64 x6582.To)), (.lit (.int .i64 x6582.V))] :: l) := fun z => ⟨h6580, h6581, ⟨rfl, sub_flat0 eGMsg_len h6583 2 (by decide)⟩, z⟩
   refine cond_some hF (fun h6584 hF => ?_) (fun h6584 hF => ?_)
   ·
    obtain rfl := Option.some.inj hF
    have pz : HoldAll E H hn121 [.test (beqb (ige x6582.To a6536.N) false) false, .test (beqb (ige x6582.To a6536.N) false) false, .test (beqb (ige x6582.To a6536.N) false) false, .test (beqb (ige x6582.To a6536.N) false) false, .test (beqb (ige x6582.To a6536.N) false) false, .test (beqb (ige x6582.To a6536.N) false) false, .test (beqb (ige x6582.To a6536.N) false) false, .test (ige x6582.To a6536.N) true, .test true true] := ⟨(beqb_ft (ige_eq h6584)), (beqb_ft (ige_eq h6584)), (beqb_ft (ige_eq h6584)), (beqb_ft (ige_eq h6584)), (beqb_ft (ige_eq h6584)), (beqb_ft (ige_eq h6584)), (beqb_ft (ige_eq h6584)), (ige_eq h6584), rfl, trivial⟩
    exact loop_endC (h := hn121) (l := 0) (c := c121_0) (ts := F121_l0_0_S a6536 a6537 a6538 r6569 v6579) (ts' := F121_l0_0_X0 a6536 a6537 a6538 r6569 ()) (ex := .ret) (pq6590 pz) (by kernel_rfl) trivial
   refine bind_some hF (fun r6585 h6586 hF => ?_)
   have pq6591 : ∀ {l : List Cond}, HoldAll E H hn121 l → HoldAll E H hn121 (.test (beqb (ige x6582.To a6536.N) false) true :: .test (beqb (ige x6582.To a6536.N) false) true :: .test (beqb (ige x6582.To a6536.N) false) true :: .test (beqb (ige x6582.To a6536.N) false) true :: .call 75 [.agg (eGJob a6537), .one (.lit (.int .i64 x6582.To))] (F75_res r6585) :: .test (leadsAny (Res.mk [(.one (.im (.lit (.int .i64 r6585))))] [])) false :: .test (beqb (ige x6582.To a6536.N) false) true :: .test (beqb (ige x6582.To a6536.N) false) true :: .test (beqb (ige x6582.To a6536.N) false) true :: .test (ige x6582.To a6536.N) false :: l) := fun z => ⟨(beqb_ff (ige_eq h6584)), (beqb_ff (ige_eq h6584)), (beqb_ff (ige_eq h6584)), (beqb_ff (ige_eq h6584)), (F75_ok K a6537 x6582.To _ h6586), (leads_ok (by simp [leadsAny, RV.leads, RC.leads, leadsT, hasSl_lit, flat_ns eGJob_ns])), (beqb_ff (ige_eq h6584)), (beqb_ff (ige_eq h6584)), (beqb_ff (ige_eq h6584)), (ige_eq h6584), z⟩
   refine cond_some hF (fun h6587 hF => ?_) (fun h6587 hF => ?_)
   ·
    have pz : HoldAll E H hn121 [.test (ine r6585 a6538.P) false, .int (wadd .i64 v6579 1) (wadd .i64 v6579 1)] := ⟨(ine_t h6587), rfl, trivial⟩
    have h0 := ih _ _ hF
    have hn := fun ex ts' => loop_nextC (h := hn121) (l := 0) (c := c121_0) (ts := F121_l0_0_S a6536 a6537 a6538 r6569 v6579) (ts1 := (F121_l0_0_S a6536 a6537 a6538 r6569 (wadd .i64 v6579 1))) (ex := ex) (ts' := ts') (pq6590 (pq6591 pz)) (by kernel_rfl)
    cases r with
    | inl w => exact hn _ _ h0
    | inr w => exact hn _ _ h0
   obtain rfl := Option.some.inj hF
   have pz : HoldAll E H hn121 [.test (ine r6585 a6538.P) true] := ⟨(ine_f h6587), trivial⟩
   exact loop_endC (h := hn121) (l := 0) (c := c121_0) (ts := F121_l0_0_S a6536 a6537 a6538 r6569 v6579) (ts' := F121_l0_0_X0 a6536 a6537 a6538 r6569 ()) (ex := .ret) (pq6590 (pq6591 pz)) (by kernel_rfl) trivial
  obtain rfl := Option.some.inj hF
  have pz : HoldAll E H hn121 [.test (ilt v6579 (nlen (len r6569))) false] := ⟨h6580, trivial⟩
  exact loop_endC (h := hn121) (l := 0) (c := c121_0) (ts := F121_l0_0_S a6536 a6537 a6538 r6569 v6579) (ts' := F121_l0_0_X1 a6536 a6537 a6538 r6569 ()) (ex := (.exit 0)) pz (by kernel_rfl) trivial
def F121 (K : Nat) (a6536 : GGraph) (a6537 : GJob) (a6538 : GPart) (a6539 : List (List GMsg)) : Option (GPart × Int) :=
 (F94 K a6536 a6537).bind fun r6540 =>
 bif (ieq r6540 0) then
  ((F80 K a6536 a6537 a6538).bind fun r6543 =>
  bif r6543 then
   (bif (ilt 0 (nlen (len a6538.In))) then
    (some ((GPart.mk 0 0 [] [] []), 1))
   else
   (F154 K a6539).bind fun r6569 =>
   (F121_l0_0 K a6536 a6537 a6538 r6569 K 0).bind fun y6593 =>
   Sum.elim (fun w6594 =>
    some ((GPart.mk 0 0 [] [] []), 1))
    (fun w6595 =>
    (F150 K a6537.Prog r6569).bind fun r6596 =>
    bif (ieq r6596.2 0) then
     ((F155 K a6538).bind fun r6603 =>
     some ((GPart.mk r6603.P r6603.Step r6603.Vals r6603.Rest r6596.1), 0))
    else
    some ((GPart.mk 0 0 [] [] []), r6596.2)) y6593)
  else
  some ((GPart.mk 0 0 [] [] []), 1))
 else
 some ((GPart.mk 0 0 [] [] []), r6540)
theorem F121_ok (K : Nat) (a6536 : GGraph) (a6537 : GJob) (a6538 : GPart) (a6539 : List (List GMsg)) (r : GPart × Int) (hF : F121 K a6536 a6537 a6538 a6539 = some r) : Evt E H 121 [.agg (eGGraph a6536), .agg (eGJob a6537), .agg (eGPart a6538), .one (.sl (len a6539) (flat (eSl eGMsg) a6539))] (F121_res r) := by
 rw [F121] at hF
 refine bind_some hF (fun r6540 h6541 hF => ?_)
 refine cond_some hF (fun h6542 hF => ?_) (fun h6542 hF => ?_)
 ·
  refine bind_some hF (fun r6543 h6544 hF => ?_)
  have pq6605 : ∀ {l : List Cond}, HoldAll E H hn121 l → HoldAll E H hn121 (.call 94 [.agg (eGGraph a6536), .agg (eGJob a6537)] (F94_res r6540) :: .test (leadsAny (Res.mk [(.one (.im (.lit (.int .i64 r6540))))] [])) false :: .test (ine r6540 0) false :: .call 80 [.agg (eGGraph a6536), .agg (eGJob a6537), .agg (eGPart a6538)] (F80_res r6543) :: .test (leadsAny (Res.mk [(.one (.im (.lit (.bool r6543))))] [])) false :: l) := fun z => ⟨(F94_ok K a6536 a6537 _ h6541), (leads_ok (by simp [leadsAny, RV.leads, RC.leads, leadsT, hasSl_lit, flat_ns eGJob_ns])), (ine_t h6542), (F80_ok K a6536 a6537 a6538 _ h6544), (leads_ok (by simp [leadsAny, RV.leads, RC.leads, leadsT, hasSl_lit, flat_ns eGJob_ns])), z⟩
  refine cond_some hF (fun h6545 hF => ?_) (fun h6545 hF => ?_)
  ·
   have pq6606 : ∀ {l : List Cond}, HoldAll E H hn121 l → HoldAll E H hn121 (.test (beqb (bnot r6543) false) true :: .test (beqb (bnot r6543) false) true :: .test (beqb (bnot r6543) false) true :: .int (nlen (len a6538.In)) (nlen (len a6538.In)) :: .test (beqb (bnot r6543) false) true :: .test (bnot r6543) false :: l) := fun z => ⟨(beqb_ff (bnot_t h6545)), (beqb_ff (bnot_t h6545)), (beqb_ff (bnot_t h6545)), rfl, (beqb_ff (bnot_t h6545)), (bnot_t h6545), z⟩
   refine cond_some hF (fun h6546 hF => ?_) (fun h6546 hF => ?_)
   ·
    obtain rfl := Option.some.inj hF
    have pz : HoldAll E H hn121 [.test (igt (nlen (len a6538.In)) 0) true] := ⟨(igt_eq h6546), trivial⟩
    exact fn_playC hn121 (r := F121_res ((GPart.mk 0 0 [] [] []), 1)) (pq6605 (pq6606 pz)) (by kernel_rfl) (by kernel_rfl)
   refine bind_some hF (fun r6569 h6570 hF => ?_)
   have pq6607 : ∀ {l : List Cond}, HoldAll E H hn121 l → HoldAll E H hn121 (.test (igt (nlen (len a6538.In)) 0) false :: .call 154 [.one (.sl (len a6539) (flat (eSl eGMsg) a6539))] (F154_res r6569) :: .test (leadsAny (Res.mk [(.one (.own 130 (.sl (len r6569) (flat eGMsg r6569))))] [])) false :: .int (nlen (len r6569)) (nlen (len r6569)) :: l) := fun z => ⟨(igt_eq h6546), (F154_ok K a6539 _ h6570), (leads_ok (by simp [leadsAny, RV.leads, RC.leads, leadsT, hasSl_lit, flat_ns eGMsg_ns])), rfl, z⟩
   refine bind_some hF (fun y6593 h6592 hF => ?_)
   refine sum_some hF (fun w6594 hx hF => ?_) (fun w6595 hx hF => ?_)
   ·
    subst hx
    obtain rfl := Option.some.inj hF
    have pz : HoldAll E H hn121 [.loop 0 c121_0 (F121_l0_0_S a6536 a6537 a6538 r6569 0) .ret (F121_l0_0_X0 a6536 a6537 a6538 r6569 w6594)] := ⟨(F121_l0_0_ok K a6536 a6537 a6538 r6569 K 0 _ h6592), trivial⟩
    exact fn_playC hn121 (r := F121_res ((GPart.mk 0 0 [] [] []), 1)) (pq6605 (pq6606 (pq6607 pz))) (by kernel_rfl) (by kernel_rfl)
   subst hx
   refine bind_some hF (fun r6596 h6597 hF => ?_)
   have pq6608 : ∀ {l : List Cond}, HoldAll E H hn121 l → HoldAll E H hn121 (.loop 0 c121_0 (F121_l0_0_S a6536 a6537 a6538 r6569 0) (.exit 0) (F121_l0_0_X1 a6536 a6537 a6538 r6569 w6595) :: .call 150 [.one (.lit (.int .i64 a6537.Prog)), .one (.sl (len r6569) (flat eGMsg r6569))] (F150_res r6596) :: .test (leadsAny (Res.mk [(.one (.own 130 (.sl (len r6596.1) (flat eGMsg r6596.1)))), (.one (.im (.lit (.int .i64 r6596.2))))] [])) false :: l) := fun z => ⟨(F121_l0_0_ok K a6536 a6537 a6538 r6569 K 0 _ h6592), (F150_ok K a6537.Prog r6569 _ h6597), (leads_ok (by simp [leadsAny, RV.leads, RC.leads, leadsT, hasSl_lit, flat_ns eGMsg_ns])), z⟩
   refine cond_some hF (fun h6598 hF => ?_) (fun h6598 hF => ?_)
   ·
    refine bind_some hF (fun r6603 h6604 hF => ?_)
    obtain rfl := Option.some.inj hF
    have pz : HoldAll E H hn121 [.test (ine r6596.2 0) false, .call 155 [.agg (eGPart a6538)] (F155_res r6603)] := ⟨(ine_t h6598), (F155_ok K a6538 _ h6604), trivial⟩
    exact fn_playC hn121 (r := F121_res ((GPart.mk r6603.P r6603.Step r6603.Vals r6603.Rest r6596.1), 0)) (pq6605 (pq6606 (pq6607 (pq6608 pz)))) (by kernel_rfl) (by kernel_rfl)
   obtain rfl := Option.some.inj hF
   have pz : HoldAll E H hn121 [.test (ine r6596.2 0) true] := ⟨(ine_f h6598), trivial⟩
   exact fn_playC hn121 (r := F121_res ((GPart.mk 0 0 [] [] []), r6596.2)) (pq6605 (pq6606 (pq6607 (pq6608 pz)))) (by kernel_rfl) (by kernel_rfl)
  obtain rfl := Option.some.inj hF
  have pz : HoldAll E H hn121 [.test (beqb (bnot r6543) false) false, .test (beqb (bnot r6543) false) false, .test (beqb (bnot r6543) false) false, .test (beqb (bnot r6543) false) false, .test (bnot r6543) true, .test true true] := ⟨(beqb_ft (bnot_f h6545)), (beqb_ft (bnot_f h6545)), (beqb_ft (bnot_f h6545)), (beqb_ft (bnot_f h6545)), (bnot_f h6545), rfl, trivial⟩
  exact fn_playC hn121 (r := F121_res ((GPart.mk 0 0 [] [] []), 1)) (pq6605 pz) (by kernel_rfl) (by kernel_rfl)
 obtain rfl := Option.some.inj hF
 have pz : HoldAll E H hn121 [.call 94 [.agg (eGGraph a6536), .agg (eGJob a6537)] (F94_res r6540), .test (leadsAny (Res.mk [(.one (.im (.lit (.int .i64 r6540))))] [])) false, .test (ine r6540 0) true] := ⟨(F94_ok K a6536 a6537 _ h6541), (leads_ok (by simp [leadsAny, RV.leads, RC.leads, leadsT, hasSl_lit, flat_ns eGJob_ns])), (ine_f h6542), trivial⟩
 exact fn_playC hn121 (r := F121_res ((GPart.mk 0 0 [] [] []), r6540)) pz (by kernel_rfl) (by kernel_rfl)
def zeroP : GPart := GPart.mk 0 0 [] [] []
def takeOk (n parts p : Int) (l : List GMsg) : Bool := l.all fun m => ile 0 m.To && (ilt m.To n && ieq (m.To % parts) p)
def takeB (j : GJob) (x : GPart) (l : List GMsg) : GPart × Int := bif ieq (boxS j.Prog l).2 0 then (GPart.mk x.P x.Step x.Vals x.Rest (boxS j.Prog l).1, 0) else (zeroP, (boxS j.Prog l).2)
def takeS (g : GGraph) (j : GJob) (x : GPart) (l : List GMsg) : GPart × Int :=
 bif ieq (jcheck g j) 0 then (bif partRight g j x then (bif ieq (nlen (len x.In)) 0 then (bif takeOk g.N j.Parts x.P l then takeB j x l else (zeroP, 1)) else (zeroP, 1)) else (zeroP, 1)) else (zeroP, jcheck g j)
theorem takeOk_perm {n parts p : Int} {l l' : List GMsg} (h : l.Perm l') : takeOk n parts p l = takeOk n parts p l' := by
 rw [Bool.eq_iff_iff]
 simp only [takeOk, List.all_eq_true]
 exact ⟨fun q m hm => q m (h.mem_iff.2 hm), fun q m hm => q m (h.mem_iff.1 hm)⟩
theorem boxS_perm {p : Int} {l l' : List GMsg} (h : l.Perm l') : boxS p l = boxS p l' := by
 rw [boxS, boxS, sortM_congr h]
theorem takeS_perm {g : GGraph} {j : GJob} {x : GPart} {l l' : List GMsg} (h : l.Perm l') : takeS g j x l = takeS g j x l' := by
 rw [takeS, takeS, takeOk_perm h, takeB, takeB, boxS_perm h]
theorem F154_spec {K : Nat} (ls : List (List GMsg)) (h1 : ls.length < 10000) (h2 : ls.length < K) (h3 : (ls.flatten).length < 10000) (h4 : (ls.flatten).length < K) : F154 K ls = some (sortM ls.flatten) := by
 let step : List GMsg → List GMsg → (List GMsg → Option (List GMsg)) → Option (List GMsg) := fun x a c => bif (apok (len a) (len x) 16) then c (appL a x) else none
 have h := scanL (l := ls) (L := fun k s i => F154_l0_0 K ls k s i) step (fun s => some s) (fun k s i _ => rfl) (by omega) h2 []
 have hw : ∀ (r : List (List GMsg)) (a : List GMsg), a.length + r.flatten.length < 100000 → goL step (fun s => some s) r a = some (a ++ r.flatten) := by
   intro r
   induction r with
   | nil => intro a _; simp [goL]
   | cons x r ih =>
     intro a ha
     rw [List.flatten_cons, List.length_append] at ha
     rw [goL]
     show (bif (apok (len a) (len x) 16) then goL step (fun s => some s) r (appL a x) else none) = _
     have ap : apok (len a) (len x) 16 = true := decide_eq_true ⟨by show a.length + x.length ≤ _; omega, by show (a.length + x.length) * 16 ≤ _; omega⟩
     rw [ap, cond_true, ih _ (by simp only [appL, List.length_append]; omega)]; simp [appL]
 rw [hw ls [] (by simp only [List.length_nil]; omega), List.nil_append] at h
 have h' : F154_l0_0 K ls K [] 0 = some ls.flatten := h
 rw [F154, h', Option.bind_some, F169_spec _ h4 h3]; rfl
theorem F121_loop {K : Nat} (g : GGraph) (j : GJob) (x : GPart) (l : List GMsg) (hp : 1 ≤ j.Parts) (h6 : j.Parts ≤ 6) (h0 : 0 ≤ x.P) (hl : l.length < 1000000) (hK : l.length < K) : F121_l0_0 K g j x l K 0 = some (sumU (takeOk g.N j.Parts x.P l)) := by
 let step : GMsg → Unit → (Unit → Option (Unit ⊕ Unit)) → Option (Unit ⊕ Unit) := fun m _ c =>
   bif (ile g.N m.To) then (some (.inl ())) else (F75 K j m.To).bind fun r => bif (ieq r x.P) then c () else some (.inl ())
 have h := scanL (l := l) (L := fun k (_ : Unit) i => F121_l0_0 K g j x l k i) step (fun _ => some (.inr ())) (fun k s i _ => rfl) (by omega) (K := K) hK ()
 have hw : ∀ (r : List GMsg), goL step (fun _ => some (.inr ())) r () = some (sumU (takeOk g.N j.Parts x.P r)) := by
   intro r
   induction r with
   | nil => rfl
   | cons m r ih =>
     rw [goL]
     show (bif (ile g.N m.To) then (some (.inl ())) else (F75 K j m.To).bind fun r' => bif (ieq r' x.P) then goL step (fun _ => some (.inr ())) r () else some (.inl ())) = _
     rw [F75_spec, ih, Option.bind_some, not_ile, homeS, ilt_f.2 hp, ilt_f.2 h6, takeOk, takeOk, List.all_cons, ilt_not' m.To 0]
     cases h1 : ilt m.To g.N
     · cases ile 0 m.To <;> rfl
     · cases h2 : ile 0 m.To
       · rw [Bool.not_false, Bool.true_or, cond_true, ieq_f.2 (by omega : (-1 : Int) ≠ x.P)]; rfl
       · simp only [Bool.not_true, Bool.false_or, cond_false, Bool.true_and]
         cases ieq (m.To % j.Parts) x.P <;> rfl
 rw [hw] at h
 exact h
theorem sumU_bind {α : Type} (b : Bool) (x : Option α) (y : Option α) : (some (sumU b)).bind (fun z => Sum.elim (fun _ => x) (fun _ => y) z) = bif b then y else x := by cases b <;> rfl
theorem F121_spec {K : Nat} (hK : 1000 ≤ K) (g : GGraph) (j : GJob) (x : GPart) (ls : List (List GMsg)) (hp : i64 x.P) (hx : x.In.length ≤ 300) (hv : x.Vals.length ≤ 100) (hr : x.Rest.length ≤ 100)
   (h1 : ls.length < 1000) (h3 : (ls.flatten).length < 10000) (h4 : (ls.flatten).length < K) (hs : ∀ m ∈ ls.flatten, i64 m.V) : F121 K g j x ls = some (takeS g j x ls.flatten) := by
 rw [F121, F94_spec (by omega), F80_spec hK g j x (by omega) (by omega) hp, Option.bind_some, Option.bind_some, takeS]
 cases hc : ieq (jcheck g j) 0
 · rfl
 · cases hR : partRight g j x
   · rfl
   · obtain ⟨_, p1, p2, _⟩ := partRight_ok hR
     obtain ⟨hg, _, _, _, _, _, _, p7, p8⟩ := jcheck_ok hc
     have hsl := sortM_len ls.flatten
     have e1 : ilt 0 (nlen (len x.In)) = !(ieq (nlen (len x.In)) 0) := by
       show ilt 0 (x.In.length : Int) = !(ieq (x.In.length : Int) 0)
       cases x.In.length with
       | zero => rfl
       | succ n => rw [ilt_iff.2 (by omega), ieq_f.2 (by omega)]; rfl
     have ap1 : apok 0 (len x.Vals) 8 = true := decide_eq_true ⟨by show 0 + x.Vals.length ≤ _; omega, by show (0 + x.Vals.length) * 8 ≤ _; omega⟩
     have ap2 : apok 0 (len x.Rest) 1 = true := decide_eq_true ⟨by show 0 + x.Rest.length ≤ _; omega, by show (0 + x.Rest.length) * 1 ≤ _; omega⟩
     have hso : ∀ m ∈ sortM ls.flatten, i64 m.V := fun m hm => hs m ((sortM_perm _).mem_iff.1 hm)
     simp only [cond_true, e1, F154_spec ls (show ls.length < 10000 by omega) (show ls.length < K by omega) h3 h4, Option.bind_some]
     rw [F121_loop g j x _ p7 p8 p1 (by omega) (by omega), F150_spec j.Prog (sortM ls.flatten) hso (by omega) (by omega), sumU_bind, F155, ap1, ap2, takeOk_perm (sortM_perm ls.flatten), boxS_perm (sortM_perm ls.flatten)]
     cases ieq (nlen (len x.In)) 0
     · rfl
     · cases takeOk g.N j.Parts x.P ls.flatten
       · rfl
       · rw [takeB]
         simp only [cond_true, Option.bind_some, Bool.not_true, cond_false]
         cases ieq (boxS j.Prog ls.flatten).2 0 <;> rfl
theorem foldC_ok (p : Int) : ∀ (r : List GMsg) (c : GMsg) (d w : List GMsg), foldC p r c d = .inr w → i64 c.V → (∀ x ∈ r, i64 x.V) → (∀ x ∈ d, i64 x.V) → w.length ≤ d.length + r.length + 1 ∧ ∀ x ∈ w, i64 x.V
 | [], c, d, w, h, hc, _, hd => by
   injection h with h
   subst h
   refine ⟨by simp, fun x hx => ?_⟩
   rcases List.mem_append.1 hx with hx | hx
   · exact hd x hx
   · rw [List.mem_singleton.1 hx]; exact hc
 | x :: r, c, d, w, h, hc, hr, hd => by
   rw [foldC] at h
   have hx := hr x List.mem_cons_self
   have hr' := fun y hy => hr y (List.mem_cons_of_mem _ hy)
   cases h1 : ieq c.To x.To
   · rw [h1, cond_false] at h
     have := foldC_ok p r x (d ++ [c]) w h hx hr' (fun y hy => by
       rcases List.mem_append.1 hy with hy | hy
       · exact hd y hy
       · rw [List.mem_singleton.1 hy]; exact hc)
     rw [List.length_append] at this
     simp only [List.length_singleton] at this
     exact ⟨by simp only [List.length_cons]; omega, this.2⟩
   · rw [h1, cond_true] at h
     cases h2 : ieq (foldS p c.V x.V).2 0
     · rw [h2] at h; cases h
     · rw [h2, cond_true] at h
       have := foldC_ok p r _ d w h (foldS_i64 hc hx) hr' hd
       exact ⟨by simp only [List.length_cons]; omega, this.2⟩
theorem boxS_ok {p : Int} {l : List GMsg} (hl : ∀ x ∈ l, i64 x.V) : (boxS p l).1.length ≤ l.length ∧ ∀ x ∈ (boxS p l).1, i64 x.V := by
 have hn : ∀ x ∈ ([] : List GMsg), i64 x.V := fun x hx => absurd hx List.not_mem_nil
 have hs : ∀ x ∈ sortM l, i64 x.V := fun x hx => hl x ((sortM_perm l).mem_iff.1 hx)
 have hsl := sortM_len l
 rw [boxS]
 cases pbad p
 · rw [cond_false]
   generalize sortM l = m at *
   cases m with
   | nil => exact ⟨Nat.zero_le _, hn⟩
   | cons x r =>
     rw [foldO]
     cases hq : foldC p r x [] with
     | inl e => exact ⟨Nat.zero_le _, hn⟩
     | inr w =>
       have := foldC_ok p r x [] w hq (hs x List.mem_cons_self) (fun y hy => hs y (List.mem_cons_of_mem _ hy)) hn
       simp only [List.length_cons, List.length_nil] at hsl this
       exact ⟨by show w.length ≤ _; omega, this.2⟩
 · exact ⟨Nat.zero_le _, hn⟩
noncomputable def hn113 : Hint := { H 113 with nt := 7, prot := 0 }
def F113_res (r5876 : Bool) : Res := ⟨[(.one (.im (.lit (.bool r5876))))], []⟩
def F113 (K : Nat) (a5875 : GGraph) : Option (Bool) :=
 some (igt (nlen (len a5875.Edges)) 200)
theorem F113_ok (K : Nat) (a5875 : GGraph) (r : Bool) (hF : F113 K a5875 = some r) : Evt E H 113 [.agg (eGGraph a5875)] (F113_res r) := by
 rw [F113] at hF
 obtain rfl := Option.some.inj hF
 have pz : HoldAll E H hn113 [.int (nlen (len a5875.Edges)) (nlen (len a5875.Edges))] := ⟨rfl, trivial⟩
 exact fn_playC hn113 (r := F113_res (igt (nlen (len a5875.Edges)) 200)) pz (by kernel_rfl) (by kernel_rfl)
noncomputable def hn114 : Hint := { H 114 with nt := 19, prot := 0 }
def F114_res (r5884 : Bool) : Res := ⟨[(.one (.im (.lit (.bool r5884))))], []⟩
def F114 (K : Nat) (a5880 : GPart) : Option (Bool) :=
 bif (ilt 100 (nlen (len a5880.Vals))) then
  (some true)
 else
 bif (ilt 100 (nlen (len a5880.Rest))) then
  (some true)
 else
 some (igt (nlen (len a5880.In)) 300)
theorem F114_ok (K : Nat) (a5880 : GPart) (r : Bool) (hF : F114 K a5880 = some r) : Evt E H 114 [.agg (eGPart a5880)] (F114_res r) := by
 rw [F114] at hF
 refine cond_some hF (fun h5881 hF => ?_) (fun h5881 hF => ?_)
 ·
  obtain rfl := Option.some.inj hF
  have pz : HoldAll E H hn114 [.int (nlen (len a5880.Vals)) (nlen (len a5880.Vals)), .test (beqb (igt (nlen (len a5880.Vals)) 100) false) false, .test (beqb (igt (nlen (len a5880.Vals)) 100) false) false, .test (beqb (igt (nlen (len a5880.Vals)) 100) false) false, .test (beqb (igt (nlen (len a5880.Vals)) 100) false) false, .test (igt (nlen (len a5880.Vals)) 100) true, .test (beqb true false) false, .test (beqb true false) false, .test (beqb true false) false, .test (beqb true false) false, .test true true] := ⟨rfl, (beqb_ft (igt_eq h5881)), (beqb_ft (igt_eq h5881)), (beqb_ft (igt_eq h5881)), (beqb_ft (igt_eq h5881)), (igt_eq h5881), (beqb_ft rfl), (beqb_ft rfl), (beqb_ft rfl), (beqb_ft rfl), rfl, trivial⟩
  exact fn_playC hn114 (r := F114_res true) pz (by kernel_rfl) (by kernel_rfl)
 have pq5883 : ∀ {l : List Cond}, HoldAll E H hn114 l → HoldAll E H hn114 (.int (nlen (len a5880.Vals)) (nlen (len a5880.Vals)) :: .test (beqb (igt (nlen (len a5880.Vals)) 100) false) true :: .test (beqb (igt (nlen (len a5880.Vals)) 100) false) true :: .test (beqb (igt (nlen (len a5880.Vals)) 100) false) true :: .int (nlen (len a5880.Rest)) (nlen (len a5880.Rest)) :: .test (beqb (igt (nlen (len a5880.Vals)) 100) false) true :: .test (igt (nlen (len a5880.Vals)) 100) false :: l) := fun z => ⟨rfl, (beqb_ff (igt_eq h5881)), (beqb_ff (igt_eq h5881)), (beqb_ff (igt_eq h5881)), rfl, (beqb_ff (igt_eq h5881)), (igt_eq h5881), z⟩
 refine cond_some hF (fun h5882 hF => ?_) (fun h5882 hF => ?_)
 ·
  obtain rfl := Option.some.inj hF
  have pz : HoldAll E H hn114 [.test (beqb (igt (nlen (len a5880.Rest)) 100) false) false, .test (beqb (igt (nlen (len a5880.Rest)) 100) false) false, .test (beqb (igt (nlen (len a5880.Rest)) 100) false) false, .test (beqb (igt (nlen (len a5880.Rest)) 100) false) false, .test (igt (nlen (len a5880.Rest)) 100) true] := ⟨(beqb_ft (igt_eq h5882)), (beqb_ft (igt_eq h5882)), (beqb_ft (igt_eq h5882)), (beqb_ft (igt_eq h5882)), (igt_eq h5882), trivial⟩
  exact fn_playC hn114 (r := F114_res true) (pq5883 pz) (by kernel_rfl) (by kernel_rfl)
 obtain rfl := Option.some.inj hF
 have pz : HoldAll E H hn114 [.test (beqb (igt (nlen (len a5880.Rest)) 100) false) true, .test (beqb (igt (nlen (len a5880.Rest)) 100) false) true, .test (beqb (igt (nlen (len a5880.Rest)) 100) false) true, .int (nlen (len a5880.In)) (nlen (len a5880.In)), .test (beqb (igt (nlen (len a5880.Rest)) 100) false) true, .test (igt (nlen (len a5880.Rest)) 100) false] := ⟨(beqb_ff (igt_eq h5882)), (beqb_ff (igt_eq h5882)), (beqb_ff (igt_eq h5882)), rfl, (beqb_ff (igt_eq h5882)), (igt_eq h5882), trivial⟩
 exact fn_playC hn114 (r := F114_res (igt (nlen (len a5880.In)) 300)) (pq5883 pz) (by kernel_rfl) (by kernel_rfl)
noncomputable def hn38 : Hint := { H 38 with nt := 82, prot := 0 }
noncomputable def c38_0 : Code := loopOf E 38 0
def F38_res (r6849 : Bool) : Res := ⟨[(.one (.im (.lit (.bool r6849))))], []⟩
def F38_l0_0 (K : Nat) (a6797 : GGraph) (a6798 : GJob) (a6799 : GPart) (a6800 : List (List GMsg)) : Nat → List (List GMsg) → Int → Option (List (List GMsg))
 | 0, _, _ => none
 | k + 1, v6815, v6816 =>
  bif (ile 0 v6816) then
   (bif (inr v6816 (len a6800)) then
   (elAt a6800 v6816).bind fun x6819 =>
   bif (apok (len v6815) 1 24) then
   F38_l0_0 K a6797 a6798 a6799 a6800 k (appL v6815 [x6819]) (wsub .i64 v6816 1)
   else none
   else none)
  else
  some v6815
def F38_l0_0_S (a6797 : GGraph) (a6798 : GJob) (a6799 : GPart) (a6800 : List (List GMsg)) (v6815 : List (List GMsg)) (v6816 : Int) : TS := .on [192, 193, 256, 257, 258, 320, 321, 322, 323, 324, 384, 385, 386, 387, 388, 389, 576, 577, 640, 641] [(192, ⟨.one, 0, nob⟩), (193, ⟨.im, 0, (.sl (len a6800) (flat (eSl eGMsg) a6800))⟩), (256, ⟨(.box 62 2), 0, nob⟩), (257, ⟨.im, 0, (.lit (.int .i64 a6797.N))⟩), (258, ⟨.im, 0, (.sl (len a6797.Edges) (flat eGEdge a6797.Edges))⟩), (320, ⟨(.box 64 4), 0, nob⟩), (321, ⟨.im, 0, (.lit (.int .i64 a6798.Prog))⟩), (322, ⟨.im, 0, (.lit (.int .i64 a6798.Source))⟩), (323, ⟨.im, 0, (.lit (.int .i64 a6798.Limit))⟩), (324, ⟨.im, 0, (.lit (.int .i64 a6798.Parts))⟩), (384, ⟨(.box 42 5), 0, nob⟩), (385, ⟨.im, 0, (.lit (.int .i64 a6799.P))⟩), (386, ⟨.im, 0, (.lit (.int .i64 a6799.Step))⟩), (387, ⟨.im, 0, (.sl (len a6799.Vals) (flat (eInt .i64) a6799.Vals))⟩), (388, ⟨.im, 0, (.sl (len a6799.Rest) (flat eBool a6799.Rest))⟩), (389, ⟨.im, 0, (.sl (len a6799.In) (flat eGMsg a6799.In))⟩), (576, ⟨.one, 0, nob⟩), (577, ⟨(.own 40), 0, (.sl (len v6815) (flat (eSl eGMsg) v6815))⟩), (640, ⟨.one, 0, nob⟩), (641, ⟨.im, 0, (.lit (.int .i64 v6816))⟩)]
def F38_l0_0_X0 (a6797 : GGraph) (a6798 : GJob) (a6799 : GPart) (a6800 : List (List GMsg)) (w6822 : List (List GMsg)) : TS := .on [192, 193, 256, 257, 258, 320, 321, 322, 323, 324, 384, 385, 386, 387, 388, 389, 576, 577] [(192, ⟨.one, 0, nob⟩), (193, ⟨.im, 0, (.sl (len a6800) (flat (eSl eGMsg) a6800))⟩), (256, ⟨(.box 62 2), 0, nob⟩), (257, ⟨.im, 0, (.lit (.int .i64 a6797.N))⟩), (258, ⟨.im, 0, (.sl (len a6797.Edges) (flat eGEdge a6797.Edges))⟩), (320, ⟨(.box 64 4), 0, nob⟩), (321, ⟨.im, 0, (.lit (.int .i64 a6798.Prog))⟩), (322, ⟨.im, 0, (.lit (.int .i64 a6798.Source))⟩), (323, ⟨.im, 0, (.lit (.int .i64 a6798.Limit))⟩), (324, ⟨.im, 0, (.lit (.int .i64 a6798.Parts))⟩), (384, ⟨(.box 42 5), 0, nob⟩), (385, ⟨.im, 0, (.lit (.int .i64 a6799.P))⟩), (386, ⟨.im, 0, (.lit (.int .i64 a6799.Step))⟩), (387, ⟨.im, 0, (.sl (len a6799.Vals) (flat (eInt .i64) a6799.Vals))⟩), (388, ⟨.im, 0, (.sl (len a6799.Rest) (flat eBool a6799.Rest))⟩), (389, ⟨.im, 0, (.sl (len a6799.In) (flat eGMsg a6799.In))⟩), (576, ⟨.one, 0, nob⟩), (577, ⟨(.own 40), 0, (.sl (len w6822) (flat (eSl eGMsg) w6822))⟩)]
theorem F38_l0_0_ok (K : Nat) (a6797 : GGraph) (a6798 : GJob) (a6799 : GPart) (a6800 : List (List GMsg)) : ∀ (k : Nat) (v6815 : List (List GMsg)) (v6816 : Int) (r : List (List GMsg)), F38_l0_0 K a6797 a6798 a6799 a6800 k v6815 v6816 = some r → LoopEv E H hn38 0 c38_0 (F38_l0_0_S a6797 a6798 a6799 a6800 v6815 v6816) (.exit 0) (F38_l0_0_X0 a6797 a6798 a6799 a6800 r) := by
 intro k
 induction k with
 | zero => intro v6815 v6816 r hF; cases hF
 | succ k ih =>
  intro v6815 v6816 r hF
  rw [F38_l0_0] at hF
  refine cond_some hF (fun h6817 hF => ?_) (fun h6817 hF => ?_)
  ·
   refine cond_some hF (fun h6818 hF => ?_) (fun _ hF => nomatch hF)
   refine bind_some hF (fun x6819 h6820 hF => ?_)
   refine cond_some hF (fun h6821 hF => ?_) (fun _ hF => nomatch hF)
   have pz : HoldAll E H hn38 [.test (ige v6816 0) true, .test (inr v6816 (len a6800)) true, .sub (flat (eSl eGMsg) a6800) (nidx v6816 1) 1 [(.sl (len x6819) (flat eGMsg x6819))], .test (leqm [(.sl (len x6819) (flat eGMsg x6819))] 1 1) true, .test (apok (len v6815) 1 24) true, .sl (nadd (len v6815) 1) (lapp (flat (eSl eGMsg) v6815) [(.sl (len x6819) (flat eGMsg x6819))]) (len (α := List GMsg) (appL v6815 [x6819])) (flat (eSl eGMsg) (appL v6815 [x6819])), .int (wsub .i64 v6816 1) (wsub .i64 v6816 1)] := ⟨(ige_eq h6817), h6818, ⟨rfl, sub_flat0 (eSl_len _) h6820 1 (by decide)⟩, rfl, h6821, (app_ok (enc := (eSl eGMsg)) (v6815 : List (List GMsg)) [x6819]), rfl, trivial⟩
   have h0 := ih _ _ _ hF
   have hn := fun ex ts' => loop_nextC (h := hn38) (l := 0) (c := c38_0) (ts := F38_l0_0_S a6797 a6798 a6799 a6800 v6815 v6816) (ts1 := (F38_l0_0_S a6797 a6798 a6799 a6800 (appL v6815 [x6819]) (wsub .i64 v6816 1))) (ex := ex) (ts' := ts') pz (by kernel_rfl)
   exact hn _ _ h0
  obtain rfl := Option.some.inj hF
  have pz : HoldAll E H hn38 [.test (ige v6816 0) false] := ⟨(ige_eq h6817), trivial⟩
  exact loop_endC (h := hn38) (l := 0) (c := c38_0) (ts := F38_l0_0_S a6797 a6798 a6799 a6800 v6815 v6816) (ts' := F38_l0_0_X0 a6797 a6798 a6799 a6800 v6815) (ex := (.exit 0)) pz (by kernel_rfl) trivial
def F38 (K : Nat) (a6797 : GGraph) (a6798 : GJob) (a6799 : GPart) (a6800 : List (List GMsg)) : Option (Bool) :=
 (F113 K a6797).bind fun r6801 =>
 bif r6801 then
  (some true)
 else
 (F114 K a6799).bind fun r6804 =>
 bif r6804 then
  (some true)
 else
 (F120 K a6800).bind fun r6807 =>
 bif r6807 then
  (some true)
 else
 (F38_l0_0 K a6797 a6798 a6799 a6800 K [] (wsub .i64 (nlen (len a6800)) 1)).bind fun w6826 =>
 (F121 K a6797 a6798 a6799 a6800).bind fun r6828 =>
 (F121 K a6797 a6798 a6799 w6826).bind fun r6830 =>
 bif (ieq r6828.2 r6830.2) then
  ((F118 K r6828.1 r6830.1).bind fun r6833 =>
  bif r6833 then
   (bif (ieq r6828.2 0) then
    ((F81 K a6797 a6798 r6828.1).bind fun r6837 =>
    bif r6837 then
     ((F59 K a6797 a6798).bind fun r6840 =>
     bif (ieq r6840 0) then
      (some true)
     else
     some false)
    else
    some false)
   else
   some true)
  else
  some false)
 else
 some false
theorem F38_ok (K : Nat) (a6797 : GGraph) (a6798 : GJob) (a6799 : GPart) (a6800 : List (List GMsg)) (r : Bool) (hF : F38 K a6797 a6798 a6799 a6800 = some r) : Evt E H 38 [.agg (eGGraph a6797), .agg (eGJob a6798), .agg (eGPart a6799), .one (.sl (len a6800) (flat (eSl eGMsg) a6800))] (F38_res r) := by
 rw [F38] at hF
 refine bind_some hF (fun r6801 h6802 hF => ?_)
 refine cond_some hF (fun h6803 hF => ?_) (fun h6803 hF => ?_)
 ·
  obtain rfl := Option.some.inj hF
  have pz : HoldAll E H hn38 [.call 113 [.agg (eGGraph a6797)] (F113_res r6801), .test (leadsAny (Res.mk [(.one (.im (.lit (.bool r6801))))] [])) false, .test (beqb r6801 false) false, .test (beqb r6801 false) false, .test r6801 true, .test (beqb true false) false, .test (beqb true false) false, .test true true, .test true true, .call 115 [] (Res.mk [(.one (.im (.lit (.bool true))))] []), .test (leadsAny (Res.mk [(.one (.im (.lit (.bool true))))] [])) false] := ⟨(F113_ok K a6797 _ h6802), (leads_ok (by simp [leadsAny, RV.leads, RC.leads, leadsT, hasSl_lit])), (beqb_ft h6803), (beqb_ft h6803), h6803, (beqb_ft rfl), (beqb_ft rfl), rfl, rfl, knows115, (leads_ok (by simp [leadsAny, RV.leads, RC.leads, leadsT, hasSl_lit])), trivial⟩
  exact fn_playC hn38 (r := F38_res true) pz (by kernel_rfl) (by kernel_rfl)
 refine bind_some hF (fun r6804 h6805 hF => ?_)
 have pq6843 : ∀ {l : List Cond}, HoldAll E H hn38 l → HoldAll E H hn38 (.call 113 [.agg (eGGraph a6797)] (F113_res r6801) :: .test (leadsAny (Res.mk [(.one (.im (.lit (.bool r6801))))] [])) false :: .test (beqb r6801 false) true :: .test (beqb r6801 false) true :: .call 114 [.agg (eGPart a6799)] (F114_res r6804) :: .test (leadsAny (Res.mk [(.one (.im (.lit (.bool r6804))))] [])) false :: .test r6801 false :: l) := fun z => ⟨(F113_ok K a6797 _ h6802), (leads_ok (by simp [leadsAny, RV.leads, RC.leads, leadsT, hasSl_lit])), (beqb_ff h6803), (beqb_ff h6803), (F114_ok K a6799 _ h6805), (leads_ok (by simp [leadsAny, RV.leads, RC.leads, leadsT, hasSl_lit])), h6803, z⟩
 refine cond_some hF (fun h6806 hF => ?_) (fun h6806 hF => ?_)
 ·
  obtain rfl := Option.some.inj hF
  have pz : HoldAll E H hn38 [.test (beqb r6804 false) false, .test (beqb r6804 false) false, .test r6804 true, .test true true, .call 115 [] (Res.mk [(.one (.im (.lit (.bool true))))] []), .test (leadsAny (Res.mk [(.one (.im (.lit (.bool true))))] [])) false] := ⟨(beqb_ft h6806), (beqb_ft h6806), h6806, rfl, knows115, (leads_ok (by simp [leadsAny, RV.leads, RC.leads, leadsT, hasSl_lit])), trivial⟩
  exact fn_playC hn38 (r := F38_res true) (pq6843 pz) (by kernel_rfl) (by kernel_rfl)
 refine bind_some hF (fun r6807 h6808 hF => ?_)
 have pq6844 : ∀ {l : List Cond}, HoldAll E H hn38 l → HoldAll E H hn38 (.test (beqb r6804 false) true :: .test (beqb r6804 false) true :: .call 120 [.one (.sl (len a6800) (flat (eSl eGMsg) a6800))] (F120_res r6807) :: .test (leadsAny (Res.mk [(.one (.im (.lit (.bool r6807))))] [])) false :: .test r6804 false :: l) := fun z => ⟨(beqb_ff h6806), (beqb_ff h6806), (F120_ok K a6800 _ h6808), (leads_ok (by simp [leadsAny, RV.leads, RC.leads, leadsT, hasSl_lit, flat_ns eGMsg_ns])), h6806, z⟩
 refine cond_some hF (fun h6809 hF => ?_) (fun h6809 hF => ?_)
 ·
  obtain rfl := Option.some.inj hF
  have pz : HoldAll E H hn38 [.test r6807 true, .call 115 [] (Res.mk [(.one (.im (.lit (.bool true))))] []), .test (leadsAny (Res.mk [(.one (.im (.lit (.bool true))))] [])) false] := ⟨h6809, knows115, (leads_ok (by simp [leadsAny, RV.leads, RC.leads, leadsT, hasSl_lit])), trivial⟩
  exact fn_playC hn38 (r := F38_res true) (pq6843 (pq6844 pz)) (by kernel_rfl) (by kernel_rfl)
 refine bind_some hF (fun w6826 h6824 hF => ?_)
 refine bind_some hF (fun r6828 h6829 hF => ?_)
 refine bind_some hF (fun r6830 h6831 hF => ?_)
 have pq6845 : ∀ {l : List Cond}, HoldAll E H hn38 l → HoldAll E H hn38 (.test r6807 false :: .int (nlen (len a6800)) (nlen (len a6800)) :: .int (wsub .i64 (nlen (len a6800)) 1) (wsub .i64 (nlen (len a6800)) 1) :: .loop 0 c38_0 (F38_l0_0_S a6797 a6798 a6799 a6800 [] (wsub .i64 (nlen (len a6800)) 1)) (.exit 0) (F38_l0_0_X0 a6797 a6798 a6799 a6800 w6826) :: .call 121 [.agg (eGGraph a6797), .agg (eGJob a6798), .agg (eGPart a6799), .one (.sl (len a6800) (flat (eSl eGMsg) a6800))] (F121_res r6828) :: .test (leadsAny (Res.mk [(.agg [(.im (.lit (.int .i64 r6828.1.P))), (.im (.lit (.int .i64 r6828.1.Step))), (.own 2 (.sl (len r6828.1.Vals) (flat (eInt .i64) r6828.1.Vals))), (.own 4 (.sl (len r6828.1.Rest) (flat eBool r6828.1.Rest))), (.own 130 (.sl (len r6828.1.In) (flat eGMsg r6828.1.In)))]), (.one (.im (.lit (.int .i64 r6828.2))))] [])) false :: .call 121 [.agg (eGGraph a6797), .agg (eGJob a6798), .agg (eGPart a6799), .one (.sl (len w6826) (flat (eSl eGMsg) w6826))] (F121_res r6830) :: .test (leadsAny (Res.mk [(.agg [(.im (.lit (.int .i64 r6830.1.P))), (.im (.lit (.int .i64 r6830.1.Step))), (.own 2 (.sl (len r6830.1.Vals) (flat (eInt .i64) r6830.1.Vals))), (.own 4 (.sl (len r6830.1.Rest) (flat eBool r6830.1.Rest))), (.own 130 (.sl (len r6830.1.In) (flat eGMsg r6830.1.In)))]), (.one (.im (.lit (.int .i64 r6830.2))))] [])) false :: l) := fun z => ⟨h6809, rfl, rfl, (F38_l0_0_ok K a6797 a6798 a6799 a6800 K [] (wsub .i64 (nlen (len a6800)) 1) _ h6824), (F121_ok K a6797 a6798 a6799 a6800 _ h6829), (leads_ok (by simp [leadsAny, RV.leads, RC.leads, leadsT, hasSl_lit, flat_ns (eInt_ns _), flat_ns eBool_ns, flat_ns eGJob_ns, flat_ns eGMsg_ns])), (F121_ok K a6797 a6798 a6799 w6826 _ h6831), (leads_ok (by simp [leadsAny, RV.leads, RC.leads, leadsT, hasSl_lit, flat_ns (eInt_ns _), flat_ns eBool_ns, flat_ns eGJob_ns, flat_ns eGMsg_ns])), z⟩
 refine cond_some hF (fun h6832 hF => ?_) (fun h6832 hF => ?_)
 ·
  refine bind_some hF (fun r6833 h6834 hF => ?_)
  have pq6846 : ∀ {l : List Cond}, HoldAll E H hn38 l → HoldAll E H hn38 (.test (beqb (ine r6828.2 r6830.2) false) true :: .test (beqb (ine r6828.2 r6830.2) false) true :: .test (beqb (ine r6828.2 r6830.2) false) true :: .call 118 [.agg (eGPart r6828.1), .agg (eGPart r6830.1)] (F118_res r6833) :: .test (leadsAny (Res.mk [(.one (.im (.lit (.bool r6833))))] [])) false :: .test (beqb (ine r6828.2 r6830.2) false) true :: .test (ine r6828.2 r6830.2) false :: l) := fun z => ⟨(beqb_ff (ine_t h6832)), (beqb_ff (ine_t h6832)), (beqb_ff (ine_t h6832)), (F118_ok K r6828.1 r6830.1 _ h6834), (leads_ok (by simp [leadsAny, RV.leads, RC.leads, leadsT, hasSl_lit])), (beqb_ff (ine_t h6832)), (ine_t h6832), z⟩
  refine cond_some hF (fun h6835 hF => ?_) (fun h6835 hF => ?_)
  ·
   refine cond_some hF (fun h6836 hF => ?_) (fun h6836 hF => ?_)
   ·
    refine bind_some hF (fun r6837 h6838 hF => ?_)
    have pq6847 : ∀ {l : List Cond}, HoldAll E H hn38 l → HoldAll E H hn38 (.test (bnot r6833) false :: .test (beqb (ine r6828.2 0) false) true :: .test (beqb (ine r6828.2 0) false) true :: .test (beqb (ine r6828.2 0) false) true :: .test (beqb (ine r6828.2 0) false) true :: .call 81 [.agg (eGGraph a6797), .agg (eGJob a6798), .agg (eGPart r6828.1)] (F81_res r6837) :: .test (leadsAny (Res.mk [(.one (.im (.lit (.bool r6837))))] [])) false :: .test (beqb (ine r6828.2 0) false) true :: l) := fun z => ⟨(bnot_t h6835), (beqb_ff (ine_t h6836)), (beqb_ff (ine_t h6836)), (beqb_ff (ine_t h6836)), (beqb_ff (ine_t h6836)), (F81_ok K a6797 a6798 r6828.1 _ h6838), (leads_ok (by simp [leadsAny, RV.leads, RC.leads, leadsT, hasSl_lit, flat_ns eGJob_ns])), (beqb_ff (ine_t h6836)), z⟩
    refine cond_some hF (fun h6839 hF => ?_) (fun h6839 hF => ?_)
    ·
     refine bind_some hF (fun r6840 h6841 hF => ?_)
     have pq6848 : ∀ {l : List Cond}, HoldAll E H hn38 l → HoldAll E H hn38 (.test (beqb r6837 true) true :: .test (beqb r6837 true) true :: .test (beqb r6837 true) true :: .call 59 [.agg (eGGraph a6797), .agg (eGJob a6798)] (F59_res r6840) :: .test (leadsAny (Res.mk [(.one (.im (.lit (.int .i64 r6840))))] [])) false :: .test (beqb r6837 true) true :: .test (beqb (ine r6828.2 0) false) true :: .test r6837 true :: .test (ine r6828.2 0) false :: l) := fun z => ⟨(beqb_t h6839), (beqb_t h6839), (beqb_t h6839), (F59_ok K a6797 a6798 _ h6841), (leads_ok (by simp [leadsAny, RV.leads, RC.leads, leadsT, hasSl_lit, flat_ns eGJob_ns])), (beqb_t h6839), (beqb_ff (ine_t h6836)), h6839, (ine_t h6836), z⟩
     refine cond_some hF (fun h6842 hF => ?_) (fun h6842 hF => ?_)
     ·
      obtain rfl := Option.some.inj hF
      have pz : HoldAll E H hn38 [.test (beqb (ieq r6840 0) true) true, .call 115 [] (Res.mk [(.one (.im (.lit (.bool true))))] []), .test (leadsAny (Res.mk [(.one (.im (.lit (.bool true))))] [])) false, .test (ieq r6840 0) true] := ⟨(beqb_t h6842), knows115, (leads_ok (by simp [leadsAny, RV.leads, RC.leads, leadsT, hasSl_lit])), h6842, trivial⟩
      exact fn_playC hn38 (r := F38_res true) (pq6843 (pq6844 (pq6845 (pq6846 (pq6847 (pq6848 pz)))))) (by kernel_rfl) (by kernel_rfl)
     obtain rfl := Option.some.inj hF
     have pz : HoldAll E H hn38 [.test (beqb (ieq r6840 0) true) false, .test (ieq r6840 0) false] := ⟨(beqb_t h6842), h6842, trivial⟩
     exact fn_playC hn38 (r := F38_res false) (pq6843 (pq6844 (pq6845 (pq6846 (pq6847 (pq6848 pz)))))) (by kernel_rfl) (by kernel_rfl)
    obtain rfl := Option.some.inj hF
    have pz : HoldAll E H hn38 [.test (beqb r6837 true) false, .test (beqb r6837 true) false, .test (beqb r6837 true) false, .test (beqb r6837 true) false, .test (beqb (ine r6828.2 0) false) true, .test r6837 false, .test (ine r6828.2 0) false, .test (beqb false true) false, .test false false] := ⟨(beqb_t h6839), (beqb_t h6839), (beqb_t h6839), (beqb_t h6839), (beqb_ff (ine_t h6836)), h6839, (ine_t h6836), (beqb_t rfl), rfl, trivial⟩
    exact fn_playC hn38 (r := F38_res false) (pq6843 (pq6844 (pq6845 (pq6846 (pq6847 pz))))) (by kernel_rfl) (by kernel_rfl)
   obtain rfl := Option.some.inj hF
   have pz : HoldAll E H hn38 [.test (bnot r6833) false, .test (beqb (ine r6828.2 0) false) false, .test (beqb (ine r6828.2 0) false) false, .test (beqb (ine r6828.2 0) false) false, .test (beqb (ine r6828.2 0) false) false, .test (beqb (ine r6828.2 0) false) false, .test (beqb (ine r6828.2 0) false) false, .test (ine r6828.2 0) true, .test (beqb true true) true, .call 115 [] (Res.mk [(.one (.im (.lit (.bool true))))] []), .test (leadsAny (Res.mk [(.one (.im (.lit (.bool true))))] [])) false, .test true true] := ⟨(bnot_t h6835), (beqb_ft (ine_f h6836)), (beqb_ft (ine_f h6836)), (beqb_ft (ine_f h6836)), (beqb_ft (ine_f h6836)), (beqb_ft (ine_f h6836)), (beqb_ft (ine_f h6836)), (ine_f h6836), (beqb_t rfl), knows115, (leads_ok (by simp [leadsAny, RV.leads, RC.leads, leadsT, hasSl_lit])), rfl, trivial⟩
   exact fn_playC hn38 (r := F38_res true) (pq6843 (pq6844 (pq6845 (pq6846 pz)))) (by kernel_rfl) (by kernel_rfl)
  obtain rfl := Option.some.inj hF
  have pz : HoldAll E H hn38 [.test (bnot r6833) true] := ⟨(bnot_f h6835), trivial⟩
  exact fn_playC hn38 (r := F38_res false) (pq6843 (pq6844 (pq6845 (pq6846 pz)))) (by kernel_rfl) (by kernel_rfl)
 obtain rfl := Option.some.inj hF
 have pz : HoldAll E H hn38 [.test (beqb (ine r6828.2 r6830.2) false) false, .test (beqb (ine r6828.2 r6830.2) false) false, .test (beqb (ine r6828.2 r6830.2) false) false, .test (beqb (ine r6828.2 r6830.2) false) false, .test (ine r6828.2 r6830.2) true, .test true true] := ⟨(beqb_ft (ine_f h6832)), (beqb_ft (ine_f h6832)), (beqb_ft (ine_f h6832)), (beqb_ft (ine_f h6832)), (ine_f h6832), rfl, trivial⟩
 exact fn_playC hn38 (r := F38_res false) (pq6843 (pq6844 (pq6845 pz))) (by kernel_rfl) (by kernel_rfl)
def manyS (ls : List (List GMsg)) : Bool := ilt 20 (nlen (len ls)) || ls.any fun l => ilt 100 (nlen (len l))
theorem F120_spec {K : Nat} (hK : 1000 ≤ K) (ls : List (List GMsg)) : F120 K ls = some (manyS ls) := by
 rw [F120, manyS]
 cases h20 : ilt 20 (nlen (len ls))
 · have h20' : ls.length ≤ 20 := by have := ilt_f.1 h20; simp only [nlen, len] at this; omega
   have h := scanL (l := ls) (L := fun k (_ : Unit) i => F120_l0_0 K ls k i) (fun x _ c => bif ilt 100 (nlen (len x)) then some (.inl ()) else c ()) (fun _ => some (.inr ())) (fun k s i _ => rfl) (by omega) (K := K) (by omega) ()
   have hw : ∀ (r : List (List GMsg)), goL (fun x (_ : Unit) c => bif ilt 100 (nlen (len x)) then some (.inl ()) else c ()) (fun _ => some (.inr ())) r () = (some (sumU (!(r.any fun l => ilt 100 (nlen (len l))))) : Option (Unit ⊕ Unit)) := by
     intro r
     induction r with
     | nil => rfl
     | cons x r ih =>
       rw [goL, ih, List.any_cons]
       cases ilt 100 (nlen (len x)) <;> rfl
   rw [hw] at h
   have h' : F120_l0_0 K ls K 0 = _ := h
   rw [h', cond_false, sumU_bind, Bool.false_or]
   cases ls.any fun l => ilt 100 (nlen (len l)) <;> rfl
 · rfl
theorem many_flat : ∀ (ls : List (List GMsg)), (∀ l ∈ ls, l.length ≤ 100) → ls.flatten.length ≤ ls.length * 100
 | [], _ => by simp
 | l :: ls, h => by
   have h1 := h l List.mem_cons_self
   have h2 := many_flat ls fun x hx => h x (List.mem_cons_of_mem _ hx)
   rw [List.flatten_cons, List.length_append, List.length_cons]; omega
theorem manyS_f {ls : List (List GMsg)} (h : manyS ls = false) : ls.length ≤ 20 ∧ ls.flatten.length ≤ 2000 := by
 simp only [manyS, Bool.or_eq_false_iff, ilt_f, nlen, len] at h
 obtain ⟨h1, h2⟩ := h
 have h3 : ∀ l ∈ ls, l.length ≤ 100 := by
   intro l hl
   cases hc : ilt 100 (nlen (len l))
   · have := ilt_f.1 hc; simp only [nlen, len] at this; omega
   · have : (ls.any fun l => decide ((100 : Int) < (l.length : Int))) = true := List.any_eq_true.2 ⟨l, hl, hc⟩
     rw [show (ls.any fun l => decide ((100 : Int) < (l.length : Int))) = false from h2] at this; cases this
 have := many_flat ls h3
 exact ⟨by omega, by omega⟩
def broadP8 (x : GPart) : Bool := ilt 100 (nlen (len x.Vals)) || (ilt 100 (nlen (len x.Rest)) || ilt 300 (nlen (len x.In)))
theorem F114_spec (K : Nat) (x : GPart) : F114 K x = some (broadP8 x) := by
 have : igt (nlen (len x.In)) 300 = ilt 300 (nlen (len x.In)) := rfl
 rw [F114, this, broadP8]
 cases ilt 100 (nlen (len x.Vals)) <;> cases ilt 100 (nlen (len x.Rest)) <;> rfl
theorem broadP8_f {x : GPart} (h : broadP8 x = false) : x.Vals.length ≤ 100 ∧ x.Rest.length ≤ 100 ∧ x.In.length ≤ 300 := by
 simp only [broadP8, Bool.or_eq_false_iff, ilt_f, nlen, len] at h
 omega
theorem take_fit {K : Nat} (hK : 3000 ≤ K) (g : GGraph) (j : GJob) {x : GPart} {l : List GMsg} (hv : x.Vals.length ≤ 100) (hr : x.Rest.length ≤ 100) (hl : l.length ≤ 2000) (hs : ∀ m ∈ l, i64 m.V) : fitP K (takeS g j x l).1 := by
 have hz : fitP K zeroP := by refine ⟨⟨?_, ?_⟩, ⟨?_, ?_⟩, ?_, ?_⟩ <;> simp [zeroP] <;> omega
 have hb := (boxS_ok (p := j.Prog) hs).1
 rw [takeS]
 cases ieq (jcheck g j) 0
 · exact hz
 · cases partRight g j x
   · exact hz
   · cases ieq (nlen (len x.In)) 0
     · exact hz
     · cases takeOk g.N j.Parts x.P l
       · exact hz
       · rw [takeB]
         cases ieq (boxS j.Prog l).2 0
         · exact hz
         · exact ⟨⟨by show x.Vals.length < _; omega, by show x.Vals.length < _; omega⟩, ⟨by show x.Rest.length < _; omega, by show x.Rest.length < _; omega⟩, by show (boxS j.Prog l).1.length < _; omega, by show (boxS j.Prog l).1.length < _; omega⟩
abbrev WGIns (ls : List (List GMsg)) : Prop := (fun l : List (List GMsg) => l.length * 24 ≤ reachBytes ∧ ∀ y ∈ l, (fun l : List GMsg => l.length * 16 ≤ reachBytes ∧ ∀ y ∈ l, WGMsg y) y) ls
theorem ins_i64 {ls : List (List GMsg)} (h : WGIns ls) : ∀ m ∈ ls.flatten, i64 m.V := by
 intro m hm
 obtain ⟨l, hl, hm⟩ := List.mem_flatten.1 hm
 exact i64_wf ((h.2 l hl).2 m hm).2.1
theorem F38_loop {K : Nat} (g : GGraph) (j : GJob) (x : GPart) (ls : List (List GMsg)) (hl : ls.length ≤ 20) : ∀ (n k : Nat) (acc : List (List GMsg)), n < k → n ≤ ls.length → acc.length + n ≤ 20 →
   F38_l0_0 K g j x ls k acc (wsub .i64 (n : Int) 1) = some (acc ++ (ls.take n).reverse) := by
 intro n
 induction n with
 | zero =>
   intro k acc hk _ _
   obtain ⟨k, rfl⟩ : ∃ q, k = q + 1 := ⟨k - 1, by omega⟩
   have : wsub .i64 ((0 : Nat) : Int) 1 = -1 := rfl
   rw [F38_l0_0, this, ile_f.2 (by omega : (-1 : Int) < 0)]; simp
 | succ n ih =>
   intro k acc hk hn ha
   obtain ⟨k, rfl⟩ : ∃ q, k = q + 1 := ⟨k - 1, by omega⟩
   have w : wsub .i64 ((n + 1 : Nat) : Int) 1 = (n : Int) := by show IntKind.i64.wrap _ = _; rw [IntKind.wrap_i64]; omega
   have r1 : inr (n : Int) (len ls) = true := decide_eq_true ⟨by omega, by show (n : Int) < (ls.length : Int); omega⟩
   have r2 : elAt ls (n : Int) = some ls[n] := by rw [elAt_nat]; exact List.getElem?_eq_getElem _
   have ap : apok (len acc) 1 24 = true := decide_eq_true ⟨by show acc.length + 1 ≤ _; omega, by show (acc.length + 1) * 24 ≤ _; omega⟩
   rw [F38_l0_0, w, ile_iff.2 (by omega : (0 : Int) ≤ (n : Int)), r1, r2, ap]
   simp only [cond_true, Option.bind_some]
   rw [ih k _ (by omega) (by omega) (by simp only [appL, List.length_append, List.length_singleton]; omega), show ls.take (n + 1) = ls.take n ++ [ls[n]] from (List.take_append_getElem hn).symm]
   simp only [appL, List.reverse_append, List.reverse_cons, List.reverse_nil, List.nil_append, List.append_assoc, List.singleton_append]
theorem foldC_rise (p : Int) : ∀ (r : List GMsg) (c : GMsg) (d w : List GMsg), foldC p r c d = .inr w → (∀ x ∈ r, c.To ≤ x.To) → r.Pairwise (fun a b => a.To ≤ b.To) → (d ++ [c]).Pairwise (fun a b => a.To < b.To) →
   w.Pairwise (fun a b => a.To < b.To) ∧ ∀ t ∈ w, ∃ s ∈ d ++ c :: r, s.To = t.To
 | [], c, d, w, h, _, _, hd => by
   injection h with h
   subst h
   exact ⟨hd, fun t ht => ⟨t, ht, rfl⟩⟩
 | x :: r, c, d, w, h, hc, hr, hd => by
   rw [foldC] at h
   obtain ⟨hx, hr'⟩ := List.pairwise_cons.1 hr
   cases h1 : ieq c.To x.To
   · rw [h1, cond_false] at h
     have hne := ieq_f.1 h1
     have hlt := hc x List.mem_cons_self
     obtain ⟨q1, q2⟩ := foldC_rise p r x (d ++ [c]) w h hx hr' (by
       refine List.pairwise_append.2 ⟨hd, List.pairwise_singleton _ _, fun u hu v hv => ?_⟩
       rw [List.mem_singleton.1 hv]
       rcases List.mem_append.1 hu with hu | hu
       · have := (List.pairwise_append.1 hd).2.2 u hu c (List.mem_singleton.2 rfl); omega
       · rw [List.mem_singleton.1 hu]; omega)
     exact ⟨q1, fun t ht => by
       obtain ⟨s, hs, e⟩ := q2 t ht
       exact ⟨s, by simpa using hs, e⟩⟩
   · rw [h1, cond_true] at h
     cases h2 : ieq (foldS p c.V x.V).2 0
     · rw [h2] at h; cases h
     · rw [h2, cond_true] at h
       obtain ⟨q1, q2⟩ := foldC_rise p r (GMsg.mk c.To (foldS p c.V x.V).1) d w h (fun y hy => hc y (List.mem_cons_of_mem _ hy)) hr' (by
         obtain ⟨a, b, e⟩ := List.pairwise_append.1 hd
         exact List.pairwise_append.2 ⟨a, List.pairwise_singleton _ _, fun u hu v hv => by rw [List.mem_singleton.1 hv]; exact e u hu c (List.mem_singleton.2 rfl)⟩)
       refine ⟨q1, fun t ht => ?_⟩
       obtain ⟨s, hs, e⟩ := q2 t ht
       rcases List.mem_append.1 hs with hs | hs
       · exact ⟨s, List.mem_append_left _ hs, e⟩
       · rcases List.mem_cons.1 hs with rfl | hs
         · exact ⟨c, List.mem_append_right _ List.mem_cons_self, e⟩
         · exact ⟨s, List.mem_append_right _ (List.mem_cons_of_mem _ (List.mem_cons_of_mem _ hs)), e⟩
theorem boxS_rise {p : Int} {l : List GMsg} : (boxS p l).1.Pairwise (fun a b => a.To < b.To) ∧ ∀ t ∈ (boxS p l).1, ∃ s ∈ l, s.To = t.To := by
 have hn : (([] : List GMsg).Pairwise (fun a b => a.To < b.To)) ∧ ∀ t ∈ ([] : List GMsg), ∃ s ∈ l, s.To = t.To := ⟨List.Pairwise.nil, fun t ht => absurd ht List.not_mem_nil⟩
 have hp := sortM_perm l
 have hs : (sortM l).Pairwise (fun a b => a.To ≤ b.To) := (sortM_srt l).imp fun {a b} h => by have := leM_iff.1 h; omega
 rw [boxS]
 cases pbad p
 · rw [cond_false]
   generalize sortM l = m at *
   cases m with
   | nil => exact hn
   | cons x r =>
     rw [foldO]
     cases hq : foldC p r x [] with
     | inl e => exact hn
     | inr w =>
       obtain ⟨h1, h2⟩ := List.pairwise_cons.1 hs
       obtain ⟨q1, q2⟩ := foldC_rise p r x [] w hq h1 h2 (List.pairwise_singleton _ _)
       exact ⟨q1, fun t ht => by
         obtain ⟨s, hs, e⟩ := q2 t ht
         exact ⟨s, hp.mem_iff.1 hs, e⟩⟩
 · exact hn
theorem take_right {g : GGraph} {j : GJob} {x : GPart} {l : List GMsg} (h : ieq (takeS g j x l).2 0 = true) : partRight g j (takeS g j x l).1 = true ∧ ieq (jcheck g j) 0 = true := by
 rw [takeS] at h ⊢
 cases hc : ieq (jcheck g j) 0
 · rw [hc, cond_false] at h
   have h' : ieq (jcheck g j) 0 = true := h
   rw [hc] at h'; cases h'
 · rw [hc] at h
   cases hR : partRight g j x
   · rw [hR] at h; cases h
   · rw [hR] at h
     cases hI : ieq (nlen (len x.In)) 0
     · rw [hI] at h; cases h
     · rw [hI] at h
       cases hO : takeOk g.N j.Parts x.P l
       · rw [hO] at h; cases h
       · rw [hO] at h
         simp only [cond_true, takeB] at h ⊢
         cases hB : ieq (boxS j.Prog l).2 0
         · rw [hB, cond_false] at h
           have h' : ieq (boxS j.Prog l).2 0 = true := h
           rw [hB] at h'; cases h'
         · obtain ⟨_, p1, p2, p3, p4, p5, p6, _⟩ := partRight_ok hR
           obtain ⟨r1, r2⟩ := boxS_rise (p := j.Prog) (l := l)
           have hin : inOkS g.N j.Parts x.P (-1) (boxS j.Prog l).1 = true := inOkS_mk r1 fun m hm => by
             obtain ⟨s, hs, e⟩ := r2 m hm
             have := List.all_eq_true.1 hO s hs
             simp only [Bool.and_eq_true, ile_iff, ilt_iff, ieq_iff] at this
             rw [← e]
             exact ⟨by omega, this.2.1, this.2.2⟩
           refine ⟨?_, trivial⟩
           rw [cond_true, partRight]
           simp only [hc, ile_iff.2 p1, ilt_iff.2 p2, ile_iff.2 p3, ile_iff.2 p4, ieq_iff.2 p5, ieq_iff.2 p6, hin, Bool.and_true]
theorem law38 (g : GGraph) (j : GJob) (x : GPart) (ins : List (List GMsg)) (_ : WGGraph g) (_ : WGJob j) (hx : WGPart x) (hi : WGIns ins) : F38 3000 g j x ins = some true := by
 generalize hq : 3000 = K
 have hK : 3000 ≤ K := by omega
 rw [F38, F113, F114_spec, F120_spec (by omega), Option.bind_some, Option.bind_some, Option.bind_some]
 cases igt (nlen (len g.Edges)) 200
 · cases hb : broadP8 x
   · obtain ⟨b1, b2, b3⟩ := broadP8_f hb
     cases hm : manyS ins
     · obtain ⟨m1, m2⟩ := manyS_f hm
       have hs := ins_i64 hi
       have pr : ins.reverse.flatten.Perm ins.flatten := (List.reverse_perm ins).flatten
       have e1 : F38_l0_0 K g j x ins K [] (wsub .i64 (nlen (len ins)) 1) = some ins.reverse := by
         have := F38_loop (K := K) g j x ins m1 ins.length K [] (by omega) (Nat.le_refl _) (by simpa using m1)
         rw [List.take_length, List.nil_append] at this; exact this
       have s1 := F121_spec (K := K) (by omega) g j x ins (i64_wf hx.1) b3 b1 b2 (by omega) (show ins.flatten.length < 10000 by omega) (show ins.flatten.length < K by omega) hs
       have s2 := F121_spec (K := K) (by omega) g j x ins.reverse (i64_wf hx.1) b3 b1 b2 (by rw [List.length_reverse]; omega) (by rw [pr.length_eq]; omega) (by rw [pr.length_eq]; omega) (fun m hm => hs m (pr.mem_iff.1 hm))
       rw [takeS_perm pr] at s2
       have hf := take_fit hK g j b1 b2 m2 hs
       simp only [cond_false, e1, s1, s2, Option.bind_some, same118 _ hf, ieq_refl, cond_true]
       cases hr : ieq (takeS g j x ins.flatten).2 0
       · rfl
       · obtain ⟨t1, t2⟩ := take_right hr
         rw [cond_true, F81_spec (K := K) (by omega) g j _ hf.2.2.1 hf.2.2.2, t1, F59_spec (by omega)]
         simp only [Option.bind_some, cond_true, t2]
     · rfl
   · rfl
 · rfl
end Go.Proofs.Ytnjanliihnadjaa.Tm

/- Printed by program: what each function computes, and that the machine answers so. Conditions: none. -/
import Derived.Test.YtnjanliihnadjaaTy
import Derived.Test.YtnjanliihnadjaaTab
import Derived.Test.YtnjanliihnadjaaKn
import Derived.KernelRfl
set_option linter.unusedVariables false
set_option linter.unusedSimpArgs false
namespace Go.Proofs.Ytnjanliihnadjaa.Tm
open Go
/-! ### haywain/barrier.Right -/
noncomputable def hn48 : Hint := { H 48 with nt := 63, prot := 0 }
noncomputable def c48_0 : Code := loopOf E 48 0
def F48_res (r43 : Bool) : Res := ⟨[(.one (.im (.lit (.bool r43))))], []⟩
def F48_l0_0 (K : Nat) (a6 : GBarrier) : Nat → Int → Int → Option ((Unit) ⊕ (Unit))
  | 0, _, _ => none
  | k + 1, v20, v21 =>
    bif (ilt v21 (nlen (len a6.Came))) then
      (bif (inr v21 (len a6.Came)) then
      (elAt a6.Came v21).bind fun x24 =>
      bif (ile x24.P v20) then
        (some (.inl ()))
      else
      bif (ile a6.Parts x24.P) then
        (some (.inl ()))
      else
      bif (ieq x24.Step (wadd .i64 a6.Step 1)) then
        (F48_l0_0 K a6 k x24.P (wadd .i64 v21 1))
      else
      some (.inl ())
      else none)
    else
    some (.inr ())
def F48_l0_0_S (a6 : GBarrier) (v20 : Int) (v21 : Int) : TS := .on [64, 65, 66, 67, 68, 69, 192, 193, 2176, 2240, 2241, 2304, 2305, 2368, 2369] [(64, ⟨(.box 24 5), 0, nob⟩), (65, ⟨.im, 0, (.lit (.int .i64 a6.Epoch))⟩), (66, ⟨.im, 0, (.lit (.int .i64 a6.Step))⟩), (67, ⟨.im, 0, (.lit (.int .i64 a6.Parts))⟩), (68, ⟨.im, 0, (.sl (len a6.Came) (flat eGPart a6.Came))⟩), (69, ⟨.im, 0, (.lit (.bool a6.Over))⟩), (192, ⟨.one, 0, nob⟩), (193, ⟨.im, 0, (.lit (.int .i64 v20))⟩), (2176, ⟨(.ad 1 0 3), 0, nob⟩), (2240, ⟨.one, 0, nob⟩), (2241, ⟨.im, 0, (.sl (len a6.Came) (flat eGPart a6.Came))⟩), (2304, ⟨.one, 0, nob⟩), (2305, ⟨.im, 0, (.lit (.int .i64 (nlen (len a6.Came))))⟩), (2368, ⟨.one, 0, nob⟩), (2369, ⟨.im, 0, (.lit (.int .i64 v21))⟩)]
def F48_l0_0_X0 (a6 : GBarrier) (w29 : Unit) : TS := .on [128, 129] [(128, ⟨.one, 0, nob⟩), (129, ⟨.im, 0, (.lit (.bool false))⟩)]
def F48_l0_0_X1 (a6 : GBarrier) (w30 : Unit) : TS := .on [] []
theorem F48_l0_0_ok (K : Nat) (a6 : GBarrier) : ∀ (k : Nat) (v20 : Int) (v21 : Int) (r : (Unit) ⊕ (Unit)), F48_l0_0 K a6 k v20 v21 = some r → (Sum.elim (fun w => LoopEv E H hn48 0 c48_0 (F48_l0_0_S a6 v20 v21) .ret (F48_l0_0_X0 a6 w)) (fun w => LoopEv E H hn48 0 c48_0 (F48_l0_0_S a6 v20 v21) (.exit 0) (F48_l0_0_X1 a6 w))) r := by
  intro k
  induction k with
  | zero => intro v20 v21 r hF; cases hF
  | succ k ih =>
    intro v20 v21 r hF
    rw [F48_l0_0] at hF
    refine cond_some hF (fun h22 hF => ?_) (fun h22 hF => ?_)
    ·
      refine cond_some hF (fun h23 hF => ?_) (fun _ hF => nomatch hF)
      refine bind_some hF (fun x24 h25 hF => ?_)
      have pq31 : ∀ {l : List Cond}, HoldAll E H hn48 l → HoldAll E H hn48 (.test (ilt v21 (nlen (len a6.Came))) true :: .test (inr v21 (len a6.Came)) true :: .sub (flat eGPart a6.Came) (nidx v21 5) 5 [(.lit (.int .i64 x24.P)), (.lit (.int .i64 x24.Step)), (.sl (len x24.Vals) (flat (eInt .i64) x24.Vals)), (.sl (len x24.Rest) (flat eBool x24.Rest)), (.sl (len x24.In) (flat eGMsg x24.In))] :: l) := fun z => ⟨h22, h23, ⟨rfl, sub_flat0 eGPart_len h25 5 (by decide)⟩, z⟩
      refine cond_some hF (fun h26 hF => ?_) (fun h26 hF => ?_)
      ·
        have hr := Option.some.inj hF
        subst hr
        have pz : HoldAll E H hn48 [.test (beqb (ile x24.P v20) false) false, .test (beqb (ile x24.P v20) false) false, .test (beqb (ile x24.P v20) false) false, .test (beqb (ile x24.P v20) false) false, .test (beqb (ile x24.P v20) false) false, .test (ile x24.P v20) true, .test (beqb true false) false, .test (beqb true false) false, .test (beqb true false) false, .test (beqb true false) false, .test (beqb true false) false, .test (beqb true false) false, .test true true, .test true true] := ⟨(beqb_ft h26), (beqb_ft h26), (beqb_ft h26), (beqb_ft h26), (beqb_ft h26), h26, (beqb_ft rfl), (beqb_ft rfl), (beqb_ft rfl), (beqb_ft rfl), (beqb_ft rfl), (beqb_ft rfl), rfl, rfl, trivial⟩
        exact loop_endC (h := hn48) (l := 0) (c := c48_0) (ts := F48_l0_0_S a6 v20 v21) (ts' := F48_l0_0_X0 a6 ()) (ex := .ret) (pq31 pz) (by kernel_rfl) trivial
      have pq32 : ∀ {l : List Cond}, HoldAll E H hn48 l → HoldAll E H hn48 (.test (beqb (ile x24.P v20) false) true :: .test (beqb (ile x24.P v20) false) true :: .test (beqb (ile x24.P v20) false) true :: .test (beqb (ile x24.P v20) false) true :: .test (beqb (ile x24.P v20) false) true :: .test (ile x24.P v20) false :: l) := fun z => ⟨(beqb_ff h26), (beqb_ff h26), (beqb_ff h26), (beqb_ff h26), (beqb_ff h26), h26, z⟩
      refine cond_some hF (fun h27 hF => ?_) (fun h27 hF => ?_)
      ·
        have hr := Option.some.inj hF
        subst hr
        have pz : HoldAll E H hn48 [.test (beqb (ige x24.P a6.Parts) false) false, .test (beqb (ige x24.P a6.Parts) false) false, .test (beqb (ige x24.P a6.Parts) false) false, .test (beqb (ige x24.P a6.Parts) false) false, .test (beqb (ige x24.P a6.Parts) false) false, .test (beqb (ige x24.P a6.Parts) false) false, .test (ige x24.P a6.Parts) true, .test true true] := ⟨(beqb_ft (ige_eq h27)), (beqb_ft (ige_eq h27)), (beqb_ft (ige_eq h27)), (beqb_ft (ige_eq h27)), (beqb_ft (ige_eq h27)), (beqb_ft (ige_eq h27)), (ige_eq h27), rfl, trivial⟩
        exact loop_endC (h := hn48) (l := 0) (c := c48_0) (ts := F48_l0_0_S a6 v20 v21) (ts' := F48_l0_0_X0 a6 ()) (ex := .ret) (pq31 (pq32 pz)) (by kernel_rfl) trivial
      have pq33 : ∀ {l : List Cond}, HoldAll E H hn48 l → HoldAll E H hn48 (.test (beqb (ige x24.P a6.Parts) false) true :: .test (beqb (ige x24.P a6.Parts) false) true :: .test (beqb (ige x24.P a6.Parts) false) true :: .test (beqb (ige x24.P a6.Parts) false) true :: .test (beqb (ige x24.P a6.Parts) false) true :: .int (wadd .i64 a6.Step 1) (wadd .i64 a6.Step 1) :: .test (beqb (ige x24.P a6.Parts) false) true :: .test (ige x24.P a6.Parts) false :: l) := fun z => ⟨(beqb_ff (ige_eq h27)), (beqb_ff (ige_eq h27)), (beqb_ff (ige_eq h27)), (beqb_ff (ige_eq h27)), (beqb_ff (ige_eq h27)), rfl, (beqb_ff (ige_eq h27)), (ige_eq h27), z⟩
      refine cond_some hF (fun h28 hF => ?_) (fun h28 hF => ?_)
      ·
        have pz : HoldAll E H hn48 [.test (ine x24.Step (wadd .i64 a6.Step 1)) false, .int (wadd .i64 v21 1) (wadd .i64 v21 1)] := ⟨(ine_t h28), rfl, trivial⟩
        have h0 := ih _ _ _ hF
        have hn := fun ex ts' => loop_nextC (h := hn48) (l := 0) (c := c48_0) (ts := F48_l0_0_S a6 v20 v21) (ts1 := (F48_l0_0_S a6 x24.P (wadd .i64 v21 1))) (ex := ex) (ts' := ts') (pq31 (pq32 (pq33 pz))) (by kernel_rfl)
        cases r with
        | inl w => exact hn _ _ h0
        | inr w => exact hn _ _ h0
      have hr := Option.some.inj hF
      subst hr
      have pz : HoldAll E H hn48 [.test (ine x24.Step (wadd .i64 a6.Step 1)) true] := ⟨(ine_f h28), trivial⟩
      exact loop_endC (h := hn48) (l := 0) (c := c48_0) (ts := F48_l0_0_S a6 v20 v21) (ts' := F48_l0_0_X0 a6 ()) (ex := .ret) (pq31 (pq32 (pq33 pz))) (by kernel_rfl) trivial
    have hr := Option.some.inj hF
    subst hr
    have pz : HoldAll E H hn48 [.test (ilt v21 (nlen (len a6.Came))) false] := ⟨h22, trivial⟩
    exact loop_endC (h := hn48) (l := 0) (c := c48_0) (ts := F48_l0_0_S a6 v20 v21) (ts' := F48_l0_0_X1 a6 ()) (ex := (.exit 0)) pz (by kernel_rfl) trivial

def F48 (K : Nat) (a6 : GBarrier) : Option (Bool) :=
  bif (ilt a6.Epoch 1) then
    (some false)
  else
  bif (ilt 1099511627776 a6.Epoch) then
    (some false)
  else
  bif (ilt a6.Step 0) then
    (some false)
  else
  bif (ile 40 a6.Step) then
    (some false)
  else
  bif (ilt a6.Parts 1) then
    (some false)
  else
  bif (ilt 6 a6.Parts) then
    (some false)
  else
  (F48_l0_0 K a6 K (-1) 0).bind fun y35 =>
  Sum.elim (fun w36 =>
    some false)
    (fun w37 =>
    some true) y35
theorem F48_ok (K : Nat) (a6 : GBarrier) (r : Bool) (hF : F48 K a6 = some r) : Evt E H 48 [.agg (eGBarrier a6)] (F48_res r) := by
  rw [F48] at hF
  refine cond_some hF (fun h7 hF => ?_) (fun h7 hF => ?_)
  ·
    have hr := Option.some.inj hF
    subst hr
    have pz : HoldAll E H hn48 [.test (beqb (ilt a6.Epoch 1) false) false, .test (beqb (ilt a6.Epoch 1) false) false, .test (beqb (ilt a6.Epoch 1) false) false, .test (ilt a6.Epoch 1) true, .test (beqb true false) false, .test (beqb true false) false, .test (beqb true false) false, .test true true, .test (beqb true false) false, .test (beqb true false) false, .test (beqb true false) false, .test true true, .test (beqb true false) false, .test (beqb true false) false, .test (beqb true false) false, .test true true, .test (beqb true false) false, .test (beqb true false) false, .test (beqb true false) false, .test true true, .test true true] := ⟨(beqb_ft h7), (beqb_ft h7), (beqb_ft h7), h7, (beqb_ft rfl), (beqb_ft rfl), (beqb_ft rfl), rfl, (beqb_ft rfl), (beqb_ft rfl), (beqb_ft rfl), rfl, (beqb_ft rfl), (beqb_ft rfl), (beqb_ft rfl), rfl, (beqb_ft rfl), (beqb_ft rfl), (beqb_ft rfl), rfl, rfl, trivial⟩
    exact fn_playC hn48 (f := 48) (ads := [.agg (eGBarrier a6)]) (r := F48_res false) pz (by kernel_rfl) (by kernel_rfl)
  have pq38 : ∀ {l : List Cond}, HoldAll E H hn48 l → HoldAll E H hn48 (.test (beqb (ilt a6.Epoch 1) false) true :: .test (beqb (ilt a6.Epoch 1) false) true :: .test (beqb (ilt a6.Epoch 1) false) true :: .test (ilt a6.Epoch 1) false :: l) := fun z => ⟨(beqb_ff h7), (beqb_ff h7), (beqb_ff h7), h7, z⟩
  refine cond_some hF (fun h8 hF => ?_) (fun h8 hF => ?_)
  ·
    have hr := Option.some.inj hF
    subst hr
    have pz : HoldAll E H hn48 [.test (beqb (igt a6.Epoch 1099511627776) false) false, .test (beqb (igt a6.Epoch 1099511627776) false) false, .test (beqb (igt a6.Epoch 1099511627776) false) false, .test (igt a6.Epoch 1099511627776) true, .test (beqb true false) false, .test (beqb true false) false, .test (beqb true false) false, .test true true, .test (beqb true false) false, .test (beqb true false) false, .test (beqb true false) false, .test true true, .test (beqb true false) false, .test (beqb true false) false, .test (beqb true false) false, .test true true, .test true true] := ⟨(beqb_ft (igt_eq h8)), (beqb_ft (igt_eq h8)), (beqb_ft (igt_eq h8)), (igt_eq h8), (beqb_ft rfl), (beqb_ft rfl), (beqb_ft rfl), rfl, (beqb_ft rfl), (beqb_ft rfl), (beqb_ft rfl), rfl, (beqb_ft rfl), (beqb_ft rfl), (beqb_ft rfl), rfl, rfl, trivial⟩
    exact fn_playC hn48 (f := 48) (ads := [.agg (eGBarrier a6)]) (r := F48_res false) (pq38 pz) (by kernel_rfl) (by kernel_rfl)
  have pq39 : ∀ {l : List Cond}, HoldAll E H hn48 l → HoldAll E H hn48 (.test (beqb (igt a6.Epoch 1099511627776) false) true :: .test (beqb (igt a6.Epoch 1099511627776) false) true :: .test (beqb (igt a6.Epoch 1099511627776) false) true :: .test (igt a6.Epoch 1099511627776) false :: l) := fun z => ⟨(beqb_ff (igt_eq h8)), (beqb_ff (igt_eq h8)), (beqb_ff (igt_eq h8)), (igt_eq h8), z⟩
  refine cond_some hF (fun h9 hF => ?_) (fun h9 hF => ?_)
  ·
    have hr := Option.some.inj hF
    subst hr
    have pz : HoldAll E H hn48 [.test (beqb (ilt a6.Step 0) false) false, .test (beqb (ilt a6.Step 0) false) false, .test (beqb (ilt a6.Step 0) false) false, .test (ilt a6.Step 0) true, .test (beqb true false) false, .test (beqb true false) false, .test (beqb true false) false, .test true true, .test (beqb true false) false, .test (beqb true false) false, .test (beqb true false) false, .test true true, .test true true] := ⟨(beqb_ft h9), (beqb_ft h9), (beqb_ft h9), h9, (beqb_ft rfl), (beqb_ft rfl), (beqb_ft rfl), rfl, (beqb_ft rfl), (beqb_ft rfl), (beqb_ft rfl), rfl, rfl, trivial⟩
    exact fn_playC hn48 (f := 48) (ads := [.agg (eGBarrier a6)]) (r := F48_res false) (pq38 (pq39 pz)) (by kernel_rfl) (by kernel_rfl)
  have pq40 : ∀ {l : List Cond}, HoldAll E H hn48 l → HoldAll E H hn48 (.test (beqb (ilt a6.Step 0) false) true :: .test (beqb (ilt a6.Step 0) false) true :: .test (beqb (ilt a6.Step 0) false) true :: .test (ilt a6.Step 0) false :: l) := fun z => ⟨(beqb_ff h9), (beqb_ff h9), (beqb_ff h9), h9, z⟩
  refine cond_some hF (fun h10 hF => ?_) (fun h10 hF => ?_)
  ·
    have hr := Option.some.inj hF
    subst hr
    have pz : HoldAll E H hn48 [.test (beqb (ige a6.Step 40) false) false, .test (beqb (ige a6.Step 40) false) false, .test (beqb (ige a6.Step 40) false) false, .test (ige a6.Step 40) true, .test (beqb true false) false, .test (beqb true false) false, .test (beqb true false) false, .test true true, .test true true] := ⟨(beqb_ft (ige_eq h10)), (beqb_ft (ige_eq h10)), (beqb_ft (ige_eq h10)), (ige_eq h10), (beqb_ft rfl), (beqb_ft rfl), (beqb_ft rfl), rfl, rfl, trivial⟩
    exact fn_playC hn48 (f := 48) (ads := [.agg (eGBarrier a6)]) (r := F48_res false) (pq38 (pq39 (pq40 pz))) (by kernel_rfl) (by kernel_rfl)
  have pq41 : ∀ {l : List Cond}, HoldAll E H hn48 l → HoldAll E H hn48 (.test (beqb (ige a6.Step 40) false) true :: .test (beqb (ige a6.Step 40) false) true :: .test (beqb (ige a6.Step 40) false) true :: .test (ige a6.Step 40) false :: l) := fun z => ⟨(beqb_ff (ige_eq h10)), (beqb_ff (ige_eq h10)), (beqb_ff (ige_eq h10)), (ige_eq h10), z⟩
  refine cond_some hF (fun h11 hF => ?_) (fun h11 hF => ?_)
  ·
    have hr := Option.some.inj hF
    subst hr
    have pz : HoldAll E H hn48 [.test (beqb (ilt a6.Parts 1) false) false, .test (beqb (ilt a6.Parts 1) false) false, .test (beqb (ilt a6.Parts 1) false) false, .test (ilt a6.Parts 1) true, .test true true] := ⟨(beqb_ft h11), (beqb_ft h11), (beqb_ft h11), h11, rfl, trivial⟩
    exact fn_playC hn48 (f := 48) (ads := [.agg (eGBarrier a6)]) (r := F48_res false) (pq38 (pq39 (pq40 (pq41 pz)))) (by kernel_rfl) (by kernel_rfl)
  have pq42 : ∀ {l : List Cond}, HoldAll E H hn48 l → HoldAll E H hn48 (.test (beqb (ilt a6.Parts 1) false) true :: .test (beqb (ilt a6.Parts 1) false) true :: .test (beqb (ilt a6.Parts 1) false) true :: .test (ilt a6.Parts 1) false :: l) := fun z => ⟨(beqb_ff h11), (beqb_ff h11), (beqb_ff h11), h11, z⟩
  refine cond_some hF (fun h12 hF => ?_) (fun h12 hF => ?_)
  ·
    have hr := Option.some.inj hF
    subst hr
    have pz : HoldAll E H hn48 [.test (igt a6.Parts 6) true] := ⟨(igt_eq h12), trivial⟩
    exact fn_playC hn48 (f := 48) (ads := [.agg (eGBarrier a6)]) (r := F48_res false) (pq38 (pq39 (pq40 (pq41 (pq42 pz))))) (by kernel_rfl) (by kernel_rfl)
  refine bind_some hF (fun y35 h34 hF => ?_)
  refine sum_some hF (fun w36 hx hF => ?_) (fun w37 hx hF => ?_)
  ·
    subst hx
    have hr := Option.some.inj hF
    subst hr
    have pz : HoldAll E H hn48 [.test (igt a6.Parts 6) false, .int (nlen (len a6.Came)) (nlen (len a6.Came)), .loop 0 c48_0 (F48_l0_0_S a6 (-1) 0) .ret (F48_l0_0_X0 a6 w36)] := ⟨(igt_eq h12), rfl, (F48_l0_0_ok K a6 K (-1) 0 _ h34), trivial⟩
    exact fn_playC hn48 (f := 48) (ads := [.agg (eGBarrier a6)]) (r := F48_res false) (pq38 (pq39 (pq40 (pq41 (pq42 pz))))) (by kernel_rfl) (by kernel_rfl)
  subst hx
  have hr := Option.some.inj hF
  subst hr
  have pz : HoldAll E H hn48 [.test (igt a6.Parts 6) false, .int (nlen (len a6.Came)) (nlen (len a6.Came)), .loop 0 c48_0 (F48_l0_0_S a6 (-1) 0) (.exit 0) (F48_l0_0_X1 a6 w37)] := ⟨(igt_eq h12), rfl, (F48_l0_0_ok K a6 K (-1) 0 _ h34), trivial⟩
  exact fn_playC hn48 (f := 48) (ads := [.agg (eGBarrier a6)]) (r := F48_res true) (pq38 (pq39 (pq40 (pq41 (pq42 pz))))) (by kernel_rfl) (by kernel_rfl)

/-! ### haywain/barrier.Begin -/
noncomputable def hn41 : Hint := { H 41 with nt := 18, prot := 0 }
def F41_res (r47 : GBarrier × Int) : Res := ⟨[(.agg [(.im (.lit (.int .i64 r47.1.Epoch))), (.im (.lit (.int .i64 r47.1.Step))), (.im (.lit (.int .i64 r47.1.Parts))), (.own 42 (.sl (len r47.1.Came) (flat eGPart r47.1.Came))), (.im (.lit (.bool r47.1.Over)))]), (.one (.im (.lit (.int .i64 r47.2))))], []⟩
def F41 (K : Nat) (a3 : Int) (a4 : Int) (a5 : Int) : Option (GBarrier × Int) :=
  (F48 K (GBarrier.mk a3 a4 a5 [] false)).bind fun r44 =>
  bif r44 then
    (some ((GBarrier.mk a3 a4 a5 [] false), 0))
  else
  some ((GBarrier.mk 0 0 0 [] false), 1)
theorem F41_ok (K : Nat) (a3 : Int) (a4 : Int) (a5 : Int) (r : GBarrier × Int) (hF : F41 K a3 a4 a5 = some r) : Evt E H 41 [.one (.lit (.int .i64 a3)), .one (.lit (.int .i64 a4)), .one (.lit (.int .i64 a5))] (F41_res r) := by
  rw [F41] at hF
  refine bind_some hF (fun r44 h45 hF => ?_)
  refine cond_some hF (fun h46 hF => ?_) (fun h46 hF => ?_)
  ·
    have hr := Option.some.inj hF
    subst hr
    have pz : HoldAll E H hn41 [.call 48 [.agg (eGBarrier (GBarrier.mk a3 a4 a5 [] false))] (F48_res r44), .test (leadsAny (Res.mk [(.one (.im (.lit (.bool r44))))] [])) false, .test (bnot r44) false] := ⟨(F48_ok K (GBarrier.mk a3 a4 a5 [] false) _ h45), (leads_ok (by simp only [leadsAny, List.any_cons, List.any_nil, RV.leads, RC.leads, leadsT, hasSl_lit, Bool.or_false, flat_ns (eInt_ns _), flat_ns eBool_ns, flat_ns eStr_ns, flat_ns eGJob_ns, flat_ns eGEdge_ns, flat_ns eGAsked_ns, flat_ns eGMsg_ns, flat_ns eGrule_ns])), (bnot_t h46), trivial⟩
    exact fn_playC hn41 (f := 41) (ads := [.one (.lit (.int .i64 a3)), .one (.lit (.int .i64 a4)), .one (.lit (.int .i64 a5))]) (r := F41_res ((GBarrier.mk a3 a4 a5 [] false), 0)) pz (by kernel_rfl) (by kernel_rfl)
  have hr := Option.some.inj hF
  subst hr
  have pz : HoldAll E H hn41 [.call 48 [.agg (eGBarrier (GBarrier.mk a3 a4 a5 [] false))] (F48_res r44), .test (leadsAny (Res.mk [(.one (.im (.lit (.bool r44))))] [])) false, .test (bnot r44) true] := ⟨(F48_ok K (GBarrier.mk a3 a4 a5 [] false) _ h45), (leads_ok (by simp only [leadsAny, List.any_cons, List.any_nil, RV.leads, RC.leads, leadsT, hasSl_lit, Bool.or_false, flat_ns (eInt_ns _), flat_ns eBool_ns, flat_ns eStr_ns, flat_ns eGJob_ns, flat_ns eGEdge_ns, flat_ns eGAsked_ns, flat_ns eGMsg_ns, flat_ns eGrule_ns])), (bnot_f h46), trivial⟩
  exact fn_playC hn41 (f := 41) (ads := [.one (.lit (.int .i64 a3)), .one (.lit (.int .i64 a4)), .one (.lit (.int .i64 a5))]) (r := F41_res ((GBarrier.mk 0 0 0 [] false), 1)) pz (by kernel_rfl) (by kernel_rfl)

/-! ### haywain/haywainref19.Right -/
noncomputable def hn49 : Hint := { H 49 with nt := 84, prot := 0 }
noncomputable def c49_0 : Code := loopOf E 49 0
def F49_res (r116 : Bool) : Res := ⟨[(.one (.im (.lit (.bool r116))))], []⟩
def F49_l0_0 (K : Nat) (a53 : GBarrier) : Nat → Bool → Int → Option (Bool)
  | 0, _, _ => none
  | k + 1, v67, v68 =>
    bif v67 then
      (bif (ilt v68 (nlen (len a53.Came))) then
        (bif (inr v68 (len a53.Came)) then
        (elAt a53.Came v68).bind fun x72 =>
        bif (ile 0 x72.P) then
          (bif (ilt x72.P a53.Parts) then
            (bif (ieq x72.Step (wadd .i64 a53.Step 1)) then
              (bif (ieq v68 0) then
                (F49_l0_0 K a53 k true (wadd .i64 v68 1))
              else
              bif (inr (wsub .i64 v68 1) (len a53.Came)) then
              (elAt a53.Came (wsub .i64 v68 1)).bind fun x79 =>
              F49_l0_0 K a53 k (ilt x79.P x72.P) (wadd .i64 v68 1)
              else none)
            else
            F49_l0_0 K a53 k false (wadd .i64 v68 1))
          else
          F49_l0_0 K a53 k false (wadd .i64 v68 1))
        else
        F49_l0_0 K a53 k false (wadd .i64 v68 1)
        else none)
      else
      some v67)
    else
    some v67
def F49_l0_0_S (a53 : GBarrier) (v67 : Bool) (v68 : Int) : TS := .on [64, 65, 66, 67, 68, 69, 192, 193, 256, 257] [(64, ⟨(.box 28 5), 0, nob⟩), (65, ⟨.im, 0, (.lit (.int .i64 a53.Epoch))⟩), (66, ⟨.im, 0, (.lit (.int .i64 a53.Step))⟩), (67, ⟨.im, 0, (.lit (.int .i64 a53.Parts))⟩), (68, ⟨.im, 0, (.sl (len a53.Came) (flat eGPart a53.Came))⟩), (69, ⟨.im, 0, (.lit (.bool a53.Over))⟩), (192, ⟨.one, 0, nob⟩), (193, ⟨.im, 0, (.lit (.bool v67))⟩), (256, ⟨.one, 0, nob⟩), (257, ⟨.im, 0, (.lit (.int .i64 v68))⟩)]
def F49_l0_0_X0 (a53 : GBarrier) (w81 : Bool) : TS := .on [192, 193] [(192, ⟨.one, 0, nob⟩), (193, ⟨.im, 0, (.lit (.bool w81))⟩)]
theorem F49_l0_0_ok (K : Nat) (a53 : GBarrier) : ∀ (k : Nat) (v67 : Bool) (v68 : Int) (r : Bool), F49_l0_0 K a53 k v67 v68 = some r → LoopEv E H hn49 0 c49_0 (F49_l0_0_S a53 v67 v68) (.exit 0) (F49_l0_0_X0 a53 r) := by
  intro k
  induction k with
  | zero => intro v67 v68 r hF; cases hF
  | succ k ih =>
    intro v67 v68 r hF
    rw [F49_l0_0] at hF
    refine cond_some hF (fun h69 hF => ?_) (fun h69 hF => ?_)
    ·
      have pq83 : ∀ {l : List Cond}, HoldAll E H hn49 l → HoldAll E H hn49 (.test (beqb v67 true) true :: .test (beqb v67 true) true :: .test (beqb v67 true) true :: .test (beqb v67 true) true :: .int (nlen (len a53.Came)) (nlen (len a53.Came)) :: .test (beqb v67 true) true :: .test v67 true :: l) := fun z => ⟨(beqb_t h69), (beqb_t h69), (beqb_t h69), (beqb_t h69), rfl, (beqb_t h69), h69, z⟩
      refine cond_some hF (fun h70 hF => ?_) (fun h70 hF => ?_)
      ·
        refine cond_some hF (fun h71 hF => ?_) (fun _ hF => nomatch hF)
        refine bind_some hF (fun x72 h73 hF => ?_)
        have pq84 : ∀ {l : List Cond}, HoldAll E H hn49 l → HoldAll E H hn49 (.test (ilt v68 (nlen (len a53.Came))) true :: .test (inr v68 (len a53.Came)) true :: .sub (flat eGPart a53.Came) (nidx v68 5) 5 [(.lit (.int .i64 x72.P)), (.lit (.int .i64 x72.Step)), (.sl (len x72.Vals) (flat (eInt .i64) x72.Vals)), (.sl (len x72.Rest) (flat eBool x72.Rest)), (.sl (len x72.In) (flat eGMsg x72.In))] :: l) := fun z => ⟨h70, h71, ⟨rfl, sub_flat0 eGPart_len h73 5 (by decide)⟩, z⟩
        refine cond_some hF (fun h74 hF => ?_) (fun h74 hF => ?_)
        ·
          have pq85 : ∀ {l : List Cond}, HoldAll E H hn49 l → HoldAll E H hn49 (.test (beqb (ige x72.P 0) true) true :: .test (beqb (ige x72.P 0) true) true :: .test (beqb (ige x72.P 0) true) true :: .test (beqb (ige x72.P 0) true) true :: .test (beqb (ige x72.P 0) true) true :: .test (ige x72.P 0) true :: l) := fun z => ⟨(beqb_t (ige_eq h74)), (beqb_t (ige_eq h74)), (beqb_t (ige_eq h74)), (beqb_t (ige_eq h74)), (beqb_t (ige_eq h74)), (ige_eq h74), z⟩
          refine cond_some hF (fun h75 hF => ?_) (fun h75 hF => ?_)
          ·
            have pq86 : ∀ {l : List Cond}, HoldAll E H hn49 l → HoldAll E H hn49 (.test (beqb (ilt x72.P a53.Parts) true) true :: .test (beqb (ilt x72.P a53.Parts) true) true :: .test (beqb (ilt x72.P a53.Parts) true) true :: .test (beqb (ilt x72.P a53.Parts) true) true :: .test (beqb (ilt x72.P a53.Parts) true) true :: .int (wadd .i64 a53.Step 1) (wadd .i64 a53.Step 1) :: .test (beqb (ilt x72.P a53.Parts) true) true :: .test (ilt x72.P a53.Parts) true :: l) := fun z => ⟨(beqb_t h75), (beqb_t h75), (beqb_t h75), (beqb_t h75), (beqb_t h75), rfl, (beqb_t h75), h75, z⟩
            refine cond_some hF (fun h76 hF => ?_) (fun h76 hF => ?_)
            ·
              have pq87 : ∀ {l : List Cond}, HoldAll E H hn49 l → HoldAll E H hn49 (.test (beqb (ieq x72.Step (wadd .i64 a53.Step 1)) true) true :: .test (beqb (ieq x72.Step (wadd .i64 a53.Step 1)) true) true :: .test (beqb (ieq x72.Step (wadd .i64 a53.Step 1)) true) true :: l) := fun z => ⟨(beqb_t h76), (beqb_t h76), (beqb_t h76), z⟩
              refine cond_some hF (fun h77 hF => ?_) (fun h77 hF => ?_)
              ·
                have pz : HoldAll E H hn49 [.test (beqb (ieq v68 0) false) false, .test (beqb (ieq v68 0) false) false, .test (beqb (ieq v68 0) false) false, .test (beqb (ieq v68 0) false) false, .test (beqb (ieq v68 0) false) false, .test (beqb (ieq v68 0) false) false, .test (beqb (ieq v68 0) false) false, .test (beqb (ieq v68 0) false) false, .test (beqb (ieq v68 0) false) false, .test (beqb (ieq v68 0) false) false, .test (beqb (ieq x72.Step (wadd .i64 a53.Step 1)) true) true, .test (ieq v68 0) true, .test (ieq x72.Step (wadd .i64 a53.Step 1)) true, .int (wadd .i64 v68 1) (wadd .i64 v68 1)] := ⟨(beqb_ft h77), (beqb_ft h77), (beqb_ft h77), (beqb_ft h77), (beqb_ft h77), (beqb_ft h77), (beqb_ft h77), (beqb_ft h77), (beqb_ft h77), (beqb_ft h77), (beqb_t h76), h77, h76, rfl, trivial⟩
                have h0 := ih _ _ _ hF
                have hn := fun ex ts' => loop_nextC (h := hn49) (l := 0) (c := c49_0) (ts := F49_l0_0_S a53 v67 v68) (ts1 := (F49_l0_0_S a53 true (wadd .i64 v68 1))) (ex := ex) (ts' := ts') (pq83 (pq84 (pq85 (pq86 (pq87 pz))))) (by kernel_rfl)
                exact hn _ _ h0
              refine cond_some hF (fun h78 hF => ?_) (fun _ hF => nomatch hF)
              refine bind_some hF (fun x79 h80 hF => ?_)
              have pz : HoldAll E H hn49 [.test (beqb (ieq v68 0) false) true, .test (beqb (ieq v68 0) false) true, .test (beqb (ieq v68 0) false) true, .test (beqb (ieq v68 0) false) true, .int (wsub .i64 v68 1) (wsub .i64 v68 1), .test (beqb (ieq v68 0) false) true, .test (inr (wsub .i64 v68 1) (len a53.Came)) true, .test (beqb (ieq v68 0) false) true, .test (beqb (ieq v68 0) false) true, .sub (flat eGPart a53.Came) (nadd (nidx (wsub .i64 v68 1) 5) 0) 1 [(.lit (.int .i64 x79.P))], .test (beqb (ieq v68 0) false) true, .test (beqb (ieq v68 0) false) true, .test (beqb (ieq v68 0) false) true, .test (beqb (ieq x72.Step (wadd .i64 a53.Step 1)) true) true, .test (ieq v68 0) false, .test (ieq x72.Step (wadd .i64 a53.Step 1)) true, .int (wadd .i64 v68 1) (wadd .i64 v68 1)] := ⟨(beqb_ff h77), (beqb_ff h77), (beqb_ff h77), (beqb_ff h77), rfl, (beqb_ff h77), h78, (beqb_ff h77), (beqb_ff h77), ⟨rfl, sub_flat eGPart_len h80 0 1 (by decide)⟩, (beqb_ff h77), (beqb_ff h77), (beqb_ff h77), (beqb_t h76), h77, h76, rfl, trivial⟩
              have h0 := ih _ _ _ hF
              have hn := fun ex ts' => loop_nextC (h := hn49) (l := 0) (c := c49_0) (ts := F49_l0_0_S a53 v67 v68) (ts1 := (F49_l0_0_S a53 (ilt x79.P x72.P) (wadd .i64 v68 1))) (ex := ex) (ts' := ts') (pq83 (pq84 (pq85 (pq86 (pq87 pz))))) (by kernel_rfl)
              exact hn _ _ h0
            have pz : HoldAll E H hn49 [.test (beqb (ieq x72.Step (wadd .i64 a53.Step 1)) true) false, .test (beqb (ieq x72.Step (wadd .i64 a53.Step 1)) true) false, .test (beqb (ieq x72.Step (wadd .i64 a53.Step 1)) true) false, .test (beqb (ieq x72.Step (wadd .i64 a53.Step 1)) true) false, .test (ieq x72.Step (wadd .i64 a53.Step 1)) false, .int (wadd .i64 v68 1) (wadd .i64 v68 1)] := ⟨(beqb_t h76), (beqb_t h76), (beqb_t h76), (beqb_t h76), h76, rfl, trivial⟩
            have h0 := ih _ _ _ hF
            have hn := fun ex ts' => loop_nextC (h := hn49) (l := 0) (c := c49_0) (ts := F49_l0_0_S a53 v67 v68) (ts1 := (F49_l0_0_S a53 false (wadd .i64 v68 1))) (ex := ex) (ts' := ts') (pq83 (pq84 (pq85 (pq86 pz)))) (by kernel_rfl)
            exact hn _ _ h0
          have pz : HoldAll E H hn49 [.test (beqb (ilt x72.P a53.Parts) true) false, .test (beqb (ilt x72.P a53.Parts) true) false, .test (beqb (ilt x72.P a53.Parts) true) false, .test (beqb (ilt x72.P a53.Parts) true) false, .test (beqb (ilt x72.P a53.Parts) true) false, .test (beqb (ilt x72.P a53.Parts) true) false, .test (ilt x72.P a53.Parts) false, .test (beqb false true) false, .test (beqb false true) false, .test (beqb false true) false, .test (beqb false true) false, .test false false, .int (wadd .i64 v68 1) (wadd .i64 v68 1)] := ⟨(beqb_t h75), (beqb_t h75), (beqb_t h75), (beqb_t h75), (beqb_t h75), (beqb_t h75), h75, (beqb_t rfl), (beqb_t rfl), (beqb_t rfl), (beqb_t rfl), rfl, rfl, trivial⟩
          have h0 := ih _ _ _ hF
          have hn := fun ex ts' => loop_nextC (h := hn49) (l := 0) (c := c49_0) (ts := F49_l0_0_S a53 v67 v68) (ts1 := (F49_l0_0_S a53 false (wadd .i64 v68 1))) (ex := ex) (ts' := ts') (pq83 (pq84 (pq85 pz))) (by kernel_rfl)
          exact hn _ _ h0
        have pz : HoldAll E H hn49 [.test (beqb (ige x72.P 0) true) false, .test (beqb (ige x72.P 0) true) false, .test (beqb (ige x72.P 0) true) false, .test (beqb (ige x72.P 0) true) false, .test (beqb (ige x72.P 0) true) false, .test (ige x72.P 0) false, .test (beqb false true) false, .test (beqb false true) false, .test (beqb false true) false, .test (beqb false true) false, .test (beqb false true) false, .test (beqb false true) false, .test false false, .test (beqb false true) false, .test (beqb false true) false, .test (beqb false true) false, .test (beqb false true) false, .test false false, .int (wadd .i64 v68 1) (wadd .i64 v68 1)] := ⟨(beqb_t (ige_eq h74)), (beqb_t (ige_eq h74)), (beqb_t (ige_eq h74)), (beqb_t (ige_eq h74)), (beqb_t (ige_eq h74)), (ige_eq h74), (beqb_t rfl), (beqb_t rfl), (beqb_t rfl), (beqb_t rfl), (beqb_t rfl), (beqb_t rfl), rfl, (beqb_t rfl), (beqb_t rfl), (beqb_t rfl), (beqb_t rfl), rfl, rfl, trivial⟩
        have h0 := ih _ _ _ hF
        have hn := fun ex ts' => loop_nextC (h := hn49) (l := 0) (c := c49_0) (ts := F49_l0_0_S a53 v67 v68) (ts1 := (F49_l0_0_S a53 false (wadd .i64 v68 1))) (ex := ex) (ts' := ts') (pq83 (pq84 pz)) (by kernel_rfl)
        exact hn _ _ h0
      have hr := Option.some.inj hF
      subst hr
      have pz : HoldAll E H hn49 [.test (ilt v68 (nlen (len a53.Came))) false] := ⟨h70, trivial⟩
      exact loop_endC (h := hn49) (l := 0) (c := c49_0) (ts := F49_l0_0_S a53 v67 v68) (ts' := F49_l0_0_X0 a53 v67) (ex := (.exit 0)) (pq83 pz) (by kernel_rfl) trivial
    have hr := Option.some.inj hF
    subst hr
    have pz : HoldAll E H hn49 [.test (beqb v67 true) false, .test (beqb v67 true) false, .test (beqb v67 true) false, .test (beqb v67 true) false, .test (beqb v67 true) false, .test v67 false, .test false false] := ⟨(beqb_t h69), (beqb_t h69), (beqb_t h69), (beqb_t h69), (beqb_t h69), h69, rfl, trivial⟩
    exact loop_endC (h := hn49) (l := 0) (c := c49_0) (ts := F49_l0_0_S a53 v67 v68) (ts' := F49_l0_0_X0 a53 v67) (ex := (.exit 0)) pz (by kernel_rfl) trivial

def F49_l0_1 (K : Nat) (a53 : GBarrier) : Nat → Option (Unit)
  | 0 => none
  | k + 1 =>
    some ()
def F49_l0_1_S (a53 : GBarrier)  : TS := .on [64, 65, 66, 67, 68, 69, 192, 193, 256, 257] [(64, ⟨(.box 28 5), 0, nob⟩), (65, ⟨.im, 0, (.lit (.int .i64 a53.Epoch))⟩), (66, ⟨.im, 0, (.lit (.int .i64 a53.Step))⟩), (67, ⟨.im, 0, (.lit (.int .i64 a53.Parts))⟩), (68, ⟨.im, 0, (.sl (len a53.Came) (flat eGPart a53.Came))⟩), (69, ⟨.im, 0, (.lit (.bool a53.Over))⟩), (192, ⟨.one, 0, nob⟩), (193, ⟨.im, 0, (.lit (.bool false))⟩), (256, ⟨.one, 0, nob⟩), (257, ⟨.im, 0, (.lit (.int .i64 0))⟩)]
def F49_l0_1_X0 (a53 : GBarrier) (w92 : Unit) : TS := .on [192, 193] [(192, ⟨.one, 0, nob⟩), (193, ⟨.im, 0, (.lit (.bool false))⟩)]
theorem F49_l0_1_ok (K : Nat) (a53 : GBarrier) : ∀ (k : Nat)  (r : Unit), F49_l0_1 K a53 k  = some r → LoopEv E H hn49 0 c49_0 (F49_l0_1_S a53 ) (.exit 0) (F49_l0_1_X0 a53 r) := by
  intro k
  induction k with
  | zero => intro  r hF; cases hF
  | succ k ih =>
    intro  r hF
    dsimp only [F49_l0_1] at hF
    have hr := Option.some.inj hF
    subst hr
    have pz : HoldAll E H hn49 [.test (beqb false true) false, .test (beqb false true) false, .test (beqb false true) false, .test (beqb false true) false, .test (beqb false true) false, .test false false, .test false false] := ⟨(beqb_t rfl), (beqb_t rfl), (beqb_t rfl), (beqb_t rfl), (beqb_t rfl), rfl, rfl, trivial⟩
    exact loop_endC (h := hn49) (l := 0) (c := c49_0) (ts := F49_l0_1_S a53 ) (ts' := F49_l0_1_X0 a53 ()) (ex := (.exit 0)) pz (by kernel_rfl) trivial

def F49_l0_2 (K : Nat) (a53 : GBarrier) : Nat → Option (Unit)
  | 0 => none
  | k + 1 =>
    some ()
def F49_l0_2_S (a53 : GBarrier)  : TS := .on [64, 65, 66, 67, 68, 69, 192, 193, 256, 257] [(64, ⟨(.box 28 5), 0, nob⟩), (65, ⟨.im, 0, (.lit (.int .i64 a53.Epoch))⟩), (66, ⟨.im, 0, (.lit (.int .i64 a53.Step))⟩), (67, ⟨.im, 0, (.lit (.int .i64 a53.Parts))⟩), (68, ⟨.im, 0, (.sl (len a53.Came) (flat eGPart a53.Came))⟩), (69, ⟨.im, 0, (.lit (.bool a53.Over))⟩), (192, ⟨.one, 0, nob⟩), (193, ⟨.im, 0, (.lit (.bool false))⟩), (256, ⟨.one, 0, nob⟩), (257, ⟨.im, 0, (.lit (.int .i64 0))⟩)]
def F49_l0_2_X0 (a53 : GBarrier) (w96 : Unit) : TS := .on [192, 193] [(192, ⟨.one, 0, nob⟩), (193, ⟨.im, 0, (.lit (.bool false))⟩)]
theorem F49_l0_2_ok (K : Nat) (a53 : GBarrier) : ∀ (k : Nat)  (r : Unit), F49_l0_2 K a53 k  = some r → LoopEv E H hn49 0 c49_0 (F49_l0_2_S a53 ) (.exit 0) (F49_l0_2_X0 a53 r) := by
  intro k
  induction k with
  | zero => intro  r hF; cases hF
  | succ k ih =>
    intro  r hF
    dsimp only [F49_l0_2] at hF
    have hr := Option.some.inj hF
    subst hr
    have pz : HoldAll E H hn49 [.test (beqb false true) false, .test (beqb false true) false, .test (beqb false true) false, .test (beqb false true) false, .test (beqb false true) false, .test false false, .test false false] := ⟨(beqb_t rfl), (beqb_t rfl), (beqb_t rfl), (beqb_t rfl), (beqb_t rfl), rfl, rfl, trivial⟩
    exact loop_endC (h := hn49) (l := 0) (c := c49_0) (ts := F49_l0_2_S a53 ) (ts' := F49_l0_2_X0 a53 ()) (ex := (.exit 0)) pz (by kernel_rfl) trivial

def F49_l0_3 (K : Nat) (a53 : GBarrier) : Nat → Option (Unit)
  | 0 => none
  | k + 1 =>
    some ()
def F49_l0_3_S (a53 : GBarrier)  : TS := .on [64, 65, 66, 67, 68, 69, 192, 193, 256, 257] [(64, ⟨(.box 28 5), 0, nob⟩), (65, ⟨.im, 0, (.lit (.int .i64 a53.Epoch))⟩), (66, ⟨.im, 0, (.lit (.int .i64 a53.Step))⟩), (67, ⟨.im, 0, (.lit (.int .i64 a53.Parts))⟩), (68, ⟨.im, 0, (.sl (len a53.Came) (flat eGPart a53.Came))⟩), (69, ⟨.im, 0, (.lit (.bool a53.Over))⟩), (192, ⟨.one, 0, nob⟩), (193, ⟨.im, 0, (.lit (.bool false))⟩), (256, ⟨.one, 0, nob⟩), (257, ⟨.im, 0, (.lit (.int .i64 0))⟩)]
def F49_l0_3_X0 (a53 : GBarrier) (w100 : Unit) : TS := .on [192, 193] [(192, ⟨.one, 0, nob⟩), (193, ⟨.im, 0, (.lit (.bool false))⟩)]
theorem F49_l0_3_ok (K : Nat) (a53 : GBarrier) : ∀ (k : Nat)  (r : Unit), F49_l0_3 K a53 k  = some r → LoopEv E H hn49 0 c49_0 (F49_l0_3_S a53 ) (.exit 0) (F49_l0_3_X0 a53 r) := by
  intro k
  induction k with
  | zero => intro  r hF; cases hF
  | succ k ih =>
    intro  r hF
    dsimp only [F49_l0_3] at hF
    have hr := Option.some.inj hF
    subst hr
    have pz : HoldAll E H hn49 [.test (beqb false true) false, .test (beqb false true) false, .test (beqb false true) false, .test (beqb false true) false, .test (beqb false true) false, .test false false, .test false false] := ⟨(beqb_t rfl), (beqb_t rfl), (beqb_t rfl), (beqb_t rfl), (beqb_t rfl), rfl, rfl, trivial⟩
    exact loop_endC (h := hn49) (l := 0) (c := c49_0) (ts := F49_l0_3_S a53 ) (ts' := F49_l0_3_X0 a53 ()) (ex := (.exit 0)) pz (by kernel_rfl) trivial

def F49_l0_4 (K : Nat) (a53 : GBarrier) : Nat → Option (Unit)
  | 0 => none
  | k + 1 =>
    some ()
def F49_l0_4_S (a53 : GBarrier)  : TS := .on [64, 65, 66, 67, 68, 69, 192, 193, 256, 257] [(64, ⟨(.box 28 5), 0, nob⟩), (65, ⟨.im, 0, (.lit (.int .i64 a53.Epoch))⟩), (66, ⟨.im, 0, (.lit (.int .i64 a53.Step))⟩), (67, ⟨.im, 0, (.lit (.int .i64 a53.Parts))⟩), (68, ⟨.im, 0, (.sl (len a53.Came) (flat eGPart a53.Came))⟩), (69, ⟨.im, 0, (.lit (.bool a53.Over))⟩), (192, ⟨.one, 0, nob⟩), (193, ⟨.im, 0, (.lit (.bool false))⟩), (256, ⟨.one, 0, nob⟩), (257, ⟨.im, 0, (.lit (.int .i64 0))⟩)]
def F49_l0_4_X0 (a53 : GBarrier) (w104 : Unit) : TS := .on [192, 193] [(192, ⟨.one, 0, nob⟩), (193, ⟨.im, 0, (.lit (.bool false))⟩)]
theorem F49_l0_4_ok (K : Nat) (a53 : GBarrier) : ∀ (k : Nat)  (r : Unit), F49_l0_4 K a53 k  = some r → LoopEv E H hn49 0 c49_0 (F49_l0_4_S a53 ) (.exit 0) (F49_l0_4_X0 a53 r) := by
  intro k
  induction k with
  | zero => intro  r hF; cases hF
  | succ k ih =>
    intro  r hF
    dsimp only [F49_l0_4] at hF
    have hr := Option.some.inj hF
    subst hr
    have pz : HoldAll E H hn49 [.test (beqb false true) false, .test (beqb false true) false, .test (beqb false true) false, .test (beqb false true) false, .test (beqb false true) false, .test false false, .test false false] := ⟨(beqb_t rfl), (beqb_t rfl), (beqb_t rfl), (beqb_t rfl), (beqb_t rfl), rfl, rfl, trivial⟩
    exact loop_endC (h := hn49) (l := 0) (c := c49_0) (ts := F49_l0_4_S a53 ) (ts' := F49_l0_4_X0 a53 ()) (ex := (.exit 0)) pz (by kernel_rfl) trivial

def F49_l0_5 (K : Nat) (a53 : GBarrier) : Nat → Option (Unit)
  | 0 => none
  | k + 1 =>
    some ()
def F49_l0_5_S (a53 : GBarrier)  : TS := .on [64, 65, 66, 67, 68, 69, 192, 193, 256, 257] [(64, ⟨(.box 28 5), 0, nob⟩), (65, ⟨.im, 0, (.lit (.int .i64 a53.Epoch))⟩), (66, ⟨.im, 0, (.lit (.int .i64 a53.Step))⟩), (67, ⟨.im, 0, (.lit (.int .i64 a53.Parts))⟩), (68, ⟨.im, 0, (.sl (len a53.Came) (flat eGPart a53.Came))⟩), (69, ⟨.im, 0, (.lit (.bool a53.Over))⟩), (192, ⟨.one, 0, nob⟩), (193, ⟨.im, 0, (.lit (.bool false))⟩), (256, ⟨.one, 0, nob⟩), (257, ⟨.im, 0, (.lit (.int .i64 0))⟩)]
def F49_l0_5_X0 (a53 : GBarrier) (w108 : Unit) : TS := .on [192, 193] [(192, ⟨.one, 0, nob⟩), (193, ⟨.im, 0, (.lit (.bool false))⟩)]
theorem F49_l0_5_ok (K : Nat) (a53 : GBarrier) : ∀ (k : Nat)  (r : Unit), F49_l0_5 K a53 k  = some r → LoopEv E H hn49 0 c49_0 (F49_l0_5_S a53 ) (.exit 0) (F49_l0_5_X0 a53 r) := by
  intro k
  induction k with
  | zero => intro  r hF; cases hF
  | succ k ih =>
    intro  r hF
    dsimp only [F49_l0_5] at hF
    have hr := Option.some.inj hF
    subst hr
    have pz : HoldAll E H hn49 [.test (beqb false true) false, .test (beqb false true) false, .test (beqb false true) false, .test (beqb false true) false, .test (beqb false true) false, .test false false, .test false false] := ⟨(beqb_t rfl), (beqb_t rfl), (beqb_t rfl), (beqb_t rfl), (beqb_t rfl), rfl, rfl, trivial⟩
    exact loop_endC (h := hn49) (l := 0) (c := c49_0) (ts := F49_l0_5_S a53 ) (ts' := F49_l0_5_X0 a53 ()) (ex := (.exit 0)) pz (by kernel_rfl) trivial

def F49 (K : Nat) (a53 : GBarrier) : Option (Bool) :=
  bif (ile 1 a53.Epoch) then
    (bif (ile a53.Epoch 1099511627776) then
      (bif (ile 0 a53.Step) then
        (bif (ile a53.Step 39) then
          (bif (ile 1 a53.Parts) then
            ((F49_l0_0 K a53 K (ile a53.Parts 6) 0).bind fun w90 =>
            some w90)
          else
          (F49_l0_1 K a53 K ).bind fun w95 =>
          some false)
        else
        (F49_l0_2 K a53 K ).bind fun w99 =>
        some false)
      else
      (F49_l0_3 K a53 K ).bind fun w103 =>
      some false)
    else
    (F49_l0_4 K a53 K ).bind fun w107 =>
    some false)
  else
  (F49_l0_5 K a53 K ).bind fun w111 =>
  some false
theorem F49_ok (K : Nat) (a53 : GBarrier) (r : Bool) (hF : F49 K a53 = some r) : Evt E H 49 [.agg (eGBarrier a53)] (F49_res r) := by
  rw [F49] at hF
  refine cond_some hF (fun h54 hF => ?_) (fun h54 hF => ?_)
  ·
    have pq112 : ∀ {l : List Cond}, HoldAll E H hn49 l → HoldAll E H hn49 (.test (beqb (ige a53.Epoch 1) true) true :: .test (beqb (ige a53.Epoch 1) true) true :: .test (beqb (ige a53.Epoch 1) true) true :: .test (ige a53.Epoch 1) true :: l) := fun z => ⟨(beqb_t (ige_eq h54)), (beqb_t (ige_eq h54)), (beqb_t (ige_eq h54)), (ige_eq h54), z⟩
    refine cond_some hF (fun h55 hF => ?_) (fun h55 hF => ?_)
    ·
      have pq113 : ∀ {l : List Cond}, HoldAll E H hn49 l → HoldAll E H hn49 (.test (beqb (ile a53.Epoch 1099511627776) true) true :: .test (beqb (ile a53.Epoch 1099511627776) true) true :: .test (beqb (ile a53.Epoch 1099511627776) true) true :: .test (ile a53.Epoch 1099511627776) true :: l) := fun z => ⟨(beqb_t h55), (beqb_t h55), (beqb_t h55), h55, z⟩
      refine cond_some hF (fun h56 hF => ?_) (fun h56 hF => ?_)
      ·
        have pq114 : ∀ {l : List Cond}, HoldAll E H hn49 l → HoldAll E H hn49 (.test (beqb (ige a53.Step 0) true) true :: .test (beqb (ige a53.Step 0) true) true :: .test (beqb (ige a53.Step 0) true) true :: .test (ige a53.Step 0) true :: l) := fun z => ⟨(beqb_t (ige_eq h56)), (beqb_t (ige_eq h56)), (beqb_t (ige_eq h56)), (ige_eq h56), z⟩
        refine cond_some hF (fun h57 hF => ?_) (fun h57 hF => ?_)
        ·
          have pq115 : ∀ {l : List Cond}, HoldAll E H hn49 l → HoldAll E H hn49 (.test (beqb (ile a53.Step 39) true) true :: .test (beqb (ile a53.Step 39) true) true :: .test (beqb (ile a53.Step 39) true) true :: .test (ile a53.Step 39) true :: l) := fun z => ⟨(beqb_t h57), (beqb_t h57), (beqb_t h57), h57, z⟩
          refine cond_some hF (fun h58 hF => ?_) (fun h58 hF => ?_)
          ·
            refine bind_some hF (fun w90 h88 hF => ?_)
            have hr := Option.some.inj hF
            subst hr
            have pz : HoldAll E H hn49 [.test (beqb (ige a53.Parts 1) true) true, .test (beqb (ige a53.Parts 1) true) true, .test (beqb (ige a53.Parts 1) true) true, .test (ige a53.Parts 1) true, .loop 0 c49_0 (F49_l0_0_S a53 (ile a53.Parts 6) 0) (.exit 0) (F49_l0_0_X0 a53 w90)] := ⟨(beqb_t (ige_eq h58)), (beqb_t (ige_eq h58)), (beqb_t (ige_eq h58)), (ige_eq h58), (F49_l0_0_ok K a53 K (ile a53.Parts 6) 0 _ h88), trivial⟩
            exact fn_playC hn49 (f := 49) (ads := [.agg (eGBarrier a53)]) (r := F49_res w90) (pq112 (pq113 (pq114 (pq115 pz)))) (by kernel_rfl) (by kernel_rfl)
          refine bind_some hF (fun w95 h93 hF => ?_)
          have hr := Option.some.inj hF
          subst hr
          have pz : HoldAll E H hn49 [.test (beqb (ige a53.Parts 1) true) false, .test (beqb (ige a53.Parts 1) true) false, .test (beqb (ige a53.Parts 1) true) false, .test (ige a53.Parts 1) false, .loop 0 c49_0 (F49_l0_1_S a53 ) (.exit 0) (F49_l0_1_X0 a53 w95)] := ⟨(beqb_t (ige_eq h58)), (beqb_t (ige_eq h58)), (beqb_t (ige_eq h58)), (ige_eq h58), (F49_l0_1_ok K a53 K  _ h93), trivial⟩
          exact fn_playC hn49 (f := 49) (ads := [.agg (eGBarrier a53)]) (r := F49_res false) (pq112 (pq113 (pq114 (pq115 pz)))) (by kernel_rfl) (by kernel_rfl)
        refine bind_some hF (fun w99 h97 hF => ?_)
        have hr := Option.some.inj hF
        subst hr
        have pz : HoldAll E H hn49 [.test (beqb (ile a53.Step 39) true) false, .test (beqb (ile a53.Step 39) true) false, .test (beqb (ile a53.Step 39) true) false, .test (ile a53.Step 39) false, .test (beqb false true) false, .test (beqb false true) false, .test (beqb false true) false, .test false false, .loop 0 c49_0 (F49_l0_2_S a53 ) (.exit 0) (F49_l0_2_X0 a53 w99)] := ⟨(beqb_t h57), (beqb_t h57), (beqb_t h57), h57, (beqb_t rfl), (beqb_t rfl), (beqb_t rfl), rfl, (F49_l0_2_ok K a53 K  _ h97), trivial⟩
        exact fn_playC hn49 (f := 49) (ads := [.agg (eGBarrier a53)]) (r := F49_res false) (pq112 (pq113 (pq114 pz))) (by kernel_rfl) (by kernel_rfl)
      refine bind_some hF (fun w103 h101 hF => ?_)
      have hr := Option.some.inj hF
      subst hr
      have pz : HoldAll E H hn49 [.test (beqb (ige a53.Step 0) true) false, .test (beqb (ige a53.Step 0) true) false, .test (beqb (ige a53.Step 0) true) false, .test (ige a53.Step 0) false, .test (beqb false true) false, .test (beqb false true) false, .test (beqb false true) false, .test false false, .test (beqb false true) false, .test (beqb false true) false, .test (beqb false true) false, .test false false, .loop 0 c49_0 (F49_l0_3_S a53 ) (.exit 0) (F49_l0_3_X0 a53 w103)] := ⟨(beqb_t (ige_eq h56)), (beqb_t (ige_eq h56)), (beqb_t (ige_eq h56)), (ige_eq h56), (beqb_t rfl), (beqb_t rfl), (beqb_t rfl), rfl, (beqb_t rfl), (beqb_t rfl), (beqb_t rfl), rfl, (F49_l0_3_ok K a53 K  _ h101), trivial⟩
      exact fn_playC hn49 (f := 49) (ads := [.agg (eGBarrier a53)]) (r := F49_res false) (pq112 (pq113 pz)) (by kernel_rfl) (by kernel_rfl)
    refine bind_some hF (fun w107 h105 hF => ?_)
    have hr := Option.some.inj hF
    subst hr
    have pz : HoldAll E H hn49 [.test (beqb (ile a53.Epoch 1099511627776) true) false, .test (beqb (ile a53.Epoch 1099511627776) true) false, .test (beqb (ile a53.Epoch 1099511627776) true) false, .test (ile a53.Epoch 1099511627776) false, .test (beqb false true) false, .test (beqb false true) false, .test (beqb false true) false, .test false false, .test (beqb false true) false, .test (beqb false true) false, .test (beqb false true) false, .test false false, .test (beqb false true) false, .test (beqb false true) false, .test (beqb false true) false, .test false false, .loop 0 c49_0 (F49_l0_4_S a53 ) (.exit 0) (F49_l0_4_X0 a53 w107)] := ⟨(beqb_t h55), (beqb_t h55), (beqb_t h55), h55, (beqb_t rfl), (beqb_t rfl), (beqb_t rfl), rfl, (beqb_t rfl), (beqb_t rfl), (beqb_t rfl), rfl, (beqb_t rfl), (beqb_t rfl), (beqb_t rfl), rfl, (F49_l0_4_ok K a53 K  _ h105), trivial⟩
    exact fn_playC hn49 (f := 49) (ads := [.agg (eGBarrier a53)]) (r := F49_res false) (pq112 pz) (by kernel_rfl) (by kernel_rfl)
  refine bind_some hF (fun w111 h109 hF => ?_)
  have hr := Option.some.inj hF
  subst hr
  have pz : HoldAll E H hn49 [.test (beqb (ige a53.Epoch 1) true) false, .test (beqb (ige a53.Epoch 1) true) false, .test (beqb (ige a53.Epoch 1) true) false, .test (ige a53.Epoch 1) false, .test (beqb false true) false, .test (beqb false true) false, .test (beqb false true) false, .test false false, .test (beqb false true) false, .test (beqb false true) false, .test (beqb false true) false, .test false false, .test (beqb false true) false, .test (beqb false true) false, .test (beqb false true) false, .test false false, .test (beqb false true) false, .test (beqb false true) false, .test (beqb false true) false, .test false false, .loop 0 c49_0 (F49_l0_5_S a53 ) (.exit 0) (F49_l0_5_X0 a53 w111)] := ⟨(beqb_t (ige_eq h54)), (beqb_t (ige_eq h54)), (beqb_t (ige_eq h54)), (ige_eq h54), (beqb_t rfl), (beqb_t rfl), (beqb_t rfl), rfl, (beqb_t rfl), (beqb_t rfl), (beqb_t rfl), rfl, (beqb_t rfl), (beqb_t rfl), (beqb_t rfl), rfl, (beqb_t rfl), (beqb_t rfl), (beqb_t rfl), rfl, (F49_l0_5_ok K a53 K  _ h109), trivial⟩
  exact fn_playC hn49 (f := 49) (ads := [.agg (eGBarrier a53)]) (r := F49_res false) pz (by kernel_rfl) (by kernel_rfl)

/-! ### haywain/haywainref19.Begin -/
noncomputable def hn42 : Hint := { H 42 with nt := 18, prot := 0 }
def F42_res (r120 : GBarrier × Int) : Res := ⟨[(.agg [(.im (.lit (.int .i64 r120.1.Epoch))), (.im (.lit (.int .i64 r120.1.Step))), (.im (.lit (.int .i64 r120.1.Parts))), (.own 42 (.sl (len r120.1.Came) (flat eGPart r120.1.Came))), (.im (.lit (.bool r120.1.Over)))]), (.one (.im (.lit (.int .i64 r120.2))))], []⟩
def F42 (K : Nat) (a50 : Int) (a51 : Int) (a52 : Int) : Option (GBarrier × Int) :=
  (F49 K (GBarrier.mk a50 a51 a52 [] false)).bind fun r117 =>
  bif r117 then
    (some ((GBarrier.mk a50 a51 a52 [] false), 0))
  else
  some ((GBarrier.mk 0 0 0 [] false), 1)
theorem F42_ok (K : Nat) (a50 : Int) (a51 : Int) (a52 : Int) (r : GBarrier × Int) (hF : F42 K a50 a51 a52 = some r) : Evt E H 42 [.one (.lit (.int .i64 a50)), .one (.lit (.int .i64 a51)), .one (.lit (.int .i64 a52))] (F42_res r) := by
  rw [F42] at hF
  refine bind_some hF (fun r117 h118 hF => ?_)
  refine cond_some hF (fun h119 hF => ?_) (fun h119 hF => ?_)
  ·
    have hr := Option.some.inj hF
    subst hr
    have pz : HoldAll E H hn42 [.call 49 [.agg (eGBarrier (GBarrier.mk a50 a51 a52 [] false))] (F49_res r117), .test (leadsAny (Res.mk [(.one (.im (.lit (.bool r117))))] [])) false, .test (bnot r117) false] := ⟨(F49_ok K (GBarrier.mk a50 a51 a52 [] false) _ h118), (leads_ok (by simp only [leadsAny, List.any_cons, List.any_nil, RV.leads, RC.leads, leadsT, hasSl_lit, Bool.or_false, flat_ns (eInt_ns _), flat_ns eBool_ns, flat_ns eStr_ns, flat_ns eGJob_ns, flat_ns eGEdge_ns, flat_ns eGAsked_ns, flat_ns eGMsg_ns, flat_ns eGrule_ns])), (bnot_t h119), trivial⟩
    exact fn_playC hn42 (f := 42) (ads := [.one (.lit (.int .i64 a50)), .one (.lit (.int .i64 a51)), .one (.lit (.int .i64 a52))]) (r := F42_res ((GBarrier.mk a50 a51 a52 [] false), 0)) pz (by kernel_rfl) (by kernel_rfl)
  have hr := Option.some.inj hF
  subst hr
  have pz : HoldAll E H hn42 [.call 49 [.agg (eGBarrier (GBarrier.mk a50 a51 a52 [] false))] (F49_res r117), .test (leadsAny (Res.mk [(.one (.im (.lit (.bool r117))))] [])) false, .test (bnot r117) true] := ⟨(F49_ok K (GBarrier.mk a50 a51 a52 [] false) _ h118), (leads_ok (by simp only [leadsAny, List.any_cons, List.any_nil, RV.leads, RC.leads, leadsT, hasSl_lit, Bool.or_false, flat_ns (eInt_ns _), flat_ns eBool_ns, flat_ns eStr_ns, flat_ns eGJob_ns, flat_ns eGEdge_ns, flat_ns eGAsked_ns, flat_ns eGMsg_ns, flat_ns eGrule_ns])), (bnot_f h119), trivial⟩
  exact fn_playC hn42 (f := 42) (ads := [.one (.lit (.int .i64 a50)), .one (.lit (.int .i64 a51)), .one (.lit (.int .i64 a52))]) (r := F42_res ((GBarrier.mk 0 0 0 [] false), 1)) pz (by kernel_rfl) (by kernel_rfl)

/-! ### haywain/haywainlaw19.as -/
noncomputable def hn44 : Hint := { H 44 with nt := 14, prot := 0 }
def F44_res (r125 : GBarrier) : Res := ⟨[(.agg [(.im (.lit (.int .i64 r125.Epoch))), (.im (.lit (.int .i64 r125.Step))), (.im (.lit (.int .i64 r125.Parts))), (.im (.sl (len r125.Came) (flat eGPart r125.Came))), (.im (.lit (.bool r125.Over)))])], []⟩
def F44 (K : Nat) (a124 : GBarrier) : Option (GBarrier) :=
  some a124
theorem F44_ok (K : Nat) (a124 : GBarrier) (r : GBarrier) (hF : F44 K a124 = some r) : Evt E H 44 [.agg (eGBarrier a124)] (F44_res r) := by
  rw [F44] at hF
  have hr := Option.some.inj hF
  subst hr
  have pz : HoldAll E H hn44 [] := trivial
  exact fn_playC hn44 (f := 44) (ads := [.agg (eGBarrier a124)]) (r := F44_res a124) pz (by kernel_rfl) (by kernel_rfl)

/-! ### haywain/haywainref06.SameVals -/
noncomputable def hn140 : Hint := { H 140 with nt := 26, prot := 0 }
noncomputable def c140_0 : Code := loopOf E 140 0
def F140_res (r176 : Bool) : Res := ⟨[(.one (.im (.lit (.bool r176))))], []⟩
def F140_l0_0 (K : Nat) (a148 : List Int) (a149 : List Int) : Nat → Int → Option ((Unit) ⊕ (Unit))
  | 0, _ => none
  | k + 1, v159 =>
    bif (ilt v159 (nlen (len a148))) then
      (bif (inr v159 (len a148)) then
      (elAt a148 v159).bind fun x162 =>
      bif (inr v159 (len a149)) then
      (elAt a149 v159).bind fun x165 =>
      bif (ieq x162 x165) then
        (F140_l0_0 K a148 a149 k (wadd .i64 v159 1))
      else
      some (.inl ())
      else none
      else none)
    else
    some (.inr ())
def F140_l0_0_S (a148 : List Int) (a149 : List Int) (v159 : Int) : TS := .on [0, 1, 64, 65, 320, 321] [(0, ⟨.one, 0, nob⟩), (1, ⟨.im, 0, (.sl (len a148) (flat (eInt .i64) a148))⟩), (64, ⟨.one, 0, nob⟩), (65, ⟨.im, 0, (.sl (len a149) (flat (eInt .i64) a149))⟩), (320, ⟨.one, 0, nob⟩), (321, ⟨.im, 0, (.lit (.int .i64 v159))⟩)]
def F140_l0_0_X0 (a148 : List Int) (a149 : List Int) (w168 : Unit) : TS := .on [256, 257] [(256, ⟨.one, 0, nob⟩), (257, ⟨.im, 0, (.lit (.bool false))⟩)]
def F140_l0_0_X1 (a148 : List Int) (a149 : List Int) (w169 : Unit) : TS := .on [] []
theorem F140_l0_0_ok (K : Nat) (a148 : List Int) (a149 : List Int) : ∀ (k : Nat) (v159 : Int) (r : (Unit) ⊕ (Unit)), F140_l0_0 K a148 a149 k v159 = some r → (Sum.elim (fun w => LoopEv E H hn140 0 c140_0 (F140_l0_0_S a148 a149 v159) .ret (F140_l0_0_X0 a148 a149 w)) (fun w => LoopEv E H hn140 0 c140_0 (F140_l0_0_S a148 a149 v159) (.exit 0) (F140_l0_0_X1 a148 a149 w))) r := by
  intro k
  induction k with
  | zero => intro v159 r hF; cases hF
  | succ k ih =>
    intro v159 r hF
    rw [F140_l0_0] at hF
    refine cond_some hF (fun h160 hF => ?_) (fun h160 hF => ?_)
    ·
      refine cond_some hF (fun h161 hF => ?_) (fun _ hF => nomatch hF)
      refine bind_some hF (fun x162 h163 hF => ?_)
      refine cond_some hF (fun h164 hF => ?_) (fun _ hF => nomatch hF)
      refine bind_some hF (fun x165 h166 hF => ?_)
      have pq170 : ∀ {l : List Cond}, HoldAll E H hn140 l → HoldAll E H hn140 (.int (nlen (len a148)) (nlen (len a148)) :: .test (ilt v159 (nlen (len a148))) true :: .test (inr v159 (len a148)) true :: .sub (flat (eInt .i64) a148) (nidx v159 1) 1 [(.lit (.int .i64 x162))] :: .test (inr v159 (len a149)) true :: .sub (flat (eInt .i64) a149) (nidx v159 1) 1 [(.lit (.int .i64 x165))] :: l) := fun z => ⟨rfl, h160, h161, ⟨rfl, sub_flat0 (eInt_len _) h163 1 (by decide)⟩, h164, ⟨rfl, sub_flat0 (eInt_len _) h166 1 (by decide)⟩, z⟩
      refine cond_some hF (fun h167 hF => ?_) (fun h167 hF => ?_)
      ·
        have pz : HoldAll E H hn140 [.test (ine x162 x165) false, .int (wadd .i64 v159 1) (wadd .i64 v159 1)] := ⟨(ine_t h167), rfl, trivial⟩
        have h0 := ih _ _ hF
        have hn := fun ex ts' => loop_nextC (h := hn140) (l := 0) (c := c140_0) (ts := F140_l0_0_S a148 a149 v159) (ts1 := (F140_l0_0_S a148 a149 (wadd .i64 v159 1))) (ex := ex) (ts' := ts') (pq170 pz) (by kernel_rfl)
        cases r with
        | inl w => exact hn _ _ h0
        | inr w => exact hn _ _ h0
      have hr := Option.some.inj hF
      subst hr
      have pz : HoldAll E H hn140 [.test (ine x162 x165) true] := ⟨(ine_f h167), trivial⟩
      exact loop_endC (h := hn140) (l := 0) (c := c140_0) (ts := F140_l0_0_S a148 a149 v159) (ts' := F140_l0_0_X0 a148 a149 ()) (ex := .ret) (pq170 pz) (by kernel_rfl) trivial
    have hr := Option.some.inj hF
    subst hr
    have pz : HoldAll E H hn140 [.int (nlen (len a148)) (nlen (len a148)), .test (ilt v159 (nlen (len a148))) false] := ⟨rfl, h160, trivial⟩
    exact loop_endC (h := hn140) (l := 0) (c := c140_0) (ts := F140_l0_0_S a148 a149 v159) (ts' := F140_l0_0_X1 a148 a149 ()) (ex := (.exit 0)) pz (by kernel_rfl) trivial

def F140 (K : Nat) (a148 : List Int) (a149 : List Int) : Option (Bool) :=
  bif (ieq (nlen (len a148)) (nlen (len a149))) then
    ((F140_l0_0 K a148 a149 K 0).bind fun y172 =>
    Sum.elim (fun w173 =>
      some false)
      (fun w174 =>
      some true) y172)
  else
  some false
theorem F140_ok (K : Nat) (a148 : List Int) (a149 : List Int) (r : Bool) (hF : F140 K a148 a149 = some r) : Evt E H 140 [.one (.sl (len a148) (flat (eInt .i64) a148)), .one (.sl (len a149) (flat (eInt .i64) a149))] (F140_res r) := by
  rw [F140] at hF
  refine cond_some hF (fun h150 hF => ?_) (fun h150 hF => ?_)
  ·
    have pq175 : ∀ {l : List Cond}, HoldAll E H hn140 l → HoldAll E H hn140 (.int (nlen (len a148)) (nlen (len a148)) :: .int (nlen (len a149)) (nlen (len a149)) :: .test (ine (nlen (len a148)) (nlen (len a149))) false :: l) := fun z => ⟨rfl, rfl, (ine_t h150), z⟩
    refine bind_some hF (fun y172 h171 hF => ?_)
    refine sum_some hF (fun w173 hx hF => ?_) (fun w174 hx hF => ?_)
    ·
      subst hx
      have hr := Option.some.inj hF
      subst hr
      have pz : HoldAll E H hn140 [.loop 0 c140_0 (F140_l0_0_S a148 a149 0) .ret (F140_l0_0_X0 a148 a149 w173)] := ⟨(F140_l0_0_ok K a148 a149 K 0 _ h171), trivial⟩
      exact fn_playC hn140 (f := 140) (ads := [.one (.sl (len a148) (flat (eInt .i64) a148)), .one (.sl (len a149) (flat (eInt .i64) a149))]) (r := F140_res false) (pq175 pz) (by kernel_rfl) (by kernel_rfl)
    subst hx
    have hr := Option.some.inj hF
    subst hr
    have pz : HoldAll E H hn140 [.loop 0 c140_0 (F140_l0_0_S a148 a149 0) (.exit 0) (F140_l0_0_X1 a148 a149 w174)] := ⟨(F140_l0_0_ok K a148 a149 K 0 _ h171), trivial⟩
    exact fn_playC hn140 (f := 140) (ads := [.one (.sl (len a148) (flat (eInt .i64) a148)), .one (.sl (len a149) (flat (eInt .i64) a149))]) (r := F140_res true) (pq175 pz) (by kernel_rfl) (by kernel_rfl)
  have hr := Option.some.inj hF
  subst hr
  have pz : HoldAll E H hn140 [.int (nlen (len a148)) (nlen (len a148)), .int (nlen (len a149)) (nlen (len a149)), .test (ine (nlen (len a148)) (nlen (len a149))) true] := ⟨rfl, rfl, (ine_f h150), trivial⟩
  exact fn_playC hn140 (f := 140) (ads := [.one (.sl (len a148) (flat (eInt .i64) a148)), .one (.sl (len a149) (flat (eInt .i64) a149))]) (r := F140_res false) pz (by kernel_rfl) (by kernel_rfl)

/-! ### haywain/haywainref06.SameRest -/
noncomputable def hn141 : Hint := { H 141 with nt := 26, prot := 0 }
noncomputable def c141_0 : Code := loopOf E 141 0
def F141_res (r208 : Bool) : Res := ⟨[(.one (.im (.lit (.bool r208))))], []⟩
def F141_l0_0 (K : Nat) (a180 : List Bool) (a181 : List Bool) : Nat → Int → Option ((Unit) ⊕ (Unit))
  | 0, _ => none
  | k + 1, v191 =>
    bif (ilt v191 (nlen (len a180))) then
      (bif (inr v191 (len a180)) then
      (elAt a180 v191).bind fun x194 =>
      bif (inr v191 (len a181)) then
      (elAt a181 v191).bind fun x197 =>
      bif (beqb x194 x197) then
        (F141_l0_0 K a180 a181 k (wadd .i64 v191 1))
      else
      some (.inl ())
      else none
      else none)
    else
    some (.inr ())
def F141_l0_0_S (a180 : List Bool) (a181 : List Bool) (v191 : Int) : TS := .on [0, 1, 64, 65, 320, 321] [(0, ⟨.one, 0, nob⟩), (1, ⟨.im, 0, (.sl (len a180) (flat eBool a180))⟩), (64, ⟨.one, 0, nob⟩), (65, ⟨.im, 0, (.sl (len a181) (flat eBool a181))⟩), (320, ⟨.one, 0, nob⟩), (321, ⟨.im, 0, (.lit (.int .i64 v191))⟩)]
def F141_l0_0_X0 (a180 : List Bool) (a181 : List Bool) (w200 : Unit) : TS := .on [256, 257] [(256, ⟨.one, 0, nob⟩), (257, ⟨.im, 0, (.lit (.bool false))⟩)]
def F141_l0_0_X1 (a180 : List Bool) (a181 : List Bool) (w201 : Unit) : TS := .on [] []
theorem F141_l0_0_ok (K : Nat) (a180 : List Bool) (a181 : List Bool) : ∀ (k : Nat) (v191 : Int) (r : (Unit) ⊕ (Unit)), F141_l0_0 K a180 a181 k v191 = some r → (Sum.elim (fun w => LoopEv E H hn141 0 c141_0 (F141_l0_0_S a180 a181 v191) .ret (F141_l0_0_X0 a180 a181 w)) (fun w => LoopEv E H hn141 0 c141_0 (F141_l0_0_S a180 a181 v191) (.exit 0) (F141_l0_0_X1 a180 a181 w))) r := by
  intro k
  induction k with
  | zero => intro v191 r hF; cases hF
  | succ k ih =>
    intro v191 r hF
    rw [F141_l0_0] at hF
    refine cond_some hF (fun h192 hF => ?_) (fun h192 hF => ?_)
    ·
      refine cond_some hF (fun h193 hF => ?_) (fun _ hF => nomatch hF)
      refine bind_some hF (fun x194 h195 hF => ?_)
      refine cond_some hF (fun h196 hF => ?_) (fun _ hF => nomatch hF)
      refine bind_some hF (fun x197 h198 hF => ?_)
      have pq202 : ∀ {l : List Cond}, HoldAll E H hn141 l → HoldAll E H hn141 (.int (nlen (len a180)) (nlen (len a180)) :: .test (ilt v191 (nlen (len a180))) true :: .test (inr v191 (len a180)) true :: .sub (flat eBool a180) (nidx v191 1) 1 [(.lit (.bool x194))] :: .test (inr v191 (len a181)) true :: .sub (flat eBool a181) (nidx v191 1) 1 [(.lit (.bool x197))] :: l) := fun z => ⟨rfl, h192, h193, ⟨rfl, sub_flat0 eBool_len h195 1 (by decide)⟩, h196, ⟨rfl, sub_flat0 eBool_len h198 1 (by decide)⟩, z⟩
      refine cond_some hF (fun h199 hF => ?_) (fun h199 hF => ?_)
      ·
        have pz : HoldAll E H hn141 [.test (bnot (beqb x194 x197)) false, .int (wadd .i64 v191 1) (wadd .i64 v191 1)] := ⟨(bnot_t h199), rfl, trivial⟩
        have h0 := ih _ _ hF
        have hn := fun ex ts' => loop_nextC (h := hn141) (l := 0) (c := c141_0) (ts := F141_l0_0_S a180 a181 v191) (ts1 := (F141_l0_0_S a180 a181 (wadd .i64 v191 1))) (ex := ex) (ts' := ts') (pq202 pz) (by kernel_rfl)
        cases r with
        | inl w => exact hn _ _ h0
        | inr w => exact hn _ _ h0
      have hr := Option.some.inj hF
      subst hr
      have pz : HoldAll E H hn141 [.test (bnot (beqb x194 x197)) true] := ⟨(bnot_f h199), trivial⟩
      exact loop_endC (h := hn141) (l := 0) (c := c141_0) (ts := F141_l0_0_S a180 a181 v191) (ts' := F141_l0_0_X0 a180 a181 ()) (ex := .ret) (pq202 pz) (by kernel_rfl) trivial
    have hr := Option.some.inj hF
    subst hr
    have pz : HoldAll E H hn141 [.int (nlen (len a180)) (nlen (len a180)), .test (ilt v191 (nlen (len a180))) false] := ⟨rfl, h192, trivial⟩
    exact loop_endC (h := hn141) (l := 0) (c := c141_0) (ts := F141_l0_0_S a180 a181 v191) (ts' := F141_l0_0_X1 a180 a181 ()) (ex := (.exit 0)) pz (by kernel_rfl) trivial

def F141 (K : Nat) (a180 : List Bool) (a181 : List Bool) : Option (Bool) :=
  bif (ieq (nlen (len a180)) (nlen (len a181))) then
    ((F141_l0_0 K a180 a181 K 0).bind fun y204 =>
    Sum.elim (fun w205 =>
      some false)
      (fun w206 =>
      some true) y204)
  else
  some false
theorem F141_ok (K : Nat) (a180 : List Bool) (a181 : List Bool) (r : Bool) (hF : F141 K a180 a181 = some r) : Evt E H 141 [.one (.sl (len a180) (flat eBool a180)), .one (.sl (len a181) (flat eBool a181))] (F141_res r) := by
  rw [F141] at hF
  refine cond_some hF (fun h182 hF => ?_) (fun h182 hF => ?_)
  ·
    have pq207 : ∀ {l : List Cond}, HoldAll E H hn141 l → HoldAll E H hn141 (.int (nlen (len a180)) (nlen (len a180)) :: .int (nlen (len a181)) (nlen (len a181)) :: .test (ine (nlen (len a180)) (nlen (len a181))) false :: l) := fun z => ⟨rfl, rfl, (ine_t h182), z⟩
    refine bind_some hF (fun y204 h203 hF => ?_)
    refine sum_some hF (fun w205 hx hF => ?_) (fun w206 hx hF => ?_)
    ·
      subst hx
      have hr := Option.some.inj hF
      subst hr
      have pz : HoldAll E H hn141 [.loop 0 c141_0 (F141_l0_0_S a180 a181 0) .ret (F141_l0_0_X0 a180 a181 w205)] := ⟨(F141_l0_0_ok K a180 a181 K 0 _ h203), trivial⟩
      exact fn_playC hn141 (f := 141) (ads := [.one (.sl (len a180) (flat eBool a180)), .one (.sl (len a181) (flat eBool a181))]) (r := F141_res false) (pq207 pz) (by kernel_rfl) (by kernel_rfl)
    subst hx
    have hr := Option.some.inj hF
    subst hr
    have pz : HoldAll E H hn141 [.loop 0 c141_0 (F141_l0_0_S a180 a181 0) (.exit 0) (F141_l0_0_X1 a180 a181 w206)] := ⟨(F141_l0_0_ok K a180 a181 K 0 _ h203), trivial⟩
    exact fn_playC hn141 (f := 141) (ads := [.one (.sl (len a180) (flat eBool a180)), .one (.sl (len a181) (flat eBool a181))]) (r := F141_res true) (pq207 pz) (by kernel_rfl) (by kernel_rfl)
  have hr := Option.some.inj hF
  subst hr
  have pz : HoldAll E H hn141 [.int (nlen (len a180)) (nlen (len a180)), .int (nlen (len a181)) (nlen (len a181)), .test (ine (nlen (len a180)) (nlen (len a181))) true] := ⟨rfl, rfl, (ine_f h182), trivial⟩
  exact fn_playC hn141 (f := 141) (ads := [.one (.sl (len a180) (flat eBool a180)), .one (.sl (len a181) (flat eBool a181))]) (r := F141_res false) pz (by kernel_rfl) (by kernel_rfl)

/-! ### haywain/haywainref04.SameMsgs -/
noncomputable def hn89 : Hint := { H 89 with nt := 26, prot := 0 }
noncomputable def c89_0 : Code := loopOf E 89 0
def F89_res (r242 : Bool) : Res := ⟨[(.one (.im (.lit (.bool r242))))], []⟩
def F89_l0_0 (K : Nat) (a212 : List GMsg) (a213 : List GMsg) : Nat → Int → Option ((Unit) ⊕ (Unit))
  | 0, _ => none
  | k + 1, v224 =>
    bif (ilt v224 (nlen (len a212))) then
      (bif (inr v224 (len a212)) then
      (elAt a212 v224).bind fun x227 =>
      bif (inr v224 (len a213)) then
      (elAt a213 v224).bind fun x230 =>
      bif (ieq x227.To x230.To) then
        (bif (ieq x227.V x230.V) then
          (F89_l0_0 K a212 a213 k (wadd .i64 v224 1))
        else
        some (.inl ()))
      else
      some (.inl ())
      else none
      else none)
    else
    some (.inr ())
def F89_l0_0_S (a212 : List GMsg) (a213 : List GMsg) (v224 : Int) : TS := .on [0, 1, 64, 65, 320, 321] [(0, ⟨.one, 0, nob⟩), (1, ⟨.im, 0, (.sl (len a212) (flat eGMsg a212))⟩), (64, ⟨.one, 0, nob⟩), (65, ⟨.im, 0, (.sl (len a213) (flat eGMsg a213))⟩), (320, ⟨.one, 0, nob⟩), (321, ⟨.im, 0, (.lit (.int .i64 v224))⟩)]
def F89_l0_0_X0 (a212 : List GMsg) (a213 : List GMsg) (w234 : Unit) : TS := .on [256, 257] [(256, ⟨.one, 0, nob⟩), (257, ⟨.im, 0, (.lit (.bool false))⟩)]
def F89_l0_0_X1 (a212 : List GMsg) (a213 : List GMsg) (w235 : Unit) : TS := .on [] []
theorem F89_l0_0_ok (K : Nat) (a212 : List GMsg) (a213 : List GMsg) : ∀ (k : Nat) (v224 : Int) (r : (Unit) ⊕ (Unit)), F89_l0_0 K a212 a213 k v224 = some r → (Sum.elim (fun w => LoopEv E H hn89 0 c89_0 (F89_l0_0_S a212 a213 v224) .ret (F89_l0_0_X0 a212 a213 w)) (fun w => LoopEv E H hn89 0 c89_0 (F89_l0_0_S a212 a213 v224) (.exit 0) (F89_l0_0_X1 a212 a213 w))) r := by
  intro k
  induction k with
  | zero => intro v224 r hF; cases hF
  | succ k ih =>
    intro v224 r hF
    rw [F89_l0_0] at hF
    refine cond_some hF (fun h225 hF => ?_) (fun h225 hF => ?_)
    ·
      refine cond_some hF (fun h226 hF => ?_) (fun _ hF => nomatch hF)
      refine bind_some hF (fun x227 h228 hF => ?_)
      refine cond_some hF (fun h229 hF => ?_) (fun _ hF => nomatch hF)
      refine bind_some hF (fun x230 h231 hF => ?_)
      have pq236 : ∀ {l : List Cond}, HoldAll E H hn89 l → HoldAll E H hn89 (.int (nlen (len a212)) (nlen (len a212)) :: .test (ilt v224 (nlen (len a212))) true :: .test (inr v224 (len a212)) true :: .sub (flat eGMsg a212) (nidx v224 2) 2 [(.lit (.int .i64 x227.To)), (.lit (.int .i64 x227.V))] :: .test (inr v224 (len a213)) true :: .sub (flat eGMsg a213) (nidx v224 2) 2 [(.lit (.int .i64 x230.To)), (.lit (.int .i64 x230.V))] :: l) := fun z => ⟨rfl, h225, h226, ⟨rfl, sub_flat0 eGMsg_len h228 2 (by decide)⟩, h229, ⟨rfl, sub_flat0 eGMsg_len h231 2 (by decide)⟩, z⟩
      refine cond_some hF (fun h232 hF => ?_) (fun h232 hF => ?_)
      ·
        refine cond_some hF (fun h233 hF => ?_) (fun h233 hF => ?_)
        ·
          have pz : HoldAll E H hn89 [.test (bnot (band (ieq x227.To x230.To) (band (ieq x227.V x230.V) true))) false, .int (wadd .i64 v224 1) (wadd .i64 v224 1)] := ⟨(bnot_t (band_tt h232 (band_tt h233 rfl))), rfl, trivial⟩
          have h0 := ih _ _ hF
          have hn := fun ex ts' => loop_nextC (h := hn89) (l := 0) (c := c89_0) (ts := F89_l0_0_S a212 a213 v224) (ts1 := (F89_l0_0_S a212 a213 (wadd .i64 v224 1))) (ex := ex) (ts' := ts') (pq236 pz) (by kernel_rfl)
          cases r with
          | inl w => exact hn _ _ h0
          | inr w => exact hn _ _ h0
        have hr := Option.some.inj hF
        subst hr
        have pz : HoldAll E H hn89 [.test (bnot (band (ieq x227.To x230.To) (band (ieq x227.V x230.V) true))) true] := ⟨(bnot_f (band_f2 h232 (band_f1 h233))), trivial⟩
        exact loop_endC (h := hn89) (l := 0) (c := c89_0) (ts := F89_l0_0_S a212 a213 v224) (ts' := F89_l0_0_X0 a212 a213 ()) (ex := .ret) (pq236 pz) (by kernel_rfl) trivial
      have hr := Option.some.inj hF
      subst hr
      have pz : HoldAll E H hn89 [.test (bnot (band (ieq x227.To x230.To) (band (ieq x227.V x230.V) true))) true] := ⟨(bnot_f (band_f1 h232)), trivial⟩
      exact loop_endC (h := hn89) (l := 0) (c := c89_0) (ts := F89_l0_0_S a212 a213 v224) (ts' := F89_l0_0_X0 a212 a213 ()) (ex := .ret) (pq236 pz) (by kernel_rfl) trivial
    have hr := Option.some.inj hF
    subst hr
    have pz : HoldAll E H hn89 [.int (nlen (len a212)) (nlen (len a212)), .test (ilt v224 (nlen (len a212))) false] := ⟨rfl, h225, trivial⟩
    exact loop_endC (h := hn89) (l := 0) (c := c89_0) (ts := F89_l0_0_S a212 a213 v224) (ts' := F89_l0_0_X1 a212 a213 ()) (ex := (.exit 0)) pz (by kernel_rfl) trivial

def F89 (K : Nat) (a212 : List GMsg) (a213 : List GMsg) : Option (Bool) :=
  bif (ieq (nlen (len a212)) (nlen (len a213))) then
    ((F89_l0_0 K a212 a213 K 0).bind fun y238 =>
    Sum.elim (fun w239 =>
      some false)
      (fun w240 =>
      some true) y238)
  else
  some false
theorem F89_ok (K : Nat) (a212 : List GMsg) (a213 : List GMsg) (r : Bool) (hF : F89 K a212 a213 = some r) : Evt E H 89 [.one (.sl (len a212) (flat eGMsg a212)), .one (.sl (len a213) (flat eGMsg a213))] (F89_res r) := by
  rw [F89] at hF
  refine cond_some hF (fun h214 hF => ?_) (fun h214 hF => ?_)
  ·
    have pq241 : ∀ {l : List Cond}, HoldAll E H hn89 l → HoldAll E H hn89 (.int (nlen (len a212)) (nlen (len a212)) :: .int (nlen (len a213)) (nlen (len a213)) :: .test (ine (nlen (len a212)) (nlen (len a213))) false :: l) := fun z => ⟨rfl, rfl, (ine_t h214), z⟩
    refine bind_some hF (fun y238 h237 hF => ?_)
    refine sum_some hF (fun w239 hx hF => ?_) (fun w240 hx hF => ?_)
    ·
      subst hx
      have hr := Option.some.inj hF
      subst hr
      have pz : HoldAll E H hn89 [.loop 0 c89_0 (F89_l0_0_S a212 a213 0) .ret (F89_l0_0_X0 a212 a213 w239)] := ⟨(F89_l0_0_ok K a212 a213 K 0 _ h237), trivial⟩
      exact fn_playC hn89 (f := 89) (ads := [.one (.sl (len a212) (flat eGMsg a212)), .one (.sl (len a213) (flat eGMsg a213))]) (r := F89_res false) (pq241 pz) (by kernel_rfl) (by kernel_rfl)
    subst hx
    have hr := Option.some.inj hF
    subst hr
    have pz : HoldAll E H hn89 [.loop 0 c89_0 (F89_l0_0_S a212 a213 0) (.exit 0) (F89_l0_0_X1 a212 a213 w240)] := ⟨(F89_l0_0_ok K a212 a213 K 0 _ h237), trivial⟩
    exact fn_playC hn89 (f := 89) (ads := [.one (.sl (len a212) (flat eGMsg a212)), .one (.sl (len a213) (flat eGMsg a213))]) (r := F89_res true) (pq241 pz) (by kernel_rfl) (by kernel_rfl)
  have hr := Option.some.inj hF
  subst hr
  have pz : HoldAll E H hn89 [.int (nlen (len a212)) (nlen (len a212)), .int (nlen (len a213)) (nlen (len a213)), .test (ine (nlen (len a212)) (nlen (len a213))) true] := ⟨rfl, rfl, (ine_f h214), trivial⟩
  exact fn_playC hn89 (f := 89) (ads := [.one (.sl (len a212) (flat eGMsg a212)), .one (.sl (len a213) (flat eGMsg a213))]) (r := F89_res false) pz (by kernel_rfl) (by kernel_rfl)

/-! ### haywain/haywainref07.Same -/
noncomputable def hn118 : Hint := { H 118 with nt := 38, prot := 0 }
def F118_res (r248 : Bool) : Res := ⟨[(.one (.im (.lit (.bool r248))))], []⟩
def F118 (K : Nat) (a144 : GPart) (a145 : GPart) : Option (Bool) :=
  bif (ieq a144.P a145.P) then
    (bif (ieq a144.Step a145.Step) then
      ((F140 K a144.Vals a145.Vals).bind fun r177 =>
      bif r177 then
        ((F141 K a144.Rest a145.Rest).bind fun r209 =>
        bif r209 then
          ((F89 K a144.In a145.In).bind fun r243 =>
          some r243)
        else
        some false)
      else
      some false)
    else
    some false)
  else
  some false
theorem F118_ok (K : Nat) (a144 : GPart) (a145 : GPart) (r : Bool) (hF : F118 K a144 a145 = some r) : Evt E H 118 [.agg (eGPart a144), .agg (eGPart a145)] (F118_res r) := by
  rw [F118] at hF
  refine cond_some hF (fun h146 hF => ?_) (fun h146 hF => ?_)
  ·
    have pq245 : ∀ {l : List Cond}, HoldAll E H hn118 l → HoldAll E H hn118 (.test (beqb (ieq a144.P a145.P) true) true :: .test (beqb (ieq a144.P a145.P) true) true :: .test (beqb (ieq a144.P a145.P) true) true :: .test (beqb (ieq a144.P a145.P) true) true :: .test (beqb (ieq a144.P a145.P) true) true :: .test (ieq a144.P a145.P) true :: l) := fun z => ⟨(beqb_t h146), (beqb_t h146), (beqb_t h146), (beqb_t h146), (beqb_t h146), h146, z⟩
    refine cond_some hF (fun h147 hF => ?_) (fun h147 hF => ?_)
    ·
      refine bind_some hF (fun r177 h178 hF => ?_)
      have pq246 : ∀ {l : List Cond}, HoldAll E H hn118 l → HoldAll E H hn118 (.test (beqb (ieq a144.Step a145.Step) true) true :: .test (beqb (ieq a144.Step a145.Step) true) true :: .test (beqb (ieq a144.Step a145.Step) true) true :: .test (beqb (ieq a144.Step a145.Step) true) true :: .test (beqb (ieq a144.Step a145.Step) true) true :: .call 140 [.one (.sl (len a144.Vals) (flat (eInt .i64) a144.Vals)), .one (.sl (len a145.Vals) (flat (eInt .i64) a145.Vals))] (F140_res r177) :: .test (leadsAny (Res.mk [(.one (.im (.lit (.bool r177))))] [])) false :: .test (ieq a144.Step a145.Step) true :: l) := fun z => ⟨(beqb_t h147), (beqb_t h147), (beqb_t h147), (beqb_t h147), (beqb_t h147), (F140_ok K a144.Vals a145.Vals _ h178), (leads_ok (by simp only [leadsAny, List.any_cons, List.any_nil, RV.leads, RC.leads, leadsT, hasSl_lit, Bool.or_false, flat_ns (eInt_ns _), flat_ns eBool_ns, flat_ns eStr_ns, flat_ns eGJob_ns, flat_ns eGEdge_ns, flat_ns eGAsked_ns, flat_ns eGMsg_ns, flat_ns eGrule_ns])), h147, z⟩
      refine cond_some hF (fun h179 hF => ?_) (fun h179 hF => ?_)
      ·
        refine bind_some hF (fun r209 h210 hF => ?_)
        have pq247 : ∀ {l : List Cond}, HoldAll E H hn118 l → HoldAll E H hn118 (.test (beqb r177 true) true :: .test (beqb r177 true) true :: .test (beqb r177 true) true :: .test (beqb r177 true) true :: .test (beqb r177 true) true :: .call 141 [.one (.sl (len a144.Rest) (flat eBool a144.Rest)), .one (.sl (len a145.Rest) (flat eBool a145.Rest))] (F141_res r209) :: .test (leadsAny (Res.mk [(.one (.im (.lit (.bool r209))))] [])) false :: .test r177 true :: l) := fun z => ⟨(beqb_t h179), (beqb_t h179), (beqb_t h179), (beqb_t h179), (beqb_t h179), (F141_ok K a144.Rest a145.Rest _ h210), (leads_ok (by simp only [leadsAny, List.any_cons, List.any_nil, RV.leads, RC.leads, leadsT, hasSl_lit, Bool.or_false, flat_ns (eInt_ns _), flat_ns eBool_ns, flat_ns eStr_ns, flat_ns eGJob_ns, flat_ns eGEdge_ns, flat_ns eGAsked_ns, flat_ns eGMsg_ns, flat_ns eGrule_ns])), h179, z⟩
        refine cond_some hF (fun h211 hF => ?_) (fun h211 hF => ?_)
        ·
          refine bind_some hF (fun r243 h244 hF => ?_)
          have hr := Option.some.inj hF
          subst hr
          have pz : HoldAll E H hn118 [.test (beqb r209 true) true, .test (beqb r209 true) true, .test (beqb r209 true) true, .test (beqb r209 true) true, .test (beqb r209 true) true, .call 89 [.one (.sl (len a144.In) (flat eGMsg a144.In)), .one (.sl (len a145.In) (flat eGMsg a145.In))] (F89_res r243), .test (leadsAny (Res.mk [(.one (.im (.lit (.bool r243))))] [])) false, .test r209 true] := ⟨(beqb_t h211), (beqb_t h211), (beqb_t h211), (beqb_t h211), (beqb_t h211), (F89_ok K a144.In a145.In _ h244), (leads_ok (by simp only [leadsAny, List.any_cons, List.any_nil, RV.leads, RC.leads, leadsT, hasSl_lit, Bool.or_false, flat_ns (eInt_ns _), flat_ns eBool_ns, flat_ns eStr_ns, flat_ns eGJob_ns, flat_ns eGEdge_ns, flat_ns eGAsked_ns, flat_ns eGMsg_ns, flat_ns eGrule_ns])), h211, trivial⟩
          exact fn_playC hn118 (f := 118) (ads := [.agg (eGPart a144), .agg (eGPart a145)]) (r := F118_res r243) (pq245 (pq246 (pq247 pz))) (by kernel_rfl) (by kernel_rfl)
        have hr := Option.some.inj hF
        subst hr
        have pz : HoldAll E H hn118 [.test (beqb r209 true) false, .test (beqb r209 true) false, .test (beqb r209 true) false, .test (beqb r209 true) false, .test (beqb r209 true) false, .test r209 false] := ⟨(beqb_t h211), (beqb_t h211), (beqb_t h211), (beqb_t h211), (beqb_t h211), h211, trivial⟩
        exact fn_playC hn118 (f := 118) (ads := [.agg (eGPart a144), .agg (eGPart a145)]) (r := F118_res false) (pq245 (pq246 (pq247 pz))) (by kernel_rfl) (by kernel_rfl)
      have hr := Option.some.inj hF
      subst hr
      have pz : HoldAll E H hn118 [.test (beqb r177 true) false, .test (beqb r177 true) false, .test (beqb r177 true) false, .test (beqb r177 true) false, .test (beqb r177 true) false, .test r177 false, .test (beqb false true) false, .test (beqb false true) false, .test (beqb false true) false, .test (beqb false true) false, .test (beqb false true) false, .test false false] := ⟨(beqb_t h179), (beqb_t h179), (beqb_t h179), (beqb_t h179), (beqb_t h179), h179, (beqb_t rfl), (beqb_t rfl), (beqb_t rfl), (beqb_t rfl), (beqb_t rfl), rfl, trivial⟩
      exact fn_playC hn118 (f := 118) (ads := [.agg (eGPart a144), .agg (eGPart a145)]) (r := F118_res false) (pq245 (pq246 pz)) (by kernel_rfl) (by kernel_rfl)
    have hr := Option.some.inj hF
    subst hr
    have pz : HoldAll E H hn118 [.test (beqb (ieq a144.Step a145.Step) true) false, .test (beqb (ieq a144.Step a145.Step) true) false, .test (beqb (ieq a144.Step a145.Step) true) false, .test (beqb (ieq a144.Step a145.Step) true) false, .test (beqb (ieq a144.Step a145.Step) true) false, .test (ieq a144.Step a145.Step) false, .test (beqb false true) false, .test (beqb false true) false, .test (beqb false true) false, .test (beqb false true) false, .test (beqb false true) false, .test false false, .test (beqb false true) false, .test (beqb false true) false, .test (beqb false true) false, .test (beqb false true) false, .test (beqb false true) false, .test false false] := ⟨(beqb_t h147), (beqb_t h147), (beqb_t h147), (beqb_t h147), (beqb_t h147), h147, (beqb_t rfl), (beqb_t rfl), (beqb_t rfl), (beqb_t rfl), (beqb_t rfl), rfl, (beqb_t rfl), (beqb_t rfl), (beqb_t rfl), (beqb_t rfl), (beqb_t rfl), rfl, trivial⟩
    exact fn_playC hn118 (f := 118) (ads := [.agg (eGPart a144), .agg (eGPart a145)]) (r := F118_res false) (pq245 pz) (by kernel_rfl) (by kernel_rfl)
  have hr := Option.some.inj hF
  subst hr
  have pz : HoldAll E H hn118 [.test (beqb (ieq a144.P a145.P) true) false, .test (beqb (ieq a144.P a145.P) true) false, .test (beqb (ieq a144.P a145.P) true) false, .test (beqb (ieq a144.P a145.P) true) false, .test (beqb (ieq a144.P a145.P) true) false, .test (ieq a144.P a145.P) false, .test (beqb false true) false, .test (beqb false true) false, .test (beqb false true) false, .test (beqb false true) false, .test (beqb false true) false, .test false false, .test (beqb false true) false, .test (beqb false true) false, .test (beqb false true) false, .test (beqb false true) false, .test (beqb false true) false, .test false false, .test (beqb false true) false, .test (beqb false true) false, .test (beqb false true) false, .test (beqb false true) false, .test (beqb false true) false, .test false false] := ⟨(beqb_t h146), (beqb_t h146), (beqb_t h146), (beqb_t h146), (beqb_t h146), h146, (beqb_t rfl), (beqb_t rfl), (beqb_t rfl), (beqb_t rfl), (beqb_t rfl), rfl, (beqb_t rfl), (beqb_t rfl), (beqb_t rfl), (beqb_t rfl), (beqb_t rfl), rfl, (beqb_t rfl), (beqb_t rfl), (beqb_t rfl), (beqb_t rfl), (beqb_t rfl), rfl, trivial⟩
  exact fn_playC hn118 (f := 118) (ads := [.agg (eGPart a144), .agg (eGPart a145)]) (r := F118_res false) pz (by kernel_rfl) (by kernel_rfl)

/-! ### haywain/haywainref07.SameAll -/
noncomputable def hn84 : Hint := { H 84 with nt := 27, prot := 0 }
noncomputable def c84_0 : Code := loopOf E 84 0
def F84_res (r271 : Bool) : Res := ⟨[(.one (.im (.lit (.bool r271))))], []⟩
def F84_l0_0 (K : Nat) (a134 : List GPart) (a135 : List GPart) : Nat → Int → Option ((Unit) ⊕ (Unit))
  | 0, _ => none
  | k + 1, v252 =>
    bif (ilt v252 (nlen (len a134))) then
      (bif (inr v252 (len a134)) then
      (elAt a134 v252).bind fun x255 =>
      bif (inr v252 (len a135)) then
      (elAt a135 v252).bind fun x258 =>
      (F118 K x255 x258).bind fun r260 =>
      bif r260 then
        (F84_l0_0 K a134 a135 k (wadd .i64 v252 1))
      else
      some (.inl ())
      else none
      else none)
    else
    some (.inr ())
def F84_l0_0_S (a134 : List GPart) (a135 : List GPart) (v252 : Int) : TS := .on [0, 1, 64, 65, 320, 321] [(0, ⟨.one, 0, nob⟩), (1, ⟨.im, 0, (.sl (len a134) (flat eGPart a134))⟩), (64, ⟨.one, 0, nob⟩), (65, ⟨.im, 0, (.sl (len a135) (flat eGPart a135))⟩), (320, ⟨.one, 0, nob⟩), (321, ⟨.im, 0, (.lit (.int .i64 v252))⟩)]
def F84_l0_0_X0 (a134 : List GPart) (a135 : List GPart) (w263 : Unit) : TS := .on [256, 257] [(256, ⟨.one, 0, nob⟩), (257, ⟨.im, 0, (.lit (.bool false))⟩)]
def F84_l0_0_X1 (a134 : List GPart) (a135 : List GPart) (w264 : Unit) : TS := .on [] []
theorem F84_l0_0_ok (K : Nat) (a134 : List GPart) (a135 : List GPart) : ∀ (k : Nat) (v252 : Int) (r : (Unit) ⊕ (Unit)), F84_l0_0 K a134 a135 k v252 = some r → (Sum.elim (fun w => LoopEv E H hn84 0 c84_0 (F84_l0_0_S a134 a135 v252) .ret (F84_l0_0_X0 a134 a135 w)) (fun w => LoopEv E H hn84 0 c84_0 (F84_l0_0_S a134 a135 v252) (.exit 0) (F84_l0_0_X1 a134 a135 w))) r := by
  intro k
  induction k with
  | zero => intro v252 r hF; cases hF
  | succ k ih =>
    intro v252 r hF
    rw [F84_l0_0] at hF
    refine cond_some hF (fun h253 hF => ?_) (fun h253 hF => ?_)
    ·
      refine cond_some hF (fun h254 hF => ?_) (fun _ hF => nomatch hF)
      refine bind_some hF (fun x255 h256 hF => ?_)
      refine cond_some hF (fun h257 hF => ?_) (fun _ hF => nomatch hF)
      refine bind_some hF (fun x258 h259 hF => ?_)
      refine bind_some hF (fun r260 h261 hF => ?_)
      have pq265 : ∀ {l : List Cond}, HoldAll E H hn84 l → HoldAll E H hn84 (.int (nlen (len a134)) (nlen (len a134)) :: .test (ilt v252 (nlen (len a134))) true :: .test (inr v252 (len a134)) true :: .sub (flat eGPart a134) (nidx v252 5) 5 [(.lit (.int .i64 x255.P)), (.lit (.int .i64 x255.Step)), (.sl (len x255.Vals) (flat (eInt .i64) x255.Vals)), (.sl (len x255.Rest) (flat eBool x255.Rest)), (.sl (len x255.In) (flat eGMsg x255.In))] :: .test (inr v252 (len a135)) true :: .sub (flat eGPart a135) (nidx v252 5) 5 [(.lit (.int .i64 x258.P)), (.lit (.int .i64 x258.Step)), (.sl (len x258.Vals) (flat (eInt .i64) x258.Vals)), (.sl (len x258.Rest) (flat eBool x258.Rest)), (.sl (len x258.In) (flat eGMsg x258.In))] :: .call 118 [.agg (eGPart x255), .agg (eGPart x258)] (F118_res r260) :: .test (leadsAny (Res.mk [(.one (.im (.lit (.bool r260))))] [])) false :: l) := fun z => ⟨rfl, h253, h254, ⟨rfl, sub_flat0 eGPart_len h256 5 (by decide)⟩, h257, ⟨rfl, sub_flat0 eGPart_len h259 5 (by decide)⟩, (F118_ok K x255 x258 _ h261), (leads_ok (by simp only [leadsAny, List.any_cons, List.any_nil, RV.leads, RC.leads, leadsT, hasSl_lit, Bool.or_false, flat_ns (eInt_ns _), flat_ns eBool_ns, flat_ns eStr_ns, flat_ns eGJob_ns, flat_ns eGEdge_ns, flat_ns eGAsked_ns, flat_ns eGMsg_ns, flat_ns eGrule_ns])), z⟩
      refine cond_some hF (fun h262 hF => ?_) (fun h262 hF => ?_)
      ·
        have pz : HoldAll E H hn84 [.test (bnot r260) false, .int (wadd .i64 v252 1) (wadd .i64 v252 1)] := ⟨(bnot_t h262), rfl, trivial⟩
        have h0 := ih _ _ hF
        have hn := fun ex ts' => loop_nextC (h := hn84) (l := 0) (c := c84_0) (ts := F84_l0_0_S a134 a135 v252) (ts1 := (F84_l0_0_S a134 a135 (wadd .i64 v252 1))) (ex := ex) (ts' := ts') (pq265 pz) (by kernel_rfl)
        cases r with
        | inl w => exact hn _ _ h0
        | inr w => exact hn _ _ h0
      have hr := Option.some.inj hF
      subst hr
      have pz : HoldAll E H hn84 [.test (bnot r260) true] := ⟨(bnot_f h262), trivial⟩
      exact loop_endC (h := hn84) (l := 0) (c := c84_0) (ts := F84_l0_0_S a134 a135 v252) (ts' := F84_l0_0_X0 a134 a135 ()) (ex := .ret) (pq265 pz) (by kernel_rfl) trivial
    have hr := Option.some.inj hF
    subst hr
    have pz : HoldAll E H hn84 [.int (nlen (len a134)) (nlen (len a134)), .test (ilt v252 (nlen (len a134))) false] := ⟨rfl, h253, trivial⟩
    exact loop_endC (h := hn84) (l := 0) (c := c84_0) (ts := F84_l0_0_S a134 a135 v252) (ts' := F84_l0_0_X1 a134 a135 ()) (ex := (.exit 0)) pz (by kernel_rfl) trivial

def F84 (K : Nat) (a134 : List GPart) (a135 : List GPart) : Option (Bool) :=
  bif (ieq (nlen (len a134)) (nlen (len a135))) then
    ((F84_l0_0 K a134 a135 K 0).bind fun y267 =>
    Sum.elim (fun w268 =>
      some false)
      (fun w269 =>
      some true) y267)
  else
  some false
theorem F84_ok (K : Nat) (a134 : List GPart) (a135 : List GPart) (r : Bool) (hF : F84 K a134 a135 = some r) : Evt E H 84 [.one (.sl (len a134) (flat eGPart a134)), .one (.sl (len a135) (flat eGPart a135))] (F84_res r) := by
  rw [F84] at hF
  refine cond_some hF (fun h136 hF => ?_) (fun h136 hF => ?_)
  ·
    have pq270 : ∀ {l : List Cond}, HoldAll E H hn84 l → HoldAll E H hn84 (.int (nlen (len a134)) (nlen (len a134)) :: .int (nlen (len a135)) (nlen (len a135)) :: .test (ine (nlen (len a134)) (nlen (len a135))) false :: l) := fun z => ⟨rfl, rfl, (ine_t h136), z⟩
    refine bind_some hF (fun y267 h266 hF => ?_)
    refine sum_some hF (fun w268 hx hF => ?_) (fun w269 hx hF => ?_)
    ·
      subst hx
      have hr := Option.some.inj hF
      subst hr
      have pz : HoldAll E H hn84 [.loop 0 c84_0 (F84_l0_0_S a134 a135 0) .ret (F84_l0_0_X0 a134 a135 w268)] := ⟨(F84_l0_0_ok K a134 a135 K 0 _ h266), trivial⟩
      exact fn_playC hn84 (f := 84) (ads := [.one (.sl (len a134) (flat eGPart a134)), .one (.sl (len a135) (flat eGPart a135))]) (r := F84_res false) (pq270 pz) (by kernel_rfl) (by kernel_rfl)
    subst hx
    have hr := Option.some.inj hF
    subst hr
    have pz : HoldAll E H hn84 [.loop 0 c84_0 (F84_l0_0_S a134 a135 0) (.exit 0) (F84_l0_0_X1 a134 a135 w269)] := ⟨(F84_l0_0_ok K a134 a135 K 0 _ h266), trivial⟩
    exact fn_playC hn84 (f := 84) (ads := [.one (.sl (len a134) (flat eGPart a134)), .one (.sl (len a135) (flat eGPart a135))]) (r := F84_res true) (pq270 pz) (by kernel_rfl) (by kernel_rfl)
  have hr := Option.some.inj hF
  subst hr
  have pz : HoldAll E H hn84 [.int (nlen (len a134)) (nlen (len a134)), .int (nlen (len a135)) (nlen (len a135)), .test (ine (nlen (len a134)) (nlen (len a135))) true] := ⟨rfl, rfl, (ine_f h136), trivial⟩
  exact fn_playC hn84 (f := 84) (ads := [.one (.sl (len a134) (flat eGPart a134)), .one (.sl (len a135) (flat eGPart a135))]) (r := F84_res false) pz (by kernel_rfl) (by kernel_rfl)

/-! ### haywain/haywainref19.Same -/
noncomputable def hn43 : Hint := { H 43 with nt := 38, prot := 0 }
def F43_res (r277 : Bool) : Res := ⟨[(.one (.im (.lit (.bool r277))))], []⟩
def F43 (K : Nat) (a128 : GBarrier) (a129 : GBarrier) : Option (Bool) :=
  bif (ieq a128.Epoch a129.Epoch) then
    (bif (ieq a128.Step a129.Step) then
      (bif (ieq a128.Parts a129.Parts) then
        (bif (beqb a128.Over a129.Over) then
          ((F84 K a128.Came a129.Came).bind fun r272 =>
          some r272)
        else
        some false)
      else
      some false)
    else
    some false)
  else
  some false
theorem F43_ok (K : Nat) (a128 : GBarrier) (a129 : GBarrier) (r : Bool) (hF : F43 K a128 a129 = some r) : Evt E H 43 [.agg (eGBarrier a128), .agg (eGBarrier a129)] (F43_res r) := by
  rw [F43] at hF
  refine cond_some hF (fun h130 hF => ?_) (fun h130 hF => ?_)
  ·
    have pq274 : ∀ {l : List Cond}, HoldAll E H hn43 l → HoldAll E H hn43 (.test (beqb (ieq a128.Epoch a129.Epoch) true) true :: .test (beqb (ieq a128.Epoch a129.Epoch) true) true :: .test (beqb (ieq a128.Epoch a129.Epoch) true) true :: .test (beqb (ieq a128.Epoch a129.Epoch) true) true :: .test (beqb (ieq a128.Epoch a129.Epoch) true) true :: .test (ieq a128.Epoch a129.Epoch) true :: l) := fun z => ⟨(beqb_t h130), (beqb_t h130), (beqb_t h130), (beqb_t h130), (beqb_t h130), h130, z⟩
    refine cond_some hF (fun h131 hF => ?_) (fun h131 hF => ?_)
    ·
      have pq275 : ∀ {l : List Cond}, HoldAll E H hn43 l → HoldAll E H hn43 (.test (beqb (ieq a128.Step a129.Step) true) true :: .test (beqb (ieq a128.Step a129.Step) true) true :: .test (beqb (ieq a128.Step a129.Step) true) true :: .test (beqb (ieq a128.Step a129.Step) true) true :: .test (beqb (ieq a128.Step a129.Step) true) true :: .test (ieq a128.Step a129.Step) true :: l) := fun z => ⟨(beqb_t h131), (beqb_t h131), (beqb_t h131), (beqb_t h131), (beqb_t h131), h131, z⟩
      refine cond_some hF (fun h132 hF => ?_) (fun h132 hF => ?_)
      ·
        have pq276 : ∀ {l : List Cond}, HoldAll E H hn43 l → HoldAll E H hn43 (.test (beqb (ieq a128.Parts a129.Parts) true) true :: .test (beqb (ieq a128.Parts a129.Parts) true) true :: .test (beqb (ieq a128.Parts a129.Parts) true) true :: .test (beqb (ieq a128.Parts a129.Parts) true) true :: .test (beqb (ieq a128.Parts a129.Parts) true) true :: .test (ieq a128.Parts a129.Parts) true :: l) := fun z => ⟨(beqb_t h132), (beqb_t h132), (beqb_t h132), (beqb_t h132), (beqb_t h132), h132, z⟩
        refine cond_some hF (fun h133 hF => ?_) (fun h133 hF => ?_)
        ·
          refine bind_some hF (fun r272 h273 hF => ?_)
          have hr := Option.some.inj hF
          subst hr
          have pz : HoldAll E H hn43 [.test (beqb (beqb a128.Over a129.Over) true) true, .test (beqb (beqb a128.Over a129.Over) true) true, .test (beqb (beqb a128.Over a129.Over) true) true, .test (beqb (beqb a128.Over a129.Over) true) true, .test (beqb (beqb a128.Over a129.Over) true) true, .call 84 [.one (.sl (len a128.Came) (flat eGPart a128.Came)), .one (.sl (len a129.Came) (flat eGPart a129.Came))] (F84_res r272), .test (leadsAny (Res.mk [(.one (.im (.lit (.bool r272))))] [])) false, .test (beqb a128.Over a129.Over) true] := ⟨(beqb_t h133), (beqb_t h133), (beqb_t h133), (beqb_t h133), (beqb_t h133), (F84_ok K a128.Came a129.Came _ h273), (leads_ok (by simp only [leadsAny, List.any_cons, List.any_nil, RV.leads, RC.leads, leadsT, hasSl_lit, Bool.or_false, flat_ns (eInt_ns _), flat_ns eBool_ns, flat_ns eStr_ns, flat_ns eGJob_ns, flat_ns eGEdge_ns, flat_ns eGAsked_ns, flat_ns eGMsg_ns, flat_ns eGrule_ns])), h133, trivial⟩
          exact fn_playC hn43 (f := 43) (ads := [.agg (eGBarrier a128), .agg (eGBarrier a129)]) (r := F43_res r272) (pq274 (pq275 (pq276 pz))) (by kernel_rfl) (by kernel_rfl)
        have hr := Option.some.inj hF
        subst hr
        have pz : HoldAll E H hn43 [.test (beqb (beqb a128.Over a129.Over) true) false, .test (beqb (beqb a128.Over a129.Over) true) false, .test (beqb (beqb a128.Over a129.Over) true) false, .test (beqb (beqb a128.Over a129.Over) true) false, .test (beqb (beqb a128.Over a129.Over) true) false, .test (beqb a128.Over a129.Over) false] := ⟨(beqb_t h133), (beqb_t h133), (beqb_t h133), (beqb_t h133), (beqb_t h133), h133, trivial⟩
        exact fn_playC hn43 (f := 43) (ads := [.agg (eGBarrier a128), .agg (eGBarrier a129)]) (r := F43_res false) (pq274 (pq275 (pq276 pz))) (by kernel_rfl) (by kernel_rfl)
      have hr := Option.some.inj hF
      subst hr
      have pz : HoldAll E H hn43 [.test (beqb (ieq a128.Parts a129.Parts) true) false, .test (beqb (ieq a128.Parts a129.Parts) true) false, .test (beqb (ieq a128.Parts a129.Parts) true) false, .test (beqb (ieq a128.Parts a129.Parts) true) false, .test (beqb (ieq a128.Parts a129.Parts) true) false, .test (ieq a128.Parts a129.Parts) false, .test (beqb false true) false, .test (beqb false true) false, .test (beqb false true) false, .test (beqb false true) false, .test (beqb false true) false, .test false false] := ⟨(beqb_t h132), (beqb_t h132), (beqb_t h132), (beqb_t h132), (beqb_t h132), h132, (beqb_t rfl), (beqb_t rfl), (beqb_t rfl), (beqb_t rfl), (beqb_t rfl), rfl, trivial⟩
      exact fn_playC hn43 (f := 43) (ads := [.agg (eGBarrier a128), .agg (eGBarrier a129)]) (r := F43_res false) (pq274 (pq275 pz)) (by kernel_rfl) (by kernel_rfl)
    have hr := Option.some.inj hF
    subst hr
    have pz : HoldAll E H hn43 [.test (beqb (ieq a128.Step a129.Step) true) false, .test (beqb (ieq a128.Step a129.Step) true) false, .test (beqb (ieq a128.Step a129.Step) true) false, .test (beqb (ieq a128.Step a129.Step) true) false, .test (beqb (ieq a128.Step a129.Step) true) false, .test (ieq a128.Step a129.Step) false, .test (beqb false true) false, .test (beqb false true) false, .test (beqb false true) false, .test (beqb false true) false, .test (beqb false true) false, .test false false, .test (beqb false true) false, .test (beqb false true) false, .test (beqb false true) false, .test (beqb false true) false, .test (beqb false true) false, .test false false] := ⟨(beqb_t h131), (beqb_t h131), (beqb_t h131), (beqb_t h131), (beqb_t h131), h131, (beqb_t rfl), (beqb_t rfl), (beqb_t rfl), (beqb_t rfl), (beqb_t rfl), rfl, (beqb_t rfl), (beqb_t rfl), (beqb_t rfl), (beqb_t rfl), (beqb_t rfl), rfl, trivial⟩
    exact fn_playC hn43 (f := 43) (ads := [.agg (eGBarrier a128), .agg (eGBarrier a129)]) (r := F43_res false) (pq274 pz) (by kernel_rfl) (by kernel_rfl)
  have hr := Option.some.inj hF
  subst hr
  have pz : HoldAll E H hn43 [.test (beqb (ieq a128.Epoch a129.Epoch) true) false, .test (beqb (ieq a128.Epoch a129.Epoch) true) false, .test (beqb (ieq a128.Epoch a129.Epoch) true) false, .test (beqb (ieq a128.Epoch a129.Epoch) true) false, .test (beqb (ieq a128.Epoch a129.Epoch) true) false, .test (ieq a128.Epoch a129.Epoch) false, .test (beqb false true) false, .test (beqb false true) false, .test (beqb false true) false, .test (beqb false true) false, .test (beqb false true) false, .test false false, .test (beqb false true) false, .test (beqb false true) false, .test (beqb false true) false, .test (beqb false true) false, .test (beqb false true) false, .test false false, .test (beqb false true) false, .test (beqb false true) false, .test (beqb false true) false, .test (beqb false true) false, .test (beqb false true) false, .test false false] := ⟨(beqb_t h130), (beqb_t h130), (beqb_t h130), (beqb_t h130), (beqb_t h130), h130, (beqb_t rfl), (beqb_t rfl), (beqb_t rfl), (beqb_t rfl), (beqb_t rfl), rfl, (beqb_t rfl), (beqb_t rfl), (beqb_t rfl), (beqb_t rfl), (beqb_t rfl), rfl, (beqb_t rfl), (beqb_t rfl), (beqb_t rfl), (beqb_t rfl), (beqb_t rfl), rfl, trivial⟩
  exact fn_playC hn43 (f := 43) (ads := [.agg (eGBarrier a128), .agg (eGBarrier a129)]) (r := F43_res false) pz (by kernel_rfl) (by kernel_rfl)

/-! ### haywain/haywainlaw19.BarrierBegins -/
noncomputable def hn3 : Hint := { H 3 with nt := 37, prot := 0 }
def F3_res (r284 : Bool) : Res := ⟨[(.one (.im (.lit (.bool r284))))], []⟩
def F3 (K : Nat) (a0 : Int) (a1 : Int) (a2 : Int) : Option (Bool) :=
  (F41 K a0 a1 a2).bind fun r48 =>
  (F42 K a0 a1 a2).bind fun r121 =>
  (F44 K r48.1).bind fun r126 =>
  (F43 K r126 r121.1).bind fun r278 =>
  bif r278 then
    (bif (ieq r48.2 r121.2) then
      (some true)
    else
    some false)
  else
  some false
theorem F3_ok (K : Nat) (a0 : Int) (a1 : Int) (a2 : Int) (r : Bool) (hF : F3 K a0 a1 a2 = some r) : Evt E H 3 [.one (.lit (.int .i64 a0)), .one (.lit (.int .i64 a1)), .one (.lit (.int .i64 a2))] (F3_res r) := by
  rw [F3] at hF
  refine bind_some hF (fun r48 h49 hF => ?_)
  refine bind_some hF (fun r121 h122 hF => ?_)
  refine bind_some hF (fun r126 h127 hF => ?_)
  refine bind_some hF (fun r278 h279 hF => ?_)
  have pq282 : ∀ {l : List Cond}, HoldAll E H hn3 l → HoldAll E H hn3 (.call 41 [.one (.lit (.int .i64 a0)), .one (.lit (.int .i64 a1)), .one (.lit (.int .i64 a2))] (F41_res r48) :: .call 42 [.one (.lit (.int .i64 a0)), .one (.lit (.int .i64 a1)), .one (.lit (.int .i64 a2))] (F42_res r121) :: .call 44 [.agg (eGBarrier r48.1)] (F44_res r126) :: .call 43 [.agg (eGBarrier r126), .agg (eGBarrier r121.1)] (F43_res r278) :: .test (leadsAny (Res.mk [(.one (.im (.lit (.bool r278))))] [])) false :: l) := fun z => ⟨(F41_ok K a0 a1 a2 _ h49), (F42_ok K a0 a1 a2 _ h122), (F44_ok K r48.1 _ h127), (F43_ok K r126 r121.1 _ h279), (leads_ok (by simp only [leadsAny, List.any_cons, List.any_nil, RV.leads, RC.leads, leadsT, hasSl_lit, Bool.or_false, flat_ns (eInt_ns _), flat_ns eBool_ns, flat_ns eStr_ns, flat_ns eGJob_ns, flat_ns eGEdge_ns, flat_ns eGAsked_ns, flat_ns eGMsg_ns, flat_ns eGrule_ns])), z⟩
  refine cond_some hF (fun h280 hF => ?_) (fun h280 hF => ?_)
  ·
    have pq283 : ∀ {l : List Cond}, HoldAll E H hn3 l → HoldAll E H hn3 (.test (beqb r278 true) true :: .test (beqb r278 true) true :: .test (beqb r278 true) true :: .test r278 true :: l) := fun z => ⟨(beqb_t h280), (beqb_t h280), (beqb_t h280), h280, z⟩
    refine cond_some hF (fun h281 hF => ?_) (fun h281 hF => ?_)
    ·
      have hr := Option.some.inj hF
      subst hr
      have pz : HoldAll E H hn3 [.test (beqb (ieq r48.2 r121.2) true) true, .call 45 [] (Res.mk [(.one (.im (.lit (.bool true))))] []), .test (leadsAny (Res.mk [(.one (.im (.lit (.bool true))))] [])) false, .test (ieq r48.2 r121.2) true] := ⟨(beqb_t h281), knows45, (leads_ok (by simp only [leadsAny, List.any_cons, List.any_nil, RV.leads, RC.leads, leadsT, hasSl_lit, Bool.or_false, flat_ns (eInt_ns _), flat_ns eBool_ns, flat_ns eStr_ns, flat_ns eGJob_ns, flat_ns eGEdge_ns, flat_ns eGAsked_ns, flat_ns eGMsg_ns, flat_ns eGrule_ns])), h281, trivial⟩
      exact fn_playC hn3 (f := 3) (ads := [.one (.lit (.int .i64 a0)), .one (.lit (.int .i64 a1)), .one (.lit (.int .i64 a2))]) (r := F3_res true) (pq282 (pq283 pz)) (by kernel_rfl) (by kernel_rfl)
    have hr := Option.some.inj hF
    subst hr
    have pz : HoldAll E H hn3 [.test (beqb (ieq r48.2 r121.2) true) false, .test (ieq r48.2 r121.2) false] := ⟨(beqb_t h281), h281, trivial⟩
    exact fn_playC hn3 (f := 3) (ads := [.one (.lit (.int .i64 a0)), .one (.lit (.int .i64 a1)), .one (.lit (.int .i64 a2))]) (r := F3_res false) (pq282 (pq283 pz)) (by kernel_rfl) (by kernel_rfl)
  have hr := Option.some.inj hF
  subst hr
  have pz : HoldAll E H hn3 [.test (beqb r278 true) false, .test (beqb r278 true) false, .test (beqb r278 true) false, .test r278 false, .test (beqb false true) false, .test false false] := ⟨(beqb_t h280), (beqb_t h280), (beqb_t h280), h280, (beqb_t rfl), rfl, trivial⟩
  exact fn_playC hn3 (f := 3) (ads := [.one (.lit (.int .i64 a0)), .one (.lit (.int .i64 a1)), .one (.lit (.int .i64 a2))]) (r := F3_res false) (pq282 pz) (by kernel_rfl) (by kernel_rfl)

end Go.Proofs.Ytnjanliihnadjaa.Tm

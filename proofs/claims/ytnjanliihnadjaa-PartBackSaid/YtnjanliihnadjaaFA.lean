/- Printed by program: what each function computes, and that the machine answers so. Conditions: none. -/
import Derived.Test.YtnjanliihnadjaaTy
import Derived.Test.YtnjanliihnadjaaTab
import Derived.Test.YtnjanliihnadjaaKn
import Derived.KernelRfl
set_option linter.unusedVariables false
set_option linter.unusedSimpArgs false
namespace Go.Proofs.Ytnjanliihnadjaa.Tm
open Go
/-! ### haywain/barrier.Right -/
noncomputable def hn48 : Hint := { H 48 with nt := 63, prot := 0 }
noncomputable def c48_0 : Code := loopOf E 48 0
def F48_res (r43 : Bool) : Res := ⟨[(.one (.im (.lit (.bool r43))))], []⟩
def F48_l0_0 (K : Nat) (a6 : GBarrier) : Nat → Int → Int → Option ((Unit) ⊕ (Unit))
  | 0, _, _ => none
  | k + 1, v20, v21 =>
    bif (ilt v21 (nlen (len a6.Came))) then
      (bif (inr v21 (len a6.Came)) then
      (elAt a6.Came v21).bind fun x24 =>
      bif (ile x24.P v20) then
        (some (.inl ()))
      else
      bif (ile a6.Parts x24.P) then
        (some (.inl ()))
      else
      bif (ieq x24.Step (wadd .i64 a6.Step 1)) then
        (F48_l0_0 K a6 k x24.P (wadd .i64 v21 1))
      else
      some (.inl ())
      else none)
    else
    some (.inr ())
def F48_l0_0_S (a6 : GBarrier) (v20 : Int) (v21 : Int) : TS := .on [64, 65, 66, 67, 68, 69, 192, 193, 2176, 2240, 2241, 2304, 2305, 2368, 2369] [(64, ⟨(.box 24 5), 0, nob⟩), (65, ⟨.im, 0, (.lit (.int .i64 a6.Epoch))⟩), (66, ⟨.im, 0, (.lit (.int .i64 a6.Step))⟩), (67, ⟨.im, 0, (.lit (.int .i64 a6.Parts))⟩), (68, ⟨.im, 0, (.sl (len a6.Came) (flat eGPart a6.Came))⟩), (69, ⟨.im, 0, (.lit (.bool a6.Over))⟩), (192, ⟨.one, 0, nob⟩), (193, ⟨.im, 0, (.lit (.int .i64 v20))⟩), (2176, ⟨(.ad 1 0 3), 0, nob⟩), (2240, ⟨.one, 0, nob⟩), (2241, ⟨.im, 0, (.sl (len a6.Came) (flat eGPart a6.Came))⟩), (2304, ⟨.one, 0, nob⟩), (2305, ⟨.im, 0, (.lit (.int .i64 (nlen (len a6.Came))))⟩), (2368, ⟨.one, 0, nob⟩), (2369, ⟨.im, 0, (.lit (.int .i64 v21))⟩)]
def F48_l0_0_X0 (a6 : GBarrier) (w29 : Unit) : TS := .on [128, 129] [(128, ⟨.one, 0, nob⟩), (129, ⟨.im, 0, (.lit (.bool false))⟩)]
def F48_l0_0_X1 (a6 : GBarrier) (w30 : Unit) : TS := .on [] []
theorem F48_l0_0_ok (K : Nat) (a6 : GBarrier) : ∀ (k : Nat) (v20 : Int) (v21 : Int) (r : (Unit) ⊕ (Unit)), F48_l0_0 K a6 k v20 v21 = some r → (Sum.elim (fun w => LoopEv E H hn48 0 c48_0 (F48_l0_0_S a6 v20 v21) .ret (F48_l0_0_X0 a6 w)) (fun w => LoopEv E H hn48 0 c48_0 (F48_l0_0_S a6 v20 v21) (.exit 0) (F48_l0_0_X1 a6 w))) r := by
  intro k
  induction k with
  | zero => intro v20 v21 r hF; cases hF
  | succ k ih =>
    intro v20 v21 r hF
    rw [F48_l0_0] at hF
    refine cond_some hF (fun h22 hF => ?_) (fun h22 hF => ?_)
    ·
      refine cond_some hF (fun h23 hF => ?_) (fun _ hF => nomatch hF)
      refine bind_some hF (fun x24 h25 hF => ?_)
      have pq31 : ∀ {l : List Cond}, HoldAll E H hn48 l → HoldAll E H hn48 (.test (ilt v21 (nlen (len a6.Came))) true :: .test (inr v21 (len a6.Came)) true :: .sub (flat eGPart a6.Came) (nidx v21 5) 5 [(.lit (.int .i64 x24.P)), (.lit (.int .i64 x24.Step)), (.sl (len x24.Vals) (flat (eInt .i64) x24.Vals)), (.sl (len x24.Rest) (flat eBool x24.Rest)), (.sl (len x24.In) (flat eGMsg x24.In))] :: l) := fun z => ⟨h22, h23, ⟨rfl, sub_flat0 eGPart_len h25 5 (by decide)⟩, z⟩
      refine cond_some hF (fun h26 hF => ?_) (fun h26 hF => ?_)
      ·
        have hr := Option.some.inj hF
        subst hr
        have pz : HoldAll E H hn48 [.test (beqb (ile x24.P v20) false) false, .test (beqb (ile x24.P v20) false) false, .test (beqb (ile x24.P v20) false) false, .test (beqb (ile x24.P v20) false) false, .test (beqb (ile x24.P v20) false) false, .test (ile x24.P v20) true, .test (beqb true false) false, .test (beqb true false) false, .test (beqb true false) false, .test (beqb true false) false, .test (beqb true false) false, .test (beqb true false) false, .test true true, .test true true] := ⟨(beqb_ft h26), (beqb_ft h26), (beqb_ft h26), (beqb_ft h26), (beqb_ft h26), h26, (beqb_ft rfl), (beqb_ft rfl), (beqb_ft rfl), (beqb_ft rfl), (beqb_ft rfl), (beqb_ft rfl), rfl, rfl, trivial⟩
        exact loop_endC (h := hn48) (l := 0) (c := c48_0) (ts := F48_l0_0_S a6 v20 v21) (ts' := F48_l0_0_X0 a6 ()) (ex := .ret) (pq31 pz) (by kernel_rfl) trivial
      have pq32 : ∀ {l : List Cond}, HoldAll E H hn48 l → HoldAll E H hn48 (.test (beqb (ile x24.P v20) false) true :: .test (beqb (ile x24.P v20) false) true :: .test (beqb (ile x24.P v20) false) true :: .test (beqb (ile x24.P v20) false) true :: .test (beqb (ile x24.P v20) false) true :: .test (ile x24.P v20) false :: l) := fun z => ⟨(beqb_ff h26), (beqb_ff h26), (beqb_ff h26), (beqb_ff h26), (beqb_ff h26), h26, z⟩
      refine cond_some hF (fun h27 hF => ?_) (fun h27 hF => ?_)
      ·
        have hr := Option.some.inj hF
        subst hr
        have pz : HoldAll E H hn48 [.test (beqb (ige x24.P a6.Parts) false) false, .test (beqb (ige x24.P a6.Parts) false) false, .test (beqb (ige x24.P a6.Parts) false) false, .test (beqb (ige x24.P a6.Parts) false) false, .test (beqb (ige x24.P a6.Parts) false) false, .test (beqb (ige x24.P a6.Parts) false) false, .test (ige x24.P a6.Parts) true, .test true true] := ⟨(beqb_ft (ige_eq h27)), (beqb_ft (ige_eq h27)), (beqb_ft (ige_eq h27)), (beqb_ft (ige_eq h27)), (beqb_ft (ige_eq h27)), (beqb_ft (ige_eq h27)), (ige_eq h27), rfl, trivial⟩
        exact loop_endC (h := hn48) (l := 0) (c := c48_0) (ts := F48_l0_0_S a6 v20 v21) (ts' := F48_l0_0_X0 a6 ()) (ex := .ret) (pq31 (pq32 pz)) (by kernel_rfl) trivial
      have pq33 : ∀ {l : List Cond}, HoldAll E H hn48 l → HoldAll E H hn48 (.test (beqb (ige x24.P a6.Parts) false) true :: .test (beqb (ige x24.P a6.Parts) false) true :: .test (beqb (ige x24.P a6.Parts) false) true :: .test (beqb (ige x24.P a6.Parts) false) true :: .test (beqb (ige x24.P a6.Parts) false) true :: .int (wadd .i64 a6.Step 1) (wadd .i64 a6.Step 1) :: .test (beqb (ige x24.P a6.Parts) false) true :: .test (ige x24.P a6.Parts) false :: l) := fun z => ⟨(beqb_ff (ige_eq h27)), (beqb_ff (ige_eq h27)), (beqb_ff (ige_eq h27)), (beqb_ff (ige_eq h27)), (beqb_ff (ige_eq h27)), rfl, (beqb_ff (ige_eq h27)), (ige_eq h27), z⟩
      refine cond_some hF (fun h28 hF => ?_) (fun h28 hF => ?_)
      ·
        have pz : HoldAll E H hn48 [.test (ine x24.Step (wadd .i64 a6.Step 1)) false, .int (wadd .i64 v21 1) (wadd .i64 v21 1)] := ⟨(ine_t h28), rfl, trivial⟩
        have h0 := ih _ _ _ hF
        have hn := fun ex ts' => loop_nextC (h := hn48) (l := 0) (c := c48_0) (ts := F48_l0_0_S a6 v20 v21) (ts1 := (F48_l0_0_S a6 x24.P (wadd .i64 v21 1))) (ex := ex) (ts' := ts') (pq31 (pq32 (pq33 pz))) (by kernel_rfl)
        cases r with
        | inl w => exact hn _ _ h0
        | inr w => exact hn _ _ h0
      have hr := Option.some.inj hF
      subst hr
      have pz : HoldAll E H hn48 [.test (ine x24.Step (wadd .i64 a6.Step 1)) true] := ⟨(ine_f h28), trivial⟩
      exact loop_endC (h := hn48) (l := 0) (c := c48_0) (ts := F48_l0_0_S a6 v20 v21) (ts' := F48_l0_0_X0 a6 ()) (ex := .ret) (pq31 (pq32 (pq33 pz))) (by kernel_rfl) trivial
    have hr := Option.some.inj hF
    subst hr
    have pz : HoldAll E H hn48 [.test (ilt v21 (nlen (len a6.Came))) false] := ⟨h22, trivial⟩
    exact loop_endC (h := hn48) (l := 0) (c := c48_0) (ts := F48_l0_0_S a6 v20 v21) (ts' := F48_l0_0_X1 a6 ()) (ex := (.exit 0)) pz (by kernel_rfl) trivial

def F48 (K : Nat) (a6 : GBarrier) : Option (Bool) :=
  bif (ilt a6.Epoch 1) then
    (some false)
  else
  bif (ilt 1099511627776 a6.Epoch) then
    (some false)
  else
  bif (ilt a6.Step 0) then
    (some false)
  else
  bif (ile 40 a6.Step) then
    (some false)
  else
  bif (ilt a6.Parts 1) then
    (some false)
  else
  bif (ilt 6 a6.Parts) then
    (some false)
  else
  (F48_l0_0 K a6 K (-1) 0).bind fun y35 =>
  Sum.elim (fun w36 =>
    some false)
    (fun w37 =>
    some true) y35
theorem F48_ok (K : Nat) (a6 : GBarrier) (r : Bool) (hF : F48 K a6 = some r) : Evt E H 48 [.agg (eGBarrier a6)] (F48_res r) := by
  rw [F48] at hF
  refine cond_some hF (fun h7 hF => ?_) (fun h7 hF => ?_)
  ·
    have hr := Option.some.inj hF
    subst hr
    have pz : HoldAll E H hn48 [.test (beqb (ilt a6.Epoch 1) false) false, .test (beqb (ilt a6.Epoch 1) false) false, .test (beqb (ilt a6.Epoch 1) false) false, .test (ilt a6.Epoch 1) true, .test (beqb true false) false, .test (beqb true false) false, .test (beqb true false) false, .test true true, .test (beqb true false) false, .test (beqb true false) false, .test (beqb true false) false, .test true true, .test (beqb true false) false, .test (beqb true false) false, .test (beqb true false) false, .test true true, .test (beqb true false) false, .test (beqb true false) false, .test (beqb true false) false, .test true true, .test true true] := ⟨(beqb_ft h7), (beqb_ft h7), (beqb_ft h7), h7, (beqb_ft rfl), (beqb_ft rfl), (beqb_ft rfl), rfl, (beqb_ft rfl), (beqb_ft rfl), (beqb_ft rfl), rfl, (beqb_ft rfl), (beqb_ft rfl), (beqb_ft rfl), rfl, (beqb_ft rfl), (beqb_ft rfl), (beqb_ft rfl), rfl, rfl, trivial⟩
    exact fn_playC hn48 (f := 48) (ads := [.agg (eGBarrier a6)]) (r := F48_res false) pz (by kernel_rfl) (by kernel_rfl)
  have pq38 : ∀ {l : List Cond}, HoldAll E H hn48 l → HoldAll E H hn48 (.test (beqb (ilt a6.Epoch 1) false) true :: .test (beqb (ilt a6.Epoch 1) false) true :: .test (beqb (ilt a6.Epoch 1) false) true :: .test (ilt a6.Epoch 1) false :: l) := fun z => ⟨(beqb_ff h7), (beqb_ff h7), (beqb_ff h7), h7, z⟩
  refine cond_some hF (fun h8 hF => ?_) (fun h8 hF => ?_)
  ·
    have hr := Option.some.inj hF
    subst hr
    have pz : HoldAll E H hn48 [.test (beqb (igt a6.Epoch 1099511627776) false) false, .test (beqb (igt a6.Epoch 1099511627776) false) false, .test (beqb (igt a6.Epoch 1099511627776) false) false, .test (igt a6.Epoch 1099511627776) true, .test (beqb true false) false, .test (beqb true false) false, .test (beqb true false) false, .test true true, .test (beqb true false) false, .test (beqb true false) false, .test (beqb true false) false, .test true true, .test (beqb true false) false, .test (beqb true false) false, .test (beqb true false) false, .test true true, .test true true] := ⟨(beqb_ft (igt_eq h8)), (beqb_ft (igt_eq h8)), (beqb_ft (igt_eq h8)), (igt_eq h8), (beqb_ft rfl), (beqb_ft rfl), (beqb_ft rfl), rfl, (beqb_ft rfl), (beqb_ft rfl), (beqb_ft rfl), rfl, (beqb_ft rfl), (beqb_ft rfl), (beqb_ft rfl), rfl, rfl, trivial⟩
    exact fn_playC hn48 (f := 48) (ads := [.agg (eGBarrier a6)]) (r := F48_res false) (pq38 pz) (by kernel_rfl) (by kernel_rfl)
  have pq39 : ∀ {l : List Cond}, HoldAll E H hn48 l → HoldAll E H hn48 (.test (beqb (igt a6.Epoch 1099511627776) false) true :: .test (beqb (igt a6.Epoch 1099511627776) false) true :: .test (beqb (igt a6.Epoch 1099511627776) false) true :: .test (igt a6.Epoch 1099511627776) false :: l) := fun z => ⟨(beqb_ff (igt_eq h8)), (beqb_ff (igt_eq h8)), (beqb_ff (igt_eq h8)), (igt_eq h8), z⟩
  refine cond_some hF (fun h9 hF => ?_) (fun h9 hF => ?_)
  ·
    have hr := Option.some.inj hF
    subst hr
    have pz : HoldAll E H hn48 [.test (beqb (ilt a6.Step 0) false) false, .test (beqb (ilt a6.Step 0) false) false, .test (beqb (ilt a6.Step 0) false) false, .test (ilt a6.Step 0) true, .test (beqb true false) false, .test (beqb true false) false, .test (beqb true false) false, .test true true, .test (beqb true false) false, .test (beqb true false) false, .test (beqb true false) false, .test true true, .test true true] := ⟨(beqb_ft h9), (beqb_ft h9), (beqb_ft h9), h9, (beqb_ft rfl), (beqb_ft rfl), (beqb_ft rfl), rfl, (beqb_ft rfl), (beqb_ft rfl), (beqb_ft rfl), rfl, rfl, trivial⟩
    exact fn_playC hn48 (f := 48) (ads := [.agg (eGBarrier a6)]) (r := F48_res false) (pq38 (pq39 pz)) (by kernel_rfl) (by kernel_rfl)
  have pq40 : ∀ {l : List Cond}, HoldAll E H hn48 l → HoldAll E H hn48 (.test (beqb (ilt a6.Step 0) false) true :: .test (beqb (ilt a6.Step 0) false) true :: .test (beqb (ilt a6.Step 0) false) true :: .test (ilt a6.Step 0) false :: l) := fun z => ⟨(beqb_ff h9), (beqb_ff h9), (beqb_ff h9), h9, z⟩
  refine cond_some hF (fun h10 hF => ?_) (fun h10 hF => ?_)
  ·
    have hr := Option.some.inj hF
    subst hr
    have pz : HoldAll E H hn48 [.test (beqb (ige a6.Step 40) false) false, .test (beqb (ige a6.Step 40) false) false, .test (beqb (ige a6.Step 40) false) false, .test (ige a6.Step 40) true, .test (beqb true false) false, .test (beqb true false) false, .test (beqb true false) false, .test true true, .test true true] := ⟨(beqb_ft (ige_eq h10)), (beqb_ft (ige_eq h10)), (beqb_ft (ige_eq h10)), (ige_eq h10), (beqb_ft rfl), (beqb_ft rfl), (beqb_ft rfl), rfl, rfl, trivial⟩
    exact fn_playC hn48 (f := 48) (ads := [.agg (eGBarrier a6)]) (r := F48_res false) (pq38 (pq39 (pq40 pz))) (by kernel_rfl) (by kernel_rfl)
  have pq41 : ∀ {l : List Cond}, HoldAll E H hn48 l → HoldAll E H hn48 (.test (beqb (ige a6.Step 40) false) true :: .test (beqb (ige a6.Step 40) false) true :: .test (beqb (ige a6.Step 40) false) true :: .test (ige a6.Step 40) false :: l) := fun z => ⟨(beqb_ff (ige_eq h10)), (beqb_ff (ige_eq h10)), (beqb_ff (ige_eq h10)), (ige_eq h10), z⟩
  refine cond_some hF (fun h11 hF => ?_) (fun h11 hF => ?_)
  ·
    have hr := Option.some.inj hF
    subst hr
    have pz : HoldAll E H hn48 [.test (beqb (ilt a6.Parts 1) false) false, .test (beqb (ilt a6.Parts 1) false) false, .test (beqb (ilt a6.Parts 1) false) false, .test (ilt a6.Parts 1) true, .test true true] := ⟨(beqb_ft h11), (beqb_ft h11), (beqb_ft h11), h11, rfl, trivial⟩
    exact fn_playC hn48 (f := 48) (ads := [.agg (eGBarrier a6)]) (r := F48_res false) (pq38 (pq39 (pq40 (pq41 pz)))) (by kernel_rfl) (by kernel_rfl)
  have pq42 : ∀ {l : List Cond}, HoldAll E H hn48 l → HoldAll E H hn48 (.test (beqb (ilt a6.Parts 1) false) true :: .test (beqb (ilt a6.Parts 1) false) true :: .test (beqb (ilt a6.Parts 1) false) true :: .test (ilt a6.Parts 1) false :: l) := fun z => ⟨(beqb_ff h11), (beqb_ff h11), (beqb_ff h11), h11, z⟩
  refine cond_some hF (fun h12 hF => ?_) (fun h12 hF => ?_)
  ·
    have hr := Option.some.inj hF
    subst hr
    have pz : HoldAll E H hn48 [.test (igt a6.Parts 6) true] := ⟨(igt_eq h12), trivial⟩
    exact fn_playC hn48 (f := 48) (ads := [.agg (eGBarrier a6)]) (r := F48_res false) (pq38 (pq39 (pq40 (pq41 (pq42 pz))))) (by kernel_rfl) (by kernel_rfl)
  refine bind_some hF (fun y35 h34 hF => ?_)
  refine sum_some hF (fun w36 hx hF => ?_) (fun w37 hx hF => ?_)
  ·
    subst hx
    have hr := Option.some.inj hF
    subst hr
    have pz : HoldAll E H hn48 [.test (igt a6.Parts 6) false, .int (nlen (len a6.Came)) (nlen (len a6.Came)), .loop 0 c48_0 (F48_l0_0_S a6 (-1) 0) .ret (F48_l0_0_X0 a6 w36)] := ⟨(igt_eq h12), rfl, (F48_l0_0_ok K a6 K (-1) 0 _ h34), trivial⟩
    exact fn_playC hn48 (f := 48) (ads := [.agg (eGBarrier a6)]) (r := F48_res false) (pq38 (pq39 (pq40 (pq41 (pq42 pz))))) (by kernel_rfl) (by kernel_rfl)
  subst hx
  have hr := Option.some.inj hF
  subst hr
  have pz : HoldAll E H hn48 [.test (igt a6.Parts 6) false, .int (nlen (len a6.Came)) (nlen (len a6.Came)), .loop 0 c48_0 (F48_l0_0_S a6 (-1) 0) (.exit 0) (F48_l0_0_X1 a6 w37)] := ⟨(igt_eq h12), rfl, (F48_l0_0_ok K a6 K (-1) 0 _ h34), trivial⟩
  exact fn_playC hn48 (f := 48) (ads := [.agg (eGBarrier a6)]) (r := F48_res true) (pq38 (pq39 (pq40 (pq41 (pq42 pz))))) (by kernel_rfl) (by kernel_rfl)

/-! ### haywain/barrier.Begin -/
noncomputable def hn41 : Hint := { H 41 with nt := 18, prot := 0 }
def F41_res (r47 : GBarrier × Int) : Res := ⟨[(.agg [(.im (.lit (.int .i64 r47.1.Epoch))), (.im (.lit (.int .i64 r47.1.Step))), (.im (.lit (.int .i64 r47.1.Parts))), (.own 42 (.sl (len r47.1.Came) (flat eGPart r47.1.Came))), (.im (.lit (.bool r47.1.Over)))]), (.one (.im (.lit (.int .i64 r47.2))))], []⟩
def F41 (K : Nat) (a3 : Int) (a4 : Int) (a5 : Int) : Option (GBarrier × Int) :=
  (F48 K (GBarrier.mk a3 a4 a5 [] false)).bind fun r44 =>
  bif r44 then
    (some ((GBarrier.mk a3 a4 a5 [] false), 0))
  else
  some ((GBarrier.mk 0 0 0 [] false), 1)
theorem F41_ok (K : Nat) (a3 : Int) (a4 : Int) (a5 : Int) (r : GBarrier × Int) (hF : F41 K a3 a4 a5 = some r) : Evt E H 41 [.one (.lit (.int .i64 a3)), .one (.lit (.int .i64 a4)), .one (.lit (.int .i64 a5))] (F41_res r) := by
  rw [F41] at hF
  refine bind_some hF (fun r44 h45 hF => ?_)
  refine cond_some hF (fun h46 hF => ?_) (fun h46 hF => ?_)
  ·
    have hr := Option.some.inj hF
    subst hr
    have pz : HoldAll E H hn41 [.call 48 [.agg (eGBarrier (GBarrier.mk a3 a4 a5 [] false))] (F48_res r44), .test (leadsAny (Res.mk [(.one (.im (.lit (.bool r44))))] [])) false, .test (bnot r44) false] := ⟨(F48_ok K (GBarrier.mk a3 a4 a5 [] false) _ h45), (leads_ok (by simp only [leadsAny, List.any_cons, List.any_nil, RV.leads, RC.leads, leadsT, hasSl_lit, Bool.or_false, flat_ns (eInt_ns _), flat_ns eBool_ns, flat_ns eStr_ns, flat_ns eGJob_ns, flat_ns eGEdge_ns, flat_ns eGAsked_ns, flat_ns eGMsg_ns, flat_ns eGrule_ns, flat_ns eGA199_ns, flat_ns eGA202_ns])), (bnot_t h46), trivial⟩
    exact fn_playC hn41 (f := 41) (ads := [.one (.lit (.int .i64 a3)), .one (.lit (.int .i64 a4)), .one (.lit (.int .i64 a5))]) (r := F41_res ((GBarrier.mk a3 a4 a5 [] false), 0)) pz (by kernel_rfl) (by kernel_rfl)
  have hr := Option.some.inj hF
  subst hr
  have pz : HoldAll E H hn41 [.call 48 [.agg (eGBarrier (GBarrier.mk a3 a4 a5 [] false))] (F48_res r44), .test (leadsAny (Res.mk [(.one (.im (.lit (.bool r44))))] [])) false, .test (bnot r44) true] := ⟨(F48_ok K (GBarrier.mk a3 a4 a5 [] false) _ h45), (leads_ok (by simp only [leadsAny, List.any_cons, List.any_nil, RV.leads, RC.leads, leadsT, hasSl_lit, Bool.or_false, flat_ns (eInt_ns _), flat_ns eBool_ns, flat_ns eStr_ns, flat_ns eGJob_ns, flat_ns eGEdge_ns, flat_ns eGAsked_ns, flat_ns eGMsg_ns, flat_ns eGrule_ns, flat_ns eGA199_ns, flat_ns eGA202_ns])), (bnot_f h46), trivial⟩
  exact fn_playC hn41 (f := 41) (ads := [.one (.lit (.int .i64 a3)), .one (.lit (.int .i64 a4)), .one (.lit (.int .i64 a5))]) (r := F41_res ((GBarrier.mk 0 0 0 [] false), 1)) pz (by kernel_rfl) (by kernel_rfl)

/-! ### haywain/haywainref19.Right -/
noncomputable def hn49 : Hint := { H 49 with nt := 84, prot := 0 }
noncomputable def c49_0 : Code := loopOf E 49 0
def F49_res (r116 : Bool) : Res := ⟨[(.one (.im (.lit (.bool r116))))], []⟩
def F49_l0_0 (K : Nat) (a53 : GBarrier) : Nat → Bool → Int → Option (Bool)
  | 0, _, _ => none
  | k + 1, v67, v68 =>
    bif v67 then
      (bif (ilt v68 (nlen (len a53.Came))) then
        (bif (inr v68 (len a53.Came)) then
        (elAt a53.Came v68).bind fun x72 =>
        bif (ile 0 x72.P) then
          (bif (ilt x72.P a53.Parts) then
            (bif (ieq x72.Step (wadd .i64 a53.Step 1)) then
              (bif (ieq v68 0) then
                (F49_l0_0 K a53 k true (wadd .i64 v68 1))
              else
              bif (inr (wsub .i64 v68 1) (len a53.Came)) then
              (elAt a53.Came (wsub .i64 v68 1)).bind fun x79 =>
              F49_l0_0 K a53 k (ilt x79.P x72.P) (wadd .i64 v68 1)
              else none)
            else
            F49_l0_0 K a53 k false (wadd .i64 v68 1))
          else
          F49_l0_0 K a53 k false (wadd .i64 v68 1))
        else
        F49_l0_0 K a53 k false (wadd .i64 v68 1)
        else none)
      else
      some v67)
    else
    some v67
def F49_l0_0_S (a53 : GBarrier) (v67 : Bool) (v68 : Int) : TS := .on [64, 65, 66, 67, 68, 69, 192, 193, 256, 257] [(64, ⟨(.box 28 5), 0, nob⟩), (65, ⟨.im, 0, (.lit (.int .i64 a53.Epoch))⟩), (66, ⟨.im, 0, (.lit (.int .i64 a53.Step))⟩), (67, ⟨.im, 0, (.lit (.int .i64 a53.Parts))⟩), (68, ⟨.im, 0, (.sl (len a53.Came) (flat eGPart a53.Came))⟩), (69, ⟨.im, 0, (.lit (.bool a53.Over))⟩), (192, ⟨.one, 0, nob⟩), (193, ⟨.im, 0, (.lit (.bool v67))⟩), (256, ⟨.one, 0, nob⟩), (257, ⟨.im, 0, (.lit (.int .i64 v68))⟩)]
def F49_l0_0_X0 (a53 : GBarrier) (w81 : Bool) : TS := .on [192, 193] [(192, ⟨.one, 0, nob⟩), (193, ⟨.im, 0, (.lit (.bool w81))⟩)]
theorem F49_l0_0_ok (K : Nat) (a53 : GBarrier) : ∀ (k : Nat) (v67 : Bool) (v68 : Int) (r : Bool), F49_l0_0 K a53 k v67 v68 = some r → LoopEv E H hn49 0 c49_0 (F49_l0_0_S a53 v67 v68) (.exit 0) (F49_l0_0_X0 a53 r) := by
  intro k
  induction k with
  | zero => intro v67 v68 r hF; cases hF
  | succ k ih =>
    intro v67 v68 r hF
    rw [F49_l0_0] at hF
    refine cond_some hF (fun h69 hF => ?_) (fun h69 hF => ?_)
    ·
      have pq83 : ∀ {l : List Cond}, HoldAll E H hn49 l → HoldAll E H hn49 (.test (beqb v67 true) true :: .test (beqb v67 true) true :: .test (beqb v67 true) true :: .test (beqb v67 true) true :: .int (nlen (len a53.Came)) (nlen (len a53.Came)) :: .test (beqb v67 true) true :: .test v67 true :: l) := fun z => ⟨(beqb_t h69), (beqb_t h69), (beqb_t h69), (beqb_t h69), rfl, (beqb_t h69), h69, z⟩
      refine cond_some hF (fun h70 hF => ?_) (fun h70 hF => ?_)
      ·
        refine cond_some hF (fun h71 hF => ?_) (fun _ hF => nomatch hF)
        refine bind_some hF (fun x72 h73 hF => ?_)
        have pq84 : ∀ {l : List Cond}, HoldAll E H hn49 l → HoldAll E H hn49 (.test (ilt v68 (nlen (len a53.Came))) true :: .test (inr v68 (len a53.Came)) true :: .sub (flat eGPart a53.Came) (nidx v68 5) 5 [(.lit (.int .i64 x72.P)), (.lit (.int .i64 x72.Step)), (.sl (len x72.Vals) (flat (eInt .i64) x72.Vals)), (.sl (len x72.Rest) (flat eBool x72.Rest)), (.sl (len x72.In) (flat eGMsg x72.In))] :: l) := fun z => ⟨h70, h71, ⟨rfl, sub_flat0 eGPart_len h73 5 (by decide)⟩, z⟩
        refine cond_some hF (fun h74 hF => ?_) (fun h74 hF => ?_)
        ·
          have pq85 : ∀ {l : List Cond}, HoldAll E H hn49 l → HoldAll E H hn49 (.test (beqb (ige x72.P 0) true) true :: .test (beqb (ige x72.P 0) true) true :: .test (beqb (ige x72.P 0) true) true :: .test (beqb (ige x72.P 0) true) true :: .test (beqb (ige x72.P 0) true) true :: .test (ige x72.P 0) true :: l) := fun z => ⟨(beqb_t (ige_eq h74)), (beqb_t (ige_eq h74)), (beqb_t (ige_eq h74)), (beqb_t (ige_eq h74)), (beqb_t (ige_eq h74)), (ige_eq h74), z⟩
          refine cond_some hF (fun h75 hF => ?_) (fun h75 hF => ?_)
          ·
            have pq86 : ∀ {l : List Cond}, HoldAll E H hn49 l → HoldAll E H hn49 (.test (beqb (ilt x72.P a53.Parts) true) true :: .test (beqb (ilt x72.P a53.Parts) true) true :: .test (beqb (ilt x72.P a53.Parts) true) true :: .test (beqb (ilt x72.P a53.Parts) true) true :: .test (beqb (ilt x72.P a53.Parts) true) true :: .int (wadd .i64 a53.Step 1) (wadd .i64 a53.Step 1) :: .test (beqb (ilt x72.P a53.Parts) true) true :: .test (ilt x72.P a53.Parts) true :: l) := fun z => ⟨(beqb_t h75), (beqb_t h75), (beqb_t h75), (beqb_t h75), (beqb_t h75), rfl, (beqb_t h75), h75, z⟩
            refine cond_some hF (fun h76 hF => ?_) (fun h76 hF => ?_)
            ·
              have pq87 : ∀ {l : List Cond}, HoldAll E H hn49 l → HoldAll E H hn49 (.test (beqb (ieq x72.Step (wadd .i64 a53.Step 1)) true) true :: .test (beqb (ieq x72.Step (wadd .i64 a53.Step 1)) true) true :: .test (beqb (ieq x72.Step (wadd .i64 a53.Step 1)) true) true :: l) := fun z => ⟨(beqb_t h76), (beqb_t h76), (beqb_t h76), z⟩
              refine cond_some hF (fun h77 hF => ?_) (fun h77 hF => ?_)
              ·
                have pz : HoldAll E H hn49 [.test (beqb (ieq v68 0) false) false, .test (beqb (ieq v68 0) false) false, .test (beqb (ieq v68 0) false) false, .test (beqb (ieq v68 0) false) false, .test (beqb (ieq v68 0) false) false, .test (beqb (ieq v68 0) false) false, .test (beqb (ieq v68 0) false) false, .test (beqb (ieq v68 0) false) false, .test (beqb (ieq v68 0) false) false, .test (beqb (ieq v68 0) false) false, .test (beqb (ieq x72.Step (wadd .i64 a53.Step 1)) true) true, .test (ieq v68 0) true, .test (ieq x72.Step (wadd .i64 a53.Step 1)) true, .int (wadd .i64 v68 1) (wadd .i64 v68 1)] := ⟨(beqb_ft h77), (beqb_ft h77), (beqb_ft h77), (beqb_ft h77), (beqb_ft h77), (beqb_ft h77), (beqb_ft h77), (beqb_ft h77), (beqb_ft h77), (beqb_ft h77), (beqb_t h76), h77, h76, rfl, trivial⟩
                have h0 := ih _ _ _ hF
                have hn := fun ex ts' => loop_nextC (h := hn49) (l := 0) (c := c49_0) (ts := F49_l0_0_S a53 v67 v68) (ts1 := (F49_l0_0_S a53 true (wadd .i64 v68 1))) (ex := ex) (ts' := ts') (pq83 (pq84 (pq85 (pq86 (pq87 pz))))) (by kernel_rfl)
                exact hn _ _ h0
              refine cond_some hF (fun h78 hF => ?_) (fun _ hF => nomatch hF)
              refine bind_some hF (fun x79 h80 hF => ?_)
              have pz : HoldAll E H hn49 [.test (beqb (ieq v68 0) false) true, .test (beqb (ieq v68 0) false) true, .test (beqb (ieq v68 0) false) true, .test (beqb (ieq v68 0) false) true, .int (wsub .i64 v68 1) (wsub .i64 v68 1), .test (beqb (ieq v68 0) false) true, .test (inr (wsub .i64 v68 1) (len a53.Came)) true, .test (beqb (ieq v68 0) false) true, .test (beqb (ieq v68 0) false) true, .sub (flat eGPart a53.Came) (nadd (nidx (wsub .i64 v68 1) 5) 0) 1 [(.lit (.int .i64 x79.P))], .test (beqb (ieq v68 0) false) true, .test (beqb (ieq v68 0) false) true, .test (beqb (ieq v68 0) false) true, .test (beqb (ieq x72.Step (wadd .i64 a53.Step 1)) true) true, .test (ieq v68 0) false, .test (ieq x72.Step (wadd .i64 a53.Step 1)) true, .int (wadd .i64 v68 1) (wadd .i64 v68 1)] := ⟨(beqb_ff h77), (beqb_ff h77), (beqb_ff h77), (beqb_ff h77), rfl, (beqb_ff h77), h78, (beqb_ff h77), (beqb_ff h77), ⟨rfl, sub_flat eGPart_len h80 0 1 (by decide)⟩, (beqb_ff h77), (beqb_ff h77), (beqb_ff h77), (beqb_t h76), h77, h76, rfl, trivial⟩
              have h0 := ih _ _ _ hF
              have hn := fun ex ts' => loop_nextC (h := hn49) (l := 0) (c := c49_0) (ts := F49_l0_0_S a53 v67 v68) (ts1 := (F49_l0_0_S a53 (ilt x79.P x72.P) (wadd .i64 v68 1))) (ex := ex) (ts' := ts') (pq83 (pq84 (pq85 (pq86 (pq87 pz))))) (by kernel_rfl)
              exact hn _ _ h0
            have pz : HoldAll E H hn49 [.test (beqb (ieq x72.Step (wadd .i64 a53.Step 1)) true) false, .test (beqb (ieq x72.Step (wadd .i64 a53.Step 1)) true) false, .test (beqb (ieq x72.Step (wadd .i64 a53.Step 1)) true) false, .test (beqb (ieq x72.Step (wadd .i64 a53.Step 1)) true) false, .test (ieq x72.Step (wadd .i64 a53.Step 1)) false, .int (wadd .i64 v68 1) (wadd .i64 v68 1)] := ⟨(beqb_t h76), (beqb_t h76), (beqb_t h76), (beqb_t h76), h76, rfl, trivial⟩
            have h0 := ih _ _ _ hF
            have hn := fun ex ts' => loop_nextC (h := hn49) (l := 0) (c := c49_0) (ts := F49_l0_0_S a53 v67 v68) (ts1 := (F49_l0_0_S a53 false (wadd .i64 v68 1))) (ex := ex) (ts' := ts') (pq83 (pq84 (pq85 (pq86 pz)))) (by kernel_rfl)
            exact hn _ _ h0
          have pz : HoldAll E H hn49 [.test (beqb (ilt x72.P a53.Parts) true) false, .test (beqb (ilt x72.P a53.Parts) true) false, .test (beqb (ilt x72.P a53.Parts) true) false, .test (beqb (ilt x72.P a53.Parts) true) false, .test (beqb (ilt x72.P a53.Parts) true) false, .test (beqb (ilt x72.P a53.Parts) true) false, .test (ilt x72.P a53.Parts) false, .test (beqb false true) false, .test (beqb false true) false, .test (beqb false true) false, .test (beqb false true) false, .test false false, .int (wadd .i64 v68 1) (wadd .i64 v68 1)] := ⟨(beqb_t h75), (beqb_t h75), (beqb_t h75), (beqb_t h75), (beqb_t h75), (beqb_t h75), h75, (beqb_t rfl), (beqb_t rfl), (beqb_t rfl), (beqb_t rfl), rfl, rfl, trivial⟩
          have h0 := ih _ _ _ hF
          have hn := fun ex ts' => loop_nextC (h := hn49) (l := 0) (c := c49_0) (ts := F49_l0_0_S a53 v67 v68) (ts1 := (F49_l0_0_S a53 false (wadd .i64 v68 1))) (ex := ex) (ts' := ts') (pq83 (pq84 (pq85 pz))) (by kernel_rfl)
          exact hn _ _ h0
        have pz : HoldAll E H hn49 [.test (beqb (ige x72.P 0) true) false, .test (beqb (ige x72.P 0) true) false, .test (beqb (ige x72.P 0) true) false, .test (beqb (ige x72.P 0) true) false, .test (beqb (ige x72.P 0) true) false, .test (ige x72.P 0) false, .test (beqb false true) false, .test (beqb false true) false, .test (beqb false true) false, .test (beqb false true) false, .test (beqb false true) false, .test (beqb false true) false, .test false false, .test (beqb false true) false, .test (beqb false true) false, .test (beqb false true) false, .test (beqb false true) false, .test false false, .int (wadd .i64 v68 1) (wadd .i64 v68 1)] := ⟨(beqb_t (ige_eq h74)), (beqb_t (ige_eq h74)), (beqb_t (ige_eq h74)), (beqb_t (ige_eq h74)), (beqb_t (ige_eq h74)), (ige_eq h74), (beqb_t rfl), (beqb_t rfl), (beqb_t rfl), (beqb_t rfl), (beqb_t rfl), (beqb_t rfl), rfl, (beqb_t rfl), (beqb_t rfl), (beqb_t rfl), (beqb_t rfl), rfl, rfl, trivial⟩
        have h0 := ih _ _ _ hF
        have hn := fun ex ts' => loop_nextC (h := hn49) (l := 0) (c := c49_0) (ts := F49_l0_0_S a53 v67 v68) (ts1 := (F49_l0_0_S a53 false (wadd .i64 v68 1))) (ex := ex) (ts' := ts') (pq83 (pq84 pz)) (by kernel_rfl)
        exact hn _ _ h0
      have hr := Option.some.inj hF
      subst hr
      have pz : HoldAll E H hn49 [.test (ilt v68 (nlen (len a53.Came))) false] := ⟨h70, trivial⟩
      exact loop_endC (h := hn49) (l := 0) (c := c49_0) (ts := F49_l0_0_S a53 v67 v68) (ts' := F49_l0_0_X0 a53 v67) (ex := (.exit 0)) (pq83 pz) (by kernel_rfl) trivial
    have hr := Option.some.inj hF
    subst hr
    have pz : HoldAll E H hn49 [.test (beqb v67 true) false, .test (beqb v67 true) false, .test (beqb v67 true) false, .test (beqb v67 true) false, .test (beqb v67 true) false, .test v67 false, .test false false] := ⟨(beqb_t h69), (beqb_t h69), (beqb_t h69), (beqb_t h69), (beqb_t h69), h69, rfl, trivial⟩
    exact loop_endC (h := hn49) (l := 0) (c := c49_0) (ts := F49_l0_0_S a53 v67 v68) (ts' := F49_l0_0_X0 a53 v67) (ex := (.exit 0)) pz (by kernel_rfl) trivial

def F49_l0_1 (K : Nat) (a53 : GBarrier) : Nat → Option (Unit)
  | 0 => none
  | k + 1 =>
    some ()
def F49_l0_1_S (a53 : GBarrier)  : TS := .on [64, 65, 66, 67, 68, 69, 192, 193, 256, 257] [(64, ⟨(.box 28 5), 0, nob⟩), (65, ⟨.im, 0, (.lit (.int .i64 a53.Epoch))⟩), (66, ⟨.im, 0, (.lit (.int .i64 a53.Step))⟩), (67, ⟨.im, 0, (.lit (.int .i64 a53.Parts))⟩), (68, ⟨.im, 0, (.sl (len a53.Came) (flat eGPart a53.Came))⟩), (69, ⟨.im, 0, (.lit (.bool a53.Over))⟩), (192, ⟨.one, 0, nob⟩), (193, ⟨.im, 0, (.lit (.bool false))⟩), (256, ⟨.one, 0, nob⟩), (257, ⟨.im, 0, (.lit (.int .i64 0))⟩)]
def F49_l0_1_X0 (a53 : GBarrier) (w92 : Unit) : TS := .on [192, 193] [(192, ⟨.one, 0, nob⟩), (193, ⟨.im, 0, (.lit (.bool false))⟩)]
theorem F49_l0_1_ok (K : Nat) (a53 : GBarrier) : ∀ (k : Nat)  (r : Unit), F49_l0_1 K a53 k  = some r → LoopEv E H hn49 0 c49_0 (F49_l0_1_S a53 ) (.exit 0) (F49_l0_1_X0 a53 r) := by
  intro k
  induction k with
  | zero => intro  r hF; cases hF
  | succ k ih =>
    intro  r hF
    dsimp only [F49_l0_1] at hF
    have hr := Option.some.inj hF
    subst hr
    have pz : HoldAll E H hn49 [.test (beqb false true) false, .test (beqb false true) false, .test (beqb false true) false, .test (beqb false true) false, .test (beqb false true) false, .test false false, .test false false] := ⟨(beqb_t rfl), (beqb_t rfl), (beqb_t rfl), (beqb_t rfl), (beqb_t rfl), rfl, rfl, trivial⟩
    exact loop_endC (h := hn49) (l := 0) (c := c49_0) (ts := F49_l0_1_S a53 ) (ts' := F49_l0_1_X0 a53 ()) (ex := (.exit 0)) pz (by kernel_rfl) trivial

def F49_l0_2 (K : Nat) (a53 : GBarrier) : Nat → Option (Unit)
  | 0 => none
  | k + 1 =>
    some ()
def F49_l0_2_S (a53 : GBarrier)  : TS := .on [64, 65, 66, 67, 68, 69, 192, 193, 256, 257] [(64, ⟨(.box 28 5), 0, nob⟩), (65, ⟨.im, 0, (.lit (.int .i64 a53.Epoch))⟩), (66, ⟨.im, 0, (.lit (.int .i64 a53.Step))⟩), (67, ⟨.im, 0, (.lit (.int .i64 a53.Parts))⟩), (68, ⟨.im, 0, (.sl (len a53.Came) (flat eGPart a53.Came))⟩), (69, ⟨.im, 0, (.lit (.bool a53.Over))⟩), (192, ⟨.one, 0, nob⟩), (193, ⟨.im, 0, (.lit (.bool false))⟩), (256, ⟨.one, 0, nob⟩), (257, ⟨.im, 0, (.lit (.int .i64 0))⟩)]
def F49_l0_2_X0 (a53 : GBarrier) (w96 : Unit) : TS := .on [192, 193] [(192, ⟨.one, 0, nob⟩), (193, ⟨.im, 0, (.lit (.bool false))⟩)]
theorem F49_l0_2_ok (K : Nat) (a53 : GBarrier) : ∀ (k : Nat)  (r : Unit), F49_l0_2 K a53 k  = some r → LoopEv E H hn49 0 c49_0 (F49_l0_2_S a53 ) (.exit 0) (F49_l0_2_X0 a53 r) := by
  intro k
  induction k with
  | zero => intro  r hF; cases hF
  | succ k ih =>
    intro  r hF
    dsimp only [F49_l0_2] at hF
    have hr := Option.some.inj hF
    subst hr
    have pz : HoldAll E H hn49 [.test (beqb false true) false, .test (beqb false true) false, .test (beqb false true) false, .test (beqb false true) false, .test (beqb false true) false, .test false false, .test false false] := ⟨(beqb_t rfl), (beqb_t rfl), (beqb_t rfl), (beqb_t rfl), (beqb_t rfl), rfl, rfl, trivial⟩
    exact loop_endC (h := hn49) (l := 0) (c := c49_0) (ts := F49_l0_2_S a53 ) (ts' := F49_l0_2_X0 a53 ()) (ex := (.exit 0)) pz (by kernel_rfl) trivial

def F49_l0_3 (K : Nat) (a53 : GBarrier) : Nat → Option (Unit)
  | 0 => none
  | k + 1 =>
    some ()
def F49_l0_3_S (a53 : GBarrier)  : TS := .on [64, 65, 66, 67, 68, 69, 192, 193, 256, 257] [(64, ⟨(.box 28 5), 0, nob⟩), (65, ⟨.im, 0, (.lit (.int .i64 a53.Epoch))⟩), (66, ⟨.im, 0, (.lit (.int .i64 a53.Step))⟩), (67, ⟨.im, 0, (.lit (.int .i64 a53.Parts))⟩), (68, ⟨.im, 0, (.sl (len a53.Came) (flat eGPart a53.Came))⟩), (69, ⟨.im, 0, (.lit (.bool a53.Over))⟩), (192, ⟨.one, 0, nob⟩), (193, ⟨.im, 0, (.lit (.bool false))⟩), (256, ⟨.one, 0, nob⟩), (257, ⟨.im, 0, (.lit (.int .i64 0))⟩)]
def F49_l0_3_X0 (a53 : GBarrier) (w100 : Unit) : TS := .on [192, 193] [(192, ⟨.one, 0, nob⟩), (193, ⟨.im, 0, (.lit (.bool false))⟩)]
theorem F49_l0_3_ok (K : Nat) (a53 : GBarrier) : ∀ (k : Nat)  (r : Unit), F49_l0_3 K a53 k  = some r → LoopEv E H hn49 0 c49_0 (F49_l0_3_S a53 ) (.exit 0) (F49_l0_3_X0 a53 r) := by
  intro k
  induction k with
  | zero => intro  r hF; cases hF
  | succ k ih =>
    intro  r hF
    dsimp only [F49_l0_3] at hF
    have hr := Option.some.inj hF
    subst hr
    have pz : HoldAll E H hn49 [.test (beqb false true) false, .test (beqb false true) false, .test (beqb false true) false, .test (beqb false true) false, .test (beqb false true) false, .test false false, .test false false] := ⟨(beqb_t rfl), (beqb_t rfl), (beqb_t rfl), (beqb_t rfl), (beqb_t rfl), rfl, rfl, trivial⟩
    exact loop_endC (h := hn49) (l := 0) (c := c49_0) (ts := F49_l0_3_S a53 ) (ts' := F49_l0_3_X0 a53 ()) (ex := (.exit 0)) pz (by kernel_rfl) trivial

def F49_l0_4 (K : Nat) (a53 : GBarrier) : Nat → Option (Unit)
  | 0 => none
  | k + 1 =>
    some ()
def F49_l0_4_S (a53 : GBarrier)  : TS := .on [64, 65, 66, 67, 68, 69, 192, 193, 256, 257] [(64, ⟨(.box 28 5), 0, nob⟩), (65, ⟨.im, 0, (.lit (.int .i64 a53.Epoch))⟩), (66, ⟨.im, 0, (.lit (.int .i64 a53.Step))⟩), (67, ⟨.im, 0, (.lit (.int .i64 a53.Parts))⟩), (68, ⟨.im, 0, (.sl (len a53.Came) (flat eGPart a53.Came))⟩), (69, ⟨.im, 0, (.lit (.bool a53.Over))⟩), (192, ⟨.one, 0, nob⟩), (193, ⟨.im, 0, (.lit (.bool false))⟩), (256, ⟨.one, 0, nob⟩), (257, ⟨.im, 0, (.lit (.int .i64 0))⟩)]
def F49_l0_4_X0 (a53 : GBarrier) (w104 : Unit) : TS := .on [192, 193] [(192, ⟨.one, 0, nob⟩), (193, ⟨.im, 0, (.lit (.bool false))⟩)]
theorem F49_l0_4_ok (K : Nat) (a53 : GBarrier) : ∀ (k : Nat)  (r : Unit), F49_l0_4 K a53 k  = some r → LoopEv E H hn49 0 c49_0 (F49_l0_4_S a53 ) (.exit 0) (F49_l0_4_X0 a53 r) := by
  intro k
  induction k with
  | zero => intro  r hF; cases hF
  | succ k ih =>
    intro  r hF
    dsimp only [F49_l0_4] at hF
    have hr := Option.some.inj hF
    subst hr
    have pz : HoldAll E H hn49 [.test (beqb false true) false, .test (beqb false true) false, .test (beqb false true) false, .test (beqb false true) false, .test (beqb false true) false, .test false false, .test false false] := ⟨(beqb_t rfl), (beqb_t rfl), (beqb_t rfl), (beqb_t rfl), (beqb_t rfl), rfl, rfl, trivial⟩
    exact loop_endC (h := hn49) (l := 0) (c := c49_0) (ts := F49_l0_4_S a53 ) (ts' := F49_l0_4_X0 a53 ()) (ex := (.exit 0)) pz (by kernel_rfl) trivial

def F49_l0_5 (K : Nat) (a53 : GBarrier) : Nat → Option (Unit)
  | 0 => none
  | k + 1 =>
    some ()
def F49_l0_5_S (a53 : GBarrier)  : TS := .on [64, 65, 66, 67, 68, 69, 192, 193, 256, 257] [(64, ⟨(.box 28 5), 0, nob⟩), (65, ⟨.im, 0, (.lit (.int .i64 a53.Epoch))⟩), (66, ⟨.im, 0, (.lit (.int .i64 a53.Step))⟩), (67, ⟨.im, 0, (.lit (.int .i64 a53.Parts))⟩), (68, ⟨.im, 0, (.sl (len a53.Came) (flat eGPart a53.Came))⟩), (69, ⟨.im, 0, (.lit (.bool a53.Over))⟩), (192, ⟨.one, 0, nob⟩), (193, ⟨.im, 0, (.lit (.bool false))⟩), (256, ⟨.one, 0, nob⟩), (257, ⟨.im, 0, (.lit (.int .i64 0))⟩)]
def F49_l0_5_X0 (a53 : GBarrier) (w108 : Unit) : TS := .on [192, 193] [(192, ⟨.one, 0, nob⟩), (193, ⟨.im, 0, (.lit (.bool false))⟩)]
theorem F49_l0_5_ok (K : Nat) (a53 : GBarrier) : ∀ (k : Nat)  (r : Unit), F49_l0_5 K a53 k  = some r → LoopEv E H hn49 0 c49_0 (F49_l0_5_S a53 ) (.exit 0) (F49_l0_5_X0 a53 r) := by
  intro k
  induction k with
  | zero => intro  r hF; cases hF
  | succ k ih =>
    intro  r hF
    dsimp only [F49_l0_5] at hF
    have hr := Option.some.inj hF
    subst hr
    have pz : HoldAll E H hn49 [.test (beqb false true) false, .test (beqb false true) false, .test (beqb false true) false, .test (beqb false true) false, .test (beqb false true) false, .test false false, .test false false] := ⟨(beqb_t rfl), (beqb_t rfl), (beqb_t rfl), (beqb_t rfl), (beqb_t rfl), rfl, rfl, trivial⟩
    exact loop_endC (h := hn49) (l := 0) (c := c49_0) (ts := F49_l0_5_S a53 ) (ts' := F49_l0_5_X0 a53 ()) (ex := (.exit 0)) pz (by kernel_rfl) trivial

def F49 (K : Nat) (a53 : GBarrier) : Option (Bool) :=
  bif (ile 1 a53.Epoch) then
    (bif (ile a53.Epoch 1099511627776) then
      (bif (ile 0 a53.Step) then
        (bif (ile a53.Step 39) then
          (bif (ile 1 a53.Parts) then
            ((F49_l0_0 K a53 K (ile a53.Parts 6) 0).bind fun w90 =>
            some w90)
          else
          (F49_l0_1 K a53 K ).bind fun w95 =>
          some false)
        else
        (F49_l0_2 K a53 K ).bind fun w99 =>
        some false)
      else
      (F49_l0_3 K a53 K ).bind fun w103 =>
      some false)
    else
    (F49_l0_4 K a53 K ).bind fun w107 =>
    some false)
  else
  (F49_l0_5 K a53 K ).bind fun w111 =>
  some false
theorem F49_ok (K : Nat) (a53 : GBarrier) (r : Bool) (hF : F49 K a53 = some r) : Evt E H 49 [.agg (eGBarrier a53)] (F49_res r) := by
  rw [F49] at hF
  refine cond_some hF (fun h54 hF => ?_) (fun h54 hF => ?_)
  ·
    have pq112 : ∀ {l : List Cond}, HoldAll E H hn49 l → HoldAll E H hn49 (.test (beqb (ige a53.Epoch 1) true) true :: .test (beqb (ige a53.Epoch 1) true) true :: .test (beqb (ige a53.Epoch 1) true) true :: .test (ige a53.Epoch 1) true :: l) := fun z => ⟨(beqb_t (ige_eq h54)), (beqb_t (ige_eq h54)), (beqb_t (ige_eq h54)), (ige_eq h54), z⟩
    refine cond_some hF (fun h55 hF => ?_) (fun h55 hF => ?_)
    ·
      have pq113 : ∀ {l : List Cond}, HoldAll E H hn49 l → HoldAll E H hn49 (.test (beqb (ile a53.Epoch 1099511627776) true) true :: .test (beqb (ile a53.Epoch 1099511627776) true) true :: .test (beqb (ile a53.Epoch 1099511627776) true) true :: .test (ile a53.Epoch 1099511627776) true :: l) := fun z => ⟨(beqb_t h55), (beqb_t h55), (beqb_t h55), h55, z⟩
      refine cond_some hF (fun h56 hF => ?_) (fun h56 hF => ?_)
      ·
        have pq114 : ∀ {l : List Cond}, HoldAll E H hn49 l → HoldAll E H hn49 (.test (beqb (ige a53.Step 0) true) true :: .test (beqb (ige a53.Step 0) true) true :: .test (beqb (ige a53.Step 0) true) true :: .test (ige a53.Step 0) true :: l) := fun z => ⟨(beqb_t (ige_eq h56)), (beqb_t (ige_eq h56)), (beqb_t (ige_eq h56)), (ige_eq h56), z⟩
        refine cond_some hF (fun h57 hF => ?_) (fun h57 hF => ?_)
        ·
          have pq115 : ∀ {l : List Cond}, HoldAll E H hn49 l → HoldAll E H hn49 (.test (beqb (ile a53.Step 39) true) true :: .test (beqb (ile a53.Step 39) true) true :: .test (beqb (ile a53.Step 39) true) true :: .test (ile a53.Step 39) true :: l) := fun z => ⟨(beqb_t h57), (beqb_t h57), (beqb_t h57), h57, z⟩
          refine cond_some hF (fun h58 hF => ?_) (fun h58 hF => ?_)
          ·
            refine bind_some hF (fun w90 h88 hF => ?_)
            have hr := Option.some.inj hF
            subst hr
            have pz : HoldAll E H hn49 [.test (beqb (ige a53.Parts 1) true) true, .test (beqb (ige a53.Parts 1) true) true, .test (beqb (ige a53.Parts 1) true) true, .test (ige a53.Parts 1) true, .loop 0 c49_0 (F49_l0_0_S a53 (ile a53.Parts 6) 0) (.exit 0) (F49_l0_0_X0 a53 w90)] := ⟨(beqb_t (ige_eq h58)), (beqb_t (ige_eq h58)), (beqb_t (ige_eq h58)), (ige_eq h58), (F49_l0_0_ok K a53 K (ile a53.Parts 6) 0 _ h88), trivial⟩
            exact fn_playC hn49 (f := 49) (ads := [.agg (eGBarrier a53)]) (r := F49_res w90) (pq112 (pq113 (pq114 (pq115 pz)))) (by kernel_rfl) (by kernel_rfl)
          refine bind_some hF (fun w95 h93 hF => ?_)
          have hr := Option.some.inj hF
          subst hr
          have pz : HoldAll E H hn49 [.test (beqb (ige a53.Parts 1) true) false, .test (beqb (ige a53.Parts 1) true) false, .test (beqb (ige a53.Parts 1) true) false, .test (ige a53.Parts 1) false, .loop 0 c49_0 (F49_l0_1_S a53 ) (.exit 0) (F49_l0_1_X0 a53 w95)] := ⟨(beqb_t (ige_eq h58)), (beqb_t (ige_eq h58)), (beqb_t (ige_eq h58)), (ige_eq h58), (F49_l0_1_ok K a53 K  _ h93), trivial⟩
          exact fn_playC hn49 (f := 49) (ads := [.agg (eGBarrier a53)]) (r := F49_res false) (pq112 (pq113 (pq114 (pq115 pz)))) (by kernel_rfl) (by kernel_rfl)
        refine bind_some hF (fun w99 h97 hF => ?_)
        have hr := Option.some.inj hF
        subst hr
        have pz : HoldAll E H hn49 [.test (beqb (ile a53.Step 39) true) false, .test (beqb (ile a53.Step 39) true) false, .test (beqb (ile a53.Step 39) true) false, .test (ile a53.Step 39) false, .test (beqb false true) false, .test (beqb false true) false, .test (beqb false true) false, .test false false, .loop 0 c49_0 (F49_l0_2_S a53 ) (.exit 0) (F49_l0_2_X0 a53 w99)] := ⟨(beqb_t h57), (beqb_t h57), (beqb_t h57), h57, (beqb_t rfl), (beqb_t rfl), (beqb_t rfl), rfl, (F49_l0_2_ok K a53 K  _ h97), trivial⟩
        exact fn_playC hn49 (f := 49) (ads := [.agg (eGBarrier a53)]) (r := F49_res false) (pq112 (pq113 (pq114 pz))) (by kernel_rfl) (by kernel_rfl)
      refine bind_some hF (fun w103 h101 hF => ?_)
      have hr := Option.some.inj hF
      subst hr
      have pz : HoldAll E H hn49 [.test (beqb (ige a53.Step 0) true) false, .test (beqb (ige a53.Step 0) true) false, .test (beqb (ige a53.Step 0) true) false, .test (ige a53.Step 0) false, .test (beqb false true) false, .test (beqb false true) false, .test (beqb false true) false, .test false false, .test (beqb false true) false, .test (beqb false true) false, .test (beqb false true) false, .test false false, .loop 0 c49_0 (F49_l0_3_S a53 ) (.exit 0) (F49_l0_3_X0 a53 w103)] := ⟨(beqb_t (ige_eq h56)), (beqb_t (ige_eq h56)), (beqb_t (ige_eq h56)), (ige_eq h56), (beqb_t rfl), (beqb_t rfl), (beqb_t rfl), rfl, (beqb_t rfl), (beqb_t rfl), (beqb_t rfl), rfl, (F49_l0_3_ok K a53 K  _ h101), trivial⟩
      exact fn_playC hn49 (f := 49) (ads := [.agg (eGBarrier a53)]) (r := F49_res false) (pq112 (pq113 pz)) (by kernel_rfl) (by kernel_rfl)
    refine bind_some hF (fun w107 h105 hF => ?_)
    have hr := Option.some.inj hF
    subst hr
    have pz : HoldAll E H hn49 [.test (beqb (ile a53.Epoch 1099511627776) true) false, .test (beqb (ile a53.Epoch 1099511627776) true) false, .test (beqb (ile a53.Epoch 1099511627776) true) false, .test (ile a53.Epoch 1099511627776) false, .test (beqb false true) false, .test (beqb false true) false, .test (beqb false true) false, .test false false, .test (beqb false true) false, .test (beqb false true) false, .test (beqb false true) false, .test false false, .test (beqb false true) false, .test (beqb false true) false, .test (beqb false true) false, .test false false, .loop 0 c49_0 (F49_l0_4_S a53 ) (.exit 0) (F49_l0_4_X0 a53 w107)] := ⟨(beqb_t h55), (beqb_t h55), (beqb_t h55), h55, (beqb_t rfl), (beqb_t rfl), (beqb_t rfl), rfl, (beqb_t rfl), (beqb_t rfl), (beqb_t rfl), rfl, (beqb_t rfl), (beqb_t rfl), (beqb_t rfl), rfl, (F49_l0_4_ok K a53 K  _ h105), trivial⟩
    exact fn_playC hn49 (f := 49) (ads := [.agg (eGBarrier a53)]) (r := F49_res false) (pq112 pz) (by kernel_rfl) (by kernel_rfl)
  refine bind_some hF (fun w111 h109 hF => ?_)
  have hr := Option.some.inj hF
  subst hr
  have pz : HoldAll E H hn49 [.test (beqb (ige a53.Epoch 1) true) false, .test (beqb (ige a53.Epoch 1) true) false, .test (beqb (ige a53.Epoch 1) true) false, .test (ige a53.Epoch 1) false, .test (beqb false true) false, .test (beqb false true) false, .test (beqb false true) false, .test false false, .test (beqb false true) false, .test (beqb false true) false, .test (beqb false true) false, .test false false, .test (beqb false true) false, .test (beqb false true) false, .test (beqb false true) false, .test false false, .test (beqb false true) false, .test (beqb false true) false, .test (beqb false true) false, .test false false, .loop 0 c49_0 (F49_l0_5_S a53 ) (.exit 0) (F49_l0_5_X0 a53 w111)] := ⟨(beqb_t (ige_eq h54)), (beqb_t (ige_eq h54)), (beqb_t (ige_eq h54)), (ige_eq h54), (beqb_t rfl), (beqb_t rfl), (beqb_t rfl), rfl, (beqb_t rfl), (beqb_t rfl), (beqb_t rfl), rfl, (beqb_t rfl), (beqb_t rfl), (beqb_t rfl), rfl, (beqb_t rfl), (beqb_t rfl), (beqb_t rfl), rfl, (F49_l0_5_ok K a53 K  _ h109), trivial⟩
  exact fn_playC hn49 (f := 49) (ads := [.agg (eGBarrier a53)]) (r := F49_res false) pz (by kernel_rfl) (by kernel_rfl)

/-! ### haywain/haywainref19.Begin -/
noncomputable def hn42 : Hint := { H 42 with nt := 18, prot := 0 }
def F42_res (r120 : GBarrier × Int) : Res := ⟨[(.agg [(.im (.lit (.int .i64 r120.1.Epoch))), (.im (.lit (.int .i64 r120.1.Step))), (.im (.lit (.int .i64 r120.1.Parts))), (.own 42 (.sl (len r120.1.Came) (flat eGPart r120.1.Came))), (.im (.lit (.bool r120.1.Over)))]), (.one (.im (.lit (.int .i64 r120.2))))], []⟩
def F42 (K : Nat) (a50 : Int) (a51 : Int) (a52 : Int) : Option (GBarrier × Int) :=
  (F49 K (GBarrier.mk a50 a51 a52 [] false)).bind fun r117 =>
  bif r117 then
    (some ((GBarrier.mk a50 a51 a52 [] false), 0))
  else
  some ((GBarrier.mk 0 0 0 [] false), 1)
theorem F42_ok (K : Nat) (a50 : Int) (a51 : Int) (a52 : Int) (r : GBarrier × Int) (hF : F42 K a50 a51 a52 = some r) : Evt E H 42 [.one (.lit (.int .i64 a50)), .one (.lit (.int .i64 a51)), .one (.lit (.int .i64 a52))] (F42_res r) := by
  rw [F42] at hF
  refine bind_some hF (fun r117 h118 hF => ?_)
  refine cond_some hF (fun h119 hF => ?_) (fun h119 hF => ?_)
  ·
    have hr := Option.some.inj hF
    subst hr
    have pz : HoldAll E H hn42 [.call 49 [.agg (eGBarrier (GBarrier.mk a50 a51 a52 [] false))] (F49_res r117), .test (leadsAny (Res.mk [(.one (.im (.lit (.bool r117))))] [])) false, .test (bnot r117) false] := ⟨(F49_ok K (GBarrier.mk a50 a51 a52 [] false) _ h118), (leads_ok (by simp only [leadsAny, List.any_cons, List.any_nil, RV.leads, RC.leads, leadsT, hasSl_lit, Bool.or_false, flat_ns (eInt_ns _), flat_ns eBool_ns, flat_ns eStr_ns, flat_ns eGJob_ns, flat_ns eGEdge_ns, flat_ns eGAsked_ns, flat_ns eGMsg_ns, flat_ns eGrule_ns, flat_ns eGA199_ns, flat_ns eGA202_ns])), (bnot_t h119), trivial⟩
    exact fn_playC hn42 (f := 42) (ads := [.one (.lit (.int .i64 a50)), .one (.lit (.int .i64 a51)), .one (.lit (.int .i64 a52))]) (r := F42_res ((GBarrier.mk a50 a51 a52 [] false), 0)) pz (by kernel_rfl) (by kernel_rfl)
  have hr := Option.some.inj hF
  subst hr
  have pz : HoldAll E H hn42 [.call 49 [.agg (eGBarrier (GBarrier.mk a50 a51 a52 [] false))] (F49_res r117), .test (leadsAny (Res.mk [(.one (.im (.lit (.bool r117))))] [])) false, .test (bnot r117) true] := ⟨(F49_ok K (GBarrier.mk a50 a51 a52 [] false) _ h118), (leads_ok (by simp only [leadsAny, List.any_cons, List.any_nil, RV.leads, RC.leads, leadsT, hasSl_lit, Bool.or_false, flat_ns (eInt_ns _), flat_ns eBool_ns, flat_ns eStr_ns, flat_ns eGJob_ns, flat_ns eGEdge_ns, flat_ns eGAsked_ns, flat_ns eGMsg_ns, flat_ns eGrule_ns, flat_ns eGA199_ns, flat_ns eGA202_ns])), (bnot_f h119), trivial⟩
  exact fn_playC hn42 (f := 42) (ads := [.one (.lit (.int .i64 a50)), .one (.lit (.int .i64 a51)), .one (.lit (.int .i64 a52))]) (r := F42_res ((GBarrier.mk 0 0 0 [] false), 1)) pz (by kernel_rfl) (by kernel_rfl)

/-! ### haywain/haywainlaw19.as -/
noncomputable def hn44 : Hint := { H 44 with nt := 14, prot := 0 }
def F44_res (r124 : GBarrier) : Res := ⟨[(.agg [(.im (.lit (.int .i64 r124.Epoch))), (.im (.lit (.int .i64 r124.Step))), (.im (.lit (.int .i64 r124.Parts))), (.im (.sl (len r124.Came) (flat eGPart r124.Came))), (.im (.lit (.bool r124.Over)))])], []⟩
def F44 (K : Nat) (a123 : GBarrier) : Option (GBarrier) :=
  some a123
theorem F44_ok (K : Nat) (a123 : GBarrier) (r : GBarrier) (hF : F44 K a123 = some r) : Evt E H 44 [.agg (eGBarrier a123)] (F44_res r) := by
  rw [F44] at hF
  have hr := Option.some.inj hF
  subst hr
  have pz : HoldAll E H hn44 [] := trivial
  exact fn_playC hn44 (f := 44) (ads := [.agg (eGBarrier a123)]) (r := F44_res a123) pz (by kernel_rfl) (by kernel_rfl)

/-! ### haywain/haywainref06.SameVals -/
noncomputable def hn140 : Hint := { H 140 with nt := 26, prot := 0 }
noncomputable def c140_0 : Code := loopOf E 140 0
def F140_res (r175 : Bool) : Res := ⟨[(.one (.im (.lit (.bool r175))))], []⟩
def F140_l0_0 (K : Nat) (a147 : List Int) (a148 : List Int) : Nat → Int → Option ((Unit) ⊕ (Unit))
  | 0, _ => none
  | k + 1, v158 =>
    bif (ilt v158 (nlen (len a147))) then
      (bif (inr v158 (len a147)) then
      (elAt a147 v158).bind fun x161 =>
      bif (inr v158 (len a148)) then
      (elAt a148 v158).bind fun x164 =>
      bif (ieq x161 x164) then
        (F140_l0_0 K a147 a148 k (wadd .i64 v158 1))
      else
      some (.inl ())
      else none
      else none)
    else
    some (.inr ())
def F140_l0_0_S (a147 : List Int) (a148 : List Int) (v158 : Int) : TS := .on [0, 1, 64, 65, 320, 321] [(0, ⟨.one, 0, nob⟩), (1, ⟨.im, 0, (.sl (len a147) (flat (eInt .i64) a147))⟩), (64, ⟨.one, 0, nob⟩), (65, ⟨.im, 0, (.sl (len a148) (flat (eInt .i64) a148))⟩), (320, ⟨.one, 0, nob⟩), (321, ⟨.im, 0, (.lit (.int .i64 v158))⟩)]
def F140_l0_0_X0 (a147 : List Int) (a148 : List Int) (w167 : Unit) : TS := .on [256, 257] [(256, ⟨.one, 0, nob⟩), (257, ⟨.im, 0, (.lit (.bool false))⟩)]
def F140_l0_0_X1 (a147 : List Int) (a148 : List Int) (w168 : Unit) : TS := .on [] []
theorem F140_l0_0_ok (K : Nat) (a147 : List Int) (a148 : List Int) : ∀ (k : Nat) (v158 : Int) (r : (Unit) ⊕ (Unit)), F140_l0_0 K a147 a148 k v158 = some r → (Sum.elim (fun w => LoopEv E H hn140 0 c140_0 (F140_l0_0_S a147 a148 v158) .ret (F140_l0_0_X0 a147 a148 w)) (fun w => LoopEv E H hn140 0 c140_0 (F140_l0_0_S a147 a148 v158) (.exit 0) (F140_l0_0_X1 a147 a148 w))) r := by
  intro k
  induction k with
  | zero => intro v158 r hF; cases hF
  | succ k ih =>
    intro v158 r hF
    rw [F140_l0_0] at hF
    refine cond_some hF (fun h159 hF => ?_) (fun h159 hF => ?_)
    ·
      refine cond_some hF (fun h160 hF => ?_) (fun _ hF => nomatch hF)
      refine bind_some hF (fun x161 h162 hF => ?_)
      refine cond_some hF (fun h163 hF => ?_) (fun _ hF => nomatch hF)
      refine bind_some hF (fun x164 h165 hF => ?_)
      have pq169 : ∀ {l : List Cond}, HoldAll E H hn140 l → HoldAll E H hn140 (.int (nlen (len a147)) (nlen (len a147)) :: .test (ilt v158 (nlen (len a147))) true :: .test (inr v158 (len a147)) true :: .sub (flat (eInt .i64) a147) (nidx v158 1) 1 [(.lit (.int .i64 x161))] :: .test (inr v158 (len a148)) true :: .sub (flat (eInt .i64) a148) (nidx v158 1) 1 [(.lit (.int .i64 x164))] :: l) := fun z => ⟨rfl, h159, h160, ⟨rfl, sub_flat0 (eInt_len _) h162 1 (by decide)⟩, h163, ⟨rfl, sub_flat0 (eInt_len _) h165 1 (by decide)⟩, z⟩
      refine cond_some hF (fun h166 hF => ?_) (fun h166 hF => ?_)
      ·
        have pz : HoldAll E H hn140 [.test (ine x161 x164) false, .int (wadd .i64 v158 1) (wadd .i64 v158 1)] := ⟨(ine_t h166), rfl, trivial⟩
        have h0 := ih _ _ hF
        have hn := fun ex ts' => loop_nextC (h := hn140) (l := 0) (c := c140_0) (ts := F140_l0_0_S a147 a148 v158) (ts1 := (F140_l0_0_S a147 a148 (wadd .i64 v158 1))) (ex := ex) (ts' := ts') (pq169 pz) (by kernel_rfl)
        cases r with
        | inl w => exact hn _ _ h0
        | inr w => exact hn _ _ h0
      have hr := Option.some.inj hF
      subst hr
      have pz : HoldAll E H hn140 [.test (ine x161 x164) true] := ⟨(ine_f h166), trivial⟩
      exact loop_endC (h := hn140) (l := 0) (c := c140_0) (ts := F140_l0_0_S a147 a148 v158) (ts' := F140_l0_0_X0 a147 a148 ()) (ex := .ret) (pq169 pz) (by kernel_rfl) trivial
    have hr := Option.some.inj hF
    subst hr
    have pz : HoldAll E H hn140 [.int (nlen (len a147)) (nlen (len a147)), .test (ilt v158 (nlen (len a147))) false] := ⟨rfl, h159, trivial⟩
    exact loop_endC (h := hn140) (l := 0) (c := c140_0) (ts := F140_l0_0_S a147 a148 v158) (ts' := F140_l0_0_X1 a147 a148 ()) (ex := (.exit 0)) pz (by kernel_rfl) trivial

def F140 (K : Nat) (a147 : List Int) (a148 : List Int) : Option (Bool) :=
  bif (ieq (nlen (len a147)) (nlen (len a148))) then
    ((F140_l0_0 K a147 a148 K 0).bind fun y171 =>
    Sum.elim (fun w172 =>
      some false)
      (fun w173 =>
      some true) y171)
  else
  some false
theorem F140_ok (K : Nat) (a147 : List Int) (a148 : List Int) (r : Bool) (hF : F140 K a147 a148 = some r) : Evt E H 140 [.one (.sl (len a147) (flat (eInt .i64) a147)), .one (.sl (len a148) (flat (eInt .i64) a148))] (F140_res r) := by
  rw [F140] at hF
  refine cond_some hF (fun h149 hF => ?_) (fun h149 hF => ?_)
  ·
    have pq174 : ∀ {l : List Cond}, HoldAll E H hn140 l → HoldAll E H hn140 (.int (nlen (len a147)) (nlen (len a147)) :: .int (nlen (len a148)) (nlen (len a148)) :: .test (ine (nlen (len a147)) (nlen (len a148))) false :: l) := fun z => ⟨rfl, rfl, (ine_t h149), z⟩
    refine bind_some hF (fun y171 h170 hF => ?_)
    refine sum_some hF (fun w172 hx hF => ?_) (fun w173 hx hF => ?_)
    ·
      subst hx
      have hr := Option.some.inj hF
      subst hr
      have pz : HoldAll E H hn140 [.loop 0 c140_0 (F140_l0_0_S a147 a148 0) .ret (F140_l0_0_X0 a147 a148 w172)] := ⟨(F140_l0_0_ok K a147 a148 K 0 _ h170), trivial⟩
      exact fn_playC hn140 (f := 140) (ads := [.one (.sl (len a147) (flat (eInt .i64) a147)), .one (.sl (len a148) (flat (eInt .i64) a148))]) (r := F140_res false) (pq174 pz) (by kernel_rfl) (by kernel_rfl)
    subst hx
    have hr := Option.some.inj hF
    subst hr
    have pz : HoldAll E H hn140 [.loop 0 c140_0 (F140_l0_0_S a147 a148 0) (.exit 0) (F140_l0_0_X1 a147 a148 w173)] := ⟨(F140_l0_0_ok K a147 a148 K 0 _ h170), trivial⟩
    exact fn_playC hn140 (f := 140) (ads := [.one (.sl (len a147) (flat (eInt .i64) a147)), .one (.sl (len a148) (flat (eInt .i64) a148))]) (r := F140_res true) (pq174 pz) (by kernel_rfl) (by kernel_rfl)
  have hr := Option.some.inj hF
  subst hr
  have pz : HoldAll E H hn140 [.int (nlen (len a147)) (nlen (len a147)), .int (nlen (len a148)) (nlen (len a148)), .test (ine (nlen (len a147)) (nlen (len a148))) true] := ⟨rfl, rfl, (ine_f h149), trivial⟩
  exact fn_playC hn140 (f := 140) (ads := [.one (.sl (len a147) (flat (eInt .i64) a147)), .one (.sl (len a148) (flat (eInt .i64) a148))]) (r := F140_res false) pz (by kernel_rfl) (by kernel_rfl)

/-! ### haywain/haywainref06.SameRest -/
noncomputable def hn141 : Hint := { H 141 with nt := 26, prot := 0 }
noncomputable def c141_0 : Code := loopOf E 141 0
def F141_res (r207 : Bool) : Res := ⟨[(.one (.im (.lit (.bool r207))))], []⟩
def F141_l0_0 (K : Nat) (a179 : List Bool) (a180 : List Bool) : Nat → Int → Option ((Unit) ⊕ (Unit))
  | 0, _ => none
  | k + 1, v190 =>
    bif (ilt v190 (nlen (len a179))) then
      (bif (inr v190 (len a179)) then
      (elAt a179 v190).bind fun x193 =>
      bif (inr v190 (len a180)) then
      (elAt a180 v190).bind fun x196 =>
      bif (beqb x193 x196) then
        (F141_l0_0 K a179 a180 k (wadd .i64 v190 1))
      else
      some (.inl ())
      else none
      else none)
    else
    some (.inr ())
def F141_l0_0_S (a179 : List Bool) (a180 : List Bool) (v190 : Int) : TS := .on [0, 1, 64, 65, 320, 321] [(0, ⟨.one, 0, nob⟩), (1, ⟨.im, 0, (.sl (len a179) (flat eBool a179))⟩), (64, ⟨.one, 0, nob⟩), (65, ⟨.im, 0, (.sl (len a180) (flat eBool a180))⟩), (320, ⟨.one, 0, nob⟩), (321, ⟨.im, 0, (.lit (.int .i64 v190))⟩)]
def F141_l0_0_X0 (a179 : List Bool) (a180 : List Bool) (w199 : Unit) : TS := .on [256, 257] [(256, ⟨.one, 0, nob⟩), (257, ⟨.im, 0, (.lit (.bool false))⟩)]
def F141_l0_0_X1 (a179 : List Bool) (a180 : List Bool) (w200 : Unit) : TS := .on [] []
theorem F141_l0_0_ok (K : Nat) (a179 : List Bool) (a180 : List Bool) : ∀ (k : Nat) (v190 : Int) (r : (Unit) ⊕ (Unit)), F141_l0_0 K a179 a180 k v190 = some r → (Sum.elim (fun w => LoopEv E H hn141 0 c141_0 (F141_l0_0_S a179 a180 v190) .ret (F141_l0_0_X0 a179 a180 w)) (fun w => LoopEv E H hn141 0 c141_0 (F141_l0_0_S a179 a180 v190) (.exit 0) (F141_l0_0_X1 a179 a180 w))) r := by
  intro k
  induction k with
  | zero => intro v190 r hF; cases hF
  | succ k ih =>
    intro v190 r hF
    rw [F141_l0_0] at hF
    refine cond_some hF (fun h191 hF => ?_) (fun h191 hF => ?_)
    ·
      refine cond_some hF (fun h192 hF => ?_) (fun _ hF => nomatch hF)
      refine bind_some hF (fun x193 h194 hF => ?_)
      refine cond_some hF (fun h195 hF => ?_) (fun _ hF => nomatch hF)
      refine bind_some hF (fun x196 h197 hF => ?_)
      have pq201 : ∀ {l : List Cond}, HoldAll E H hn141 l → HoldAll E H hn141 (.int (nlen (len a179)) (nlen (len a179)) :: .test (ilt v190 (nlen (len a179))) true :: .test (inr v190 (len a179)) true :: .sub (flat eBool a179) (nidx v190 1) 1 [(.lit (.bool x193))] :: .test (inr v190 (len a180)) true :: .sub (flat eBool a180) (nidx v190 1) 1 [(.lit (.bool x196))] :: l) := fun z => ⟨rfl, h191, h192, ⟨rfl, sub_flat0 eBool_len h194 1 (by decide)⟩, h195, ⟨rfl, sub_flat0 eBool_len h197 1 (by decide)⟩, z⟩
      refine cond_some hF (fun h198 hF => ?_) (fun h198 hF => ?_)
      ·
        have pz : HoldAll E H hn141 [.test (bnot (beqb x193 x196)) false, .int (wadd .i64 v190 1) (wadd .i64 v190 1)] := ⟨(bnot_t h198), rfl, trivial⟩
        have h0 := ih _ _ hF
        have hn := fun ex ts' => loop_nextC (h := hn141) (l := 0) (c := c141_0) (ts := F141_l0_0_S a179 a180 v190) (ts1 := (F141_l0_0_S a179 a180 (wadd .i64 v190 1))) (ex := ex) (ts' := ts') (pq201 pz) (by kernel_rfl)
        cases r with
        | inl w => exact hn _ _ h0
        | inr w => exact hn _ _ h0
      have hr := Option.some.inj hF
      subst hr
      have pz : HoldAll E H hn141 [.test (bnot (beqb x193 x196)) true] := ⟨(bnot_f h198), trivial⟩
      exact loop_endC (h := hn141) (l := 0) (c := c141_0) (ts := F141_l0_0_S a179 a180 v190) (ts' := F141_l0_0_X0 a179 a180 ()) (ex := .ret) (pq201 pz) (by kernel_rfl) trivial
    have hr := Option.some.inj hF
    subst hr
    have pz : HoldAll E H hn141 [.int (nlen (len a179)) (nlen (len a179)), .test (ilt v190 (nlen (len a179))) false] := ⟨rfl, h191, trivial⟩
    exact loop_endC (h := hn141) (l := 0) (c := c141_0) (ts := F141_l0_0_S a179 a180 v190) (ts' := F141_l0_0_X1 a179 a180 ()) (ex := (.exit 0)) pz (by kernel_rfl) trivial

def F141 (K : Nat) (a179 : List Bool) (a180 : List Bool) : Option (Bool) :=
  bif (ieq (nlen (len a179)) (nlen (len a180))) then
    ((F141_l0_0 K a179 a180 K 0).bind fun y203 =>
    Sum.elim (fun w204 =>
      some false)
      (fun w205 =>
      some true) y203)
  else
  some false
theorem F141_ok (K : Nat) (a179 : List Bool) (a180 : List Bool) (r : Bool) (hF : F141 K a179 a180 = some r) : Evt E H 141 [.one (.sl (len a179) (flat eBool a179)), .one (.sl (len a180) (flat eBool a180))] (F141_res r) := by
  rw [F141] at hF
  refine cond_some hF (fun h181 hF => ?_) (fun h181 hF => ?_)
  ·
    have pq206 : ∀ {l : List Cond}, HoldAll E H hn141 l → HoldAll E H hn141 (.int (nlen (len a179)) (nlen (len a179)) :: .int (nlen (len a180)) (nlen (len a180)) :: .test (ine (nlen (len a179)) (nlen (len a180))) false :: l) := fun z => ⟨rfl, rfl, (ine_t h181), z⟩
    refine bind_some hF (fun y203 h202 hF => ?_)
    refine sum_some hF (fun w204 hx hF => ?_) (fun w205 hx hF => ?_)
    ·
      subst hx
      have hr := Option.some.inj hF
      subst hr
      have pz : HoldAll E H hn141 [.loop 0 c141_0 (F141_l0_0_S a179 a180 0) .ret (F141_l0_0_X0 a179 a180 w204)] := ⟨(F141_l0_0_ok K a179 a180 K 0 _ h202), trivial⟩
      exact fn_playC hn141 (f := 141) (ads := [.one (.sl (len a179) (flat eBool a179)), .one (.sl (len a180) (flat eBool a180))]) (r := F141_res false) (pq206 pz) (by kernel_rfl) (by kernel_rfl)
    subst hx
    have hr := Option.some.inj hF
    subst hr
    have pz : HoldAll E H hn141 [.loop 0 c141_0 (F141_l0_0_S a179 a180 0) (.exit 0) (F141_l0_0_X1 a179 a180 w205)] := ⟨(F141_l0_0_ok K a179 a180 K 0 _ h202), trivial⟩
    exact fn_playC hn141 (f := 141) (ads := [.one (.sl (len a179) (flat eBool a179)), .one (.sl (len a180) (flat eBool a180))]) (r := F141_res true) (pq206 pz) (by kernel_rfl) (by kernel_rfl)
  have hr := Option.some.inj hF
  subst hr
  have pz : HoldAll E H hn141 [.int (nlen (len a179)) (nlen (len a179)), .int (nlen (len a180)) (nlen (len a180)), .test (ine (nlen (len a179)) (nlen (len a180))) true] := ⟨rfl, rfl, (ine_f h181), trivial⟩
  exact fn_playC hn141 (f := 141) (ads := [.one (.sl (len a179) (flat eBool a179)), .one (.sl (len a180) (flat eBool a180))]) (r := F141_res false) pz (by kernel_rfl) (by kernel_rfl)

/-! ### haywain/haywainref04.SameMsgs -/
noncomputable def hn89 : Hint := { H 89 with nt := 26, prot := 0 }
noncomputable def c89_0 : Code := loopOf E 89 0
def F89_res (r241 : Bool) : Res := ⟨[(.one (.im (.lit (.bool r241))))], []⟩
def F89_l0_0 (K : Nat) (a211 : List GMsg) (a212 : List GMsg) : Nat → Int → Option ((Unit) ⊕ (Unit))
  | 0, _ => none
  | k + 1, v223 =>
    bif (ilt v223 (nlen (len a211))) then
      (bif (inr v223 (len a211)) then
      (elAt a211 v223).bind fun x226 =>
      bif (inr v223 (len a212)) then
      (elAt a212 v223).bind fun x229 =>
      bif (ieq x226.To x229.To) then
        (bif (ieq x226.V x229.V) then
          (F89_l0_0 K a211 a212 k (wadd .i64 v223 1))
        else
        some (.inl ()))
      else
      some (.inl ())
      else none
      else none)
    else
    some (.inr ())
def F89_l0_0_S (a211 : List GMsg) (a212 : List GMsg) (v223 : Int) : TS := .on [0, 1, 64, 65, 320, 321] [(0, ⟨.one, 0, nob⟩), (1, ⟨.im, 0, (.sl (len a211) (flat eGMsg a211))⟩), (64, ⟨.one, 0, nob⟩), (65, ⟨.im, 0, (.sl (len a212) (flat eGMsg a212))⟩), (320, ⟨.one, 0, nob⟩), (321, ⟨.im, 0, (.lit (.int .i64 v223))⟩)]
def F89_l0_0_X0 (a211 : List GMsg) (a212 : List GMsg) (w233 : Unit) : TS := .on [256, 257] [(256, ⟨.one, 0, nob⟩), (257, ⟨.im, 0, (.lit (.bool false))⟩)]
def F89_l0_0_X1 (a211 : List GMsg) (a212 : List GMsg) (w234 : Unit) : TS := .on [] []
theorem F89_l0_0_ok (K : Nat) (a211 : List GMsg) (a212 : List GMsg) : ∀ (k : Nat) (v223 : Int) (r : (Unit) ⊕ (Unit)), F89_l0_0 K a211 a212 k v223 = some r → (Sum.elim (fun w => LoopEv E H hn89 0 c89_0 (F89_l0_0_S a211 a212 v223) .ret (F89_l0_0_X0 a211 a212 w)) (fun w => LoopEv E H hn89 0 c89_0 (F89_l0_0_S a211 a212 v223) (.exit 0) (F89_l0_0_X1 a211 a212 w))) r := by
  intro k
  induction k with
  | zero => intro v223 r hF; cases hF
  | succ k ih =>
    intro v223 r hF
    rw [F89_l0_0] at hF
    refine cond_some hF (fun h224 hF => ?_) (fun h224 hF => ?_)
    ·
      refine cond_some hF (fun h225 hF => ?_) (fun _ hF => nomatch hF)
      refine bind_some hF (fun x226 h227 hF => ?_)
      refine cond_some hF (fun h228 hF => ?_) (fun _ hF => nomatch hF)
      refine bind_some hF (fun x229 h230 hF => ?_)
      have pq235 : ∀ {l : List Cond}, HoldAll E H hn89 l → HoldAll E H hn89 (.int (nlen (len a211)) (nlen (len a211)) :: .test (ilt v223 (nlen (len a211))) true :: .test (inr v223 (len a211)) true :: .sub (flat eGMsg a211) (nidx v223 2) 2 [(.lit (.int .i64 x226.To)), (.lit (.int .i64 x226.V))] :: .test (inr v223 (len a212)) true :: .sub (flat eGMsg a212) (nidx v223 2) 2 [(.lit (.int .i64 x229.To)), (.lit (.int .i64 x229.V))] :: l) := fun z => ⟨rfl, h224, h225, ⟨rfl, sub_flat0 eGMsg_len h227 2 (by decide)⟩, h228, ⟨rfl, sub_flat0 eGMsg_len h230 2 (by decide)⟩, z⟩
      refine cond_some hF (fun h231 hF => ?_) (fun h231 hF => ?_)
      ·
        refine cond_some hF (fun h232 hF => ?_) (fun h232 hF => ?_)
        ·
          have pz : HoldAll E H hn89 [.test (bnot (band (ieq x226.To x229.To) (band (ieq x226.V x229.V) true))) false, .int (wadd .i64 v223 1) (wadd .i64 v223 1)] := ⟨(bnot_t (band_tt h231 (band_tt h232 rfl))), rfl, trivial⟩
          have h0 := ih _ _ hF
          have hn := fun ex ts' => loop_nextC (h := hn89) (l := 0) (c := c89_0) (ts := F89_l0_0_S a211 a212 v223) (ts1 := (F89_l0_0_S a211 a212 (wadd .i64 v223 1))) (ex := ex) (ts' := ts') (pq235 pz) (by kernel_rfl)
          cases r with
          | inl w => exact hn _ _ h0
          | inr w => exact hn _ _ h0
        have hr := Option.some.inj hF
        subst hr
        have pz : HoldAll E H hn89 [.test (bnot (band (ieq x226.To x229.To) (band (ieq x226.V x229.V) true))) true] := ⟨(bnot_f (band_f2 h231 (band_f1 h232))), trivial⟩
        exact loop_endC (h := hn89) (l := 0) (c := c89_0) (ts := F89_l0_0_S a211 a212 v223) (ts' := F89_l0_0_X0 a211 a212 ()) (ex := .ret) (pq235 pz) (by kernel_rfl) trivial
      have hr := Option.some.inj hF
      subst hr
      have pz : HoldAll E H hn89 [.test (bnot (band (ieq x226.To x229.To) (band (ieq x226.V x229.V) true))) true] := ⟨(bnot_f (band_f1 h231)), trivial⟩
      exact loop_endC (h := hn89) (l := 0) (c := c89_0) (ts := F89_l0_0_S a211 a212 v223) (ts' := F89_l0_0_X0 a211 a212 ()) (ex := .ret) (pq235 pz) (by kernel_rfl) trivial
    have hr := Option.some.inj hF
    subst hr
    have pz : HoldAll E H hn89 [.int (nlen (len a211)) (nlen (len a211)), .test (ilt v223 (nlen (len a211))) false] := ⟨rfl, h224, trivial⟩
    exact loop_endC (h := hn89) (l := 0) (c := c89_0) (ts := F89_l0_0_S a211 a212 v223) (ts' := F89_l0_0_X1 a211 a212 ()) (ex := (.exit 0)) pz (by kernel_rfl) trivial

def F89 (K : Nat) (a211 : List GMsg) (a212 : List GMsg) : Option (Bool) :=
  bif (ieq (nlen (len a211)) (nlen (len a212))) then
    ((F89_l0_0 K a211 a212 K 0).bind fun y237 =>
    Sum.elim (fun w238 =>
      some false)
      (fun w239 =>
      some true) y237)
  else
  some false
theorem F89_ok (K : Nat) (a211 : List GMsg) (a212 : List GMsg) (r : Bool) (hF : F89 K a211 a212 = some r) : Evt E H 89 [.one (.sl (len a211) (flat eGMsg a211)), .one (.sl (len a212) (flat eGMsg a212))] (F89_res r) := by
  rw [F89] at hF
  refine cond_some hF (fun h213 hF => ?_) (fun h213 hF => ?_)
  ·
    have pq240 : ∀ {l : List Cond}, HoldAll E H hn89 l → HoldAll E H hn89 (.int (nlen (len a211)) (nlen (len a211)) :: .int (nlen (len a212)) (nlen (len a212)) :: .test (ine (nlen (len a211)) (nlen (len a212))) false :: l) := fun z => ⟨rfl, rfl, (ine_t h213), z⟩
    refine bind_some hF (fun y237 h236 hF => ?_)
    refine sum_some hF (fun w238 hx hF => ?_) (fun w239 hx hF => ?_)
    ·
      subst hx
      have hr := Option.some.inj hF
      subst hr
      have pz : HoldAll E H hn89 [.loop 0 c89_0 (F89_l0_0_S a211 a212 0) .ret (F89_l0_0_X0 a211 a212 w238)] := ⟨(F89_l0_0_ok K a211 a212 K 0 _ h236), trivial⟩
      exact fn_playC hn89 (f := 89) (ads := [.one (.sl (len a211) (flat eGMsg a211)), .one (.sl (len a212) (flat eGMsg a212))]) (r := F89_res false) (pq240 pz) (by kernel_rfl) (by kernel_rfl)
    subst hx
    have hr := Option.some.inj hF
    subst hr
    have pz : HoldAll E H hn89 [.loop 0 c89_0 (F89_l0_0_S a211 a212 0) (.exit 0) (F89_l0_0_X1 a211 a212 w239)] := ⟨(F89_l0_0_ok K a211 a212 K 0 _ h236), trivial⟩
    exact fn_playC hn89 (f := 89) (ads := [.one (.sl (len a211) (flat eGMsg a211)), .one (.sl (len a212) (flat eGMsg a212))]) (r := F89_res true) (pq240 pz) (by kernel_rfl) (by kernel_rfl)
  have hr := Option.some.inj hF
  subst hr
  have pz : HoldAll E H hn89 [.int (nlen (len a211)) (nlen (len a211)), .int (nlen (len a212)) (nlen (len a212)), .test (ine (nlen (len a211)) (nlen (len a212))) true] := ⟨rfl, rfl, (ine_f h213), trivial⟩
  exact fn_playC hn89 (f := 89) (ads := [.one (.sl (len a211) (flat eGMsg a211)), .one (.sl (len a212) (flat eGMsg a212))]) (r := F89_res false) pz (by kernel_rfl) (by kernel_rfl)

/-! ### haywain/haywainref07.Same -/
noncomputable def hn118 : Hint := { H 118 with nt := 38, prot := 0 }
def F118_res (r247 : Bool) : Res := ⟨[(.one (.im (.lit (.bool r247))))], []⟩
def F118 (K : Nat) (a143 : GPart) (a144 : GPart) : Option (Bool) :=
  bif (ieq a143.P a144.P) then
    (bif (ieq a143.Step a144.Step) then
      ((F140 K a143.Vals a144.Vals).bind fun r176 =>
      bif r176 then
        ((F141 K a143.Rest a144.Rest).bind fun r208 =>
        bif r208 then
          ((F89 K a143.In a144.In).bind fun r242 =>
          some r242)
        else
        some false)
      else
      some false)
    else
    some false)
  else
  some false
theorem F118_ok (K : Nat) (a143 : GPart) (a144 : GPart) (r : Bool) (hF : F118 K a143 a144 = some r) : Evt E H 118 [.agg (eGPart a143), .agg (eGPart a144)] (F118_res r) := by
  rw [F118] at hF
  refine cond_some hF (fun h145 hF => ?_) (fun h145 hF => ?_)
  ·
    have pq244 : ∀ {l : List Cond}, HoldAll E H hn118 l → HoldAll E H hn118 (.test (beqb (ieq a143.P a144.P) true) true :: .test (beqb (ieq a143.P a144.P) true) true :: .test (beqb (ieq a143.P a144.P) true) true :: .test (beqb (ieq a143.P a144.P) true) true :: .test (beqb (ieq a143.P a144.P) true) true :: .test (ieq a143.P a144.P) true :: l) := fun z => ⟨(beqb_t h145), (beqb_t h145), (beqb_t h145), (beqb_t h145), (beqb_t h145), h145, z⟩
    refine cond_some hF (fun h146 hF => ?_) (fun h146 hF => ?_)
    ·
      refine bind_some hF (fun r176 h177 hF => ?_)
      have pq245 : ∀ {l : List Cond}, HoldAll E H hn118 l → HoldAll E H hn118 (.test (beqb (ieq a143.Step a144.Step) true) true :: .test (beqb (ieq a143.Step a144.Step) true) true :: .test (beqb (ieq a143.Step a144.Step) true) true :: .test (beqb (ieq a143.Step a144.Step) true) true :: .test (beqb (ieq a143.Step a144.Step) true) true :: .call 140 [.one (.sl (len a143.Vals) (flat (eInt .i64) a143.Vals)), .one (.sl (len a144.Vals) (flat (eInt .i64) a144.Vals))] (F140_res r176) :: .test (leadsAny (Res.mk [(.one (.im (.lit (.bool r176))))] [])) false :: .test (ieq a143.Step a144.Step) true :: l) := fun z => ⟨(beqb_t h146), (beqb_t h146), (beqb_t h146), (beqb_t h146), (beqb_t h146), (F140_ok K a143.Vals a144.Vals _ h177), (leads_ok (by simp only [leadsAny, List.any_cons, List.any_nil, RV.leads, RC.leads, leadsT, hasSl_lit, Bool.or_false, flat_ns (eInt_ns _), flat_ns eBool_ns, flat_ns eStr_ns, flat_ns eGJob_ns, flat_ns eGEdge_ns, flat_ns eGAsked_ns, flat_ns eGMsg_ns, flat_ns eGrule_ns, flat_ns eGA199_ns, flat_ns eGA202_ns])), h146, z⟩
      refine cond_some hF (fun h178 hF => ?_) (fun h178 hF => ?_)
      ·
        refine bind_some hF (fun r208 h209 hF => ?_)
        have pq246 : ∀ {l : List Cond}, HoldAll E H hn118 l → HoldAll E H hn118 (.test (beqb r176 true) true :: .test (beqb r176 true) true :: .test (beqb r176 true) true :: .test (beqb r176 true) true :: .test (beqb r176 true) true :: .call 141 [.one (.sl (len a143.Rest) (flat eBool a143.Rest)), .one (.sl (len a144.Rest) (flat eBool a144.Rest))] (F141_res r208) :: .test (leadsAny (Res.mk [(.one (.im (.lit (.bool r208))))] [])) false :: .test r176 true :: l) := fun z => ⟨(beqb_t h178), (beqb_t h178), (beqb_t h178), (beqb_t h178), (beqb_t h178), (F141_ok K a143.Rest a144.Rest _ h209), (leads_ok (by simp only [leadsAny, List.any_cons, List.any_nil, RV.leads, RC.leads, leadsT, hasSl_lit, Bool.or_false, flat_ns (eInt_ns _), flat_ns eBool_ns, flat_ns eStr_ns, flat_ns eGJob_ns, flat_ns eGEdge_ns, flat_ns eGAsked_ns, flat_ns eGMsg_ns, flat_ns eGrule_ns, flat_ns eGA199_ns, flat_ns eGA202_ns])), h178, z⟩
        refine cond_some hF (fun h210 hF => ?_) (fun h210 hF => ?_)
        ·
          refine bind_some hF (fun r242 h243 hF => ?_)
          have hr := Option.some.inj hF
          subst hr
          have pz : HoldAll E H hn118 [.test (beqb r208 true) true, .test (beqb r208 true) true, .test (beqb r208 true) true, .test (beqb r208 true) true, .test (beqb r208 true) true, .call 89 [.one (.sl (len a143.In) (flat eGMsg a143.In)), .one (.sl (len a144.In) (flat eGMsg a144.In))] (F89_res r242), .test (leadsAny (Res.mk [(.one (.im (.lit (.bool r242))))] [])) false, .test r208 true] := ⟨(beqb_t h210), (beqb_t h210), (beqb_t h210), (beqb_t h210), (beqb_t h210), (F89_ok K a143.In a144.In _ h243), (leads_ok (by simp only [leadsAny, List.any_cons, List.any_nil, RV.leads, RC.leads, leadsT, hasSl_lit, Bool.or_false, flat_ns (eInt_ns _), flat_ns eBool_ns, flat_ns eStr_ns, flat_ns eGJob_ns, flat_ns eGEdge_ns, flat_ns eGAsked_ns, flat_ns eGMsg_ns, flat_ns eGrule_ns, flat_ns eGA199_ns, flat_ns eGA202_ns])), h210, trivial⟩
          exact fn_playC hn118 (f := 118) (ads := [.agg (eGPart a143), .agg (eGPart a144)]) (r := F118_res r242) (pq244 (pq245 (pq246 pz))) (by kernel_rfl) (by kernel_rfl)
        have hr := Option.some.inj hF
        subst hr
        have pz : HoldAll E H hn118 [.test (beqb r208 true) false, .test (beqb r208 true) false, .test (beqb r208 true) false, .test (beqb r208 true) false, .test (beqb r208 true) false, .test r208 false] := ⟨(beqb_t h210), (beqb_t h210), (beqb_t h210), (beqb_t h210), (beqb_t h210), h210, trivial⟩
        exact fn_playC hn118 (f := 118) (ads := [.agg (eGPart a143), .agg (eGPart a144)]) (r := F118_res false) (pq244 (pq245 (pq246 pz))) (by kernel_rfl) (by kernel_rfl)
      have hr := Option.some.inj hF
      subst hr
      have pz : HoldAll E H hn118 [.test (beqb r176 true) false, .test (beqb r176 true) false, .test (beqb r176 true) false, .test (beqb r176 true) false, .test (beqb r176 true) false, .test r176 false, .test (beqb false true) false, .test (beqb false true) false, .test (beqb false true) false, .test (beqb false true) false, .test (beqb false true) false, .test false false] := ⟨(beqb_t h178), (beqb_t h178), (beqb_t h178), (beqb_t h178), (beqb_t h178), h178, (beqb_t rfl), (beqb_t rfl), (beqb_t rfl), (beqb_t rfl), (beqb_t rfl), rfl, trivial⟩
      exact fn_playC hn118 (f := 118) (ads := [.agg (eGPart a143), .agg (eGPart a144)]) (r := F118_res false) (pq244 (pq245 pz)) (by kernel_rfl) (by kernel_rfl)
    have hr := Option.some.inj hF
    subst hr
    have pz : HoldAll E H hn118 [.test (beqb (ieq a143.Step a144.Step) true) false, .test (beqb (ieq a143.Step a144.Step) true) false, .test (beqb (ieq a143.Step a144.Step) true) false, .test (beqb (ieq a143.Step a144.Step) true) false, .test (beqb (ieq a143.Step a144.Step) true) false, .test (ieq a143.Step a144.Step) false, .test (beqb false true) false, .test (beqb false true) false, .test (beqb false true) false, .test (beqb false true) false, .test (beqb false true) false, .test false false, .test (beqb false true) false, .test (beqb false true) false, .test (beqb false true) false, .test (beqb false true) false, .test (beqb false true) false, .test false false] := ⟨(beqb_t h146), (beqb_t h146), (beqb_t h146), (beqb_t h146), (beqb_t h146), h146, (beqb_t rfl), (beqb_t rfl), (beqb_t rfl), (beqb_t rfl), (beqb_t rfl), rfl, (beqb_t rfl), (beqb_t rfl), (beqb_t rfl), (beqb_t rfl), (beqb_t rfl), rfl, trivial⟩
    exact fn_playC hn118 (f := 118) (ads := [.agg (eGPart a143), .agg (eGPart a144)]) (r := F118_res false) (pq244 pz) (by kernel_rfl) (by kernel_rfl)
  have hr := Option.some.inj hF
  subst hr
  have pz : HoldAll E H hn118 [.test (beqb (ieq a143.P a144.P) true) false, .test (beqb (ieq a143.P a144.P) true) false, .test (beqb (ieq a143.P a144.P) true) false, .test (beqb (ieq a143.P a144.P) true) false, .test (beqb (ieq a143.P a144.P) true) false, .test (ieq a143.P a144.P) false, .test (beqb false true) false, .test (beqb false true) false, .test (beqb false true) false, .test (beqb false true) false, .test (beqb false true) false, .test false false, .test (beqb false true) false, .test (beqb false true) false, .test (beqb false true) false, .test (beqb false true) false, .test (beqb false true) false, .test false false, .test (beqb false true) false, .test (beqb false true) false, .test (beqb false true) false, .test (beqb false true) false, .test (beqb false true) false, .test false false] := ⟨(beqb_t h145), (beqb_t h145), (beqb_t h145), (beqb_t h145), (beqb_t h145), h145, (beqb_t rfl), (beqb_t rfl), (beqb_t rfl), (beqb_t rfl), (beqb_t rfl), rfl, (beqb_t rfl), (beqb_t rfl), (beqb_t rfl), (beqb_t rfl), (beqb_t rfl), rfl, (beqb_t rfl), (beqb_t rfl), (beqb_t rfl), (beqb_t rfl), (beqb_t rfl), rfl, trivial⟩
  exact fn_playC hn118 (f := 118) (ads := [.agg (eGPart a143), .agg (eGPart a144)]) (r := F118_res false) pz (by kernel_rfl) (by kernel_rfl)

/-! ### haywain/haywainref07.SameAll -/
noncomputable def hn84 : Hint := { H 84 with nt := 27, prot := 0 }
noncomputable def c84_0 : Code := loopOf E 84 0
def F84_res (r270 : Bool) : Res := ⟨[(.one (.im (.lit (.bool r270))))], []⟩
def F84_l0_0 (K : Nat) (a133 : List GPart) (a134 : List GPart) : Nat → Int → Option ((Unit) ⊕ (Unit))
  | 0, _ => none
  | k + 1, v251 =>
    bif (ilt v251 (nlen (len a133))) then
      (bif (inr v251 (len a133)) then
      (elAt a133 v251).bind fun x254 =>
      bif (inr v251 (len a134)) then
      (elAt a134 v251).bind fun x257 =>
      (F118 K x254 x257).bind fun r259 =>
      bif r259 then
        (F84_l0_0 K a133 a134 k (wadd .i64 v251 1))
      else
      some (.inl ())
      else none
      else none)
    else
    some (.inr ())
def F84_l0_0_S (a133 : List GPart) (a134 : List GPart) (v251 : Int) : TS := .on [0, 1, 64, 65, 320, 321] [(0, ⟨.one, 0, nob⟩), (1, ⟨.im, 0, (.sl (len a133) (flat eGPart a133))⟩), (64, ⟨.one, 0, nob⟩), (65, ⟨.im, 0, (.sl (len a134) (flat eGPart a134))⟩), (320, ⟨.one, 0, nob⟩), (321, ⟨.im, 0, (.lit (.int .i64 v251))⟩)]
def F84_l0_0_X0 (a133 : List GPart) (a134 : List GPart) (w262 : Unit) : TS := .on [256, 257] [(256, ⟨.one, 0, nob⟩), (257, ⟨.im, 0, (.lit (.bool false))⟩)]
def F84_l0_0_X1 (a133 : List GPart) (a134 : List GPart) (w263 : Unit) : TS := .on [] []
theorem F84_l0_0_ok (K : Nat) (a133 : List GPart) (a134 : List GPart) : ∀ (k : Nat) (v251 : Int) (r : (Unit) ⊕ (Unit)), F84_l0_0 K a133 a134 k v251 = some r → (Sum.elim (fun w => LoopEv E H hn84 0 c84_0 (F84_l0_0_S a133 a134 v251) .ret (F84_l0_0_X0 a133 a134 w)) (fun w => LoopEv E H hn84 0 c84_0 (F84_l0_0_S a133 a134 v251) (.exit 0) (F84_l0_0_X1 a133 a134 w))) r := by
  intro k
  induction k with
  | zero => intro v251 r hF; cases hF
  | succ k ih =>
    intro v251 r hF
    rw [F84_l0_0] at hF
    refine cond_some hF (fun h252 hF => ?_) (fun h252 hF => ?_)
    ·
      refine cond_some hF (fun h253 hF => ?_) (fun _ hF => nomatch hF)
      refine bind_some hF (fun x254 h255 hF => ?_)
      refine cond_some hF (fun h256 hF => ?_) (fun _ hF => nomatch hF)
      refine bind_some hF (fun x257 h258 hF => ?_)
      refine bind_some hF (fun r259 h260 hF => ?_)
      have pq264 : ∀ {l : List Cond}, HoldAll E H hn84 l → HoldAll E H hn84 (.int (nlen (len a133)) (nlen (len a133)) :: .test (ilt v251 (nlen (len a133))) true :: .test (inr v251 (len a133)) true :: .sub (flat eGPart a133) (nidx v251 5) 5 [(.lit (.int .i64 x254.P)), (.lit (.int .i64 x254.Step)), (.sl (len x254.Vals) (flat (eInt .i64) x254.Vals)), (.sl (len x254.Rest) (flat eBool x254.Rest)), (.sl (len x254.In) (flat eGMsg x254.In))] :: .test (inr v251 (len a134)) true :: .sub (flat eGPart a134) (nidx v251 5) 5 [(.lit (.int .i64 x257.P)), (.lit (.int .i64 x257.Step)), (.sl (len x257.Vals) (flat (eInt .i64) x257.Vals)), (.sl (len x257.Rest) (flat eBool x257.Rest)), (.sl (len x257.In) (flat eGMsg x257.In))] :: .call 118 [.agg (eGPart x254), .agg (eGPart x257)] (F118_res r259) :: .test (leadsAny (Res.mk [(.one (.im (.lit (.bool r259))))] [])) false :: l) := fun z => ⟨rfl, h252, h253, ⟨rfl, sub_flat0 eGPart_len h255 5 (by decide)⟩, h256, ⟨rfl, sub_flat0 eGPart_len h258 5 (by decide)⟩, (F118_ok K x254 x257 _ h260), (leads_ok (by simp only [leadsAny, List.any_cons, List.any_nil, RV.leads, RC.leads, leadsT, hasSl_lit, Bool.or_false, flat_ns (eInt_ns _), flat_ns eBool_ns, flat_ns eStr_ns, flat_ns eGJob_ns, flat_ns eGEdge_ns, flat_ns eGAsked_ns, flat_ns eGMsg_ns, flat_ns eGrule_ns, flat_ns eGA199_ns, flat_ns eGA202_ns])), z⟩
      refine cond_some hF (fun h261 hF => ?_) (fun h261 hF => ?_)
      ·
        have pz : HoldAll E H hn84 [.test (bnot r259) false, .int (wadd .i64 v251 1) (wadd .i64 v251 1)] := ⟨(bnot_t h261), rfl, trivial⟩
        have h0 := ih _ _ hF
        have hn := fun ex ts' => loop_nextC (h := hn84) (l := 0) (c := c84_0) (ts := F84_l0_0_S a133 a134 v251) (ts1 := (F84_l0_0_S a133 a134 (wadd .i64 v251 1))) (ex := ex) (ts' := ts') (pq264 pz) (by kernel_rfl)
        cases r with
        | inl w => exact hn _ _ h0
        | inr w => exact hn _ _ h0
      have hr := Option.some.inj hF
      subst hr
      have pz : HoldAll E H hn84 [.test (bnot r259) true] := ⟨(bnot_f h261), trivial⟩
      exact loop_endC (h := hn84) (l := 0) (c := c84_0) (ts := F84_l0_0_S a133 a134 v251) (ts' := F84_l0_0_X0 a133 a134 ()) (ex := .ret) (pq264 pz) (by kernel_rfl) trivial
    have hr := Option.some.inj hF
    subst hr
    have pz : HoldAll E H hn84 [.int (nlen (len a133)) (nlen (len a133)), .test (ilt v251 (nlen (len a133))) false] := ⟨rfl, h252, trivial⟩
    exact loop_endC (h := hn84) (l := 0) (c := c84_0) (ts := F84_l0_0_S a133 a134 v251) (ts' := F84_l0_0_X1 a133 a134 ()) (ex := (.exit 0)) pz (by kernel_rfl) trivial

def F84 (K : Nat) (a133 : List GPart) (a134 : List GPart) : Option (Bool) :=
  bif (ieq (nlen (len a133)) (nlen (len a134))) then
    ((F84_l0_0 K a133 a134 K 0).bind fun y266 =>
    Sum.elim (fun w267 =>
      some false)
      (fun w268 =>
      some true) y266)
  else
  some false
theorem F84_ok (K : Nat) (a133 : List GPart) (a134 : List GPart) (r : Bool) (hF : F84 K a133 a134 = some r) : Evt E H 84 [.one (.sl (len a133) (flat eGPart a133)), .one (.sl (len a134) (flat eGPart a134))] (F84_res r) := by
  rw [F84] at hF
  refine cond_some hF (fun h135 hF => ?_) (fun h135 hF => ?_)
  ·
    have pq269 : ∀ {l : List Cond}, HoldAll E H hn84 l → HoldAll E H hn84 (.int (nlen (len a133)) (nlen (len a133)) :: .int (nlen (len a134)) (nlen (len a134)) :: .test (ine (nlen (len a133)) (nlen (len a134))) false :: l) := fun z => ⟨rfl, rfl, (ine_t h135), z⟩
    refine bind_some hF (fun y266 h265 hF => ?_)
    refine sum_some hF (fun w267 hx hF => ?_) (fun w268 hx hF => ?_)
    ·
      subst hx
      have hr := Option.some.inj hF
      subst hr
      have pz : HoldAll E H hn84 [.loop 0 c84_0 (F84_l0_0_S a133 a134 0) .ret (F84_l0_0_X0 a133 a134 w267)] := ⟨(F84_l0_0_ok K a133 a134 K 0 _ h265), trivial⟩
      exact fn_playC hn84 (f := 84) (ads := [.one (.sl (len a133) (flat eGPart a133)), .one (.sl (len a134) (flat eGPart a134))]) (r := F84_res false) (pq269 pz) (by kernel_rfl) (by kernel_rfl)
    subst hx
    have hr := Option.some.inj hF
    subst hr
    have pz : HoldAll E H hn84 [.loop 0 c84_0 (F84_l0_0_S a133 a134 0) (.exit 0) (F84_l0_0_X1 a133 a134 w268)] := ⟨(F84_l0_0_ok K a133 a134 K 0 _ h265), trivial⟩
    exact fn_playC hn84 (f := 84) (ads := [.one (.sl (len a133) (flat eGPart a133)), .one (.sl (len a134) (flat eGPart a134))]) (r := F84_res true) (pq269 pz) (by kernel_rfl) (by kernel_rfl)
  have hr := Option.some.inj hF
  subst hr
  have pz : HoldAll E H hn84 [.int (nlen (len a133)) (nlen (len a133)), .int (nlen (len a134)) (nlen (len a134)), .test (ine (nlen (len a133)) (nlen (len a134))) true] := ⟨rfl, rfl, (ine_f h135), trivial⟩
  exact fn_playC hn84 (f := 84) (ads := [.one (.sl (len a133) (flat eGPart a133)), .one (.sl (len a134) (flat eGPart a134))]) (r := F84_res false) pz (by kernel_rfl) (by kernel_rfl)

/-! ### haywain/haywainref19.Same -/
noncomputable def hn43 : Hint := { H 43 with nt := 38, prot := 0 }
def F43_res (r276 : Bool) : Res := ⟨[(.one (.im (.lit (.bool r276))))], []⟩
def F43 (K : Nat) (a127 : GBarrier) (a128 : GBarrier) : Option (Bool) :=
  bif (ieq a127.Epoch a128.Epoch) then
    (bif (ieq a127.Step a128.Step) then
      (bif (ieq a127.Parts a128.Parts) then
        (bif (beqb a127.Over a128.Over) then
          ((F84 K a127.Came a128.Came).bind fun r271 =>
          some r271)
        else
        some false)
      else
      some false)
    else
    some false)
  else
  some false
theorem F43_ok (K : Nat) (a127 : GBarrier) (a128 : GBarrier) (r : Bool) (hF : F43 K a127 a128 = some r) : Evt E H 43 [.agg (eGBarrier a127), .agg (eGBarrier a128)] (F43_res r) := by
  rw [F43] at hF
  refine cond_some hF (fun h129 hF => ?_) (fun h129 hF => ?_)
  ·
    have pq273 : ∀ {l : List Cond}, HoldAll E H hn43 l → HoldAll E H hn43 (.test (beqb (ieq a127.Epoch a128.Epoch) true) true :: .test (beqb (ieq a127.Epoch a128.Epoch) true) true :: .test (beqb (ieq a127.Epoch a128.Epoch) true) true :: .test (beqb (ieq a127.Epoch a128.Epoch) true) true :: .test (beqb (ieq a127.Epoch a128.Epoch) true) true :: .test (ieq a127.Epoch a128.Epoch) true :: l) := fun z => ⟨(beqb_t h129), (beqb_t h129), (beqb_t h129), (beqb_t h129), (beqb_t h129), h129, z⟩
    refine cond_some hF (fun h130 hF => ?_) (fun h130 hF => ?_)
    ·
      have pq274 : ∀ {l : List Cond}, HoldAll E H hn43 l → HoldAll E H hn43 (.test (beqb (ieq a127.Step a128.Step) true) true :: .test (beqb (ieq a127.Step a128.Step) true) true :: .test (beqb (ieq a127.Step a128.Step) true) true :: .test (beqb (ieq a127.Step a128.Step) true) true :: .test (beqb (ieq a127.Step a128.Step) true) true :: .test (ieq a127.Step a128.Step) true :: l) := fun z => ⟨(beqb_t h130), (beqb_t h130), (beqb_t h130), (beqb_t h130), (beqb_t h130), h130, z⟩
      refine cond_some hF (fun h131 hF => ?_) (fun h131 hF => ?_)
      ·
        have pq275 : ∀ {l : List Cond}, HoldAll E H hn43 l → HoldAll E H hn43 (.test (beqb (ieq a127.Parts a128.Parts) true) true :: .test (beqb (ieq a127.Parts a128.Parts) true) true :: .test (beqb (ieq a127.Parts a128.Parts) true) true :: .test (beqb (ieq a127.Parts a128.Parts) true) true :: .test (beqb (ieq a127.Parts a128.Parts) true) true :: .test (ieq a127.Parts a128.Parts) true :: l) := fun z => ⟨(beqb_t h131), (beqb_t h131), (beqb_t h131), (beqb_t h131), (beqb_t h131), h131, z⟩
        refine cond_some hF (fun h132 hF => ?_) (fun h132 hF => ?_)
        ·
          refine bind_some hF (fun r271 h272 hF => ?_)
          have hr := Option.some.inj hF
          subst hr
          have pz : HoldAll E H hn43 [.test (beqb (beqb a127.Over a128.Over) true) true, .test (beqb (beqb a127.Over a128.Over) true) true, .test (beqb (beqb a127.Over a128.Over) true) true, .test (beqb (beqb a127.Over a128.Over) true) true, .test (beqb (beqb a127.Over a128.Over) true) true, .call 84 [.one (.sl (len a127.Came) (flat eGPart a127.Came)), .one (.sl (len a128.Came) (flat eGPart a128.Came))] (F84_res r271), .test (leadsAny (Res.mk [(.one (.im (.lit (.bool r271))))] [])) false, .test (beqb a127.Over a128.Over) true] := ⟨(beqb_t h132), (beqb_t h132), (beqb_t h132), (beqb_t h132), (beqb_t h132), (F84_ok K a127.Came a128.Came _ h272), (leads_ok (by simp only [leadsAny, List.any_cons, List.any_nil, RV.leads, RC.leads, leadsT, hasSl_lit, Bool.or_false, flat_ns (eInt_ns _), flat_ns eBool_ns, flat_ns eStr_ns, flat_ns eGJob_ns, flat_ns eGEdge_ns, flat_ns eGAsked_ns, flat_ns eGMsg_ns, flat_ns eGrule_ns, flat_ns eGA199_ns, flat_ns eGA202_ns])), h132, trivial⟩
          exact fn_playC hn43 (f := 43) (ads := [.agg (eGBarrier a127), .agg (eGBarrier a128)]) (r := F43_res r271) (pq273 (pq274 (pq275 pz))) (by kernel_rfl) (by kernel_rfl)
        have hr := Option.some.inj hF
        subst hr
        have pz : HoldAll E H hn43 [.test (beqb (beqb a127.Over a128.Over) true) false, .test (beqb (beqb a127.Over a128.Over) true) false, .test (beqb (beqb a127.Over a128.Over) true) false, .test (beqb (beqb a127.Over a128.Over) true) false, .test (beqb (beqb a127.Over a128.Over) true) false, .test (beqb a127.Over a128.Over) false] := ⟨(beqb_t h132), (beqb_t h132), (beqb_t h132), (beqb_t h132), (beqb_t h132), h132, trivial⟩
        exact fn_playC hn43 (f := 43) (ads := [.agg (eGBarrier a127), .agg (eGBarrier a128)]) (r := F43_res false) (pq273 (pq274 (pq275 pz))) (by kernel_rfl) (by kernel_rfl)
      have hr := Option.some.inj hF
      subst hr
      have pz : HoldAll E H hn43 [.test (beqb (ieq a127.Parts a128.Parts) true) false, .test (beqb (ieq a127.Parts a128.Parts) true) false, .test (beqb (ieq a127.Parts a128.Parts) true) false, .test (beqb (ieq a127.Parts a128.Parts) true) false, .test (beqb (ieq a127.Parts a128.Parts) true) false, .test (ieq a127.Parts a128.Parts) false, .test (beqb false true) false, .test (beqb false true) false, .test (beqb false true) false, .test (beqb false true) false, .test (beqb false true) false, .test false false] := ⟨(beqb_t h131), (beqb_t h131), (beqb_t h131), (beqb_t h131), (beqb_t h131), h131, (beqb_t rfl), (beqb_t rfl), (beqb_t rfl), (beqb_t rfl), (beqb_t rfl), rfl, trivial⟩
      exact fn_playC hn43 (f := 43) (ads := [.agg (eGBarrier a127), .agg (eGBarrier a128)]) (r := F43_res false) (pq273 (pq274 pz)) (by kernel_rfl) (by kernel_rfl)
    have hr := Option.some.inj hF
    subst hr
    have pz : HoldAll E H hn43 [.test (beqb (ieq a127.Step a128.Step) true) false, .test (beqb (ieq a127.Step a128.Step) true) false, .test (beqb (ieq a127.Step a128.Step) true) false, .test (beqb (ieq a127.Step a128.Step) true) false, .test (beqb (ieq a127.Step a128.Step) true) false, .test (ieq a127.Step a128.Step) false, .test (beqb false true) false, .test (beqb false true) false, .test (beqb false true) false, .test (beqb false true) false, .test (beqb false true) false, .test false false, .test (beqb false true) false, .test (beqb false true) false, .test (beqb false true) false, .test (beqb false true) false, .test (beqb false true) false, .test false false] := ⟨(beqb_t h130), (beqb_t h130), (beqb_t h130), (beqb_t h130), (beqb_t h130), h130, (beqb_t rfl), (beqb_t rfl), (beqb_t rfl), (beqb_t rfl), (beqb_t rfl), rfl, (beqb_t rfl), (beqb_t rfl), (beqb_t rfl), (beqb_t rfl), (beqb_t rfl), rfl, trivial⟩
    exact fn_playC hn43 (f := 43) (ads := [.agg (eGBarrier a127), .agg (eGBarrier a128)]) (r := F43_res false) (pq273 pz) (by kernel_rfl) (by kernel_rfl)
  have hr := Option.some.inj hF
  subst hr
  have pz : HoldAll E H hn43 [.test (beqb (ieq a127.Epoch a128.Epoch) true) false, .test (beqb (ieq a127.Epoch a128.Epoch) true) false, .test (beqb (ieq a127.Epoch a128.Epoch) true) false, .test (beqb (ieq a127.Epoch a128.Epoch) true) false, .test (beqb (ieq a127.Epoch a128.Epoch) true) false, .test (ieq a127.Epoch a128.Epoch) false, .test (beqb false true) false, .test (beqb false true) false, .test (beqb false true) false, .test (beqb false true) false, .test (beqb false true) false, .test false false, .test (beqb false true) false, .test (beqb false true) false, .test (beqb false true) false, .test (beqb false true) false, .test (beqb false true) false, .test false false, .test (beqb false true) false, .test (beqb false true) false, .test (beqb false true) false, .test (beqb false true) false, .test (beqb false true) false, .test false false] := ⟨(beqb_t h129), (beqb_t h129), (beqb_t h129), (beqb_t h129), (beqb_t h129), h129, (beqb_t rfl), (beqb_t rfl), (beqb_t rfl), (beqb_t rfl), (beqb_t rfl), rfl, (beqb_t rfl), (beqb_t rfl), (beqb_t rfl), (beqb_t rfl), (beqb_t rfl), rfl, (beqb_t rfl), (beqb_t rfl), (beqb_t rfl), (beqb_t rfl), (beqb_t rfl), rfl, trivial⟩
  exact fn_playC hn43 (f := 43) (ads := [.agg (eGBarrier a127), .agg (eGBarrier a128)]) (r := F43_res false) pz (by kernel_rfl) (by kernel_rfl)

/-! ### haywain/work.Quiet -/
noncomputable def hn123 : Hint := { H 123 with nt := 19, prot := 0 }
noncomputable def c123_0 : Code := loopOf E 123 0
def F123_res (r653 : Bool) : Res := ⟨[(.one (.im (.lit (.bool r653))))], []⟩
def F123_l0_0 (K : Nat) (a634 : GPart) : Nat → Int → Option ((Unit) ⊕ (Unit))
  | 0, _ => none
  | k + 1, v640 =>
    bif (ilt v640 (nlen (len a634.Rest))) then
      (bif (inr v640 (len a634.Rest)) then
      (elAt a634.Rest v640).bind fun x643 =>
      bif x643 then
        (F123_l0_0 K a634 k (wadd .i64 v640 1))
      else
      some (.inl ())
      else none)
    else
    some (.inr ())
def F123_l0_0_S (a634 : GPart) (v640 : Int) : TS := .on [64, 65, 66, 67, 68, 69, 320, 384, 385, 448, 449, 512, 513] [(64, ⟨(.box 42 5), 0, nob⟩), (65, ⟨.im, 0, (.lit (.int .i64 a634.P))⟩), (66, ⟨.im, 0, (.lit (.int .i64 a634.Step))⟩), (67, ⟨.im, 0, (.sl (len a634.Vals) (flat (eInt .i64) a634.Vals))⟩), (68, ⟨.im, 0, (.sl (len a634.Rest) (flat eBool a634.Rest))⟩), (69, ⟨.im, 0, (.sl (len a634.In) (flat eGMsg a634.In))⟩), (320, ⟨(.ad 1 0 3), 0, nob⟩), (384, ⟨.one, 0, nob⟩), (385, ⟨.im, 0, (.sl (len a634.Rest) (flat eBool a634.Rest))⟩), (448, ⟨.one, 0, nob⟩), (449, ⟨.im, 0, (.lit (.int .i64 (nlen (len a634.Rest))))⟩), (512, ⟨.one, 0, nob⟩), (513, ⟨.im, 0, (.lit (.int .i64 v640))⟩)]
def F123_l0_0_X0 (a634 : GPart) (w646 : Unit) : TS := .on [128, 129] [(128, ⟨.one, 0, nob⟩), (129, ⟨.im, 0, (.lit (.bool false))⟩)]
def F123_l0_0_X1 (a634 : GPart) (w647 : Unit) : TS := .on [64, 65, 66, 67, 68, 69] [(64, ⟨(.box 42 5), 0, nob⟩), (65, ⟨.im, 0, (.lit (.int .i64 a634.P))⟩), (66, ⟨.im, 0, (.lit (.int .i64 a634.Step))⟩), (67, ⟨.im, 0, (.sl (len a634.Vals) (flat (eInt .i64) a634.Vals))⟩), (68, ⟨.im, 0, (.sl (len a634.Rest) (flat eBool a634.Rest))⟩), (69, ⟨.im, 0, (.sl (len a634.In) (flat eGMsg a634.In))⟩)]
theorem F123_l0_0_ok (K : Nat) (a634 : GPart) : ∀ (k : Nat) (v640 : Int) (r : (Unit) ⊕ (Unit)), F123_l0_0 K a634 k v640 = some r → (Sum.elim (fun w => LoopEv E H hn123 0 c123_0 (F123_l0_0_S a634 v640) .ret (F123_l0_0_X0 a634 w)) (fun w => LoopEv E H hn123 0 c123_0 (F123_l0_0_S a634 v640) (.exit 0) (F123_l0_0_X1 a634 w))) r := by
  intro k
  induction k with
  | zero => intro v640 r hF; cases hF
  | succ k ih =>
    intro v640 r hF
    rw [F123_l0_0] at hF
    refine cond_some hF (fun h641 hF => ?_) (fun h641 hF => ?_)
    ·
      refine cond_some hF (fun h642 hF => ?_) (fun _ hF => nomatch hF)
      refine bind_some hF (fun x643 h644 hF => ?_)
      have pq648 : ∀ {l : List Cond}, HoldAll E H hn123 l → HoldAll E H hn123 (.test (ilt v640 (nlen (len a634.Rest))) true :: .test (inr v640 (len a634.Rest)) true :: .sub (flat eBool a634.Rest) (nidx v640 1) 1 [(.lit (.bool x643))] :: l) := fun z => ⟨h641, h642, ⟨rfl, sub_flat0 eBool_len h644 1 (by decide)⟩, z⟩
      refine cond_some hF (fun h645 hF => ?_) (fun h645 hF => ?_)
      ·
        have pz : HoldAll E H hn123 [.test (bnot x643) false, .int (wadd .i64 v640 1) (wadd .i64 v640 1)] := ⟨(bnot_t h645), rfl, trivial⟩
        have h0 := ih _ _ hF
        have hn := fun ex ts' => loop_nextC (h := hn123) (l := 0) (c := c123_0) (ts := F123_l0_0_S a634 v640) (ts1 := (F123_l0_0_S a634 (wadd .i64 v640 1))) (ex := ex) (ts' := ts') (pq648 pz) (by kernel_rfl)
        cases r with
        | inl w => exact hn _ _ h0
        | inr w => exact hn _ _ h0
      have hr := Option.some.inj hF
      subst hr
      have pz : HoldAll E H hn123 [.test (bnot x643) true] := ⟨(bnot_f h645), trivial⟩
      exact loop_endC (h := hn123) (l := 0) (c := c123_0) (ts := F123_l0_0_S a634 v640) (ts' := F123_l0_0_X0 a634 ()) (ex := .ret) (pq648 pz) (by kernel_rfl) trivial
    have hr := Option.some.inj hF
    subst hr
    have pz : HoldAll E H hn123 [.test (ilt v640 (nlen (len a634.Rest))) false] := ⟨h641, trivial⟩
    exact loop_endC (h := hn123) (l := 0) (c := c123_0) (ts := F123_l0_0_S a634 v640) (ts' := F123_l0_0_X1 a634 ()) (ex := (.exit 0)) pz (by kernel_rfl) trivial

def F123 (K : Nat) (a634 : GPart) : Option (Bool) :=
  (F123_l0_0 K a634 K 0).bind fun y650 =>
  Sum.elim (fun w651 =>
    some false)
    (fun w652 =>
    some (ieq (nlen (len a634.In)) 0)) y650
theorem F123_ok (K : Nat) (a634 : GPart) (r : Bool) (hF : F123 K a634 = some r) : Evt E H 123 [.agg (eGPart a634)] (F123_res r) := by
  rw [F123] at hF
  refine bind_some hF (fun y650 h649 hF => ?_)
  refine sum_some hF (fun w651 hx hF => ?_) (fun w652 hx hF => ?_)
  ·
    subst hx
    have hr := Option.some.inj hF
    subst hr
    have pz : HoldAll E H hn123 [.int (nlen (len a634.Rest)) (nlen (len a634.Rest)), .loop 0 c123_0 (F123_l0_0_S a634 0) .ret (F123_l0_0_X0 a634 w651)] := ⟨rfl, (F123_l0_0_ok K a634 K 0 _ h649), trivial⟩
    exact fn_playC hn123 (f := 123) (ads := [.agg (eGPart a634)]) (r := F123_res false) pz (by kernel_rfl) (by kernel_rfl)
  subst hx
  have hr := Option.some.inj hF
  subst hr
  have pz : HoldAll E H hn123 [.int (nlen (len a634.Rest)) (nlen (len a634.Rest)), .loop 0 c123_0 (F123_l0_0_S a634 0) (.exit 0) (F123_l0_0_X1 a634 w652), .int (nlen (len a634.In)) (nlen (len a634.In))] := ⟨rfl, (F123_l0_0_ok K a634 K 0 _ h649), rfl, trivial⟩
  exact fn_playC hn123 (f := 123) (ads := [.agg (eGPart a634)]) (r := F123_res (ieq (nlen (len a634.In)) 0)) pz (by kernel_rfl) (by kernel_rfl)

/-! ### haywain/haywainref06.Quiet -/
noncomputable def hn106 : Hint := { H 106 with nt := 21, prot := 0 }
noncomputable def c106_0 : Code := loopOf E 106 0
def F106_res (r713 : Bool) : Res := ⟨[(.one (.im (.lit (.bool r713))))], []⟩
def F106_l0_0 (K : Nat) (a694 : GState) : Nat → Int → Option ((Unit) ⊕ (Unit))
  | 0, _ => none
  | k + 1, v700 =>
    bif (ilt v700 (nlen (len a694.Rest))) then
      (bif (inr v700 (len a694.Rest)) then
      (elAt a694.Rest v700).bind fun x703 =>
      bif x703 then
        (F106_l0_0 K a694 k (wadd .i64 v700 1))
      else
      some (.inl ())
      else none)
    else
    some (.inr ())
def F106_l0_0_S (a694 : GState) (v700 : Int) : TS := .on [64, 65, 66, 67, 68, 192, 193] [(64, ⟨(.box 74 4), 0, nob⟩), (65, ⟨.im, 0, (.lit (.int .i64 a694.Step))⟩), (66, ⟨.im, 0, (.sl (len a694.Vals) (flat (eInt .i64) a694.Vals))⟩), (67, ⟨.im, 0, (.sl (len a694.Rest) (flat eBool a694.Rest))⟩), (68, ⟨.im, 0, (.sl (len a694.In) (flat eGMsg a694.In))⟩), (192, ⟨.one, 0, nob⟩), (193, ⟨.im, 0, (.lit (.int .i64 v700))⟩)]
def F106_l0_0_X0 (a694 : GState) (w706 : Unit) : TS := .on [128, 129] [(128, ⟨.one, 0, nob⟩), (129, ⟨.im, 0, (.lit (.bool false))⟩)]
def F106_l0_0_X1 (a694 : GState) (w707 : Unit) : TS := .on [64, 65, 66, 67, 68] [(64, ⟨(.box 74 4), 0, nob⟩), (65, ⟨.im, 0, (.lit (.int .i64 a694.Step))⟩), (66, ⟨.im, 0, (.sl (len a694.Vals) (flat (eInt .i64) a694.Vals))⟩), (67, ⟨.im, 0, (.sl (len a694.Rest) (flat eBool a694.Rest))⟩), (68, ⟨.im, 0, (.sl (len a694.In) (flat eGMsg a694.In))⟩)]
theorem F106_l0_0_ok (K : Nat) (a694 : GState) : ∀ (k : Nat) (v700 : Int) (r : (Unit) ⊕ (Unit)), F106_l0_0 K a694 k v700 = some r → (Sum.elim (fun w => LoopEv E H hn106 0 c106_0 (F106_l0_0_S a694 v700) .ret (F106_l0_0_X0 a694 w)) (fun w => LoopEv E H hn106 0 c106_0 (F106_l0_0_S a694 v700) (.exit 0) (F106_l0_0_X1 a694 w))) r := by
  intro k
  induction k with
  | zero => intro v700 r hF; cases hF
  | succ k ih =>
    intro v700 r hF
    rw [F106_l0_0] at hF
    refine cond_some hF (fun h701 hF => ?_) (fun h701 hF => ?_)
    ·
      refine cond_some hF (fun h702 hF => ?_) (fun _ hF => nomatch hF)
      refine bind_some hF (fun x703 h704 hF => ?_)
      have pq708 : ∀ {l : List Cond}, HoldAll E H hn106 l → HoldAll E H hn106 (.int (nlen (len a694.Rest)) (nlen (len a694.Rest)) :: .test (ilt v700 (nlen (len a694.Rest))) true :: .test (inr v700 (len a694.Rest)) true :: .sub (flat eBool a694.Rest) (nidx v700 1) 1 [(.lit (.bool x703))] :: l) := fun z => ⟨rfl, h701, h702, ⟨rfl, sub_flat0 eBool_len h704 1 (by decide)⟩, z⟩
      refine cond_some hF (fun h705 hF => ?_) (fun h705 hF => ?_)
      ·
        have pz : HoldAll E H hn106 [.test (bnot x703) false, .int (wadd .i64 v700 1) (wadd .i64 v700 1)] := ⟨(bnot_t h705), rfl, trivial⟩
        have h0 := ih _ _ hF
        have hn := fun ex ts' => loop_nextC (h := hn106) (l := 0) (c := c106_0) (ts := F106_l0_0_S a694 v700) (ts1 := (F106_l0_0_S a694 (wadd .i64 v700 1))) (ex := ex) (ts' := ts') (pq708 pz) (by kernel_rfl)
        cases r with
        | inl w => exact hn _ _ h0
        | inr w => exact hn _ _ h0
      have hr := Option.some.inj hF
      subst hr
      have pz : HoldAll E H hn106 [.test (bnot x703) true] := ⟨(bnot_f h705), trivial⟩
      exact loop_endC (h := hn106) (l := 0) (c := c106_0) (ts := F106_l0_0_S a694 v700) (ts' := F106_l0_0_X0 a694 ()) (ex := .ret) (pq708 pz) (by kernel_rfl) trivial
    have hr := Option.some.inj hF
    subst hr
    have pz : HoldAll E H hn106 [.int (nlen (len a694.Rest)) (nlen (len a694.Rest)), .test (ilt v700 (nlen (len a694.Rest))) false] := ⟨rfl, h701, trivial⟩
    exact loop_endC (h := hn106) (l := 0) (c := c106_0) (ts := F106_l0_0_S a694 v700) (ts' := F106_l0_0_X1 a694 ()) (ex := (.exit 0)) pz (by kernel_rfl) trivial

def F106 (K : Nat) (a694 : GState) : Option (Bool) :=
  (F106_l0_0 K a694 K 0).bind fun y710 =>
  Sum.elim (fun w711 =>
    some false)
    (fun w712 =>
    some (ieq (nlen (len a694.In)) 0)) y710
theorem F106_ok (K : Nat) (a694 : GState) (r : Bool) (hF : F106 K a694 = some r) : Evt E H 106 [.agg (eGState a694)] (F106_res r) := by
  rw [F106] at hF
  refine bind_some hF (fun y710 h709 hF => ?_)
  refine sum_some hF (fun w711 hx hF => ?_) (fun w712 hx hF => ?_)
  ·
    subst hx
    have hr := Option.some.inj hF
    subst hr
    have pz : HoldAll E H hn106 [.loop 0 c106_0 (F106_l0_0_S a694 0) .ret (F106_l0_0_X0 a694 w711)] := ⟨(F106_l0_0_ok K a694 K 0 _ h709), trivial⟩
    exact fn_playC hn106 (f := 106) (ads := [.agg (eGState a694)]) (r := F106_res false) pz (by kernel_rfl) (by kernel_rfl)
  subst hx
  have hr := Option.some.inj hF
  subst hr
  have pz : HoldAll E H hn106 [.loop 0 c106_0 (F106_l0_0_S a694 0) (.exit 0) (F106_l0_0_X1 a694 w712), .int (nlen (len a694.In)) (nlen (len a694.In))] := ⟨(F106_l0_0_ok K a694 K 0 _ h709), rfl, trivial⟩
  exact fn_playC hn106 (f := 106) (ads := [.agg (eGState a694)]) (r := F106_res (ieq (nlen (len a694.In)) 0)) pz (by kernel_rfl) (by kernel_rfl)

/-! ### haywain/haywainref08.Quiet -/
noncomputable def hn124 : Hint := { H 124 with nt := 9, prot := 0 }
def F124_res (r716 : Bool) : Res := ⟨[(.one (.im (.lit (.bool r716))))], []⟩
def F124 (K : Nat) (a693 : GPart) : Option (Bool) :=
  (F106 K (GState.mk 0 [] a693.Rest a693.In)).bind fun r714 =>
  some r714
theorem F124_ok (K : Nat) (a693 : GPart) (r : Bool) (hF : F124 K a693 = some r) : Evt E H 124 [.agg (eGPart a693)] (F124_res r) := by
  rw [F124] at hF
  refine bind_some hF (fun r714 h715 hF => ?_)
  have hr := Option.some.inj hF
  subst hr
  have pz : HoldAll E H hn124 [.call 106 [.agg (eGState (GState.mk 0 [] a693.Rest a693.In))] (F106_res r714), .test (leadsAny (Res.mk [(.one (.im (.lit (.bool r714))))] [])) false] := ⟨(F106_ok K (GState.mk 0 [] a693.Rest a693.In) _ h715), (leads_ok (by simp only [leadsAny, List.any_cons, List.any_nil, RV.leads, RC.leads, leadsT, hasSl_lit, Bool.or_false, flat_ns (eInt_ns _), flat_ns eBool_ns, flat_ns eStr_ns, flat_ns eGJob_ns, flat_ns eGEdge_ns, flat_ns eGAsked_ns, flat_ns eGMsg_ns, flat_ns eGrule_ns, flat_ns eGA199_ns, flat_ns eGA202_ns])), trivial⟩
  exact fn_playC hn124 (f := 124) (ads := [.agg (eGPart a693)]) (r := F124_res r714) pz (by kernel_rfl) (by kernel_rfl)

end Go.Proofs.Ytnjanliihnadjaa.Tm

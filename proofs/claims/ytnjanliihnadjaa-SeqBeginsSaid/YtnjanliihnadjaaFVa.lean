/- Printed by program: what each function computes, and that the machine answers so. Conditions: none. -/
import Derived.Test.YtnjanliihnadjaaTy
import Derived.Test.YtnjanliihnadjaaTab
import Derived.Test.YtnjanliihnadjaaKn
import Derived.KernelRfl
set_option linter.unusedVariables false
set_option linter.unusedSimpArgs false
namespace Go.Proofs.Ytnjanliihnadjaa.Tm
open Go
/-! ### haywain/haywainlaw06.great -/
noncomputable def hn101 : Hint := { H 101 with nt := 7, prot := 0 }
def F101_res (r5048 : Bool) : Res := ⟨[(.one (.im (.lit (.bool r5048))))], []⟩
def F101 (K : Nat) (a5047 : GGraph) : Option (Bool) :=
  some (igt (nlen (len a5047.Edges)) 200)
theorem F101_ok (K : Nat) (a5047 : GGraph) (r : Bool) (hF : F101 K a5047 = some r) : Evt E H 101 [.agg (eGGraph a5047)] (F101_res r) := by
  rw [F101] at hF
  have hr := Option.some.inj hF
  subst hr
  have pz : HoldAll E H hn101 [.int (nlen (len a5047.Edges)) (nlen (len a5047.Edges))] := ⟨rfl, trivial⟩
  exact fn_playC hn101 (f := 101) (ads := [.agg (eGGraph a5047)]) (r := F101_res (igt (nlen (len a5047.Edges)) 200)) pz (by kernel_rfl) (by kernel_rfl)

/-! ### haywain/haywainlaw06.wide -/
noncomputable def hn102 : Hint := { H 102 with nt := 19, prot := 0 }
def F102_res (r5056 : Bool) : Res := ⟨[(.one (.im (.lit (.bool r5056))))], []⟩
def F102 (K : Nat) (a5052 : GState) : Option (Bool) :=
  bif (ilt 100 (nlen (len a5052.Vals))) then
    (some true)
  else
  bif (ilt 100 (nlen (len a5052.Rest))) then
    (some true)
  else
  some (igt (nlen (len a5052.In)) 300)
theorem F102_ok (K : Nat) (a5052 : GState) (r : Bool) (hF : F102 K a5052 = some r) : Evt E H 102 [.agg (eGState a5052)] (F102_res r) := by
  rw [F102] at hF
  refine cond_some hF (fun h5053 hF => ?_) (fun h5053 hF => ?_)
  ·
    have hr := Option.some.inj hF
    subst hr
    have pz : HoldAll E H hn102 [.int (nlen (len a5052.Vals)) (nlen (len a5052.Vals)), .test (beqb (igt (nlen (len a5052.Vals)) 100) false) false, .test (beqb (igt (nlen (len a5052.Vals)) 100) false) false, .test (beqb (igt (nlen (len a5052.Vals)) 100) false) false, .test (beqb (igt (nlen (len a5052.Vals)) 100) false) false, .test (igt (nlen (len a5052.Vals)) 100) true, .test (beqb true false) false, .test (beqb true false) false, .test (beqb true false) false, .test (beqb true false) false, .test true true] := ⟨rfl, (beqb_ft (igt_eq h5053)), (beqb_ft (igt_eq h5053)), (beqb_ft (igt_eq h5053)), (beqb_ft (igt_eq h5053)), (igt_eq h5053), (beqb_ft rfl), (beqb_ft rfl), (beqb_ft rfl), (beqb_ft rfl), rfl, trivial⟩
    exact fn_playC hn102 (f := 102) (ads := [.agg (eGState a5052)]) (r := F102_res true) pz (by kernel_rfl) (by kernel_rfl)
  have pq5055 : ∀ {l : List Cond}, HoldAll E H hn102 l → HoldAll E H hn102 (.int (nlen (len a5052.Vals)) (nlen (len a5052.Vals)) :: .test (beqb (igt (nlen (len a5052.Vals)) 100) false) true :: .test (beqb (igt (nlen (len a5052.Vals)) 100) false) true :: .test (beqb (igt (nlen (len a5052.Vals)) 100) false) true :: .int (nlen (len a5052.Rest)) (nlen (len a5052.Rest)) :: .test (beqb (igt (nlen (len a5052.Vals)) 100) false) true :: .test (igt (nlen (len a5052.Vals)) 100) false :: l) := fun z => ⟨rfl, (beqb_ff (igt_eq h5053)), (beqb_ff (igt_eq h5053)), (beqb_ff (igt_eq h5053)), rfl, (beqb_ff (igt_eq h5053)), (igt_eq h5053), z⟩
  refine cond_some hF (fun h5054 hF => ?_) (fun h5054 hF => ?_)
  ·
    have hr := Option.some.inj hF
    subst hr
    have pz : HoldAll E H hn102 [.test (beqb (igt (nlen (len a5052.Rest)) 100) false) false, .test (beqb (igt (nlen (len a5052.Rest)) 100) false) false, .test (beqb (igt (nlen (len a5052.Rest)) 100) false) false, .test (beqb (igt (nlen (len a5052.Rest)) 100) false) false, .test (igt (nlen (len a5052.Rest)) 100) true] := ⟨(beqb_ft (igt_eq h5054)), (beqb_ft (igt_eq h5054)), (beqb_ft (igt_eq h5054)), (beqb_ft (igt_eq h5054)), (igt_eq h5054), trivial⟩
    exact fn_playC hn102 (f := 102) (ads := [.agg (eGState a5052)]) (r := F102_res true) (pq5055 pz) (by kernel_rfl) (by kernel_rfl)
  have hr := Option.some.inj hF
  subst hr
  have pz : HoldAll E H hn102 [.test (beqb (igt (nlen (len a5052.Rest)) 100) false) true, .test (beqb (igt (nlen (len a5052.Rest)) 100) false) true, .test (beqb (igt (nlen (len a5052.Rest)) 100) false) true, .int (nlen (len a5052.In)) (nlen (len a5052.In)), .test (beqb (igt (nlen (len a5052.Rest)) 100) false) true, .test (igt (nlen (len a5052.Rest)) 100) false] := ⟨(beqb_ff (igt_eq h5054)), (beqb_ff (igt_eq h5054)), (beqb_ff (igt_eq h5054)), rfl, (beqb_ff (igt_eq h5054)), (igt_eq h5054), trivial⟩
  exact fn_playC hn102 (f := 102) (ads := [.agg (eGState a5052)]) (r := F102_res (igt (nlen (len a5052.In)) 300)) (pq5055 pz) (by kernel_rfl) (by kernel_rfl)

/-! ### haywain/seq.Quiet -/
noncomputable def hn105 : Hint := { H 105 with nt := 19, prot := 0 }
noncomputable def c105_0 : Code := loopOf E 105 0
def F105_res (r5084 : Bool) : Res := ⟨[(.one (.im (.lit (.bool r5084))))], []⟩
def F105_l0_0 (K : Nat) (a5065 : GState) : Nat → Int → Option ((Unit) ⊕ (Unit))
  | 0, _ => none
  | k + 1, v5071 =>
    bif (ilt v5071 (nlen (len a5065.Rest))) then
      (bif (inr v5071 (len a5065.Rest)) then
      (elAt a5065.Rest v5071).bind fun x5074 =>
      bif x5074 then
        (F105_l0_0 K a5065 k (wadd .i64 v5071 1))
      else
      some (.inl ())
      else none)
    else
    some (.inr ())
def F105_l0_0_S (a5065 : GState) (v5071 : Int) : TS := .on [64, 65, 66, 67, 68, 320, 384, 385, 448, 449, 512, 513] [(64, ⟨(.box 74 4), 0, nob⟩), (65, ⟨.im, 0, (.lit (.int .i64 a5065.Step))⟩), (66, ⟨.im, 0, (.sl (len a5065.Vals) (flat (eInt .i64) a5065.Vals))⟩), (67, ⟨.im, 0, (.sl (len a5065.Rest) (flat eBool a5065.Rest))⟩), (68, ⟨.im, 0, (.sl (len a5065.In) (flat eGMsg a5065.In))⟩), (320, ⟨(.ad 1 0 2), 0, nob⟩), (384, ⟨.one, 0, nob⟩), (385, ⟨.im, 0, (.sl (len a5065.Rest) (flat eBool a5065.Rest))⟩), (448, ⟨.one, 0, nob⟩), (449, ⟨.im, 0, (.lit (.int .i64 (nlen (len a5065.Rest))))⟩), (512, ⟨.one, 0, nob⟩), (513, ⟨.im, 0, (.lit (.int .i64 v5071))⟩)]
def F105_l0_0_X0 (a5065 : GState) (w5077 : Unit) : TS := .on [128, 129] [(128, ⟨.one, 0, nob⟩), (129, ⟨.im, 0, (.lit (.bool false))⟩)]
def F105_l0_0_X1 (a5065 : GState) (w5078 : Unit) : TS := .on [64, 65, 66, 67, 68] [(64, ⟨(.box 74 4), 0, nob⟩), (65, ⟨.im, 0, (.lit (.int .i64 a5065.Step))⟩), (66, ⟨.im, 0, (.sl (len a5065.Vals) (flat (eInt .i64) a5065.Vals))⟩), (67, ⟨.im, 0, (.sl (len a5065.Rest) (flat eBool a5065.Rest))⟩), (68, ⟨.im, 0, (.sl (len a5065.In) (flat eGMsg a5065.In))⟩)]
theorem F105_l0_0_ok (K : Nat) (a5065 : GState) : ∀ (k : Nat) (v5071 : Int) (r : (Unit) ⊕ (Unit)), F105_l0_0 K a5065 k v5071 = some r → (Sum.elim (fun w => LoopEv E H hn105 0 c105_0 (F105_l0_0_S a5065 v5071) .ret (F105_l0_0_X0 a5065 w)) (fun w => LoopEv E H hn105 0 c105_0 (F105_l0_0_S a5065 v5071) (.exit 0) (F105_l0_0_X1 a5065 w))) r := by
  intro k
  induction k with
  | zero => intro v5071 r hF; cases hF
  | succ k ih =>
    intro v5071 r hF
    rw [F105_l0_0] at hF
    refine cond_some hF (fun h5072 hF => ?_) (fun h5072 hF => ?_)
    ·
      refine cond_some hF (fun h5073 hF => ?_) (fun _ hF => nomatch hF)
      refine bind_some hF (fun x5074 h5075 hF => ?_)
      have pq5079 : ∀ {l : List Cond}, HoldAll E H hn105 l → HoldAll E H hn105 (.test (ilt v5071 (nlen (len a5065.Rest))) true :: .test (inr v5071 (len a5065.Rest)) true :: .sub (flat eBool a5065.Rest) (nidx v5071 1) 1 [(.lit (.bool x5074))] :: l) := fun z => ⟨h5072, h5073, ⟨rfl, sub_flat0 eBool_len h5075 1 (by decide)⟩, z⟩
      refine cond_some hF (fun h5076 hF => ?_) (fun h5076 hF => ?_)
      ·
        have pz : HoldAll E H hn105 [.test (bnot x5074) false, .int (wadd .i64 v5071 1) (wadd .i64 v5071 1)] := ⟨(bnot_t h5076), rfl, trivial⟩
        have h0 := ih _ _ hF
        have hn := fun ex ts' => loop_nextC (h := hn105) (l := 0) (c := c105_0) (ts := F105_l0_0_S a5065 v5071) (ts1 := (F105_l0_0_S a5065 (wadd .i64 v5071 1))) (ex := ex) (ts' := ts') (pq5079 pz) (by kernel_rfl)
        cases r with
        | inl w => exact hn _ _ h0
        | inr w => exact hn _ _ h0
      have hr := Option.some.inj hF
      subst hr
      have pz : HoldAll E H hn105 [.test (bnot x5074) true] := ⟨(bnot_f h5076), trivial⟩
      exact loop_endC (h := hn105) (l := 0) (c := c105_0) (ts := F105_l0_0_S a5065 v5071) (ts' := F105_l0_0_X0 a5065 ()) (ex := .ret) (pq5079 pz) (by kernel_rfl) trivial
    have hr := Option.some.inj hF
    subst hr
    have pz : HoldAll E H hn105 [.test (ilt v5071 (nlen (len a5065.Rest))) false] := ⟨h5072, trivial⟩
    exact loop_endC (h := hn105) (l := 0) (c := c105_0) (ts := F105_l0_0_S a5065 v5071) (ts' := F105_l0_0_X1 a5065 ()) (ex := (.exit 0)) pz (by kernel_rfl) trivial

def F105 (K : Nat) (a5065 : GState) : Option (Bool) :=
  (F105_l0_0 K a5065 K 0).bind fun y5081 =>
  Sum.elim (fun w5082 =>
    some false)
    (fun w5083 =>
    some (ieq (nlen (len a5065.In)) 0)) y5081
theorem F105_ok (K : Nat) (a5065 : GState) (r : Bool) (hF : F105 K a5065 = some r) : Evt E H 105 [.agg (eGState a5065)] (F105_res r) := by
  rw [F105] at hF
  refine bind_some hF (fun y5081 h5080 hF => ?_)
  refine sum_some hF (fun w5082 hx hF => ?_) (fun w5083 hx hF => ?_)
  ·
    subst hx
    have hr := Option.some.inj hF
    subst hr
    have pz : HoldAll E H hn105 [.int (nlen (len a5065.Rest)) (nlen (len a5065.Rest)), .loop 0 c105_0 (F105_l0_0_S a5065 0) .ret (F105_l0_0_X0 a5065 w5082)] := ⟨rfl, (F105_l0_0_ok K a5065 K 0 _ h5080), trivial⟩
    exact fn_playC hn105 (f := 105) (ads := [.agg (eGState a5065)]) (r := F105_res false) pz (by kernel_rfl) (by kernel_rfl)
  subst hx
  have hr := Option.some.inj hF
  subst hr
  have pz : HoldAll E H hn105 [.int (nlen (len a5065.Rest)) (nlen (len a5065.Rest)), .loop 0 c105_0 (F105_l0_0_S a5065 0) (.exit 0) (F105_l0_0_X1 a5065 w5083), .int (nlen (len a5065.In)) (nlen (len a5065.In))] := ⟨rfl, (F105_l0_0_ok K a5065 K 0 _ h5080), rfl, trivial⟩
  exact fn_playC hn105 (f := 105) (ads := [.agg (eGState a5065)]) (r := F105_res (ieq (nlen (len a5065.In)) 0)) pz (by kernel_rfl) (by kernel_rfl)

end Go.Proofs.Ytnjanliihnadjaa.Tm

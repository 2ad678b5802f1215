/- What the row of SeqSteady leans on: printed functions and plain laws. Conditions: none. -/
import Derived.Test.YtnjanliihnadjaaTy
import Derived.Test.YtnjanliihnadjaaTab
import Derived.Test.YtnjanliihnadjaaKn
import Derived.Test.YtnjanliihnadjaaWf
import Derived.IntWalk
import Derived.KernelRfl
import Derived.OpenShut
import Derived.Test.YtnjanliihnadjaaBSeqSteady2
set_option linter.unusedVariables false
set_option linter.unusedSimpArgs false
namespace Go.Proofs.Ytnjanliihnadjaa.Tm
open Go
theorem F102_ok (K : Nat) (a5052 : GState) (r : Bool) (hF : F102 K a5052 = some r) : Evt E H 102 [.agg (eGState a5052)] (F102_res r) := by
 rw [F102] at hF
 refine cond_some hF (fun h5053 hF => ?_) (fun h5053 hF => ?_)
 ·
  have hr := Option.some.inj hF
  subst hr
  have pz : HoldAll E H hn102 [.int (nlen (len a5052.Vals)) (nlen (len a5052.Vals)), .test (beqb (igt (nlen (len a5052.Vals)) 100) false) false, .test (beqb (igt (nlen (len a5052.Vals)) 100) false) false, .test (beqb (igt (nlen (len a5052.Vals)) 100) false) false, .test (beqb (igt (nlen (len a5052.Vals)) 100) false) false, .test (igt (nlen (len a5052.Vals)) 100) true, .test (beqb true false) false, .test (beqb true false) false, .test (beqb true false) false, .test (beqb true false) false, .test true true] := ⟨rfl, (beqb_ft (igt_eq h5053)), (beqb_ft (igt_eq h5053)), (beqb_ft (igt_eq h5053)), (beqb_ft (igt_eq h5053)), (igt_eq h5053), (beqb_ft rfl), (beqb_ft rfl), (beqb_ft rfl), (beqb_ft rfl), rfl, trivial⟩
  exact fn_playC hn102 (f := 102) (r := F102_res true) pz (by kernel_rfl) (by kernel_rfl)
 have pq5055 : ∀ {l : List Cond}, HoldAll E H hn102 l → HoldAll E H hn102 (.int (nlen (len a5052.Vals)) (nlen (len a5052.Vals)) :: .test (beqb (igt (nlen (len a5052.Vals)) 100) false) true :: .test (beqb (igt (nlen (len a5052.Vals)) 100) false) true :: .test (beqb (igt (nlen (len a5052.Vals)) 100) false) true :: .int (nlen (len a5052.Rest)) (nlen (len a5052.Rest)) :: .test (beqb (igt (nlen (len a5052.Vals)) 100) false) true :: .test (igt (nlen (len a5052.Vals)) 100) false :: l) := fun z => ⟨rfl, (beqb_ff (igt_eq h5053)), (beqb_ff (igt_eq h5053)), (beqb_ff (igt_eq h5053)), rfl, (beqb_ff (igt_eq h5053)), (igt_eq h5053), z⟩
 refine cond_some hF (fun h5054 hF => ?_) (fun h5054 hF => ?_)
 ·
  have hr := Option.some.inj hF
  subst hr
  have pz : HoldAll E H hn102 [.test (beqb (igt (nlen (len a5052.Rest)) 100) false) false, .test (beqb (igt (nlen (len a5052.Rest)) 100) false) false, .test (beqb (igt (nlen (len a5052.Rest)) 100) false) false, .test (beqb (igt (nlen (len a5052.Rest)) 100) false) false, .test (igt (nlen (len a5052.Rest)) 100) true] := ⟨(beqb_ft (igt_eq h5054)), (beqb_ft (igt_eq h5054)), (beqb_ft (igt_eq h5054)), (beqb_ft (igt_eq h5054)), (igt_eq h5054), trivial⟩
  exact fn_playC hn102 (f := 102) (r := F102_res true) (pq5055 pz) (by kernel_rfl) (by kernel_rfl)
 have hr := Option.some.inj hF
 subst hr
 have pz : HoldAll E H hn102 [.test (beqb (igt (nlen (len a5052.Rest)) 100) false) true, .test (beqb (igt (nlen (len a5052.Rest)) 100) false) true, .test (beqb (igt (nlen (len a5052.Rest)) 100) false) true, .int (nlen (len a5052.In)) (nlen (len a5052.In)), .test (beqb (igt (nlen (len a5052.Rest)) 100) false) true, .test (igt (nlen (len a5052.Rest)) 100) false] := ⟨(beqb_ff (igt_eq h5054)), (beqb_ff (igt_eq h5054)), (beqb_ff (igt_eq h5054)), rfl, (beqb_ff (igt_eq h5054)), (igt_eq h5054), trivial⟩
 exact fn_playC hn102 (f := 102) (r := F102_res (igt (nlen (len a5052.In)) 300)) (pq5055 pz) (by kernel_rfl) (by kernel_rfl)
noncomputable def hn105 : Hint := { H 105 with nt := 19, prot := 0 }
noncomputable def c105_0 : Code := loopOf E 105 0
def F105_res (r5084 : Bool) : Res := ⟨[(.one (.im (.lit (.bool r5084))))], []⟩
def F105_l0_0 (K : Nat) (a5065 : GState) : Nat → Int → Option ((Unit) ⊕ (Unit))
 | 0, _ => none
 | k + 1, v5071 =>
  bif (ilt v5071 (nlen (len a5065.Rest))) then
   (bif (inr v5071 (len a5065.Rest)) then
   (elAt a5065.Rest v5071).bind fun x5074 =>
   bif x5074 then
    (F105_l0_0 K a5065 k (wadd .i64 v5071 1))
   else
   some (.inl ())
   else none)
  else
  some (.inr ())
def F105_l0_0_S (a5065 : GState) (v5071 : Int) : TS := .on [64, 65, 66, 67, 68, 320, 384, 385, 448, 449, 512, 513] [(64, ⟨(.box 74 4), 0, nob⟩), (65, ⟨.im, 0, (.lit (.int .i64 a5065.Step))⟩), (66, ⟨.im, 0, (.sl (len a5065.Vals) (flat (eInt .i64) a5065.Vals))⟩), (67, ⟨.im, 0, (.sl (len a5065.Rest) (flat eBool a5065.Rest))⟩), (68, ⟨.im, 0, (.sl (len a5065.In) (flat eGMsg a5065.In))⟩), (320, ⟨(.ad 1 0 2), 0, nob⟩), (384, ⟨.one, 0, nob⟩), (385, ⟨.im, 0, (.sl (len a5065.Rest) (flat eBool a5065.Rest))⟩), (448, ⟨.one, 0, nob⟩), (449, ⟨.im, 0, (.lit (.int .i64 (nlen (len a5065.Rest))))⟩), (512, ⟨.one, 0, nob⟩), (513, ⟨.im, 0, (.lit (.int .i64 v5071))⟩)]
def F105_l0_0_X0 (a5065 : GState) (w5077 : Unit) : TS := .on [128, 129] [(128, ⟨.one, 0, nob⟩), (129, ⟨.im, 0, (.lit (.bool false))⟩)]
def F105_l0_0_X1 (a5065 : GState) (w5078 : Unit) : TS := .on [64, 65, 66, 67, 68] [(64, ⟨(.box 74 4), 0, nob⟩), (65, ⟨.im, 0, (.lit (.int .i64 a5065.Step))⟩), (66, ⟨.im, 0, (.sl (len a5065.Vals) (flat (eInt .i64) a5065.Vals))⟩), (67, ⟨.im, 0, (.sl (len a5065.Rest) (flat eBool a5065.Rest))⟩), (68, ⟨.im, 0, (.sl (len a5065.In) (flat eGMsg a5065.In))⟩)]
theorem F105_l0_0_ok (K : Nat) (a5065 : GState) : ∀ (k : Nat) (v5071 : Int) (r : (Unit) ⊕ (Unit)), F105_l0_0 K a5065 k v5071 = some r → (Sum.elim (fun w => LoopEv E H hn105 0 c105_0 (F105_l0_0_S a5065 v5071) .ret (F105_l0_0_X0 a5065 w)) (fun w => LoopEv E H hn105 0 c105_0 (F105_l0_0_S a5065 v5071) (.exit 0) (F105_l0_0_X1 a5065 w))) r := by
 intro k
 induction k with
 | zero => intro v5071 r hF; cases hF
 | succ k ih =>
  intro v5071 r hF
  rw [F105_l0_0] at hF
  refine cond_some hF (fun h5072 hF => ?_) (fun h5072 hF => ?_)
  ·
   refine cond_some hF (fun h5073 hF => ?_) (fun _ hF => nomatch hF)
   refine bind_some hF (fun x5074 h5075 hF => ?_)
   have pq5079 : ∀ {l : List Cond}, HoldAll E H hn105 l → HoldAll E H hn105 (.test (ilt v5071 (nlen (len a5065.Rest))) true :: .test (inr v5071 (len a5065.Rest)) true :: .sub (flat eBool a5065.Rest) (nidx v5071 1) 1 [(.lit (.bool x5074))] :: l) := fun z => ⟨h5072, h5073, ⟨rfl, sub_flat0 eBool_len h5075 1 (by decide)⟩, z⟩
   refine cond_some hF (fun h5076 hF => ?_) (fun h5076 hF => ?_)
   ·
    have pz : HoldAll E H hn105 [.test (bnot x5074) false, .int (wadd .i64 v5071 1) (wadd .i64 v5071 1)] := ⟨(bnot_t h5076), rfl, trivial⟩
    have h0 := ih _ _ hF
    have hn := fun ex ts' => loop_nextC (h := hn105) (l := 0) (c := c105_0) (ts := F105_l0_0_S a5065 v5071) (ts1 := (F105_l0_0_S a5065 (wadd .i64 v5071 1))) (ex := ex) (ts' := ts') (pq5079 pz) (by kernel_rfl)
    cases r with
    | inl w => exact hn _ _ h0
    | inr w => exact hn _ _ h0
   have hr := Option.some.inj hF
   subst hr
   have pz : HoldAll E H hn105 [.test (bnot x5074) true] := ⟨(bnot_f h5076), trivial⟩
   exact loop_endC (h := hn105) (l := 0) (c := c105_0) (ts := F105_l0_0_S a5065 v5071) (ts' := F105_l0_0_X0 a5065 ()) (ex := .ret) (pq5079 pz) (by kernel_rfl) trivial
  have hr := Option.some.inj hF
  subst hr
  have pz : HoldAll E H hn105 [.test (ilt v5071 (nlen (len a5065.Rest))) false] := ⟨h5072, trivial⟩
  exact loop_endC (h := hn105) (l := 0) (c := c105_0) (ts := F105_l0_0_S a5065 v5071) (ts' := F105_l0_0_X1 a5065 ()) (ex := (.exit 0)) pz (by kernel_rfl) trivial
def F105 (K : Nat) (a5065 : GState) : Option (Bool) :=
 (F105_l0_0 K a5065 K 0).bind fun y5081 =>
 Sum.elim (fun w5082 =>
  some false)
  (fun w5083 =>
  some (ieq (nlen (len a5065.In)) 0)) y5081
theorem F105_ok (K : Nat) (a5065 : GState) (r : Bool) (hF : F105 K a5065 = some r) : Evt E H 105 [.agg (eGState a5065)] (F105_res r) := by
 rw [F105] at hF
 refine bind_some hF (fun y5081 h5080 hF => ?_)
 refine sum_some hF (fun w5082 hx hF => ?_) (fun w5083 hx hF => ?_)
 ·
  subst hx
  have hr := Option.some.inj hF
  subst hr
  have pz : HoldAll E H hn105 [.int (nlen (len a5065.Rest)) (nlen (len a5065.Rest)), .loop 0 c105_0 (F105_l0_0_S a5065 0) .ret (F105_l0_0_X0 a5065 w5082)] := ⟨rfl, (F105_l0_0_ok K a5065 K 0 _ h5080), trivial⟩
  exact fn_playC hn105 (f := 105) (r := F105_res false) pz (by kernel_rfl) (by kernel_rfl)
 subst hx
 have hr := Option.some.inj hF
 subst hr
 have pz : HoldAll E H hn105 [.int (nlen (len a5065.Rest)) (nlen (len a5065.Rest)), .loop 0 c105_0 (F105_l0_0_S a5065 0) (.exit 0) (F105_l0_0_X1 a5065 w5083), .int (nlen (len a5065.In)) (nlen (len a5065.In))] := ⟨rfl, (F105_l0_0_ok K a5065 K 0 _ h5080), rfl, trivial⟩
 exact fn_playC hn105 (f := 105) (r := F105_res (ieq (nlen (len a5065.In)) 0)) pz (by kernel_rfl) (by kernel_rfl)
def restsS (s : GState) : Bool := s.Rest.all id && ieq (nlen (len s.In)) 0
theorem rest_go (l : List Bool) : goL (fun r (_ : Unit) c => bif r then c () else some (.inl ())) (fun _ => some (.inr ())) l () = (some (sumU (l.all id)) : Option (Unit ⊕ Unit)) := by
  induction l with
  | nil => rfl
  | cons r l ih => cases r <;> simp [goL, ih, sumU]
theorem F105_spec (K : Nat) (x : GState) (h : x.Rest.length < 4611686018427387904) (hK : x.Rest.length < K) : F105 K x = some (restsS x) := by
  have e : F105_l0_0 K x K 0 = _ := scanL (L := fun k (_ : Unit) i => F105_l0_0 K x k i) (fun r _ c => bif r then c () else some (.inl ())) (fun _ => some (.inr ())) (fun k s i _ => rfl) h hK ()
  rw [F105, e, rest_go, restsS]
  cases x.Rest.all id <;> rfl
def wideS (s : GState) : Bool := ilt 100 (nlen (len s.Vals)) || (ilt 100 (nlen (len s.Rest)) || ilt 300 (nlen (len s.In)))
theorem F102_spec (K : Nat) (s : GState) : F102 K s = some (wideS s) := by
  have : igt (nlen (len s.In)) 300 = ilt 300 (nlen (len s.In)) := rfl
  rw [F102, this, wideS]
  cases ilt 100 (nlen (len s.Vals)) <;> cases ilt 100 (nlen (len s.Rest)) <;> rfl
theorem wideS_f {s : GState} (h : wideS s = false) : s.Vals.length ≤ 100 ∧ s.Rest.length ≤ 100 ∧ s.In.length ≤ 300 := by
  simp only [wideS, Bool.or_eq_false_iff, ilt_f, nlen, len] at h
  omega
def fitS (K : Nat) (s : GState) : Prop := (s.Vals.length < 1000000 ∧ s.Vals.length < K) ∧ (s.Rest.length < 1000000 ∧ s.Rest.length < K) ∧ s.In.length < 1000000 ∧ s.In.length < K
theorem same87 {K : Nat} (s : GState) (h : fitS K s) : F87 K s s = some true := by
  rw [F87, ieq_refl, same140 s.Vals h.1.1 h.1.2, same141 s.Rest h.2.1.1 h.2.1.2, same89 s.In h.2.2.1 h.2.2.2]; rfl
noncomputable def hn33 : Hint := { H 33 with nt := 72, prot := 0 }
noncomputable def c33_0 : Code := loopOf E 33 0
def F33_res (r5625 : Bool) : Res := ⟨[(.one (.im (.lit (.bool r5625))))], []⟩
def F33_l0_0 (K : Nat) (a5581 : GGraph) (a5582 : GJob) (a5583 : GState) : Nat → List Bool → Int → Option (List Bool)
 | 0, _, _ => none
 | k + 1, v5595, v5596 =>
  bif (ilt v5596 a5581.N) then
   (bif (apok (len v5595) 1 1) then
   F33_l0_0 K a5581 a5582 a5583 k (appL v5595 [true]) (wadd .i64 v5596 1)
   else none)
  else
  some v5595
def F33_l0_0_S (a5581 : GGraph) (a5582 : GJob) (a5583 : GState) (v5595 : List Bool) (v5596 : Int) : TS := .on [192, 193, 194, 256, 257, 258, 259, 260, 320, 321, 322, 323, 324, 448, 449] [(192, ⟨(.box 62 2), 0, nob⟩), (193, ⟨.im, 0, (.lit (.int .i64 a5581.N))⟩), (194, ⟨.im, 0, (.sl (len a5581.Edges) (flat eGEdge a5581.Edges))⟩), (256, ⟨(.box 64 4), 0, nob⟩), (257, ⟨.im, 0, (.lit (.int .i64 a5582.Prog))⟩), (258, ⟨.im, 0, (.lit (.int .i64 a5582.Source))⟩), (259, ⟨.im, 0, (.lit (.int .i64 a5582.Limit))⟩), (260, ⟨.im, 0, (.lit (.int .i64 a5582.Parts))⟩), (320, ⟨(.box 74 4), 0, nob⟩), (321, ⟨.im, 0, (.lit (.int .i64 a5583.Step))⟩), (322, ⟨.im, 0, (.sl (len a5583.Vals) (flat (eInt .i64) a5583.Vals))⟩), (323, ⟨(.own 4), 0, (.sl (len v5595) (flat eBool v5595))⟩), (324, ⟨(.own 130), 0, (.sl 0 [])⟩), (448, ⟨.one, 0, nob⟩), (449, ⟨.im, 0, (.lit (.int .i64 v5596))⟩)]
def F33_l0_0_X0 (a5581 : GGraph) (a5582 : GJob) (a5583 : GState) (w5599 : List Bool) : TS := .on [192, 193, 194, 256, 257, 258, 259, 260, 320, 321, 322, 323, 324] [(192, ⟨(.box 62 2), 0, nob⟩), (193, ⟨.im, 0, (.lit (.int .i64 a5581.N))⟩), (194, ⟨.im, 0, (.sl (len a5581.Edges) (flat eGEdge a5581.Edges))⟩), (256, ⟨(.box 64 4), 0, nob⟩), (257, ⟨.im, 0, (.lit (.int .i64 a5582.Prog))⟩), (258, ⟨.im, 0, (.lit (.int .i64 a5582.Source))⟩), (259, ⟨.im, 0, (.lit (.int .i64 a5582.Limit))⟩), (260, ⟨.im, 0, (.lit (.int .i64 a5582.Parts))⟩), (320, ⟨(.box 74 4), 0, nob⟩), (321, ⟨.im, 0, (.lit (.int .i64 a5583.Step))⟩), (322, ⟨.im, 0, (.sl (len a5583.Vals) (flat (eInt .i64) a5583.Vals))⟩), (323, ⟨(.own 4), 0, (.sl (len w5599) (flat eBool w5599))⟩), (324, ⟨(.own 130), 0, (.sl 0 [])⟩)]
theorem F33_l0_0_ok (K : Nat) (a5581 : GGraph) (a5582 : GJob) (a5583 : GState) : ∀ (k : Nat) (v5595 : List Bool) (v5596 : Int) (r : List Bool), F33_l0_0 K a5581 a5582 a5583 k v5595 v5596 = some r → LoopEv E H hn33 0 c33_0 (F33_l0_0_S a5581 a5582 a5583 v5595 v5596) (.exit 0) (F33_l0_0_X0 a5581 a5582 a5583 r) := by
 intro k
 induction k with
 | zero => intro v5595 v5596 r hF; cases hF
 | succ k ih =>
  intro v5595 v5596 r hF
  rw [F33_l0_0] at hF
  refine cond_some hF (fun h5597 hF => ?_) (fun h5597 hF => ?_)
  ·
   refine cond_some hF (fun h5598 hF => ?_) (fun _ hF => nomatch hF)
   have pz : HoldAll E H hn33 [.test (ilt v5596 a5581.N) true, .test (leqm [(.lit (.bool true))] 1 1) true, .test (apok (len v5595) 1 1) true, .sl (nadd (len v5595) 1) (lapp (flat eBool v5595) [(.lit (.bool true))]) (len (α := Bool) (appL v5595 [true])) (flat eBool (appL v5595 [true])), .int (wadd .i64 v5596 1) (wadd .i64 v5596 1)] := ⟨h5597, rfl, h5598, (app_ok (enc := eBool) (v5595 : List Bool) [true]), rfl, trivial⟩
   have h0 := ih _ _ _ hF
   have hn := fun ex ts' => loop_nextC (h := hn33) (l := 0) (c := c33_0) (ts := F33_l0_0_S a5581 a5582 a5583 v5595 v5596) (ts1 := (F33_l0_0_S a5581 a5582 a5583 (appL v5595 [true]) (wadd .i64 v5596 1))) (ex := ex) (ts' := ts') pz (by kernel_rfl)
   exact hn _ _ h0
  have hr := Option.some.inj hF
  subst hr
  have pz : HoldAll E H hn33 [.test (ilt v5596 a5581.N) false] := ⟨h5597, trivial⟩
  exact loop_endC (h := hn33) (l := 0) (c := c33_0) (ts := F33_l0_0_S a5581 a5582 a5583 v5595 v5596) (ts' := F33_l0_0_X0 a5581 a5582 a5583 v5595) (ex := (.exit 0)) pz (by kernel_rfl) trivial
def F33 (K : Nat) (a5581 : GGraph) (a5582 : GJob) (a5583 : GState) : Option (Bool) :=
 (F101 K a5581).bind fun r5584 =>
 bif r5584 then
  (some true)
 else
 (F102 K a5583).bind fun r5587 =>
 bif r5587 then
  (some true)
 else
 (F59 K a5581 a5582).bind fun r5590 =>
 bif (ieq r5590 0) then
  ((F33_l0_0 K a5581 a5582 a5583 K [] 0).bind fun w5603 =>
  (F88 K a5581 a5582 (GState.mk a5583.Step a5583.Vals w5603 [])).bind fun r5605 =>
  bif r5605 then
   (bif (ieq a5583.Step 40) then
    (some true)
   else
   (F112 K a5581 a5582 (GState.mk a5583.Step a5583.Vals w5603 [])).bind fun r5609 =>
   bif (ieq r5609.2 0) then
    ((F87 K r5609.1 (GState.mk (wadd .i64 a5583.Step 1) a5583.Vals w5603 [])).bind fun r5612 =>
    bif r5612 then
     ((F105 K r5609.1).bind fun r5615 =>
     bif r5615 then
      (some true)
     else
     some false)
    else
    some false)
   else
   some false)
  else
  some true)
 else
 some true
theorem F33_ok (K : Nat) (a5581 : GGraph) (a5582 : GJob) (a5583 : GState) (r : Bool) (hF : F33 K a5581 a5582 a5583 = some r) : Evt E H 33 [.agg (eGGraph a5581), .agg (eGJob a5582), .agg (eGState a5583)] (F33_res r) := by
 rw [F33] at hF
 refine bind_some hF (fun r5584 h5585 hF => ?_)
 refine cond_some hF (fun h5586 hF => ?_) (fun h5586 hF => ?_)
 ·
  have hr := Option.some.inj hF
  subst hr
  have pz : HoldAll E H hn33 [.call 101 [.agg (eGGraph a5581)] (F101_res r5584), .test (leadsAny (Res.mk [(.one (.im (.lit (.bool r5584))))] [])) false, .test (beqb r5584 false) false, .test (beqb r5584 false) false, .test r5584 true, .test (beqb true false) false, .test (beqb true false) false, .test (beqb true false) false, .test (beqb true false) false, .test true true, .test true true, .call 103 [] (Res.mk [(.one (.im (.lit (.bool true))))] []), .test (leadsAny (Res.mk [(.one (.im (.lit (.bool true))))] [])) false] := ⟨(F101_ok K a5581 _ h5585), (leads_ok (by simp only [leadsAny, List.any_cons, List.any_nil, RV.leads, RC.leads, leadsT, hasSl_lit, Bool.or_false])), (beqb_ft h5586), (beqb_ft h5586), h5586, (beqb_ft rfl), (beqb_ft rfl), (beqb_ft rfl), (beqb_ft rfl), rfl, rfl, knows103, (leads_ok (by simp only [leadsAny, List.any_cons, List.any_nil, RV.leads, RC.leads, leadsT, hasSl_lit, Bool.or_false])), trivial⟩
  exact fn_playC hn33 (f := 33) (r := F33_res true) pz (by kernel_rfl) (by kernel_rfl)
 refine bind_some hF (fun r5587 h5588 hF => ?_)
 have pq5618 : ∀ {l : List Cond}, HoldAll E H hn33 l → HoldAll E H hn33 (.call 101 [.agg (eGGraph a5581)] (F101_res r5584) :: .test (leadsAny (Res.mk [(.one (.im (.lit (.bool r5584))))] [])) false :: .test (beqb r5584 false) true :: .test (beqb r5584 false) true :: .call 102 [.agg (eGState a5583)] (F102_res r5587) :: .test (leadsAny (Res.mk [(.one (.im (.lit (.bool r5587))))] [])) false :: .test r5584 false :: l) := fun z => ⟨(F101_ok K a5581 _ h5585), (leads_ok (by simp only [leadsAny, List.any_cons, List.any_nil, RV.leads, RC.leads, leadsT, hasSl_lit, Bool.or_false])), (beqb_ff h5586), (beqb_ff h5586), (F102_ok K a5583 _ h5588), (leads_ok (by simp only [leadsAny, List.any_cons, List.any_nil, RV.leads, RC.leads, leadsT, hasSl_lit, Bool.or_false])), h5586, z⟩
 refine cond_some hF (fun h5589 hF => ?_) (fun h5589 hF => ?_)
 ·
  have hr := Option.some.inj hF
  subst hr
  have pz : HoldAll E H hn33 [.test (beqb r5587 false) false, .test (beqb r5587 false) false, .test (beqb r5587 false) false, .test (beqb r5587 false) false, .test r5587 true, .test true true, .call 103 [] (Res.mk [(.one (.im (.lit (.bool true))))] []), .test (leadsAny (Res.mk [(.one (.im (.lit (.bool true))))] [])) false] := ⟨(beqb_ft h5589), (beqb_ft h5589), (beqb_ft h5589), (beqb_ft h5589), h5589, rfl, knows103, (leads_ok (by simp only [leadsAny, List.any_cons, List.any_nil, RV.leads, RC.leads, leadsT, hasSl_lit, Bool.or_false])), trivial⟩
  exact fn_playC hn33 (f := 33) (r := F33_res true) (pq5618 pz) (by kernel_rfl) (by kernel_rfl)
 refine bind_some hF (fun r5590 h5591 hF => ?_)
 have pq5619 : ∀ {l : List Cond}, HoldAll E H hn33 l → HoldAll E H hn33 (.test (beqb r5587 false) true :: .test (beqb r5587 false) true :: .test (beqb r5587 false) true :: .call 59 [.agg (eGGraph a5581), .agg (eGJob a5582)] (F59_res r5590) :: .test (leadsAny (Res.mk [(.one (.im (.lit (.int .i64 r5590))))] [])) false :: .test (beqb r5587 false) true :: .test r5587 false :: l) := fun z => ⟨(beqb_ff h5589), (beqb_ff h5589), (beqb_ff h5589), (F59_ok K a5581 a5582 _ h5591), (leads_ok (by simp only [leadsAny, List.any_cons, List.any_nil, RV.leads, RC.leads, leadsT, hasSl_lit, Bool.or_false, flat_ns eGJob_ns])), (beqb_ff h5589), h5589, z⟩
 refine cond_some hF (fun h5592 hF => ?_) (fun h5592 hF => ?_)
 ·
  refine bind_some hF (fun w5603 h5601 hF => ?_)
  refine bind_some hF (fun r5605 h5606 hF => ?_)
  have pq5620 : ∀ {l : List Cond}, HoldAll E H hn33 l → HoldAll E H hn33 (.test (ine r5590 0) false :: .loop 0 c33_0 (F33_l0_0_S a5581 a5582 a5583 [] 0) (.exit 0) (F33_l0_0_X0 a5581 a5582 a5583 w5603) :: .call 88 [.agg (eGGraph a5581), .agg (eGJob a5582), .agg (eGState (GState.mk a5583.Step a5583.Vals w5603 []))] (F88_res r5605) :: .test (leadsAny (Res.mk [(.one (.im (.lit (.bool r5605))))] [])) false :: l) := fun z => ⟨(ine_t h5592), (F33_l0_0_ok K a5581 a5582 a5583 K [] 0 _ h5601), (F88_ok K a5581 a5582 (GState.mk a5583.Step a5583.Vals w5603 []) _ h5606), (leads_ok (by simp only [leadsAny, List.any_cons, List.any_nil, RV.leads, RC.leads, leadsT, hasSl_lit, Bool.or_false, flat_ns eGJob_ns])), z⟩
  refine cond_some hF (fun h5607 hF => ?_) (fun h5607 hF => ?_)
  ·
   have pq5621 : ∀ {l : List Cond}, HoldAll E H hn33 l → HoldAll E H hn33 (.test (beqb (bnot r5605) false) true :: .test (beqb (bnot r5605) false) true :: .test (beqb (bnot r5605) false) true :: .test (bnot r5605) false :: l) := fun z => ⟨(beqb_ff (bnot_t h5607)), (beqb_ff (bnot_t h5607)), (beqb_ff (bnot_t h5607)), (bnot_t h5607), z⟩
   refine cond_some hF (fun h5608 hF => ?_) (fun h5608 hF => ?_)
   ·
    have hr := Option.some.inj hF
    subst hr
    have pz : HoldAll E H hn33 [.test (ieq a5583.Step 40) true, .call 103 [] (Res.mk [(.one (.im (.lit (.bool true))))] []), .test (leadsAny (Res.mk [(.one (.im (.lit (.bool true))))] [])) false] := ⟨h5608, knows103, (leads_ok (by simp only [leadsAny, List.any_cons, List.any_nil, RV.leads, RC.leads, leadsT, hasSl_lit, Bool.or_false])), trivial⟩
    exact fn_playC hn33 (f := 33) (r := F33_res true) (pq5618 (pq5619 (pq5620 (pq5621 pz)))) (by kernel_rfl) (by kernel_rfl)
   refine bind_some hF (fun r5609 h5610 hF => ?_)
   have pq5622 : ∀ {l : List Cond}, HoldAll E H hn33 l → HoldAll E H hn33 (.test (ieq a5583.Step 40) false :: .call 112 [.agg (eGGraph a5581), .agg (eGJob a5582), .agg (eGState (GState.mk a5583.Step a5583.Vals w5603 []))] (F112_res r5609) :: .test (leadsAny (Res.mk [(.agg [(.im (.lit (.int .i64 r5609.1.Step))), (.own 2 (.sl (len r5609.1.Vals) (flat (eInt .i64) r5609.1.Vals))), (.own 4 (.sl (len r5609.1.Rest) (flat eBool r5609.1.Rest))), (.own 130 (.sl (len r5609.1.In) (flat eGMsg r5609.1.In)))]), (.one (.im (.lit (.int .i64 r5609.2))))] [])) false :: .int (wadd .i64 a5583.Step 1) (wadd .i64 a5583.Step 1) :: l) := fun z => ⟨h5608, (F112_ok K a5581 a5582 (GState.mk a5583.Step a5583.Vals w5603 []) _ h5610), (leads_ok (by simp only [leadsAny, List.any_cons, List.any_nil, RV.leads, RC.leads, leadsT, hasSl_lit, Bool.or_false, flat_ns (eInt_ns _), flat_ns eBool_ns, flat_ns eGJob_ns, flat_ns eGMsg_ns])), rfl, z⟩
   refine cond_some hF (fun h5611 hF => ?_) (fun h5611 hF => ?_)
   ·
    refine bind_some hF (fun r5612 h5613 hF => ?_)
    have pq5623 : ∀ {l : List Cond}, HoldAll E H hn33 l → HoldAll E H hn33 (.test (beqb (ieq r5609.2 0) true) true :: .test (beqb (ieq r5609.2 0) true) true :: .test (beqb (ieq r5609.2 0) true) true :: .call 87 [.agg (eGState r5609.1), .agg (eGState (GState.mk (wadd .i64 a5583.Step 1) a5583.Vals w5603 []))] (F87_res r5612) :: .test (leadsAny (Res.mk [(.one (.im (.lit (.bool r5612))))] [])) false :: .test (ieq r5609.2 0) true :: l) := fun z => ⟨(beqb_t h5611), (beqb_t h5611), (beqb_t h5611), (F87_ok K r5609.1 (GState.mk (wadd .i64 a5583.Step 1) a5583.Vals w5603 []) _ h5613), (leads_ok (by simp only [leadsAny, List.any_cons, List.any_nil, RV.leads, RC.leads, leadsT, hasSl_lit, Bool.or_false])), h5611, z⟩
    refine cond_some hF (fun h5614 hF => ?_) (fun h5614 hF => ?_)
    ·
     refine bind_some hF (fun r5615 h5616 hF => ?_)
     have pq5624 : ∀ {l : List Cond}, HoldAll E H hn33 l → HoldAll E H hn33 (.test (beqb r5612 true) true :: .test (beqb r5612 true) true :: .call 105 [.agg (eGState r5609.1)] (F105_res r5615) :: .test (leadsAny (Res.mk [(.one (.im (.lit (.bool r5615))))] [])) false :: .test r5612 true :: l) := fun z => ⟨(beqb_t h5614), (beqb_t h5614), (F105_ok K r5609.1 _ h5616), (leads_ok (by simp only [leadsAny, List.any_cons, List.any_nil, RV.leads, RC.leads, leadsT, hasSl_lit, Bool.or_false])), h5614, z⟩
     refine cond_some hF (fun h5617 hF => ?_) (fun h5617 hF => ?_)
     ·
      have hr := Option.some.inj hF
      subst hr
      have pz : HoldAll E H hn33 [.test (beqb r5615 true) true, .call 103 [] (Res.mk [(.one (.im (.lit (.bool true))))] []), .test (leadsAny (Res.mk [(.one (.im (.lit (.bool true))))] [])) false, .test r5615 true] := ⟨(beqb_t h5617), knows103, (leads_ok (by simp only [leadsAny, List.any_cons, List.any_nil, RV.leads, RC.leads, leadsT, hasSl_lit, Bool.or_false])), h5617, trivial⟩
      exact fn_playC hn33 (f := 33) (r := F33_res true) (pq5618 (pq5619 (pq5620 (pq5621 (pq5622 (pq5623 (pq5624 pz))))))) (by kernel_rfl) (by kernel_rfl)
     have hr := Option.some.inj hF
     subst hr
     have pz : HoldAll E H hn33 [.test (beqb r5615 true) false, .test r5615 false] := ⟨(beqb_t h5617), h5617, trivial⟩
     exact fn_playC hn33 (f := 33) (r := F33_res false) (pq5618 (pq5619 (pq5620 (pq5621 (pq5622 (pq5623 (pq5624 pz))))))) (by kernel_rfl) (by kernel_rfl)
    have hr := Option.some.inj hF
    subst hr
    have pz : HoldAll E H hn33 [.test (beqb r5612 true) false, .test (beqb r5612 true) false, .test r5612 false, .test (beqb false true) false, .test false false] := ⟨(beqb_t h5614), (beqb_t h5614), h5614, (beqb_t rfl), rfl, trivial⟩
    exact fn_playC hn33 (f := 33) (r := F33_res false) (pq5618 (pq5619 (pq5620 (pq5621 (pq5622 (pq5623 pz)))))) (by kernel_rfl) (by kernel_rfl)
   have hr := Option.some.inj hF
   subst hr
   have pz : HoldAll E H hn33 [.test (beqb (ieq r5609.2 0) true) false, .test (beqb (ieq r5609.2 0) true) false, .test (beqb (ieq r5609.2 0) true) false, .test (ieq r5609.2 0) false, .test (beqb false true) false, .test (beqb false true) false, .test false false, .test (beqb false true) false, .test false false] := ⟨(beqb_t h5611), (beqb_t h5611), (beqb_t h5611), h5611, (beqb_t rfl), (beqb_t rfl), rfl, (beqb_t rfl), rfl, trivial⟩
   exact fn_playC hn33 (f := 33) (r := F33_res false) (pq5618 (pq5619 (pq5620 (pq5621 (pq5622 pz))))) (by kernel_rfl) (by kernel_rfl)
  have hr := Option.some.inj hF
  subst hr
  have pz : HoldAll E H hn33 [.test (beqb (bnot r5605) false) false, .test (beqb (bnot r5605) false) false, .test (beqb (bnot r5605) false) false, .test (bnot r5605) true, .test true true, .call 103 [] (Res.mk [(.one (.im (.lit (.bool true))))] []), .test (leadsAny (Res.mk [(.one (.im (.lit (.bool true))))] [])) false] := ⟨(beqb_ft (bnot_f h5607)), (beqb_ft (bnot_f h5607)), (beqb_ft (bnot_f h5607)), (bnot_f h5607), rfl, knows103, (leads_ok (by simp only [leadsAny, List.any_cons, List.any_nil, RV.leads, RC.leads, leadsT, hasSl_lit, Bool.or_false])), trivial⟩
  exact fn_playC hn33 (f := 33) (r := F33_res true) (pq5618 (pq5619 (pq5620 pz))) (by kernel_rfl) (by kernel_rfl)
 have hr := Option.some.inj hF
 subst hr
 have pz : HoldAll E H hn33 [.test (ine r5590 0) true, .call 103 [] (Res.mk [(.one (.im (.lit (.bool true))))] []), .test (leadsAny (Res.mk [(.one (.im (.lit (.bool true))))] [])) false] := ⟨(ine_f h5592), knows103, (leads_ok (by simp only [leadsAny, List.any_cons, List.any_nil, RV.leads, RC.leads, leadsT, hasSl_lit, Bool.or_false])), trivial⟩
 exact fn_playC hn33 (f := 33) (r := F33_res true) (pq5618 (pq5619 pz)) (by kernel_rfl) (by kernel_rfl)
theorem steady_stepA {g : GGraph} {j : GJob} {s : GState} (hi : s.In = []) (hr : s.Rest = List.replicate g.N.toNat true) (hv : s.Vals.length = g.N.toNat) : ∀ (n i : Nat), i + n = g.N.toNat →
    stepA g j s (List.range' i n) (s.Vals.take i) (List.replicate i true) [] = .inr (s.Vals, List.replicate g.N.toNat true, []) := by
  intro n
  induction n with
  | zero =>
    intro i h
    have : s.Vals.take i = s.Vals := List.take_of_length_le (by omega)
    have hi' : i = g.N.toNat := by omega
    show Sum.inr (s.Vals.take i, List.replicate i true, []) = _
    rw [this, hi']
  | succ n ih =>
    intro i h
    have hat : atS s.In (i : Int) = (0, false) := by rw [hi]; rfl
    have hg : s.Rest.getD i false = true := by
      rw [hr, List.getD_eq_getElem?_getD, List.getElem?_replicate_of_lt (by omega)]; rfl
    have h1 : oneS g j s i = (s.Vals.getD i 0, [], true, 0) := by rw [oneS, hg, hat]; rfl
    have e1 : s.Vals.take i ++ [s.Vals.getD i 0] = s.Vals.take (i + 1) := by
      rw [List.getD_eq_getElem?_getD, List.take_add_one, List.getElem?_eq_getElem (by omega : i < s.Vals.length)]; rfl
    have e2 : List.replicate i true ++ [true] = List.replicate (i + 1) true := List.replicate_succ'.symm
    have z : ieq 0 0 = true := rfl
    rw [List.range'_succ, stepA, h1]
    simp only [z, cond_true]
    rw [e1, e2, List.append_nil]
    exact ih (i + 1) (by omega)
theorem law33 (g : GGraph) (j : GJob) (s : GState) (_ : WGGraph g) (_ : WGJob j) (hs : WGState s) : F33 1000 g j s = some true := by
  generalize hq : 1000 = K
  have hK : 1000 ≤ K := by omega
  rw [F33, F101, F102_spec, F59_spec (by omega), Option.bind_some]
  cases igt (nlen (len g.Edges)) 200
  · rw [cond_false, Option.bind_some]
    cases hb : wideS s
    · rw [cond_false, Option.bind_some]
      cases hc : ieq (jcheck g j) 0
      · rfl
      · obtain ⟨hg, p1, p2, p3, p4, p5, p6, p7, p8⟩ := jcheck_ok hc
        obtain ⟨g1, g2, g3, _⟩ := gcheck_ok hg
        obtain ⟨w1, w2, w3⟩ := wideS_f hb
        let step : Nat → List Bool → (List Bool → Option (List Bool)) → Option (List Bool) := fun i s c => bif (apok (len s) 1 1) then c (appL s [true]) else none
        have h := scanN (N := g.N) (L := fun k w i => F33_l0_0 K g j s k w i) step (fun w => some w) (fun k w i _ => rfl) (by omega) (K := K) (by omega) []
        have hw : ∀ (l : List Nat) (w : List Bool), w.length + l.length ≤ 1000 → goL step (fun w => some w) l w = some (w ++ List.replicate l.length true) := by
          intro l
          induction l with
          | nil => intro w _; simp [goL]
          | cons v l ih =>
            intro w hs
            simp only [List.length_cons] at hs
            rw [goL]
            show (bif (apok (len w) 1 1) then goL step (fun w => some w) l (appL w [true]) else none) = _
            have ha : apok (len w) 1 1 = true := decide_eq_true ⟨by show w.length + 1 ≤ _; omega, by show (w.length + 1) * 1 ≤ _; omega⟩
            rw [ha, cond_true, ih _ (by simp [appL]; omega)]
            simp [appL, List.replicate_succ]
        have h' : F33_l0_0 K g j s K [] 0 = some (List.replicate g.N.toNat true) := by
          rw [show F33_l0_0 K g j s K [] 0 = _ from h, hw _ [] (by simp; omega)]; simp
        rw [cond_true, h', Option.bind_some]
        generalize ht : GState.mk s.Step s.Vals (List.replicate g.N.toNat true) [] = t
        have tI : t.In = [] := by rw [← ht]
        have tR : t.Rest = List.replicate g.N.toNat true := by rw [← ht]
        have tV : t.Vals = s.Vals := by rw [← ht]
        have tS : t.Step = s.Step := by rw [← ht]
        have tn : niceS t := ⟨by rw [tV]; exact (wf_nice hs).1, by rw [tI]; exact fun m hm => absurd hm List.not_mem_nil⟩
        rw [F88_spec hK g j t (by rw [tI]; simp) (by rw [tI]; simp; omega), Option.bind_some]
        cases hr : stRight g j t
        · rfl
        · obtain ⟨_, s1, s2, s3, s4, _⟩ := stRight_ok hr
          rw [cond_true]
          cases h40 : ieq s.Step 40
          · rw [cond_false, F112_spec hK g j t tn (by rw [tI]; simp) (by rw [tI]; simp; omega), Option.bind_some]
            have hA : stepA g j t (List.range g.N.toNat) [] [] [] = .inr (t.Vals, List.replicate g.N.toNat true, []) := by
              rw [List.range_eq_range']
              exact steady_stepA tI tR (by omega) g.N.toNat 0 (by omega)
            have pb : pbad j.Prog = false := by rw [pbad, ilt_f.2 p1, ilt_f.2 p2]; rfl
            have hB : boxS j.Prog [] = ([], 0) := by rw [boxS, pb]; rfl
            have hst : stepS g j t = (GState.mk (s.Step + 1) s.Vals (List.replicate g.N.toNat true) [], 0) := by
              rw [stepS, hc, hr, tS, h40, hA, stepB, hB, tV, tS]; rfl
            have hw : wadd .i64 s.Step 1 = s.Step + 1 := wadd_i64 (by unfold i64; omega)
            have z : ieq 0 0 = true := rfl
            rw [hst, hw]
            simp only [z, cond_true]
            have lv : s.Vals.length ≤ 24 := by rw [tV] at s3; omega
            rw [same87 (K := K) (GState.mk (s.Step + 1) s.Vals (List.replicate g.N.toNat true) []) (by refine ⟨⟨?_, ?_⟩, ⟨?_, ?_⟩, ?_, ?_⟩ <;> simp <;> omega), Option.bind_some, cond_true, F105_spec K _ (by simp; omega) (by simp; omega), Option.bind_some]
            have : restsS (GState.mk (s.Step + 1) s.Vals (List.replicate g.N.toNat true) []) = true := by
              rw [restsS]
              have : (List.replicate g.N.toNat true).all id = true := by rw [List.all_eq_true]; intro x hx; rw [List.eq_of_mem_replicate hx]; rfl
              simp only [this]; rfl
            rw [this]; rfl
          · rfl
    · rfl
  · rfl
end Go.Proofs.Ytnjanliihnadjaa.Tm

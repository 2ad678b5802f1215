/- Printed by program: what each function computes, and that the machine answers so. Conditions: none. -/
import Derived.Test.YtnjanliihnadjaaTy
import Derived.Test.YtnjanliihnadjaaTab
import Derived.Test.YtnjanliihnadjaaKn
import Derived.KernelRfl
set_option linter.unusedVariables false
set_option linter.unusedSimpArgs false
namespace Go.Proofs.Ytnjanliihnadjaa.Tm
open Go
/-! ### haywain/haywainref06.SameVals -/
noncomputable def hn140 : Hint := { H 140 with nt := 26, prot := 0 }
noncomputable def c140_0 : Code := loopOf E 140 0
def F140_res (r175 : Bool) : Res := ⟨[(.one (.im (.lit (.bool r175))))], []⟩
def F140_l0_0 (K : Nat) (a147 : List Int) (a148 : List Int) : Nat → Int → Option ((Unit) ⊕ (Unit))
  | 0, _ => none
  | k + 1, v158 =>
    bif (ilt v158 (nlen (len a147))) then
      (bif (inr v158 (len a147)) then
      (elAt a147 v158).bind fun x161 =>
      bif (inr v158 (len a148)) then
      (elAt a148 v158).bind fun x164 =>
      bif (ieq x161 x164) then
        (F140_l0_0 K a147 a148 k (wadd .i64 v158 1))
      else
      some (.inl ())
      else none
      else none)
    else
    some (.inr ())
def F140_l0_0_S (a147 : List Int) (a148 : List Int) (v158 : Int) : TS := .on [0, 1, 64, 65, 320, 321] [(0, ⟨.one, 0, nob⟩), (1, ⟨.im, 0, (.sl (len a147) (flat (eInt .i64) a147))⟩), (64, ⟨.one, 0, nob⟩), (65, ⟨.im, 0, (.sl (len a148) (flat (eInt .i64) a148))⟩), (320, ⟨.one, 0, nob⟩), (321, ⟨.im, 0, (.lit (.int .i64 v158))⟩)]
def F140_l0_0_X0 (a147 : List Int) (a148 : List Int) (w167 : Unit) : TS := .on [256, 257] [(256, ⟨.one, 0, nob⟩), (257, ⟨.im, 0, (.lit (.bool false))⟩)]
def F140_l0_0_X1 (a147 : List Int) (a148 : List Int) (w168 : Unit) : TS := .on [] []
theorem F140_l0_0_ok (K : Nat) (a147 : List Int) (a148 : List Int) : ∀ (k : Nat) (v158 : Int) (r : (Unit) ⊕ (Unit)), F140_l0_0 K a147 a148 k v158 = some r → (Sum.elim (fun w => LoopEv E H hn140 0 c140_0 (F140_l0_0_S a147 a148 v158) .ret (F140_l0_0_X0 a147 a148 w)) (fun w => LoopEv E H hn140 0 c140_0 (F140_l0_0_S a147 a148 v158) (.exit 0) (F140_l0_0_X1 a147 a148 w))) r := by
  intro k
  induction k with
  | zero => intro v158 r hF; cases hF
  | succ k ih =>
    intro v158 r hF
    rw [F140_l0_0] at hF
    refine cond_some hF (fun h159 hF => ?_) (fun h159 hF => ?_)
    ·
      refine cond_some hF (fun h160 hF => ?_) (fun _ hF => nomatch hF)
      refine bind_some hF (fun x161 h162 hF => ?_)
      refine cond_some hF (fun h163 hF => ?_) (fun _ hF => nomatch hF)
      refine bind_some hF (fun x164 h165 hF => ?_)
      have pq169 : ∀ {l : List Cond}, HoldAll E H hn140 l → HoldAll E H hn140 (.int (nlen (len a147)) (nlen (len a147)) :: .test (ilt v158 (nlen (len a147))) true :: .test (inr v158 (len a147)) true :: .sub (flat (eInt .i64) a147) (nidx v158 1) 1 [(.lit (.int .i64 x161))] :: .test (inr v158 (len a148)) true :: .sub (flat (eInt .i64) a148) (nidx v158 1) 1 [(.lit (.int .i64 x164))] :: l) := fun z => ⟨rfl, h159, h160, ⟨rfl, sub_flat0 (eInt_len _) h162 1 (by decide)⟩, h163, ⟨rfl, sub_flat0 (eInt_len _) h165 1 (by decide)⟩, z⟩
      refine cond_some hF (fun h166 hF => ?_) (fun h166 hF => ?_)
      ·
        have pz : HoldAll E H hn140 [.test (ine x161 x164) false, .int (wadd .i64 v158 1) (wadd .i64 v158 1)] := ⟨(ine_t h166), rfl, trivial⟩
        have h0 := ih _ _ hF
        have hn := fun ex ts' => loop_nextC (h := hn140) (l := 0) (c := c140_0) (ts := F140_l0_0_S a147 a148 v158) (ts1 := (F140_l0_0_S a147 a148 (wadd .i64 v158 1))) (ex := ex) (ts' := ts') (pq169 pz) (by kernel_rfl)
        cases r with
        | inl w => exact hn _ _ h0
        | inr w => exact hn _ _ h0
      have hr := Option.some.inj hF
      subst hr
      have pz : HoldAll E H hn140 [.test (ine x161 x164) true] := ⟨(ine_f h166), trivial⟩
      exact loop_endC (h := hn140) (l := 0) (c := c140_0) (ts := F140_l0_0_S a147 a148 v158) (ts' := F140_l0_0_X0 a147 a148 ()) (ex := .ret) (pq169 pz) (by kernel_rfl) trivial
    have hr := Option.some.inj hF
    subst hr
    have pz : HoldAll E H hn140 [.int (nlen (len a147)) (nlen (len a147)), .test (ilt v158 (nlen (len a147))) false] := ⟨rfl, h159, trivial⟩
    exact loop_endC (h := hn140) (l := 0) (c := c140_0) (ts := F140_l0_0_S a147 a148 v158) (ts' := F140_l0_0_X1 a147 a148 ()) (ex := (.exit 0)) pz (by kernel_rfl) trivial

def F140 (K : Nat) (a147 : List Int) (a148 : List Int) : Option (Bool) :=
  bif (ieq (nlen (len a147)) (nlen (len a148))) then
    ((F140_l0_0 K a147 a148 K 0).bind fun y171 =>
    Sum.elim (fun w172 =>
      some false)
      (fun w173 =>
      some true) y171)
  else
  some false
theorem F140_ok (K : Nat) (a147 : List Int) (a148 : List Int) (r : Bool) (hF : F140 K a147 a148 = some r) : Evt E H 140 [.one (.sl (len a147) (flat (eInt .i64) a147)), .one (.sl (len a148) (flat (eInt .i64) a148))] (F140_res r) := by
  rw [F140] at hF
  refine cond_some hF (fun h149 hF => ?_) (fun h149 hF => ?_)
  ·
    have pq174 : ∀ {l : List Cond}, HoldAll E H hn140 l → HoldAll E H hn140 (.int (nlen (len a147)) (nlen (len a147)) :: .int (nlen (len a148)) (nlen (len a148)) :: .test (ine (nlen (len a147)) (nlen (len a148))) false :: l) := fun z => ⟨rfl, rfl, (ine_t h149), z⟩
    refine bind_some hF (fun y171 h170 hF => ?_)
    refine sum_some hF (fun w172 hx hF => ?_) (fun w173 hx hF => ?_)
    ·
      subst hx
      have hr := Option.some.inj hF
      subst hr
      have pz : HoldAll E H hn140 [.loop 0 c140_0 (F140_l0_0_S a147 a148 0) .ret (F140_l0_0_X0 a147 a148 w172)] := ⟨(F140_l0_0_ok K a147 a148 K 0 _ h170), trivial⟩
      exact fn_playC hn140 (f := 140) (ads := [.one (.sl (len a147) (flat (eInt .i64) a147)), .one (.sl (len a148) (flat (eInt .i64) a148))]) (r := F140_res false) (pq174 pz) (by kernel_rfl) (by kernel_rfl)
    subst hx
    have hr := Option.some.inj hF
    subst hr
    have pz : HoldAll E H hn140 [.loop 0 c140_0 (F140_l0_0_S a147 a148 0) (.exit 0) (F140_l0_0_X1 a147 a148 w173)] := ⟨(F140_l0_0_ok K a147 a148 K 0 _ h170), trivial⟩
    exact fn_playC hn140 (f := 140) (ads := [.one (.sl (len a147) (flat (eInt .i64) a147)), .one (.sl (len a148) (flat (eInt .i64) a148))]) (r := F140_res true) (pq174 pz) (by kernel_rfl) (by kernel_rfl)
  have hr := Option.some.inj hF
  subst hr
  have pz : HoldAll E H hn140 [.int (nlen (len a147)) (nlen (len a147)), .int (nlen (len a148)) (nlen (len a148)), .test (ine (nlen (len a147)) (nlen (len a148))) true] := ⟨rfl, rfl, (ine_f h149), trivial⟩
  exact fn_playC hn140 (f := 140) (ads := [.one (.sl (len a147) (flat (eInt .i64) a147)), .one (.sl (len a148) (flat (eInt .i64) a148))]) (r := F140_res false) pz (by kernel_rfl) (by kernel_rfl)

/-! ### haywain/haywainref06.SameRest -/
noncomputable def hn141 : Hint := { H 141 with nt := 26, prot := 0 }
noncomputable def c141_0 : Code := loopOf E 141 0
def F141_res (r207 : Bool) : Res := ⟨[(.one (.im (.lit (.bool r207))))], []⟩
def F141_l0_0 (K : Nat) (a179 : List Bool) (a180 : List Bool) : Nat → Int → Option ((Unit) ⊕ (Unit))
  | 0, _ => none
  | k + 1, v190 =>
    bif (ilt v190 (nlen (len a179))) then
      (bif (inr v190 (len a179)) then
      (elAt a179 v190).bind fun x193 =>
      bif (inr v190 (len a180)) then
      (elAt a180 v190).bind fun x196 =>
      bif (beqb x193 x196) then
        (F141_l0_0 K a179 a180 k (wadd .i64 v190 1))
      else
      some (.inl ())
      else none
      else none)
    else
    some (.inr ())
def F141_l0_0_S (a179 : List Bool) (a180 : List Bool) (v190 : Int) : TS := .on [0, 1, 64, 65, 320, 321] [(0, ⟨.one, 0, nob⟩), (1, ⟨.im, 0, (.sl (len a179) (flat eBool a179))⟩), (64, ⟨.one, 0, nob⟩), (65, ⟨.im, 0, (.sl (len a180) (flat eBool a180))⟩), (320, ⟨.one, 0, nob⟩), (321, ⟨.im, 0, (.lit (.int .i64 v190))⟩)]
def F141_l0_0_X0 (a179 : List Bool) (a180 : List Bool) (w199 : Unit) : TS := .on [256, 257] [(256, ⟨.one, 0, nob⟩), (257, ⟨.im, 0, (.lit (.bool false))⟩)]
def F141_l0_0_X1 (a179 : List Bool) (a180 : List Bool) (w200 : Unit) : TS := .on [] []
theorem F141_l0_0_ok (K : Nat) (a179 : List Bool) (a180 : List Bool) : ∀ (k : Nat) (v190 : Int) (r : (Unit) ⊕ (Unit)), F141_l0_0 K a179 a180 k v190 = some r → (Sum.elim (fun w => LoopEv E H hn141 0 c141_0 (F141_l0_0_S a179 a180 v190) .ret (F141_l0_0_X0 a179 a180 w)) (fun w => LoopEv E H hn141 0 c141_0 (F141_l0_0_S a179 a180 v190) (.exit 0) (F141_l0_0_X1 a179 a180 w))) r := by
  intro k
  induction k with
  | zero => intro v190 r hF; cases hF
  | succ k ih =>
    intro v190 r hF
    rw [F141_l0_0] at hF
    refine cond_some hF (fun h191 hF => ?_) (fun h191 hF => ?_)
    ·
      refine cond_some hF (fun h192 hF => ?_) (fun _ hF => nomatch hF)
      refine bind_some hF (fun x193 h194 hF => ?_)
      refine cond_some hF (fun h195 hF => ?_) (fun _ hF => nomatch hF)
      refine bind_some hF (fun x196 h197 hF => ?_)
      have pq201 : ∀ {l : List Cond}, HoldAll E H hn141 l → HoldAll E H hn141 (.int (nlen (len a179)) (nlen (len a179)) :: .test (ilt v190 (nlen (len a179))) true :: .test (inr v190 (len a179)) true :: .sub (flat eBool a179) (nidx v190 1) 1 [(.lit (.bool x193))] :: .test (inr v190 (len a180)) true :: .sub (flat eBool a180) (nidx v190 1) 1 [(.lit (.bool x196))] :: l) := fun z => ⟨rfl, h191, h192, ⟨rfl, sub_flat0 eBool_len h194 1 (by decide)⟩, h195, ⟨rfl, sub_flat0 eBool_len h197 1 (by decide)⟩, z⟩
      refine cond_some hF (fun h198 hF => ?_) (fun h198 hF => ?_)
      ·
        have pz : HoldAll E H hn141 [.test (bnot (beqb x193 x196)) false, .int (wadd .i64 v190 1) (wadd .i64 v190 1)] := ⟨(bnot_t h198), rfl, trivial⟩
        have h0 := ih _ _ hF
        have hn := fun ex ts' => loop_nextC (h := hn141) (l := 0) (c := c141_0) (ts := F141_l0_0_S a179 a180 v190) (ts1 := (F141_l0_0_S a179 a180 (wadd .i64 v190 1))) (ex := ex) (ts' := ts') (pq201 pz) (by kernel_rfl)
        cases r with
        | inl w => exact hn _ _ h0
        | inr w => exact hn _ _ h0
      have hr := Option.some.inj hF
      subst hr
      have pz : HoldAll E H hn141 [.test (bnot (beqb x193 x196)) true] := ⟨(bnot_f h198), trivial⟩
      exact loop_endC (h := hn141) (l := 0) (c := c141_0) (ts := F141_l0_0_S a179 a180 v190) (ts' := F141_l0_0_X0 a179 a180 ()) (ex := .ret) (pq201 pz) (by kernel_rfl) trivial
    have hr := Option.some.inj hF
    subst hr
    have pz : HoldAll E H hn141 [.int (nlen (len a179)) (nlen (len a179)), .test (ilt v190 (nlen (len a179))) false] := ⟨rfl, h191, trivial⟩
    exact loop_endC (h := hn141) (l := 0) (c := c141_0) (ts := F141_l0_0_S a179 a180 v190) (ts' := F141_l0_0_X1 a179 a180 ()) (ex := (.exit 0)) pz (by kernel_rfl) trivial

def F141 (K : Nat) (a179 : List Bool) (a180 : List Bool) : Option (Bool) :=
  bif (ieq (nlen (len a179)) (nlen (len a180))) then
    ((F141_l0_0 K a179 a180 K 0).bind fun y203 =>
    Sum.elim (fun w204 =>
      some false)
      (fun w205 =>
      some true) y203)
  else
  some false
theorem F141_ok (K : Nat) (a179 : List Bool) (a180 : List Bool) (r : Bool) (hF : F141 K a179 a180 = some r) : Evt E H 141 [.one (.sl (len a179) (flat eBool a179)), .one (.sl (len a180) (flat eBool a180))] (F141_res r) := by
  rw [F141] at hF
  refine cond_some hF (fun h181 hF => ?_) (fun h181 hF => ?_)
  ·
    have pq206 : ∀ {l : List Cond}, HoldAll E H hn141 l → HoldAll E H hn141 (.int (nlen (len a179)) (nlen (len a179)) :: .int (nlen (len a180)) (nlen (len a180)) :: .test (ine (nlen (len a179)) (nlen (len a180))) false :: l) := fun z => ⟨rfl, rfl, (ine_t h181), z⟩
    refine bind_some hF (fun y203 h202 hF => ?_)
    refine sum_some hF (fun w204 hx hF => ?_) (fun w205 hx hF => ?_)
    ·
      subst hx
      have hr := Option.some.inj hF
      subst hr
      have pz : HoldAll E H hn141 [.loop 0 c141_0 (F141_l0_0_S a179 a180 0) .ret (F141_l0_0_X0 a179 a180 w204)] := ⟨(F141_l0_0_ok K a179 a180 K 0 _ h202), trivial⟩
      exact fn_playC hn141 (f := 141) (ads := [.one (.sl (len a179) (flat eBool a179)), .one (.sl (len a180) (flat eBool a180))]) (r := F141_res false) (pq206 pz) (by kernel_rfl) (by kernel_rfl)
    subst hx
    have hr := Option.some.inj hF
    subst hr
    have pz : HoldAll E H hn141 [.loop 0 c141_0 (F141_l0_0_S a179 a180 0) (.exit 0) (F141_l0_0_X1 a179 a180 w205)] := ⟨(F141_l0_0_ok K a179 a180 K 0 _ h202), trivial⟩
    exact fn_playC hn141 (f := 141) (ads := [.one (.sl (len a179) (flat eBool a179)), .one (.sl (len a180) (flat eBool a180))]) (r := F141_res true) (pq206 pz) (by kernel_rfl) (by kernel_rfl)
  have hr := Option.some.inj hF
  subst hr
  have pz : HoldAll E H hn141 [.int (nlen (len a179)) (nlen (len a179)), .int (nlen (len a180)) (nlen (len a180)), .test (ine (nlen (len a179)) (nlen (len a180))) true] := ⟨rfl, rfl, (ine_f h181), trivial⟩
  exact fn_playC hn141 (f := 141) (ads := [.one (.sl (len a179) (flat eBool a179)), .one (.sl (len a180) (flat eBool a180))]) (r := F141_res false) pz (by kernel_rfl) (by kernel_rfl)

/-! ### haywain/haywainref04.SameMsgs -/
noncomputable def hn89 : Hint := { H 89 with nt := 26, prot := 0 }
noncomputable def c89_0 : Code := loopOf E 89 0
def F89_res (r241 : Bool) : Res := ⟨[(.one (.im (.lit (.bool r241))))], []⟩
def F89_l0_0 (K : Nat) (a211 : List GMsg) (a212 : List GMsg) : Nat → Int → Option ((Unit) ⊕ (Unit))
  | 0, _ => none
  | k + 1, v223 =>
    bif (ilt v223 (nlen (len a211))) then
      (bif (inr v223 (len a211)) then
      (elAt a211 v223).bind fun x226 =>
      bif (inr v223 (len a212)) then
      (elAt a212 v223).bind fun x229 =>
      bif (ieq x226.To x229.To) then
        (bif (ieq x226.V x229.V) then
          (F89_l0_0 K a211 a212 k (wadd .i64 v223 1))
        else
        some (.inl ()))
      else
      some (.inl ())
      else none
      else none)
    else
    some (.inr ())
def F89_l0_0_S (a211 : List GMsg) (a212 : List GMsg) (v223 : Int) : TS := .on [0, 1, 64, 65, 320, 321] [(0, ⟨.one, 0, nob⟩), (1, ⟨.im, 0, (.sl (len a211) (flat eGMsg a211))⟩), (64, ⟨.one, 0, nob⟩), (65, ⟨.im, 0, (.sl (len a212) (flat eGMsg a212))⟩), (320, ⟨.one, 0, nob⟩), (321, ⟨.im, 0, (.lit (.int .i64 v223))⟩)]
def F89_l0_0_X0 (a211 : List GMsg) (a212 : List GMsg) (w233 : Unit) : TS := .on [256, 257] [(256, ⟨.one, 0, nob⟩), (257, ⟨.im, 0, (.lit (.bool false))⟩)]
def F89_l0_0_X1 (a211 : List GMsg) (a212 : List GMsg) (w234 : Unit) : TS := .on [] []
theorem F89_l0_0_ok (K : Nat) (a211 : List GMsg) (a212 : List GMsg) : ∀ (k : Nat) (v223 : Int) (r : (Unit) ⊕ (Unit)), F89_l0_0 K a211 a212 k v223 = some r → (Sum.elim (fun w => LoopEv E H hn89 0 c89_0 (F89_l0_0_S a211 a212 v223) .ret (F89_l0_0_X0 a211 a212 w)) (fun w => LoopEv E H hn89 0 c89_0 (F89_l0_0_S a211 a212 v223) (.exit 0) (F89_l0_0_X1 a211 a212 w))) r := by
  intro k
  induction k with
  | zero => intro v223 r hF; cases hF
  | succ k ih =>
    intro v223 r hF
    rw [F89_l0_0] at hF
    refine cond_some hF (fun h224 hF => ?_) (fun h224 hF => ?_)
    ·
      refine cond_some hF (fun h225 hF => ?_) (fun _ hF => nomatch hF)
      refine bind_some hF (fun x226 h227 hF => ?_)
      refine cond_some hF (fun h228 hF => ?_) (fun _ hF => nomatch hF)
      refine bind_some hF (fun x229 h230 hF => ?_)
      have pq235 : ∀ {l : List Cond}, HoldAll E H hn89 l → HoldAll E H hn89 (.int (nlen (len a211)) (nlen (len a211)) :: .test (ilt v223 (nlen (len a211))) true :: .test (inr v223 (len a211)) true :: .sub (flat eGMsg a211) (nidx v223 2) 2 [(.lit (.int .i64 x226.To)), (.lit (.int .i64 x226.V))] :: .test (inr v223 (len a212)) true :: .sub (flat eGMsg a212) (nidx v223 2) 2 [(.lit (.int .i64 x229.To)), (.lit (.int .i64 x229.V))] :: l) := fun z => ⟨rfl, h224, h225, ⟨rfl, sub_flat0 eGMsg_len h227 2 (by decide)⟩, h228, ⟨rfl, sub_flat0 eGMsg_len h230 2 (by decide)⟩, z⟩
      refine cond_some hF (fun h231 hF => ?_) (fun h231 hF => ?_)
      ·
        refine cond_some hF (fun h232 hF => ?_) (fun h232 hF => ?_)
        ·
          have pz : HoldAll E H hn89 [.test (bnot (band (ieq x226.To x229.To) (band (ieq x226.V x229.V) true))) false, .int (wadd .i64 v223 1) (wadd .i64 v223 1)] := ⟨(bnot_t (band_tt h231 (band_tt h232 rfl))), rfl, trivial⟩
          have h0 := ih _ _ hF
          have hn := fun ex ts' => loop_nextC (h := hn89) (l := 0) (c := c89_0) (ts := F89_l0_0_S a211 a212 v223) (ts1 := (F89_l0_0_S a211 a212 (wadd .i64 v223 1))) (ex := ex) (ts' := ts') (pq235 pz) (by kernel_rfl)
          cases r with
          | inl w => exact hn _ _ h0
          | inr w => exact hn _ _ h0
        have hr := Option.some.inj hF
        subst hr
        have pz : HoldAll E H hn89 [.test (bnot (band (ieq x226.To x229.To) (band (ieq x226.V x229.V) true))) true] := ⟨(bnot_f (band_f2 h231 (band_f1 h232))), trivial⟩
        exact loop_endC (h := hn89) (l := 0) (c := c89_0) (ts := F89_l0_0_S a211 a212 v223) (ts' := F89_l0_0_X0 a211 a212 ()) (ex := .ret) (pq235 pz) (by kernel_rfl) trivial
      have hr := Option.some.inj hF
      subst hr
      have pz : HoldAll E H hn89 [.test (bnot (band (ieq x226.To x229.To) (band (ieq x226.V x229.V) true))) true] := ⟨(bnot_f (band_f1 h231)), trivial⟩
      exact loop_endC (h := hn89) (l := 0) (c := c89_0) (ts := F89_l0_0_S a211 a212 v223) (ts' := F89_l0_0_X0 a211 a212 ()) (ex := .ret) (pq235 pz) (by kernel_rfl) trivial
    have hr := Option.some.inj hF
    subst hr
    have pz : HoldAll E H hn89 [.int (nlen (len a211)) (nlen (len a211)), .test (ilt v223 (nlen (len a211))) false] := ⟨rfl, h224, trivial⟩
    exact loop_endC (h := hn89) (l := 0) (c := c89_0) (ts := F89_l0_0_S a211 a212 v223) (ts' := F89_l0_0_X1 a211 a212 ()) (ex := (.exit 0)) pz (by kernel_rfl) trivial

def F89 (K : Nat) (a211 : List GMsg) (a212 : List GMsg) : Option (Bool) :=
  bif (ieq (nlen (len a211)) (nlen (len a212))) then
    ((F89_l0_0 K a211 a212 K 0).bind fun y237 =>
    Sum.elim (fun w238 =>
      some false)
      (fun w239 =>
      some true) y237)
  else
  some false
theorem F89_ok (K : Nat) (a211 : List GMsg) (a212 : List GMsg) (r : Bool) (hF : F89 K a211 a212 = some r) : Evt E H 89 [.one (.sl (len a211) (flat eGMsg a211)), .one (.sl (len a212) (flat eGMsg a212))] (F89_res r) := by
  rw [F89] at hF
  refine cond_some hF (fun h213 hF => ?_) (fun h213 hF => ?_)
  ·
    have pq240 : ∀ {l : List Cond}, HoldAll E H hn89 l → HoldAll E H hn89 (.int (nlen (len a211)) (nlen (len a211)) :: .int (nlen (len a212)) (nlen (len a212)) :: .test (ine (nlen (len a211)) (nlen (len a212))) false :: l) := fun z => ⟨rfl, rfl, (ine_t h213), z⟩
    refine bind_some hF (fun y237 h236 hF => ?_)
    refine sum_some hF (fun w238 hx hF => ?_) (fun w239 hx hF => ?_)
    ·
      subst hx
      have hr := Option.some.inj hF
      subst hr
      have pz : HoldAll E H hn89 [.loop 0 c89_0 (F89_l0_0_S a211 a212 0) .ret (F89_l0_0_X0 a211 a212 w238)] := ⟨(F89_l0_0_ok K a211 a212 K 0 _ h236), trivial⟩
      exact fn_playC hn89 (f := 89) (ads := [.one (.sl (len a211) (flat eGMsg a211)), .one (.sl (len a212) (flat eGMsg a212))]) (r := F89_res false) (pq240 pz) (by kernel_rfl) (by kernel_rfl)
    subst hx
    have hr := Option.some.inj hF
    subst hr
    have pz : HoldAll E H hn89 [.loop 0 c89_0 (F89_l0_0_S a211 a212 0) (.exit 0) (F89_l0_0_X1 a211 a212 w239)] := ⟨(F89_l0_0_ok K a211 a212 K 0 _ h236), trivial⟩
    exact fn_playC hn89 (f := 89) (ads := [.one (.sl (len a211) (flat eGMsg a211)), .one (.sl (len a212) (flat eGMsg a212))]) (r := F89_res true) (pq240 pz) (by kernel_rfl) (by kernel_rfl)
  have hr := Option.some.inj hF
  subst hr
  have pz : HoldAll E H hn89 [.int (nlen (len a211)) (nlen (len a211)), .int (nlen (len a212)) (nlen (len a212)), .test (ine (nlen (len a211)) (nlen (len a212))) true] := ⟨rfl, rfl, (ine_f h213), trivial⟩
  exact fn_playC hn89 (f := 89) (ads := [.one (.sl (len a211) (flat eGMsg a211)), .one (.sl (len a212) (flat eGMsg a212))]) (r := F89_res false) pz (by kernel_rfl) (by kernel_rfl)

/-! ### haywain/haywainref07.Same -/
noncomputable def hn118 : Hint := { H 118 with nt := 38, prot := 0 }
def F118_res (r247 : Bool) : Res := ⟨[(.one (.im (.lit (.bool r247))))], []⟩
def F118 (K : Nat) (a143 : GPart) (a144 : GPart) : Option (Bool) :=
  bif (ieq a143.P a144.P) then
    (bif (ieq a143.Step a144.Step) then
      ((F140 K a143.Vals a144.Vals).bind fun r176 =>
      bif r176 then
        ((F141 K a143.Rest a144.Rest).bind fun r208 =>
        bif r208 then
          ((F89 K a143.In a144.In).bind fun r242 =>
          some r242)
        else
        some false)
      else
      some false)
    else
    some false)
  else
  some false
theorem F118_ok (K : Nat) (a143 : GPart) (a144 : GPart) (r : Bool) (hF : F118 K a143 a144 = some r) : Evt E H 118 [.agg (eGPart a143), .agg (eGPart a144)] (F118_res r) := by
  rw [F118] at hF
  refine cond_some hF (fun h145 hF => ?_) (fun h145 hF => ?_)
  ·
    have pq244 : ∀ {l : List Cond}, HoldAll E H hn118 l → HoldAll E H hn118 (.test (beqb (ieq a143.P a144.P) true) true :: .test (beqb (ieq a143.P a144.P) true) true :: .test (beqb (ieq a143.P a144.P) true) true :: .test (beqb (ieq a143.P a144.P) true) true :: .test (beqb (ieq a143.P a144.P) true) true :: .test (ieq a143.P a144.P) true :: l) := fun z => ⟨(beqb_t h145), (beqb_t h145), (beqb_t h145), (beqb_t h145), (beqb_t h145), h145, z⟩
    refine cond_some hF (fun h146 hF => ?_) (fun h146 hF => ?_)
    ·
      refine bind_some hF (fun r176 h177 hF => ?_)
      have pq245 : ∀ {l : List Cond}, HoldAll E H hn118 l → HoldAll E H hn118 (.test (beqb (ieq a143.Step a144.Step) true) true :: .test (beqb (ieq a143.Step a144.Step) true) true :: .test (beqb (ieq a143.Step a144.Step) true) true :: .test (beqb (ieq a143.Step a144.Step) true) true :: .test (beqb (ieq a143.Step a144.Step) true) true :: .call 140 [.one (.sl (len a143.Vals) (flat (eInt .i64) a143.Vals)), .one (.sl (len a144.Vals) (flat (eInt .i64) a144.Vals))] (F140_res r176) :: .test (leadsAny (Res.mk [(.one (.im (.lit (.bool r176))))] [])) false :: .test (ieq a143.Step a144.Step) true :: l) := fun z => ⟨(beqb_t h146), (beqb_t h146), (beqb_t h146), (beqb_t h146), (beqb_t h146), (F140_ok K a143.Vals a144.Vals _ h177), (leads_ok (by simp only [leadsAny, List.any_cons, List.any_nil, RV.leads, RC.leads, leadsT, hasSl_lit, Bool.or_false, flat_ns (eInt_ns _), flat_ns eBool_ns, flat_ns eStr_ns, flat_ns eGJob_ns, flat_ns eGEdge_ns, flat_ns eGAsked_ns, flat_ns eGMsg_ns, flat_ns eGrule_ns, flat_ns eGA199_ns, flat_ns eGA202_ns])), h146, z⟩
      refine cond_some hF (fun h178 hF => ?_) (fun h178 hF => ?_)
      ·
        refine bind_some hF (fun r208 h209 hF => ?_)
        have pq246 : ∀ {l : List Cond}, HoldAll E H hn118 l → HoldAll E H hn118 (.test (beqb r176 true) true :: .test (beqb r176 true) true :: .test (beqb r176 true) true :: .test (beqb r176 true) true :: .test (beqb r176 true) true :: .call 141 [.one (.sl (len a143.Rest) (flat eBool a143.Rest)), .one (.sl (len a144.Rest) (flat eBool a144.Rest))] (F141_res r208) :: .test (leadsAny (Res.mk [(.one (.im (.lit (.bool r208))))] [])) false :: .test r176 true :: l) := fun z => ⟨(beqb_t h178), (beqb_t h178), (beqb_t h178), (beqb_t h178), (beqb_t h178), (F141_ok K a143.Rest a144.Rest _ h209), (leads_ok (by simp only [leadsAny, List.any_cons, List.any_nil, RV.leads, RC.leads, leadsT, hasSl_lit, Bool.or_false, flat_ns (eInt_ns _), flat_ns eBool_ns, flat_ns eStr_ns, flat_ns eGJob_ns, flat_ns eGEdge_ns, flat_ns eGAsked_ns, flat_ns eGMsg_ns, flat_ns eGrule_ns, flat_ns eGA199_ns, flat_ns eGA202_ns])), h178, z⟩
        refine cond_some hF (fun h210 hF => ?_) (fun h210 hF => ?_)
        ·
          refine bind_some hF (fun r242 h243 hF => ?_)
          have hr := Option.some.inj hF
          subst hr
          have pz : HoldAll E H hn118 [.test (beqb r208 true) true, .test (beqb r208 true) true, .test (beqb r208 true) true, .test (beqb r208 true) true, .test (beqb r208 true) true, .call 89 [.one (.sl (len a143.In) (flat eGMsg a143.In)), .one (.sl (len a144.In) (flat eGMsg a144.In))] (F89_res r242), .test (leadsAny (Res.mk [(.one (.im (.lit (.bool r242))))] [])) false, .test r208 true] := ⟨(beqb_t h210), (beqb_t h210), (beqb_t h210), (beqb_t h210), (beqb_t h210), (F89_ok K a143.In a144.In _ h243), (leads_ok (by simp only [leadsAny, List.any_cons, List.any_nil, RV.leads, RC.leads, leadsT, hasSl_lit, Bool.or_false, flat_ns (eInt_ns _), flat_ns eBool_ns, flat_ns eStr_ns, flat_ns eGJob_ns, flat_ns eGEdge_ns, flat_ns eGAsked_ns, flat_ns eGMsg_ns, flat_ns eGrule_ns, flat_ns eGA199_ns, flat_ns eGA202_ns])), h210, trivial⟩
          exact fn_playC hn118 (f := 118) (ads := [.agg (eGPart a143), .agg (eGPart a144)]) (r := F118_res r242) (pq244 (pq245 (pq246 pz))) (by kernel_rfl) (by kernel_rfl)
        have hr := Option.some.inj hF
        subst hr
        have pz : HoldAll E H hn118 [.test (beqb r208 true) false, .test (beqb r208 true) false, .test (beqb r208 true) false, .test (beqb r208 true) false, .test (beqb r208 true) false, .test r208 false] := ⟨(beqb_t h210), (beqb_t h210), (beqb_t h210), (beqb_t h210), (beqb_t h210), h210, trivial⟩
        exact fn_playC hn118 (f := 118) (ads := [.agg (eGPart a143), .agg (eGPart a144)]) (r := F118_res false) (pq244 (pq245 (pq246 pz))) (by kernel_rfl) (by kernel_rfl)
      have hr := Option.some.inj hF
      subst hr
      have pz : HoldAll E H hn118 [.test (beqb r176 true) false, .test (beqb r176 true) false, .test (beqb r176 true) false, .test (beqb r176 true) false, .test (beqb r176 true) false, .test r176 false, .test (beqb false true) false, .test (beqb false true) false, .test (beqb false true) false, .test (beqb false true) false, .test (beqb false true) false, .test false false] := ⟨(beqb_t h178), (beqb_t h178), (beqb_t h178), (beqb_t h178), (beqb_t h178), h178, (beqb_t rfl), (beqb_t rfl), (beqb_t rfl), (beqb_t rfl), (beqb_t rfl), rfl, trivial⟩
      exact fn_playC hn118 (f := 118) (ads := [.agg (eGPart a143), .agg (eGPart a144)]) (r := F118_res false) (pq244 (pq245 pz)) (by kernel_rfl) (by kernel_rfl)
    have hr := Option.some.inj hF
    subst hr
    have pz : HoldAll E H hn118 [.test (beqb (ieq a143.Step a144.Step) true) false, .test (beqb (ieq a143.Step a144.Step) true) false, .test (beqb (ieq a143.Step a144.Step) true) false, .test (beqb (ieq a143.Step a144.Step) true) false, .test (beqb (ieq a143.Step a144.Step) true) false, .test (ieq a143.Step a144.Step) false, .test (beqb false true) false, .test (beqb false true) false, .test (beqb false true) false, .test (beqb false true) false, .test (beqb false true) false, .test false false, .test (beqb false true) false, .test (beqb false true) false, .test (beqb false true) false, .test (beqb false true) false, .test (beqb false true) false, .test false false] := ⟨(beqb_t h146), (beqb_t h146), (beqb_t h146), (beqb_t h146), (beqb_t h146), h146, (beqb_t rfl), (beqb_t rfl), (beqb_t rfl), (beqb_t rfl), (beqb_t rfl), rfl, (beqb_t rfl), (beqb_t rfl), (beqb_t rfl), (beqb_t rfl), (beqb_t rfl), rfl, trivial⟩
    exact fn_playC hn118 (f := 118) (ads := [.agg (eGPart a143), .agg (eGPart a144)]) (r := F118_res false) (pq244 pz) (by kernel_rfl) (by kernel_rfl)
  have hr := Option.some.inj hF
  subst hr
  have pz : HoldAll E H hn118 [.test (beqb (ieq a143.P a144.P) true) false, .test (beqb (ieq a143.P a144.P) true) false, .test (beqb (ieq a143.P a144.P) true) false, .test (beqb (ieq a143.P a144.P) true) false, .test (beqb (ieq a143.P a144.P) true) false, .test (ieq a143.P a144.P) false, .test (beqb false true) false, .test (beqb false true) false, .test (beqb false true) false, .test (beqb false true) false, .test (beqb false true) false, .test false false, .test (beqb false true) false, .test (beqb false true) false, .test (beqb false true) false, .test (beqb false true) false, .test (beqb false true) false, .test false false, .test (beqb false true) false, .test (beqb false true) false, .test (beqb false true) false, .test (beqb false true) false, .test (beqb false true) false, .test false false] := ⟨(beqb_t h145), (beqb_t h145), (beqb_t h145), (beqb_t h145), (beqb_t h145), h145, (beqb_t rfl), (beqb_t rfl), (beqb_t rfl), (beqb_t rfl), (beqb_t rfl), rfl, (beqb_t rfl), (beqb_t rfl), (beqb_t rfl), (beqb_t rfl), (beqb_t rfl), rfl, (beqb_t rfl), (beqb_t rfl), (beqb_t rfl), (beqb_t rfl), (beqb_t rfl), rfl, trivial⟩
  exact fn_playC hn118 (f := 118) (ads := [.agg (eGPart a143), .agg (eGPart a144)]) (r := F118_res false) pz (by kernel_rfl) (by kernel_rfl)

/-! ### haywain/haywainref07.SameAll -/
noncomputable def hn84 : Hint := { H 84 with nt := 27, prot := 0 }
noncomputable def c84_0 : Code := loopOf E 84 0
def F84_res (r270 : Bool) : Res := ⟨[(.one (.im (.lit (.bool r270))))], []⟩
def F84_l0_0 (K : Nat) (a133 : List GPart) (a134 : List GPart) : Nat → Int → Option ((Unit) ⊕ (Unit))
  | 0, _ => none
  | k + 1, v251 =>
    bif (ilt v251 (nlen (len a133))) then
      (bif (inr v251 (len a133)) then
      (elAt a133 v251).bind fun x254 =>
      bif (inr v251 (len a134)) then
      (elAt a134 v251).bind fun x257 =>
      (F118 K x254 x257).bind fun r259 =>
      bif r259 then
        (F84_l0_0 K a133 a134 k (wadd .i64 v251 1))
      else
      some (.inl ())
      else none
      else none)
    else
    some (.inr ())
def F84_l0_0_S (a133 : List GPart) (a134 : List GPart) (v251 : Int) : TS := .on [0, 1, 64, 65, 320, 321] [(0, ⟨.one, 0, nob⟩), (1, ⟨.im, 0, (.sl (len a133) (flat eGPart a133))⟩), (64, ⟨.one, 0, nob⟩), (65, ⟨.im, 0, (.sl (len a134) (flat eGPart a134))⟩), (320, ⟨.one, 0, nob⟩), (321, ⟨.im, 0, (.lit (.int .i64 v251))⟩)]
def F84_l0_0_X0 (a133 : List GPart) (a134 : List GPart) (w262 : Unit) : TS := .on [256, 257] [(256, ⟨.one, 0, nob⟩), (257, ⟨.im, 0, (.lit (.bool false))⟩)]
def F84_l0_0_X1 (a133 : List GPart) (a134 : List GPart) (w263 : Unit) : TS := .on [] []
theorem F84_l0_0_ok (K : Nat) (a133 : List GPart) (a134 : List GPart) : ∀ (k : Nat) (v251 : Int) (r : (Unit) ⊕ (Unit)), F84_l0_0 K a133 a134 k v251 = some r → (Sum.elim (fun w => LoopEv E H hn84 0 c84_0 (F84_l0_0_S a133 a134 v251) .ret (F84_l0_0_X0 a133 a134 w)) (fun w => LoopEv E H hn84 0 c84_0 (F84_l0_0_S a133 a134 v251) (.exit 0) (F84_l0_0_X1 a133 a134 w))) r := by
  intro k
  induction k with
  | zero => intro v251 r hF; cases hF
  | succ k ih =>
    intro v251 r hF
    rw [F84_l0_0] at hF
    refine cond_some hF (fun h252 hF => ?_) (fun h252 hF => ?_)
    ·
      refine cond_some hF (fun h253 hF => ?_) (fun _ hF => nomatch hF)
      refine bind_some hF (fun x254 h255 hF => ?_)
      refine cond_some hF (fun h256 hF => ?_) (fun _ hF => nomatch hF)
      refine bind_some hF (fun x257 h258 hF => ?_)
      refine bind_some hF (fun r259 h260 hF => ?_)
      have pq264 : ∀ {l : List Cond}, HoldAll E H hn84 l → HoldAll E H hn84 (.int (nlen (len a133)) (nlen (len a133)) :: .test (ilt v251 (nlen (len a133))) true :: .test (inr v251 (len a133)) true :: .sub (flat eGPart a133) (nidx v251 5) 5 [(.lit (.int .i64 x254.P)), (.lit (.int .i64 x254.Step)), (.sl (len x254.Vals) (flat (eInt .i64) x254.Vals)), (.sl (len x254.Rest) (flat eBool x254.Rest)), (.sl (len x254.In) (flat eGMsg x254.In))] :: .test (inr v251 (len a134)) true :: .sub (flat eGPart a134) (nidx v251 5) 5 [(.lit (.int .i64 x257.P)), (.lit (.int .i64 x257.Step)), (.sl (len x257.Vals) (flat (eInt .i64) x257.Vals)), (.sl (len x257.Rest) (flat eBool x257.Rest)), (.sl (len x257.In) (flat eGMsg x257.In))] :: .call 118 [.agg (eGPart x254), .agg (eGPart x257)] (F118_res r259) :: .test (leadsAny (Res.mk [(.one (.im (.lit (.bool r259))))] [])) false :: l) := fun z => ⟨rfl, h252, h253, ⟨rfl, sub_flat0 eGPart_len h255 5 (by decide)⟩, h256, ⟨rfl, sub_flat0 eGPart_len h258 5 (by decide)⟩, (F118_ok K x254 x257 _ h260), (leads_ok (by simp only [leadsAny, List.any_cons, List.any_nil, RV.leads, RC.leads, leadsT, hasSl_lit, Bool.or_false, flat_ns (eInt_ns _), flat_ns eBool_ns, flat_ns eStr_ns, flat_ns eGJob_ns, flat_ns eGEdge_ns, flat_ns eGAsked_ns, flat_ns eGMsg_ns, flat_ns eGrule_ns, flat_ns eGA199_ns, flat_ns eGA202_ns])), z⟩
      refine cond_some hF (fun h261 hF => ?_) (fun h261 hF => ?_)
      ·
        have pz : HoldAll E H hn84 [.test (bnot r259) false, .int (wadd .i64 v251 1) (wadd .i64 v251 1)] := ⟨(bnot_t h261), rfl, trivial⟩
        have h0 := ih _ _ hF
        have hn := fun ex ts' => loop_nextC (h := hn84) (l := 0) (c := c84_0) (ts := F84_l0_0_S a133 a134 v251) (ts1 := (F84_l0_0_S a133 a134 (wadd .i64 v251 1))) (ex := ex) (ts' := ts') (pq264 pz) (by kernel_rfl)
        cases r with
        | inl w => exact hn _ _ h0
        | inr w => exact hn _ _ h0
      have hr := Option.some.inj hF
      subst hr
      have pz : HoldAll E H hn84 [.test (bnot r259) true] := ⟨(bnot_f h261), trivial⟩
      exact loop_endC (h := hn84) (l := 0) (c := c84_0) (ts := F84_l0_0_S a133 a134 v251) (ts' := F84_l0_0_X0 a133 a134 ()) (ex := .ret) (pq264 pz) (by kernel_rfl) trivial
    have hr := Option.some.inj hF
    subst hr
    have pz : HoldAll E H hn84 [.int (nlen (len a133)) (nlen (len a133)), .test (ilt v251 (nlen (len a133))) false] := ⟨rfl, h252, trivial⟩
    exact loop_endC (h := hn84) (l := 0) (c := c84_0) (ts := F84_l0_0_S a133 a134 v251) (ts' := F84_l0_0_X1 a133 a134 ()) (ex := (.exit 0)) pz (by kernel_rfl) trivial

def F84 (K : Nat) (a133 : List GPart) (a134 : List GPart) : Option (Bool) :=
  bif (ieq (nlen (len a133)) (nlen (len a134))) then
    ((F84_l0_0 K a133 a134 K 0).bind fun y266 =>
    Sum.elim (fun w267 =>
      some false)
      (fun w268 =>
      some true) y266)
  else
  some false
theorem F84_ok (K : Nat) (a133 : List GPart) (a134 : List GPart) (r : Bool) (hF : F84 K a133 a134 = some r) : Evt E H 84 [.one (.sl (len a133) (flat eGPart a133)), .one (.sl (len a134) (flat eGPart a134))] (F84_res r) := by
  rw [F84] at hF
  refine cond_some hF (fun h135 hF => ?_) (fun h135 hF => ?_)
  ·
    have pq269 : ∀ {l : List Cond}, HoldAll E H hn84 l → HoldAll E H hn84 (.int (nlen (len a133)) (nlen (len a133)) :: .int (nlen (len a134)) (nlen (len a134)) :: .test (ine (nlen (len a133)) (nlen (len a134))) false :: l) := fun z => ⟨rfl, rfl, (ine_t h135), z⟩
    refine bind_some hF (fun y266 h265 hF => ?_)
    refine sum_some hF (fun w267 hx hF => ?_) (fun w268 hx hF => ?_)
    ·
      subst hx
      have hr := Option.some.inj hF
      subst hr
      have pz : HoldAll E H hn84 [.loop 0 c84_0 (F84_l0_0_S a133 a134 0) .ret (F84_l0_0_X0 a133 a134 w267)] := ⟨(F84_l0_0_ok K a133 a134 K 0 _ h265), trivial⟩
      exact fn_playC hn84 (f := 84) (ads := [.one (.sl (len a133) (flat eGPart a133)), .one (.sl (len a134) (flat eGPart a134))]) (r := F84_res false) (pq269 pz) (by kernel_rfl) (by kernel_rfl)
    subst hx
    have hr := Option.some.inj hF
    subst hr
    have pz : HoldAll E H hn84 [.loop 0 c84_0 (F84_l0_0_S a133 a134 0) (.exit 0) (F84_l0_0_X1 a133 a134 w268)] := ⟨(F84_l0_0_ok K a133 a134 K 0 _ h265), trivial⟩
    exact fn_playC hn84 (f := 84) (ads := [.one (.sl (len a133) (flat eGPart a133)), .one (.sl (len a134) (flat eGPart a134))]) (r := F84_res true) (pq269 pz) (by kernel_rfl) (by kernel_rfl)
  have hr := Option.some.inj hF
  subst hr
  have pz : HoldAll E H hn84 [.int (nlen (len a133)) (nlen (len a133)), .int (nlen (len a134)) (nlen (len a134)), .test (ine (nlen (len a133)) (nlen (len a134))) true] := ⟨rfl, rfl, (ine_f h135), trivial⟩
  exact fn_playC hn84 (f := 84) (ads := [.one (.sl (len a133) (flat eGPart a133)), .one (.sl (len a134) (flat eGPart a134))]) (r := F84_res false) pz (by kernel_rfl) (by kernel_rfl)

/-! ### haywain/haywainref06.Same -/
noncomputable def hn87 : Hint := { H 87 with nt := 31, prot := 0 }
def F87_res (r3880 : Bool) : Res := ⟨[(.one (.im (.lit (.bool r3880))))], []⟩
def F87 (K : Nat) (a3867 : GState) (a3868 : GState) : Option (Bool) :=
  bif (ieq a3867.Step a3868.Step) then
    ((F140 K a3867.Vals a3868.Vals).bind fun r3870 =>
    bif r3870 then
      ((F141 K a3867.Rest a3868.Rest).bind fun r3873 =>
      bif r3873 then
        ((F89 K a3867.In a3868.In).bind fun r3876 =>
        some r3876)
      else
      some false)
    else
    some false)
  else
  some false
theorem F87_ok (K : Nat) (a3867 : GState) (a3868 : GState) (r : Bool) (hF : F87 K a3867 a3868 = some r) : Evt E H 87 [.agg (eGState a3867), .agg (eGState a3868)] (F87_res r) := by
  rw [F87] at hF
  refine cond_some hF (fun h3869 hF => ?_) (fun h3869 hF => ?_)
  ·
    refine bind_some hF (fun r3870 h3871 hF => ?_)
    have pq3878 : ∀ {l : List Cond}, HoldAll E H hn87 l → HoldAll E H hn87 (.test (beqb (ieq a3867.Step a3868.Step) true) true :: .test (beqb (ieq a3867.Step a3868.Step) true) true :: .test (beqb (ieq a3867.Step a3868.Step) true) true :: .test (beqb (ieq a3867.Step a3868.Step) true) true :: .test (beqb (ieq a3867.Step a3868.Step) true) true :: .call 140 [.one (.sl (len a3867.Vals) (flat (eInt .i64) a3867.Vals)), .one (.sl (len a3868.Vals) (flat (eInt .i64) a3868.Vals))] (F140_res r3870) :: .test (leadsAny (Res.mk [(.one (.im (.lit (.bool r3870))))] [])) false :: .test (ieq a3867.Step a3868.Step) true :: l) := fun z => ⟨(beqb_t h3869), (beqb_t h3869), (beqb_t h3869), (beqb_t h3869), (beqb_t h3869), (F140_ok K a3867.Vals a3868.Vals _ h3871), (leads_ok (by simp only [leadsAny, List.any_cons, List.any_nil, RV.leads, RC.leads, leadsT, hasSl_lit, Bool.or_false, flat_ns (eInt_ns _), flat_ns eBool_ns, flat_ns eStr_ns, flat_ns eGJob_ns, flat_ns eGEdge_ns, flat_ns eGAsked_ns, flat_ns eGMsg_ns, flat_ns eGrule_ns, flat_ns eGA199_ns, flat_ns eGA202_ns])), h3869, z⟩
    refine cond_some hF (fun h3872 hF => ?_) (fun h3872 hF => ?_)
    ·
      refine bind_some hF (fun r3873 h3874 hF => ?_)
      have pq3879 : ∀ {l : List Cond}, HoldAll E H hn87 l → HoldAll E H hn87 (.test (beqb r3870 true) true :: .test (beqb r3870 true) true :: .test (beqb r3870 true) true :: .test (beqb r3870 true) true :: .test (beqb r3870 true) true :: .call 141 [.one (.sl (len a3867.Rest) (flat eBool a3867.Rest)), .one (.sl (len a3868.Rest) (flat eBool a3868.Rest))] (F141_res r3873) :: .test (leadsAny (Res.mk [(.one (.im (.lit (.bool r3873))))] [])) false :: .test r3870 true :: l) := fun z => ⟨(beqb_t h3872), (beqb_t h3872), (beqb_t h3872), (beqb_t h3872), (beqb_t h3872), (F141_ok K a3867.Rest a3868.Rest _ h3874), (leads_ok (by simp only [leadsAny, List.any_cons, List.any_nil, RV.leads, RC.leads, leadsT, hasSl_lit, Bool.or_false, flat_ns (eInt_ns _), flat_ns eBool_ns, flat_ns eStr_ns, flat_ns eGJob_ns, flat_ns eGEdge_ns, flat_ns eGAsked_ns, flat_ns eGMsg_ns, flat_ns eGrule_ns, flat_ns eGA199_ns, flat_ns eGA202_ns])), h3872, z⟩
      refine cond_some hF (fun h3875 hF => ?_) (fun h3875 hF => ?_)
      ·
        refine bind_some hF (fun r3876 h3877 hF => ?_)
        have hr := Option.some.inj hF
        subst hr
        have pz : HoldAll E H hn87 [.test (beqb r3873 true) true, .test (beqb r3873 true) true, .test (beqb r3873 true) true, .test (beqb r3873 true) true, .test (beqb r3873 true) true, .call 89 [.one (.sl (len a3867.In) (flat eGMsg a3867.In)), .one (.sl (len a3868.In) (flat eGMsg a3868.In))] (F89_res r3876), .test (leadsAny (Res.mk [(.one (.im (.lit (.bool r3876))))] [])) false, .test r3873 true] := ⟨(beqb_t h3875), (beqb_t h3875), (beqb_t h3875), (beqb_t h3875), (beqb_t h3875), (F89_ok K a3867.In a3868.In _ h3877), (leads_ok (by simp only [leadsAny, List.any_cons, List.any_nil, RV.leads, RC.leads, leadsT, hasSl_lit, Bool.or_false, flat_ns (eInt_ns _), flat_ns eBool_ns, flat_ns eStr_ns, flat_ns eGJob_ns, flat_ns eGEdge_ns, flat_ns eGAsked_ns, flat_ns eGMsg_ns, flat_ns eGrule_ns, flat_ns eGA199_ns, flat_ns eGA202_ns])), h3875, trivial⟩
        exact fn_playC hn87 (f := 87) (ads := [.agg (eGState a3867), .agg (eGState a3868)]) (r := F87_res r3876) (pq3878 (pq3879 pz)) (by kernel_rfl) (by kernel_rfl)
      have hr := Option.some.inj hF
      subst hr
      have pz : HoldAll E H hn87 [.test (beqb r3873 true) false, .test (beqb r3873 true) false, .test (beqb r3873 true) false, .test (beqb r3873 true) false, .test (beqb r3873 true) false, .test r3873 false] := ⟨(beqb_t h3875), (beqb_t h3875), (beqb_t h3875), (beqb_t h3875), (beqb_t h3875), h3875, trivial⟩
      exact fn_playC hn87 (f := 87) (ads := [.agg (eGState a3867), .agg (eGState a3868)]) (r := F87_res false) (pq3878 (pq3879 pz)) (by kernel_rfl) (by kernel_rfl)
    have hr := Option.some.inj hF
    subst hr
    have pz : HoldAll E H hn87 [.test (beqb r3870 true) false, .test (beqb r3870 true) false, .test (beqb r3870 true) false, .test (beqb r3870 true) false, .test (beqb r3870 true) false, .test r3870 false, .test (beqb false true) false, .test (beqb false true) false, .test (beqb false true) false, .test (beqb false true) false, .test (beqb false true) false, .test false false] := ⟨(beqb_t h3872), (beqb_t h3872), (beqb_t h3872), (beqb_t h3872), (beqb_t h3872), h3872, (beqb_t rfl), (beqb_t rfl), (beqb_t rfl), (beqb_t rfl), (beqb_t rfl), rfl, trivial⟩
    exact fn_playC hn87 (f := 87) (ads := [.agg (eGState a3867), .agg (eGState a3868)]) (r := F87_res false) (pq3878 pz) (by kernel_rfl) (by kernel_rfl)
  have hr := Option.some.inj hF
  subst hr
  have pz : HoldAll E H hn87 [.test (beqb (ieq a3867.Step a3868.Step) true) false, .test (beqb (ieq a3867.Step a3868.Step) true) false, .test (beqb (ieq a3867.Step a3868.Step) true) false, .test (beqb (ieq a3867.Step a3868.Step) true) false, .test (beqb (ieq a3867.Step a3868.Step) true) false, .test (ieq a3867.Step a3868.Step) false, .test (beqb false true) false, .test (beqb false true) false, .test (beqb false true) false, .test (beqb false true) false, .test (beqb false true) false, .test false false, .test (beqb false true) false, .test (beqb false true) false, .test (beqb false true) false, .test (beqb false true) false, .test (beqb false true) false, .test false false] := ⟨(beqb_t h3869), (beqb_t h3869), (beqb_t h3869), (beqb_t h3869), (beqb_t h3869), h3869, (beqb_t rfl), (beqb_t rfl), (beqb_t rfl), (beqb_t rfl), (beqb_t rfl), rfl, (beqb_t rfl), (beqb_t rfl), (beqb_t rfl), (beqb_t rfl), (beqb_t rfl), rfl, trivial⟩
  exact fn_playC hn87 (f := 87) (ads := [.agg (eGState a3867), .agg (eGState a3868)]) (r := F87_res false) pz (by kernel_rfl) (by kernel_rfl)

/-! ### haywain/haywainref06.SameAnswer -/
noncomputable def hn109 : Hint := { H 109 with nt := 24, prot := 0 }
def F109_res (r5458 : Bool) : Res := ⟨[(.one (.im (.lit (.bool r5458))))], []⟩
def F109 (K : Nat) (a5451 : GAnswer) (a5452 : GAnswer) : Option (Bool) :=
  bif (ieq a5451.Kind a5452.Kind) then
    (bif (ieq a5451.Step a5452.Step) then
      ((F140 K a5451.Vals a5452.Vals).bind fun r5455 =>
      some r5455)
    else
    some false)
  else
  some false
theorem F109_ok (K : Nat) (a5451 : GAnswer) (a5452 : GAnswer) (r : Bool) (hF : F109 K a5451 a5452 = some r) : Evt E H 109 [.agg (eGAnswer a5451), .agg (eGAnswer a5452)] (F109_res r) := by
  rw [F109] at hF
  refine cond_some hF (fun h5453 hF => ?_) (fun h5453 hF => ?_)
  ·
    have pq5457 : ∀ {l : List Cond}, HoldAll E H hn109 l → HoldAll E H hn109 (.test (beqb (ieq a5451.Kind a5452.Kind) true) true :: .test (beqb (ieq a5451.Kind a5452.Kind) true) true :: .test (beqb (ieq a5451.Kind a5452.Kind) true) true :: .test (beqb (ieq a5451.Kind a5452.Kind) true) true :: .test (beqb (ieq a5451.Kind a5452.Kind) true) true :: .test (ieq a5451.Kind a5452.Kind) true :: l) := fun z => ⟨(beqb_t h5453), (beqb_t h5453), (beqb_t h5453), (beqb_t h5453), (beqb_t h5453), h5453, z⟩
    refine cond_some hF (fun h5454 hF => ?_) (fun h5454 hF => ?_)
    ·
      refine bind_some hF (fun r5455 h5456 hF => ?_)
      have hr := Option.some.inj hF
      subst hr
      have pz : HoldAll E H hn109 [.test (beqb (ieq a5451.Step a5452.Step) true) true, .test (beqb (ieq a5451.Step a5452.Step) true) true, .test (beqb (ieq a5451.Step a5452.Step) true) true, .test (beqb (ieq a5451.Step a5452.Step) true) true, .test (beqb (ieq a5451.Step a5452.Step) true) true, .call 140 [.one (.sl (len a5451.Vals) (flat (eInt .i64) a5451.Vals)), .one (.sl (len a5452.Vals) (flat (eInt .i64) a5452.Vals))] (F140_res r5455), .test (leadsAny (Res.mk [(.one (.im (.lit (.bool r5455))))] [])) false, .test (ieq a5451.Step a5452.Step) true] := ⟨(beqb_t h5454), (beqb_t h5454), (beqb_t h5454), (beqb_t h5454), (beqb_t h5454), (F140_ok K a5451.Vals a5452.Vals _ h5456), (leads_ok (by simp only [leadsAny, List.any_cons, List.any_nil, RV.leads, RC.leads, leadsT, hasSl_lit, Bool.or_false, flat_ns (eInt_ns _), flat_ns eBool_ns, flat_ns eStr_ns, flat_ns eGJob_ns, flat_ns eGEdge_ns, flat_ns eGAsked_ns, flat_ns eGMsg_ns, flat_ns eGrule_ns, flat_ns eGA199_ns, flat_ns eGA202_ns])), h5454, trivial⟩
      exact fn_playC hn109 (f := 109) (ads := [.agg (eGAnswer a5451), .agg (eGAnswer a5452)]) (r := F109_res r5455) (pq5457 pz) (by kernel_rfl) (by kernel_rfl)
    have hr := Option.some.inj hF
    subst hr
    have pz : HoldAll E H hn109 [.test (beqb (ieq a5451.Step a5452.Step) true) false, .test (beqb (ieq a5451.Step a5452.Step) true) false, .test (beqb (ieq a5451.Step a5452.Step) true) false, .test (beqb (ieq a5451.Step a5452.Step) true) false, .test (beqb (ieq a5451.Step a5452.Step) true) false, .test (ieq a5451.Step a5452.Step) false] := ⟨(beqb_t h5454), (beqb_t h5454), (beqb_t h5454), (beqb_t h5454), (beqb_t h5454), h5454, trivial⟩
    exact fn_playC hn109 (f := 109) (ads := [.agg (eGAnswer a5451), .agg (eGAnswer a5452)]) (r := F109_res false) (pq5457 pz) (by kernel_rfl) (by kernel_rfl)
  have hr := Option.some.inj hF
  subst hr
  have pz : HoldAll E H hn109 [.test (beqb (ieq a5451.Kind a5452.Kind) true) false, .test (beqb (ieq a5451.Kind a5452.Kind) true) false, .test (beqb (ieq a5451.Kind a5452.Kind) true) false, .test (beqb (ieq a5451.Kind a5452.Kind) true) false, .test (beqb (ieq a5451.Kind a5452.Kind) true) false, .test (ieq a5451.Kind a5452.Kind) false, .test (beqb false true) false, .test (beqb false true) false, .test (beqb false true) false, .test (beqb false true) false, .test (beqb false true) false, .test false false] := ⟨(beqb_t h5453), (beqb_t h5453), (beqb_t h5453), (beqb_t h5453), (beqb_t h5453), h5453, (beqb_t rfl), (beqb_t rfl), (beqb_t rfl), (beqb_t rfl), (beqb_t rfl), rfl, trivial⟩
  exact fn_playC hn109 (f := 109) (ads := [.agg (eGAnswer a5451), .agg (eGAnswer a5452)]) (r := F109_res false) pz (by kernel_rfl) (by kernel_rfl)

end Go.Proofs.Ytnjanliihnadjaa.Tm

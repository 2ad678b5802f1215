/- What the row of WorkTakes leans on: printed functions and plain laws. Conditions: none. -/
import Derived.Test.YtnjanliihnadjaaTy
import Derived.Test.YtnjanliihnadjaaTab
import Derived.Test.YtnjanliihnadjaaKn
import Derived.Test.YtnjanliihnadjaaWf
import Derived.IntWalk
import Derived.KernelRfl
import Derived.OpenShut
set_option linter.unusedVariables false
set_option linter.unusedSimpArgs false
namespace Go.Proofs.Ytnjanliihnadjaa.Tm
open Go
theorem elAt_nat {α : Type} (l : List α) (i : Nat) : elAt l (i : Int) = l[i]? := by simp [elAt]
theorem wadd_ok {a b : Int} (h1 : -9223372036854775808 ≤ a + b) (h2 : a + b < 9223372036854775808) : wadd .i64 a b = a + b := by
 show IntKind.i64.wrap (a + b) = a + b
 rw [IntKind.wrap_i64]
 omega
theorem wadd_nat {i : Nat} (h : i < 4611686018427387904) : wadd .i64 (i : Int) 1 = ((i + 1 : Nat) : Int) := by
 rw [wadd_ok (by omega) (by omega)]; simp
theorem at_idx {α : Type} (l : List α) (i : Nat) :
   (∃ x, l.drop i = x :: l.drop (i + 1) ∧ ilt (i : Int) (nlen (len l)) = true ∧ inr (i : Int) (len l) = true ∧ elAt l (i : Int) = some x) ∨
   (l.drop i = [] ∧ ilt (i : Int) (nlen (len l)) = false) := by
 by_cases h : i < l.length
 · left
   refine ⟨l[i], List.drop_eq_getElem_cons h, ?_, ?_, ?_⟩
   · simp [ilt, nlen, len]; omega
   · simp [inr, len]; omega
   · rw [elAt_nat]; simp [h]
 · right
   refine ⟨List.drop_eq_nil_of_le (by omega), ?_⟩
   simp [ilt, nlen, len]; omega
def goI {α σ β : Type} (step : Nat → α → σ → (σ → Option β) → Option β) (fin : σ → Option β) : Nat → List α → σ → Option β
 | _, [], s => fin s
 | i, x :: r, s => step i x s (goI step fin (i + 1) r)
def goL {α σ β : Type} (step : α → σ → (σ → Option β) → Option β) (fin : σ → Option β) : List α → σ → Option β
 | [], s => fin s
 | x :: r, s => step x s (goL step fin r)
theorem lt_of_drop' {α : Type} {l : List α} {i : Nat} {x : α} {r : List α} (h : l.drop i = x :: r) : i < l.length := by
 rcases Nat.lt_or_ge i l.length with g | g
 · exact g
 · rw [List.drop_eq_nil_of_le g] at h; cases h
theorem scanI {α σ β : Type} {l : List α} {L : Nat → σ → Int → Option β} (step : Nat → α → σ → (σ → Option β) → Option β) (fin : σ → Option β)
   (h : ∀ k s (i : Nat), i ≤ l.length → L (k + 1) s i = bif ilt i (nlen (len l)) then (bif inr i (len l) then (elAt l i).bind fun x => step i x s (fun s' => L k s' (wadd .i64 i 1)) else none) else fin s)
   (hl : l.length < 4611686018427387904) : ∀ (k : Nat) (s : σ) (i : Nat), l.length - i < k → i ≤ l.length → L k s i = goI step fin i (l.drop i) s := by
 intro k
 induction k with
 | zero => intro s i h; omega
 | succ k ih =>
   intro s i hk hi
   rw [h k s i hi]
   rcases at_idx l i with ⟨x, e1, e2, e3, e4⟩ | ⟨e1, e2⟩
   · have hlt := lt_of_drop' e1
     rw [e1, e2, e3, e4]
     simp only [cond_true, Option.bind_some, goI]
     congr 1
     funext s'
     rw [wadd_nat (by omega)]
     exact ih s' (i + 1) (by omega) (by omega)
   · rw [e1, e2]; rfl
theorem scanL {α σ β : Type} {l : List α} {L : Nat → σ → Int → Option β} (step : α → σ → (σ → Option β) → Option β) (fin : σ → Option β)
   (h : ∀ k s (i : Nat), i ≤ l.length → L (k + 1) s i = bif ilt i (nlen (len l)) then (bif inr i (len l) then (elAt l i).bind fun x => step x s (fun s' => L k s' (wadd .i64 i 1)) else none) else fin s)
   (hl : l.length < 4611686018427387904) {K : Nat} (hK : l.length < K) (s : σ) : L K s 0 = goL step fin l s := by
 have e : ∀ (i : Nat) (r : List α) (s : σ), goI (fun _ => step) fin i r s = goL step fin r s := by
   intro i r
   induction r generalizing i with
   | nil => intro s; rfl
   | cons x r ih =>
     intro s
     simp only [goI, goL]
     congr 1
     funext s'
     exact ih (i + 1) s'
 have := scanI (fun _ => step) fin h hl K s 0 (by omega) (by omega)
 rw [e, List.drop_zero] at this
 exact this
theorem ilt_not' (a b : Int) : ilt a b = !(ile b a) := by
 unfold ilt ile
 by_cases h : a < b <;> simp [h] <;> omega
theorem ieq_refl (a : Int) : ieq a a = true := by simp [ieq]
theorem beqb_refl (a : Bool) : beqb a a = true := by cases a <;> rfl
theorem ile_iff {a b : Int} : ile a b = true ↔ a ≤ b := decide_eq_true_iff
theorem ilt_iff {a b : Int} : ilt a b = true ↔ a < b := decide_eq_true_iff
theorem ieq_iff {a b : Int} : ieq a b = true ↔ a = b := by simp [ieq]
theorem ile_f {a b : Int} : ile a b = false ↔ b < a := by simp [ile]
theorem ilt_f {a b : Int} : ilt a b = false ↔ b ≤ a := by simp [ilt]
theorem ieq_f {a b : Int} : ieq a b = false ↔ a ≠ b := by simp [ieq]
noncomputable def hn140 : Hint := { H 140 with nt := 26, prot := 0 }
noncomputable def c140_0 : Code := loopOf E 140 0
def F140_res (r175 : Bool) : Res := ⟨[(.one (.im (.lit (.bool r175))))], []⟩
def F140_l0_0 (K : Nat) (a147 : List Int) (a148 : List Int) : Nat → Int → Option ((Unit) ⊕ (Unit))
 | 0, _ => none
 | k + 1, v158 =>
  bif (ilt v158 (nlen (len a147))) then
   (bif (inr v158 (len a147)) then
   (elAt a147 v158).bind fun x161 =>
   bif (inr v158 (len a148)) then
   (elAt a148 v158).bind fun x164 =>
   bif (ieq x161 x164) then
    (F140_l0_0 K a147 a148 k (wadd .i64 v158 1))
   else
   some (.inl ())
   else none
   else none)
  else
  some (.inr ())
def F140_l0_0_S (a147 : List Int) (a148 : List Int) (v158 : Int) : TS := .on [0, 1, 64, 65, 320, 321] [(0, ⟨.one, 0, nob⟩), (1, ⟨.im, 0, (.sl (len a147) (flat (eInt .i64) a147))⟩), (64, ⟨.one, 0, nob⟩), (65, ⟨.im, 0, (.sl (len a148) (flat (eInt .i64) a148))⟩), (320, ⟨.one, 0, nob⟩), (321, ⟨.im, 0, (.lit (.int .i64 v158))⟩)]
def F140_l0_0_X0 (a147 : List Int) (a148 : List Int) (w167 : Unit) : TS := .on [256, 257] [(256, ⟨.one, 0, nob⟩), (257, ⟨.im, 0, (.lit (.bool false))⟩)]
def F140_l0_0_X1 (a147 : List Int) (a148 : List Int) (w168 : Unit) : TS := .on [] []
theorem F140_l0_0_ok (K : Nat) (a147 : List Int) (a148 : List Int) : ∀ (k : Nat) (v158 : Int) (r : (Unit) ⊕ (Unit)), F140_l0_0 K a147 a148 k v158 = some r → (Sum.elim (fun w => LoopEv E H hn140 0 c140_0 (F140_l0_0_S a147 a148 v158) .ret (F140_l0_0_X0 a147 a148 w)) (fun w => LoopEv E H hn140 0 c140_0 (F140_l0_0_S a147 a148 v158) (.exit 0) (F140_l0_0_X1 a147 a148 w))) r := by
 intro k
 induction k with
 | zero => intro v158 r hF; cases hF
 | succ k ih =>
  intro v158 r hF
  rw [F140_l0_0] at hF
  refine cond_some hF (fun h159 hF => ?_) (fun h159 hF => ?_)
  ·
   refine cond_some hF (fun h160 hF => ?_) (fun _ hF => nomatch hF)
   refine bind_some hF (fun x161 h162 hF => ?_)
   refine cond_some hF (fun h163 hF => ?_) (fun _ hF => nomatch hF)
   refine bind_some hF (fun x164 h165 hF => ?_)
   have pq169 : ∀ {l : List Cond}, HoldAll E H hn140 l → HoldAll E H hn140 (.int (nlen (len a147)) (nlen (len a147)) :: .test (ilt v158 (nlen (len a147))) true :: .test (inr v158 (len a147)) true :: .sub (flat (eInt .i64) a147) (nidx v158 1) 1 [(.lit (.int .i64 x161))] :: .test (inr v158 (len a148)) true :: .sub (flat (eInt .i64) a148) (nidx v158 1) 1 [(.lit (.int .i64 x164))] :: l) := fun z => ⟨rfl, h159, h160, ⟨rfl, sub_flat0 (eInt_len _) h162 1 (by decide)⟩, h163, ⟨rfl, sub_flat0 (eInt_len _) h165 1 (by decide)⟩, z⟩
   refine cond_some hF (fun h166 hF => ?_) (fun h166 hF => ?_)
   ·
    have pz : HoldAll E H hn140 [.test (ine x161 x164) false, .int (wadd .i64 v158 1) (wadd .i64 v158 1)] := ⟨(ine_t h166), rfl, trivial⟩
    have h0 := ih _ _ hF
    have hn := fun ex ts' => loop_nextC (h := hn140) (l := 0) (c := c140_0) (ts := F140_l0_0_S a147 a148 v158) (ts1 := (F140_l0_0_S a147 a148 (wadd .i64 v158 1))) (ex := ex) (ts' := ts') (pq169 pz) (by kernel_rfl)
    cases r with
    | inl w => exact hn _ _ h0
    | inr w => exact hn _ _ h0
   obtain rfl := Option.some.inj hF
   have pz : HoldAll E H hn140 [.test (ine x161 x164) true] := ⟨(ine_f h166), trivial⟩
   exact loop_endC (h := hn140) (l := 0) (c := c140_0) (ts := F140_l0_0_S a147 a148 v158) (ts' := F140_l0_0_X0 a147 a148 ()) (ex := .ret) (pq169 pz) (by kernel_rfl) trivial
  obtain rfl := Option.some.inj hF
  have pz : HoldAll E H hn140 [.int (nlen (len a147)) (nlen (len a147)), .test (ilt v158 (nlen (len a147))) false] := ⟨rfl, h159, trivial⟩
  exact loop_endC (h := hn140) (l := 0) (c := c140_0) (ts := F140_l0_0_S a147 a148 v158) (ts' := F140_l0_0_X1 a147 a148 ()) (ex := (.exit 0)) pz (by kernel_rfl) trivial
def F140 (K : Nat) (a147 : List Int) (a148 : List Int) : Option (Bool) :=
 bif (ieq (nlen (len a147)) (nlen (len a148))) then
  ((F140_l0_0 K a147 a148 K 0).bind fun y171 =>
  Sum.elim (fun w172 =>
   some false)
   (fun w173 =>
   some true) y171)
 else
 some false
theorem F140_ok (K : Nat) (a147 : List Int) (a148 : List Int) (r : Bool) (hF : F140 K a147 a148 = some r) : Evt E H 140 [.one (.sl (len a147) (flat (eInt .i64) a147)), .one (.sl (len a148) (flat (eInt .i64) a148))] (F140_res r) := by
 rw [F140] at hF
 refine cond_some hF (fun h149 hF => ?_) (fun h149 hF => ?_)
 ·
  have pq174 : ∀ {l : List Cond}, HoldAll E H hn140 l → HoldAll E H hn140 (.int (nlen (len a147)) (nlen (len a147)) :: .int (nlen (len a148)) (nlen (len a148)) :: .test (ine (nlen (len a147)) (nlen (len a148))) false :: l) := fun z => ⟨rfl, rfl, (ine_t h149), z⟩
  refine bind_some hF (fun y171 h170 hF => ?_)
  refine sum_some hF (fun w172 hx hF => ?_) (fun w173 hx hF => ?_)
  ·
   subst hx
   obtain rfl := Option.some.inj hF
   have pz : HoldAll E H hn140 [.loop 0 c140_0 (F140_l0_0_S a147 a148 0) .ret (F140_l0_0_X0 a147 a148 w172)] := ⟨(F140_l0_0_ok K a147 a148 K 0 _ h170), trivial⟩
   exact fn_playC hn140 (r := F140_res false) (pq174 pz) (by kernel_rfl) (by kernel_rfl)
  subst hx
  obtain rfl := Option.some.inj hF
  have pz : HoldAll E H hn140 [.loop 0 c140_0 (F140_l0_0_S a147 a148 0) (.exit 0) (F140_l0_0_X1 a147 a148 w173)] := ⟨(F140_l0_0_ok K a147 a148 K 0 _ h170), trivial⟩
  exact fn_playC hn140 (r := F140_res true) (pq174 pz) (by kernel_rfl) (by kernel_rfl)
 obtain rfl := Option.some.inj hF
 have pz : HoldAll E H hn140 [.int (nlen (len a147)) (nlen (len a147)), .int (nlen (len a148)) (nlen (len a148)), .test (ine (nlen (len a147)) (nlen (len a148))) true] := ⟨rfl, rfl, (ine_f h149), trivial⟩
 exact fn_playC hn140 (r := F140_res false) pz (by kernel_rfl) (by kernel_rfl)
noncomputable def hn141 : Hint := { H 141 with nt := 26, prot := 0 }
noncomputable def c141_0 : Code := loopOf E 141 0
def F141_res (r207 : Bool) : Res := ⟨[(.one (.im (.lit (.bool r207))))], []⟩
def F141_l0_0 (K : Nat) (a179 : List Bool) (a180 : List Bool) : Nat → Int → Option ((Unit) ⊕ (Unit))
 | 0, _ => none
 | k + 1, v190 =>
  bif (ilt v190 (nlen (len a179))) then
   (bif (inr v190 (len a179)) then
   (elAt a179 v190).bind fun x193 =>
   bif (inr v190 (len a180)) then
   (elAt a180 v190).bind fun x196 =>
   bif (beqb x193 x196) then
    (F141_l0_0 K a179 a180 k (wadd .i64 v190 1))
   else
   some (.inl ())
   else none
   else none)
  else
  some (.inr ())
def F141_l0_0_S (a179 : List Bool) (a180 : List Bool) (v190 : Int) : TS := .on [0, 1, 64, 65, 320, 321] [(0, ⟨.one, 0, nob⟩), (1, ⟨.im, 0, (.sl (len a179) (flat eBool a179))⟩), (64, ⟨.one, 0, nob⟩), (65, ⟨.im, 0, (.sl (len a180) (flat eBool a180))⟩), (320, ⟨.one, 0, nob⟩), (321, ⟨.im, 0, (.lit (.int .i64 v190))⟩)]
def F141_l0_0_X0 (a179 : List Bool) (a180 : List Bool) (w199 : Unit) : TS := .on [256, 257] [(256, ⟨.one, 0, nob⟩), (257, ⟨.im, 0, (.lit (.bool false))⟩)]
def F141_l0_0_X1 (a179 : List Bool) (a180 : List Bool) (w200 : Unit) : TS := .on [] []
theorem F141_l0_0_ok (K : Nat) (a179 : List Bool) (a180 : List Bool) : ∀ (k : Nat) (v190 : Int) (r : (Unit) ⊕ (Unit)), F141_l0_0 K a179 a180 k v190 = some r → (Sum.elim (fun w => LoopEv E H hn141 0 c141_0 (F141_l0_0_S a179 a180 v190) .ret (F141_l0_0_X0 a179 a180 w)) (fun w => LoopEv E H hn141 0 c141_0 (F141_l0_0_S a179 a180 v190) (.exit 0) (F141_l0_0_X1 a179 a180 w))) r := by
 intro k
 induction k with
 | zero => intro v190 r hF; cases hF
 | succ k ih =>
  intro v190 r hF
  rw [F141_l0_0] at hF
  refine cond_some hF (fun h191 hF => ?_) (fun h191 hF => ?_)
  ·
   refine cond_some hF (fun h192 hF => ?_) (fun _ hF => nomatch hF)
   refine bind_some hF (fun x193 h194 hF => ?_)
   refine cond_some hF (fun h195 hF => ?_) (fun _ hF => nomatch hF)
   refine bind_some hF (fun x196 h197 hF => ?_)
   have pq201 : ∀ {l : List Cond}, HoldAll E H hn141 l → HoldAll E H hn141 (.int (nlen (len a179)) (nlen (len a179)) :: .test (ilt v190 (nlen (len a179))) true :: .test (inr v190 (len a179)) true :: .sub (flat eBool a179) (nidx v190 1) 1 [(.lit (.bool x193))] :: .test (inr v190 (len a180)) true :: .sub (flat eBool a180) (nidx v190 1) 1 [(.lit (.bool x196))] :: l) := fun z => ⟨rfl, h191, h192, ⟨rfl, sub_flat0 eBool_len h194 1 (by decide)⟩, h195, ⟨rfl, sub_flat0 eBool_len h197 1 (by decide)⟩, z⟩
   refine cond_some hF (fun h198 hF => ?_) (fun h198 hF => ?_)
   ·
    have pz : HoldAll E H hn141 [.test (bnot (beqb x193 x196)) false, .int (wadd .i64 v190 1) (wadd .i64 v190 1)] := ⟨(bnot_t h198), rfl, trivial⟩
    have h0 := ih _ _ hF
    have hn := fun ex ts' => loop_nextC (h := hn141) (l := 0) (c := c141_0) (ts := F141_l0_0_S a179 a180 v190) (ts1 := (F141_l0_0_S a179 a180 (wadd .i64 v190 1))) (ex := ex) (ts' := ts') (pq201 pz) (by kernel_rfl)
    cases r with
    | inl w => exact hn _ _ h0
    | inr w => exact hn _ _ h0
   obtain rfl := Option.some.inj hF
   have pz : HoldAll E H hn141 [.test (bnot (beqb x193 x196)) true] := ⟨(bnot_f h198), trivial⟩
   exact loop_endC (h := hn141) (l := 0) (c := c141_0) (ts := F141_l0_0_S a179 a180 v190) (ts' := F141_l0_0_X0 a179 a180 ()) (ex := .ret) (pq201 pz) (by kernel_rfl) trivial
  obtain rfl := Option.some.inj hF
  have pz : HoldAll E H hn141 [.int (nlen (len a179)) (nlen (len a179)), .test (ilt v190 (nlen (len a179))) false] := ⟨rfl, h191, trivial⟩
  exact loop_endC (h := hn141) (l := 0) (c := c141_0) (ts := F141_l0_0_S a179 a180 v190) (ts' := F141_l0_0_X1 a179 a180 ()) (ex := (.exit 0)) pz (by kernel_rfl) trivial
def F141 (K : Nat) (a179 : List Bool) (a180 : List Bool) : Option (Bool) :=
 bif (ieq (nlen (len a179)) (nlen (len a180))) then
  ((F141_l0_0 K a179 a180 K 0).bind fun y203 =>
  Sum.elim (fun w204 =>
   some false)
   (fun w205 =>
   some true) y203)
 else
 some false
theorem F141_ok (K : Nat) (a179 : List Bool) (a180 : List Bool) (r : Bool) (hF : F141 K a179 a180 = some r) : Evt E H 141 [.one (.sl (len a179) (flat eBool a179)), .one (.sl (len a180) (flat eBool a180))] (F141_res r) := by
 rw [F141] at hF
 refine cond_some hF (fun h181 hF => ?_) (fun h181 hF => ?_)
 ·
  have pq206 : ∀ {l : List Cond}, HoldAll E H hn141 l → HoldAll E H hn141 (.int (nlen (len a179)) (nlen (len a179)) :: .int (nlen (len a180)) (nlen (len a180)) :: .test (ine (nlen (len a179)) (nlen (len a180))) false :: l) := fun z => ⟨rfl, rfl, (ine_t h181), z⟩
  refine bind_some hF (fun y203 h202 hF => ?_)
  refine sum_some hF (fun w204 hx hF => ?_) (fun w205 hx hF => ?_)
  ·
   subst hx
   obtain rfl := Option.some.inj hF
   have pz : HoldAll E H hn141 [.loop 0 c141_0 (F141_l0_0_S a179 a180 0) .ret (F141_l0_0_X0 a179 a180 w204)] := ⟨(F141_l0_0_ok K a179 a180 K 0 _ h202), trivial⟩
   exact fn_playC hn141 (r := F141_res false) (pq206 pz) (by kernel_rfl) (by kernel_rfl)
  subst hx
  obtain rfl := Option.some.inj hF
  have pz : HoldAll E H hn141 [.loop 0 c141_0 (F141_l0_0_S a179 a180 0) (.exit 0) (F141_l0_0_X1 a179 a180 w205)] := ⟨(F141_l0_0_ok K a179 a180 K 0 _ h202), trivial⟩
  exact fn_playC hn141 (r := F141_res true) (pq206 pz) (by kernel_rfl) (by kernel_rfl)
 obtain rfl := Option.some.inj hF
 have pz : HoldAll E H hn141 [.int (nlen (len a179)) (nlen (len a179)), .int (nlen (len a180)) (nlen (len a180)), .test (ine (nlen (len a179)) (nlen (len a180))) true] := ⟨rfl, rfl, (ine_f h181), trivial⟩
 exact fn_playC hn141 (r := F141_res false) pz (by kernel_rfl) (by kernel_rfl)
noncomputable def hn89 : Hint := { H 89 with nt := 26, prot := 0 }
noncomputable def c89_0 : Code := loopOf E 89 0
def F89_res (r241 : Bool) : Res := ⟨[(.one (.im (.lit (.bool r241))))], []⟩
def F89_l0_0 (K : Nat) (a211 : List GMsg) (a212 : List GMsg) : Nat → Int → Option ((Unit) ⊕ (Unit))
 | 0, _ => none
 | k + 1, v223 =>
  bif (ilt v223 (nlen (len a211))) then
   (bif (inr v223 (len a211)) then
   (elAt a211 v223).bind fun x226 =>
   bif (inr v223 (len a212)) then
   (elAt a212 v223).bind fun x229 =>
   bif (ieq x226.To x229.To) then
    (bif (ieq x226.V x229.V) then
     (F89_l0_0 K a211 a212 k (wadd .i64 v223 1))
    else
    some (.inl ()))
   else
   some (.inl ())
   else none
   else none)
  else
  some (.inr ())
def F89_l0_0_S (a211 : List GMsg) (a212 : List GMsg) (v223 : Int) : TS := .on [0, 1, 64, 65, 320, 321] [(0, ⟨.one, 0, nob⟩), (1, ⟨.im, 0, (.sl (len a211) (flat eGMsg a211))⟩), (64, ⟨.one, 0, nob⟩), (65, ⟨.im, 0, (.sl (len a212) (flat eGMsg a212))⟩), (320, ⟨.one, 0, nob⟩), (321, ⟨.im, 0, (.lit (.int .i64 v223))⟩)]
def F89_l0_0_X0 (a211 : List GMsg) (a212 : List GMsg) (w233 : Unit) : TS := .on [256, 257] [(256, ⟨.one, 0, nob⟩), (257, ⟨.im, 0, (.lit (.bool false))⟩)]
def F89_l0_0_X1 (a211 : List GMsg) (a212 : List GMsg) (w234 : Unit) : TS := .on [] []
theorem F89_l0_0_ok (K : Nat) (a211 : List GMsg) (a212 : List GMsg) : ∀ (k : Nat) (v223 : Int) (r : (Unit) ⊕ (Unit)), F89_l0_0 K a211 a212 k v223 = some r → (Sum.elim (fun w => LoopEv E H hn89 0 c89_0 (F89_l0_0_S a211 a212 v223) .ret (F89_l0_0_X0 a211 a212 w)) (fun w => LoopEv E H hn89 0 c89_0 (F89_l0_0_S a211 a212 v223) (.exit 0) (F89_l0_0_X1 a211 a212 w))) r := by
 intro k
 induction k with
 | zero => intro v223 r hF; cases hF
 | succ k ih =>
  intro v223 r hF
  rw [F89_l0_0] at hF
  refine cond_some hF (fun h224 hF => ?_) (fun h224 hF => ?_)
  ·
   refine cond_some hF (fun h225 hF => ?_) (fun _ hF => nomatch hF)
   refine bind_some hF (fun x226 h227 hF => ?_)
   refine cond_some hF (fun h228 hF => ?_) (fun _ hF => nomatch hF)
   refine bind_some hF (fun x229 h230 hF => ?_)
   have pq235 : ∀ {l : List Cond}, HoldAll E H hn89 l → HoldAll E H hn89 (.int (nlen (len a211)) (nlen (len a211)) :: .test (ilt v223 (nlen (len a211))) true :: .test (inr v223 (len a211)) true :: .sub (flat eGMsg a211) (nidx v223 2) 2 [(.lit (.int .i64 x226.To)), (.lit (.int .i64 x226.V))] :: .test (inr v223 (len a212)) true :: .sub (flat eGMsg a212) (nidx v223 2) 2 [(.lit (.int .i64 x229.To)), (.lit (.int .i64 x229.V))] :: l) := fun z => ⟨rfl, h224, h225, ⟨rfl, sub_flat0 eGMsg_len h227 2 (by decide)⟩, h228, ⟨rfl, sub_flat0 eGMsg_len h230 2 (by decide)⟩, z⟩
   refine cond_some hF (fun h231 hF => ?_) (fun h231 hF => ?_)
   ·
    refine cond_some hF (fun h232 hF => ?_) (fun h232 hF => ?_)
    ·
     have pz : HoldAll E H hn89 [.test (bnot (band (ieq x226.To x229.To) (band (ieq x226.V x229.V) true))) false, .int (wadd .i64 v223 1) (wadd .i64 v223 1)] := ⟨(bnot_t (band_tt h231 (band_tt h232 rfl))), rfl, trivial⟩
     have h0 := ih _ _ hF
     have hn := fun ex ts' => loop_nextC (h := hn89) (l := 0) (c := c89_0) (ts := F89_l0_0_S a211 a212 v223) (ts1 := (F89_l0_0_S a211 a212 (wadd .i64 v223 1))) (ex := ex) (ts' := ts') (pq235 pz) (by kernel_rfl)
     cases r with
     | inl w => exact hn _ _ h0
     | inr w => exact hn _ _ h0
    obtain rfl := Option.some.inj hF
    have pz : HoldAll E H hn89 [.test (bnot (band (ieq x226.To x229.To) (band (ieq x226.V x229.V) true))) true] := ⟨(bnot_f (band_f2 h231 (band_f1 h232))), trivial⟩
    exact loop_endC (h := hn89) (l := 0) (c := c89_0) (ts := F89_l0_0_S a211 a212 v223) (ts' := F89_l0_0_X0 a211 a212 ()) (ex := .ret) (pq235 pz) (by kernel_rfl) trivial
   obtain rfl := Option.some.inj hF
   have pz : HoldAll E H hn89 [.test (bnot (band (ieq x226.To x229.To) (band (ieq x226.V x229.V) true))) true] := ⟨(bnot_f (band_f1 h231)), trivial⟩
   exact loop_endC (h := hn89) (l := 0) (c := c89_0) (ts := F89_l0_0_S a211 a212 v223) (ts' := F89_l0_0_X0 a211 a212 ()) (ex := .ret) (pq235 pz) (by kernel_rfl) trivial
  obtain rfl := Option.some.inj hF
  have pz : HoldAll E H hn89 [.int (nlen (len a211)) (nlen (len a211)), .test (ilt v223 (nlen (len a211))) false] := ⟨rfl, h224, trivial⟩
  exact loop_endC (h := hn89) (l := 0) (c := c89_0) (ts := F89_l0_0_S a211 a212 v223) (ts' := F89_l0_0_X1 a211 a212 ()) (ex := (.exit 0)) pz (by kernel_rfl) trivial
def F89 (K : Nat) (a211 : List GMsg) (a212 : List GMsg) : Option (Bool) :=
 bif (ieq (nlen (len a211)) (nlen (len a212))) then
  ((F89_l0_0 K a211 a212 K 0).bind fun y237 =>
  Sum.elim (fun w238 =>
   some false)
   (fun w239 =>
   some true) y237)
 else
 some false
theorem F89_ok (K : Nat) (a211 : List GMsg) (a212 : List GMsg) (r : Bool) (hF : F89 K a211 a212 = some r) : Evt E H 89 [.one (.sl (len a211) (flat eGMsg a211)), .one (.sl (len a212) (flat eGMsg a212))] (F89_res r) := by
 rw [F89] at hF
 refine cond_some hF (fun h213 hF => ?_) (fun h213 hF => ?_)
 ·
  have pq240 : ∀ {l : List Cond}, HoldAll E H hn89 l → HoldAll E H hn89 (.int (nlen (len a211)) (nlen (len a211)) :: .int (nlen (len a212)) (nlen (len a212)) :: .test (ine (nlen (len a211)) (nlen (len a212))) false :: l) := fun z => ⟨rfl, rfl, (ine_t h213), z⟩
  refine bind_some hF (fun y237 h236 hF => ?_)
  refine sum_some hF (fun w238 hx hF => ?_) (fun w239 hx hF => ?_)
  ·
   subst hx
   obtain rfl := Option.some.inj hF
   have pz : HoldAll E H hn89 [.loop 0 c89_0 (F89_l0_0_S a211 a212 0) .ret (F89_l0_0_X0 a211 a212 w238)] := ⟨(F89_l0_0_ok K a211 a212 K 0 _ h236), trivial⟩
   exact fn_playC hn89 (r := F89_res false) (pq240 pz) (by kernel_rfl) (by kernel_rfl)
  subst hx
  obtain rfl := Option.some.inj hF
  have pz : HoldAll E H hn89 [.loop 0 c89_0 (F89_l0_0_S a211 a212 0) (.exit 0) (F89_l0_0_X1 a211 a212 w239)] := ⟨(F89_l0_0_ok K a211 a212 K 0 _ h236), trivial⟩
  exact fn_playC hn89 (r := F89_res true) (pq240 pz) (by kernel_rfl) (by kernel_rfl)
 obtain rfl := Option.some.inj hF
 have pz : HoldAll E H hn89 [.int (nlen (len a211)) (nlen (len a211)), .int (nlen (len a212)) (nlen (len a212)), .test (ine (nlen (len a211)) (nlen (len a212))) true] := ⟨rfl, rfl, (ine_f h213), trivial⟩
 exact fn_playC hn89 (r := F89_res false) pz (by kernel_rfl) (by kernel_rfl)
noncomputable def hn118 : Hint := { H 118 with nt := 38, prot := 0 }
def F118_res (r247 : Bool) : Res := ⟨[(.one (.im (.lit (.bool r247))))], []⟩
def F118 (K : Nat) (a143 : GPart) (a144 : GPart) : Option (Bool) :=
 bif (ieq a143.P a144.P) then
  (bif (ieq a143.Step a144.Step) then
   ((F140 K a143.Vals a144.Vals).bind fun r176 =>
   bif r176 then
    ((F141 K a143.Rest a144.Rest).bind fun r208 =>
    bif r208 then
     ((F89 K a143.In a144.In).bind fun r242 =>
     some r242)
    else
    some false)
   else
   some false)
  else
  some false)
 else
 some false
theorem F118_ok (K : Nat) (a143 : GPart) (a144 : GPart) (r : Bool) (hF : F118 K a143 a144 = some r) : Evt E H 118 [.agg (eGPart a143), .agg (eGPart a144)] (F118_res r) := by
 rw [F118] at hF
 refine cond_some hF (fun h145 hF => ?_) (fun h145 hF => ?_)
 ·
  have pq244 : ∀ {l : List Cond}, HoldAll E H hn118 l → HoldAll E H hn118 (.test (beqb (ieq a143.P a144.P) true) true :: .test (beqb (ieq a143.P a144.P) true) true :: .test (beqb (ieq a143.P a144.P) true) true :: .test (beqb (ieq a143.P a144.P) true) true :: .test (beqb (ieq a143.P a144.P) true) true :: .test (ieq a143.P a144.P) true :: l) := fun z => ⟨(beqb_t h145), (beqb_t h145), (beqb_t h145), (beqb_t h145), (beqb_t h145), h145, z⟩
  refine cond_some hF (fun h146 hF => ?_) (fun h146 hF => ?_)
  ·
   refine bind_some hF (fun r176 h177 hF => ?_)
   have pq245 : ∀ {l : List Cond}, HoldAll E H hn118 l → HoldAll E H hn118 (.test (beqb (ieq a143.Step a144.Step) true) true :: .test (beqb (ieq a143.Step a144.Step) true) true :: .test (beqb (ieq a143.Step a144.Step) true) true :: .test (beqb (ieq a143.Step a144.Step) true) true :: .test (beqb (ieq a143.Step a144.Step) true) true :: .call 140 [.one (.sl (len a143.Vals) (flat (eInt .i64) a143.Vals)), .one (.sl (len a144.Vals) (flat (eInt .i64) a144.Vals))] (F140_res r176) :: .test (leadsAny (Res.mk [(.one (.im (.lit (.bool r176))))] [])) false :: .test (ieq a143.Step a144.Step) true :: l) := fun z => ⟨(beqb_t h146), (beqb_t h146), (beqb_t h146), (beqb_t h146), (beqb_t h146), (F140_ok K a143.Vals a144.Vals _ h177), (leads_ok (by simp [leadsAny, RV.leads, RC.leads, leadsT, hasSl_lit, flat_ns (eInt_ns _)])), h146, z⟩
   refine cond_some hF (fun h178 hF => ?_) (fun h178 hF => ?_)
   ·
    refine bind_some hF (fun r208 h209 hF => ?_)
    have pq246 : ∀ {l : List Cond}, HoldAll E H hn118 l → HoldAll E H hn118 (.test (beqb r176 true) true :: .test (beqb r176 true) true :: .test (beqb r176 true) true :: .test (beqb r176 true) true :: .test (beqb r176 true) true :: .call 141 [.one (.sl (len a143.Rest) (flat eBool a143.Rest)), .one (.sl (len a144.Rest) (flat eBool a144.Rest))] (F141_res r208) :: .test (leadsAny (Res.mk [(.one (.im (.lit (.bool r208))))] [])) false :: .test r176 true :: l) := fun z => ⟨(beqb_t h178), (beqb_t h178), (beqb_t h178), (beqb_t h178), (beqb_t h178), (F141_ok K a143.Rest a144.Rest _ h209), (leads_ok (by simp [leadsAny, RV.leads, RC.leads, leadsT, hasSl_lit, flat_ns eBool_ns])), h178, z⟩
    refine cond_some hF (fun h210 hF => ?_) (fun h210 hF => ?_)
    ·
     refine bind_some hF (fun r242 h243 hF => ?_)
     obtain rfl := Option.some.inj hF
     have pz : HoldAll E H hn118 [.test (beqb r208 true) true, .test (beqb r208 true) true, .test (beqb r208 true) true, .test (beqb r208 true) true, .test (beqb r208 true) true, .call 89 [.one (.sl (len a143.In) (flat eGMsg a143.In)), .one (.sl (len a144.In) (flat eGMsg a144.In))] (F89_res r242), .test (leadsAny (Res.mk [(.one (.im (.lit (.bool r242))))] [])) false, .test r208 true] := ⟨(beqb_t h210), (beqb_t h210), (beqb_t h210), (beqb_t h210), (beqb_t h210), (F89_ok K a143.In a144.In _ h243), (leads_ok (by simp [leadsAny, RV.leads, RC.leads, leadsT, hasSl_lit, flat_ns eGMsg_ns])), h210, trivial⟩
     exact fn_playC hn118 (r := F118_res r242) (pq244 (pq245 (pq246 pz))) (by kernel_rfl) (by kernel_rfl)
    obtain rfl := Option.some.inj hF
    have pz : HoldAll E H hn118 [.test (beqb r208 true) false, .test (beqb r208 true) false, .test (beqb r208 true) false, .test (beqb r208 true) false, .test (beqb r208 true) false, .test r208 false] := ⟨(beqb_t h210), (beqb_t h210), (beqb_t h210), (beqb_t h210), (beqb_t h210), h210, trivial⟩
    exact fn_playC hn118 (r := F118_res false) (pq244 (pq245 (pq246 pz))) (by kernel_rfl) (by kernel_rfl)
   obtain rfl := Option.some.inj hF
   have pz : HoldAll E H hn118 [.test (beqb r176 true) false, .test (beqb r176 true) false, .test (beqb r176 true) false, .test (beqb r176 true) false, .test (beqb r176 true) false, .test r176 false, .test (beqb false true) false, .test (beqb false true) false, .test (beqb false true) false, .test (beqb false true) false, .test (beqb false true) false, .test false false] := ⟨(beqb_t h178), (beqb_t h178), (beqb_t h178), (beqb_t h178), (beqb_t h178), h178, (beqb_t rfl), (beqb_t rfl), (beqb_t rfl), (beqb_t rfl), (beqb_t rfl), rfl, trivial⟩
   exact fn_playC hn118 (r := F118_res false) (pq244 (pq245 pz)) (by kernel_rfl) (by kernel_rfl)
  obtain rfl := Option.some.inj hF
  have pz : HoldAll E H hn118 [.test (beqb (ieq a143.Step a144.Step) true) false, .test (beqb (ieq a143.Step a144.Step) true) false, .test (beqb (ieq a143.Step a144.Step) true) false, .test (beqb (ieq a143.Step a144.Step) true) false, .test (beqb (ieq a143.Step a144.Step) true) false, .test (ieq a143.Step a144.Step) false, .test (beqb false true) false, .test (beqb false true) false, .test (beqb false true) false, .test (beqb false true) false, .test (beqb false true) false, .test false false, .test (beqb false true) false, .test (beqb false true) false, .test (beqb false true) false, .test (beqb false true) false, .test (beqb false true) false, .test false false] := ⟨(beqb_t h146), (beqb_t h146), (beqb_t h146), (beqb_t h146), (beqb_t h146), h146, (beqb_t rfl), (beqb_t rfl), (beqb_t rfl), (beqb_t rfl), (beqb_t rfl), rfl, (beqb_t rfl), (beqb_t rfl), (beqb_t rfl), (beqb_t rfl), (beqb_t rfl), rfl, trivial⟩
  exact fn_playC hn118 (r := F118_res false) (pq244 pz) (by kernel_rfl) (by kernel_rfl)
 obtain rfl := Option.some.inj hF
 have pz : HoldAll E H hn118 [.test (beqb (ieq a143.P a144.P) true) false, .test (beqb (ieq a143.P a144.P) true) false, .test (beqb (ieq a143.P a144.P) true) false, .test (beqb (ieq a143.P a144.P) true) false, .test (beqb (ieq a143.P a144.P) true) false, .test (ieq a143.P a144.P) false, .test (beqb false true) false, .test (beqb false true) false, .test (beqb false true) false, .test (beqb false true) false, .test (beqb false true) false, .test false false, .test (beqb false true) false, .test (beqb false true) false, .test (beqb false true) false, .test (beqb false true) false, .test (beqb false true) false, .test false false, .test (beqb false true) false, .test (beqb false true) false, .test (beqb false true) false, .test (beqb false true) false, .test (beqb false true) false, .test false false] := ⟨(beqb_t h145), (beqb_t h145), (beqb_t h145), (beqb_t h145), (beqb_t h145), h145, (beqb_t rfl), (beqb_t rfl), (beqb_t rfl), (beqb_t rfl), (beqb_t rfl), rfl, (beqb_t rfl), (beqb_t rfl), (beqb_t rfl), (beqb_t rfl), (beqb_t rfl), rfl, (beqb_t rfl), (beqb_t rfl), (beqb_t rfl), (beqb_t rfl), (beqb_t rfl), rfl, trivial⟩
 exact fn_playC hn118 (r := F118_res false) pz (by kernel_rfl) (by kernel_rfl)
theorem self_go {α : Type} {l : List α} (eq : α → α → Option (Unit ⊕ Unit) → Option (Unit ⊕ Unit)) (he : ∀ x ∈ l, ∀ c, eq x x c = c) : ∀ (r : List α) (i : Nat), l.drop i = r →
   goI (fun i x (_ : Unit) c => bif inr (i : Int) (len l) then (elAt l (i : Int)).bind fun y => eq x y (c ()) else none) (fun _ => some (.inr ())) i r () = some (.inr ()) := by
 intro r
 induction r with
 | nil => intro i _; rfl
 | cons x r ih =>
   intro i hr
   have hi := lt_of_drop' hr
   have hd := List.drop_eq_getElem_cons hi
   rw [hr] at hd
   injection hd with a b
   have e1 : inr (i : Int) (len l) = true := decide_eq_true ⟨by omega, by show (i : Int) < (l.length : Int); omega⟩
   have e2 : elAt l (i : Int) = some x := by rw [elAt_nat, a]; simp [hi]
   rw [goI, e1, e2, cond_true, Option.bind_some, he x (by rw [a]; exact List.getElem_mem hi)]
   exact ih (i + 1) b.symm
theorem same140 {K : Nat} (l : List Int) (hl : l.length < 1000000) (hK : l.length < K) : F140 K l l = some true := by
 have h := scanI (l := l) (L := fun k (_ : Unit) i => F140_l0_0 K l l k i) (fun i x (_ : Unit) c => bif inr (i : Int) (len l) then (elAt l (i : Int)).bind fun y => bif ieq x y then c () else some (.inl ()) else none) (fun _ => some (.inr ())) (fun k st i hi => rfl) (by omega) K () 0 (by omega) (by omega)
 have g := self_go (l := l) (fun x y c => bif ieq x y then c else some (.inl ())) (fun x _ c => by rw [ieq_refl]; rfl) l 0 rfl
 have h' : F140_l0_0 K l l K 0 = some (.inr ()) := h.trans g
 rw [F140, ieq_refl, h']; rfl
theorem same141 {K : Nat} (l : List Bool) (hl : l.length < 1000000) (hK : l.length < K) : F141 K l l = some true := by
 have h := scanI (l := l) (L := fun k (_ : Unit) i => F141_l0_0 K l l k i) (fun i x (_ : Unit) c => bif inr (i : Int) (len l) then (elAt l (i : Int)).bind fun y => bif beqb x y then c () else some (.inl ()) else none) (fun _ => some (.inr ())) (fun k st i hi => rfl) (by omega) K () 0 (by omega) (by omega)
 have g := self_go (l := l) (fun x y c => bif beqb x y then c else some (.inl ())) (fun x _ c => by rw [beqb_refl]; rfl) l 0 rfl
 have h' : F141_l0_0 K l l K 0 = some (.inr ()) := h.trans g
 rw [F141, ieq_refl, h']; rfl
theorem same89 {K : Nat} (l : List GMsg) (hl : l.length < 1000000) (hK : l.length < K) : F89 K l l = some true := by
 have h := scanI (l := l) (L := fun k (_ : Unit) i => F89_l0_0 K l l k i) (fun i x (_ : Unit) c => bif inr (i : Int) (len l) then (elAt l (i : Int)).bind fun y => bif ieq x.To y.To then (bif ieq x.V y.V then c () else some (.inl ())) else some (.inl ()) else none) (fun _ => some (.inr ())) (fun k st i hi => rfl) (by omega) K () 0 (by omega) (by omega)
 have g := self_go (l := l) (fun x y c => bif ieq x.To y.To then (bif ieq x.V y.V then c else some (.inl ())) else some (.inl ())) (fun x _ c => by rw [ieq_refl, ieq_refl]; rfl) l 0 rfl
 have h' : F89_l0_0 K l l K 0 = some (.inr ()) := h.trans g
 rw [F89, ieq_refl, h']; rfl
def fitP (K : Nat) (x : GPart) : Prop := (x.Vals.length < 1000000 ∧ x.Vals.length < K) ∧ (x.Rest.length < 1000000 ∧ x.Rest.length < K) ∧ x.In.length < 1000000 ∧ x.In.length < K
theorem same118 {K : Nat} (x : GPart) (h : fitP K x) : F118 K x x = some true := by
 rw [F118, ieq_refl, ieq_refl, same140 x.Vals h.1.1 h.1.2, same141 x.Rest h.2.1.1 h.2.1.2, same89 x.In h.2.2.1 h.2.2.2]; rfl
noncomputable def hn91 : Hint := { H 91 with nt := 66, prot := 0 }
noncomputable def c91_0 : Code := loopOf E 91 0
noncomputable def c91_1 : Code := loopOf E 91 1
def F91_res (r2025 : List GMsg) : Res := ⟨[(.one (.own 130 (.sl (len r2025) (flat eGMsg r2025))))], []⟩
def F91_l1_1 (K : Nat) (a1920 : List GMsg) (v1970 : Int) : Nat → List GMsg → Int → Option (List GMsg)
 | 0, _, _ => none
 | k + 1, v1992, v1993 =>
  bif (ilt 0 v1993) then
   (bif (inr (wsub .i64 v1993 1) (len v1992)) then
   (elAt v1992 (wsub .i64 v1993 1)).bind fun x1996 =>
   bif (inr v1993 (len v1992)) then
   (elAt v1992 v1993).bind fun x1999 =>
   bif (ilt x1996.To x1999.To) then
    (some v1992)
   else
   bif (ieq x1996.To x1999.To) then
    (bif (ile x1996.V x1999.V) then
     (some v1992)
    else
    bif (inr v1993 (len (α := GMsg) (putAt v1992 (wsub .i64 v1993 1) x1999))) then
    (elAt (putAt v1992 (wsub .i64 v1993 1) x1999) v1993).bind fun x2005 =>
    F91_l1_1 K a1920 v1970 k (putAt (putAt v1992 (wsub .i64 v1993 1) x1999) v1993 x1996) (wsub .i64 v1993 1)
    else none)
   else
   bif (inr v1993 (len (α := GMsg) (putAt v1992 (wsub .i64 v1993 1) x1999))) then
   (elAt (putAt v1992 (wsub .i64 v1993 1) x1999) v1993).bind fun x2008 =>
   F91_l1_1 K a1920 v1970 k (putAt (putAt v1992 (wsub .i64 v1993 1) x1999) v1993 x1996) (wsub .i64 v1993 1)
   else none
   else none
   else none)
  else
  some v1992
def F91_l1_1_S (a1920 : List GMsg) (v1970 : Int) (v1992 : List GMsg) (v1993 : Int) : TS := .on [0, 1, 192, 193, 256, 257, 320, 321] [(0, ⟨.one, 0, nob⟩), (1, ⟨.im, 0, (.sl (len a1920) (flat eGMsg a1920))⟩), (192, ⟨.one, 0, nob⟩), (193, ⟨(.own 130), 0, (.sl (len v1992) (flat eGMsg v1992))⟩), (256, ⟨.one, 0, nob⟩), (257, ⟨.im, 0, (.lit (.int .i64 v1970))⟩), (320, ⟨.one, 0, nob⟩), (321, ⟨.im, 0, (.lit (.int .i64 v1993))⟩)]
def F91_l1_1_X0 (a1920 : List GMsg) (v1970 : Int) (w2010 : List GMsg) : TS := .on [0, 1, 192, 193, 256, 257] [(0, ⟨.one, 0, nob⟩), (1, ⟨.im, 0, (.sl (len a1920) (flat eGMsg a1920))⟩), (192, ⟨.one, 0, nob⟩), (193, ⟨(.own 130), 0, (.sl (len w2010) (flat eGMsg w2010))⟩), (256, ⟨.one, 0, nob⟩), (257, ⟨.im, 0, (.lit (.int .i64 v1970))⟩)]
theorem F91_l1_1_ok (K : Nat) (a1920 : List GMsg) (v1970 : Int) : ∀ (k : Nat) (v1992 : List GMsg) (v1993 : Int) (r : List GMsg), F91_l1_1 K a1920 v1970 k v1992 v1993 = some r → LoopEv E H hn91 2 c91_1 (F91_l1_1_S a1920 v1970 v1992 v1993) (.exit 2) (F91_l1_1_X0 a1920 v1970 r) := by
 intro k
 induction k with
 | zero => intro v1992 v1993 r hF; cases hF
 | succ k ih =>
  intro v1992 v1993 r hF
  rw [F91_l1_1] at hF
  refine cond_some hF (fun h1994 hF => ?_) (fun h1994 hF => ?_)
  ·
   refine cond_some hF (fun h1995 hF => ?_) (fun _ hF => nomatch hF)
   refine bind_some hF (fun x1996 h1997 hF => ?_)
   refine cond_some hF (fun h1998 hF => ?_) (fun _ hF => nomatch hF)
   refine bind_some hF (fun x1999 h2000 hF => ?_)
   have pq2012 : ∀ {l : List Cond}, HoldAll E H hn91 l → HoldAll E H hn91 (.test (igt v1993 0) true :: .int (wsub .i64 v1993 1) (wsub .i64 v1993 1) :: .test (inr (wsub .i64 v1993 1) (len v1992)) true :: .sub (flat eGMsg v1992) (nidx (wsub .i64 v1993 1) 2) 2 [(.lit (.int .i64 x1996.To)), (.lit (.int .i64 x1996.V))] :: .test (inr v1993 (len v1992)) true :: .sub (flat eGMsg v1992) (nidx v1993 2) 2 [(.lit (.int .i64 x1999.To)), (.lit (.int .i64 x1999.V))] :: l) := fun z => ⟨(igt_eq h1994), rfl, h1995, ⟨rfl, sub_flat0 eGMsg_len h1997 2 (by decide)⟩, h1998, ⟨rfl, sub_flat0 eGMsg_len h2000 2 (by decide)⟩, z⟩
   refine cond_some hF (fun h2001 hF => ?_) (fun h2001 hF => ?_)
   ·
    obtain rfl := Option.some.inj hF
    have pz : HoldAll E H hn91 [.test (beqb (ilt x1996.To x1999.To) false) false, .test (beqb (ilt x1996.To x1999.To) false) false, .test (beqb (ilt x1996.To x1999.To) false) false, .test (beqb (ilt x1996.To x1999.To) false) false, .test (beqb (ilt x1996.To x1999.To) false) false, .test (beqb (ilt x1996.To x1999.To) false) false, .test (beqb (ilt x1996.To x1999.To) false) false, .test (ilt x1996.To x1999.To) true, .test true true] := ⟨(beqb_ft h2001), (beqb_ft h2001), (beqb_ft h2001), (beqb_ft h2001), (beqb_ft h2001), (beqb_ft h2001), (beqb_ft h2001), h2001, rfl, trivial⟩
    exact loop_endC (h := hn91) (l := 2) (c := c91_1) (ts := F91_l1_1_S a1920 v1970 v1992 v1993) (ts' := F91_l1_1_X0 a1920 v1970 v1992) (ex := (.exit 2)) (pq2012 pz) (by kernel_rfl) trivial
   have pq2013 : ∀ {l : List Cond}, HoldAll E H hn91 l → HoldAll E H hn91 (.test (beqb (ilt x1996.To x1999.To) false) true :: .test (beqb (ilt x1996.To x1999.To) false) true :: .test (beqb (ilt x1996.To x1999.To) false) true :: .test (beqb (ilt x1996.To x1999.To) false) true :: .test (beqb (ilt x1996.To x1999.To) false) true :: .test (beqb (ilt x1996.To x1999.To) false) true :: l) := fun z => ⟨(beqb_ff h2001), (beqb_ff h2001), (beqb_ff h2001), (beqb_ff h2001), (beqb_ff h2001), (beqb_ff h2001), z⟩
   refine cond_some hF (fun h2002 hF => ?_) (fun h2002 hF => ?_)
   ·
    have pq2014 : ∀ {l : List Cond}, HoldAll E H hn91 l → HoldAll E H hn91 (.test (beqb (ieq x1996.To x1999.To) true) true :: .test (beqb (ieq x1996.To x1999.To) true) true :: .test (beqb (ieq x1996.To x1999.To) true) true :: .test (beqb (ieq x1996.To x1999.To) true) true :: .test (beqb (ieq x1996.To x1999.To) true) true :: .test (beqb (ilt x1996.To x1999.To) false) true :: .test (ieq x1996.To x1999.To) true :: .test (ilt x1996.To x1999.To) false :: l) := fun z => ⟨(beqb_t h2002), (beqb_t h2002), (beqb_t h2002), (beqb_t h2002), (beqb_t h2002), (beqb_ff h2001), h2002, h2001, z⟩
    refine cond_some hF (fun h2003 hF => ?_) (fun h2003 hF => ?_)
    ·
     obtain rfl := Option.some.inj hF
     have pz : HoldAll E H hn91 [.test (ile x1996.V x1999.V) true] := ⟨h2003, trivial⟩
     exact loop_endC (h := hn91) (l := 2) (c := c91_1) (ts := F91_l1_1_S a1920 v1970 v1992 v1993) (ts' := F91_l1_1_X0 a1920 v1970 v1992) (ex := (.exit 2)) (pq2012 (pq2013 (pq2014 pz))) (by kernel_rfl) trivial
    refine cond_some hF (fun h2004 hF => ?_) (fun _ hF => nomatch hF)
    refine bind_some hF (fun x2005 h2006 hF => ?_)
    have pz : HoldAll E H hn91 [.test (ile x1996.V x1999.V) false, .int (wsub .i64 v1993 1) (wsub .i64 v1993 1), .test (inr (wsub .i64 v1993 1) (len v1992)) true, .test (lfits (nidx (wsub .i64 v1993 1) 2) 2 (flat eGMsg v1992)) true, .sl (len v1992) (lset (flat eGMsg v1992) (nidx (wsub .i64 v1993 1) 2) [(.lit (.int .i64 x1999.To)), (.lit (.int .i64 x1999.V))]) (len (α := GMsg) (putAt v1992 (wsub .i64 v1993 1) x1999)) (flat eGMsg (putAt v1992 (wsub .i64 v1993 1) x1999)), .test (inr v1993 (len (α := GMsg) (putAt v1992 (wsub .i64 v1993 1) x1999))) true, .test (lfits (nidx v1993 2) 2 (flat eGMsg (putAt v1992 (wsub .i64 v1993 1) x1999))) true, .sl (len (α := GMsg) (putAt v1992 (wsub .i64 v1993 1) x1999)) (lset (flat eGMsg (putAt v1992 (wsub .i64 v1993 1) x1999)) (nidx v1993 2) [(.lit (.int .i64 x1996.To)), (.lit (.int .i64 x1996.V))]) (len (α := GMsg) (putAt (putAt v1992 (wsub .i64 v1993 1) x1999) v1993 x1996)) (flat eGMsg (putAt (putAt v1992 (wsub .i64 v1993 1) x1999) v1993 x1996)), .int (wsub .i64 v1993 1) (wsub .i64 v1993 1)] := ⟨h2003, rfl, h1995, (lfits_flat0 eGMsg_len h1997 _ (by decide)), (set_ok0 eGMsg_len h1997 _ (by simp) rfl), h2004, (lfits_flat0 eGMsg_len h2006 _ (by decide)), (set_ok0 eGMsg_len h2006 _ (by simp) rfl), rfl, trivial⟩
    have h0 := ih _ _ _ hF
    have hn := fun ex ts' => loop_nextC (h := hn91) (l := 2) (c := c91_1) (ts := F91_l1_1_S a1920 v1970 v1992 v1993) (ts1 := (F91_l1_1_S a1920 v1970 (putAt (putAt v1992 (wsub .i64 v1993 1) x1999) v1993 x1996) (wsub .i64 v1993 1))) (ex := ex) (ts' := ts') (pq2012 (pq2013 (pq2014 pz))) (by kernel_rfl)
    exact hn _ _ h0
   refine cond_some hF (fun h2007 hF => ?_) (fun _ hF => nomatch hF)
   refine bind_some hF (fun x2008 h2009 hF => ?_)
   have pz : HoldAll E H hn91 [.test (beqb (ieq x1996.To x1999.To) true) false, .test (beqb (ieq x1996.To x1999.To) true) false, .test (beqb (ieq x1996.To x1999.To) true) false, .test (beqb (ieq x1996.To x1999.To) true) false, .test (beqb (ieq x1996.To x1999.To) true) false, .test (beqb (ilt x1996.To x1999.To) false) true, .test (ieq x1996.To x1999.To) false, .test (ilt x1996.To x1999.To) false, .test false false, .int (wsub .i64 v1993 1) (wsub .i64 v1993 1), .test (inr (wsub .i64 v1993 1) (len v1992)) true, .test (lfits (nidx (wsub .i64 v1993 1) 2) 2 (flat eGMsg v1992)) true, .sl (len v1992) (lset (flat eGMsg v1992) (nidx (wsub .i64 v1993 1) 2) [(.lit (.int .i64 x1999.To)), (.lit (.int .i64 x1999.V))]) (len (α := GMsg) (putAt v1992 (wsub .i64 v1993 1) x1999)) (flat eGMsg (putAt v1992 (wsub .i64 v1993 1) x1999)), .test (inr v1993 (len (α := GMsg) (putAt v1992 (wsub .i64 v1993 1) x1999))) true, .test (lfits (nidx v1993 2) 2 (flat eGMsg (putAt v1992 (wsub .i64 v1993 1) x1999))) true, .sl (len (α := GMsg) (putAt v1992 (wsub .i64 v1993 1) x1999)) (lset (flat eGMsg (putAt v1992 (wsub .i64 v1993 1) x1999)) (nidx v1993 2) [(.lit (.int .i64 x1996.To)), (.lit (.int .i64 x1996.V))]) (len (α := GMsg) (putAt (putAt v1992 (wsub .i64 v1993 1) x1999) v1993 x1996)) (flat eGMsg (putAt (putAt v1992 (wsub .i64 v1993 1) x1999) v1993 x1996)), .int (wsub .i64 v1993 1) (wsub .i64 v1993 1)] := ⟨(beqb_t h2002), (beqb_t h2002), (beqb_t h2002), (beqb_t h2002), (beqb_t h2002), (beqb_ff h2001), h2002, h2001, rfl, rfl, h1995, (lfits_flat0 eGMsg_len h1997 _ (by decide)), (set_ok0 eGMsg_len h1997 _ (by simp) rfl), h2007, (lfits_flat0 eGMsg_len h2009 _ (by decide)), (set_ok0 eGMsg_len h2009 _ (by simp) rfl), rfl, trivial⟩
   have h0 := ih _ _ _ hF
   have hn := fun ex ts' => loop_nextC (h := hn91) (l := 2) (c := c91_1) (ts := F91_l1_1_S a1920 v1970 v1992 v1993) (ts1 := (F91_l1_1_S a1920 v1970 (putAt (putAt v1992 (wsub .i64 v1993 1) x1999) v1993 x1996) (wsub .i64 v1993 1))) (ex := ex) (ts' := ts') (pq2012 (pq2013 pz)) (by kernel_rfl)
   exact hn _ _ h0
  obtain rfl := Option.some.inj hF
  have pz : HoldAll E H hn91 [.test (igt v1993 0) false] := ⟨(igt_eq h1994), trivial⟩
  exact loop_endC (h := hn91) (l := 2) (c := c91_1) (ts := F91_l1_1_S a1920 v1970 v1992 v1993) (ts' := F91_l1_1_X0 a1920 v1970 v1992) (ex := (.exit 2)) pz (by kernel_rfl) trivial
def F91_l0_0 (K : Nat) (a1920 : List GMsg) : Nat → List GMsg → Int → Option (List GMsg)
 | 0, _, _ => none
 | k + 1, v1969, v1970 =>
  bif (ilt v1970 (nlen (len a1920))) then
   (bif (inr v1970 (len a1920)) then
   (elAt a1920 v1970).bind fun x1973 =>
   bif (apok (len v1969) 1 16) then
   (F91_l1_1 K a1920 v1970 K (appL v1969 [x1973]) (wsub .i64 (nlen (len (α := GMsg) (appL v1969 [x1973]))) 1)).bind fun w2017 =>
   F91_l0_0 K a1920 k w2017 (wadd .i64 v1970 1)
   else none
   else none)
  else
  some v1969
def F91_l0_0_S (a1920 : List GMsg) (v1969 : List GMsg) (v1970 : Int) : TS := .on [0, 1, 192, 193, 256, 257] [(0, ⟨.one, 0, nob⟩), (1, ⟨.im, 0, (.sl (len a1920) (flat eGMsg a1920))⟩), (192, ⟨.one, 0, nob⟩), (193, ⟨(.own 130), 0, (.sl (len v1969) (flat eGMsg v1969))⟩), (256, ⟨.one, 0, nob⟩), (257, ⟨.im, 0, (.lit (.int .i64 v1970))⟩)]
def F91_l0_0_X0 (a1920 : List GMsg) (w2019 : List GMsg) : TS := .on [192, 193] [(192, ⟨.one, 0, nob⟩), (193, ⟨(.own 130), 0, (.sl (len w2019) (flat eGMsg w2019))⟩)]
theorem F91_l0_0_ok (K : Nat) (a1920 : List GMsg) : ∀ (k : Nat) (v1969 : List GMsg) (v1970 : Int) (r : List GMsg), F91_l0_0 K a1920 k v1969 v1970 = some r → LoopEv E H hn91 0 c91_0 (F91_l0_0_S a1920 v1969 v1970) (.exit 0) (F91_l0_0_X0 a1920 r) := by
 intro k
 induction k with
 | zero => intro v1969 v1970 r hF; cases hF
 | succ k ih =>
  intro v1969 v1970 r hF
  rw [F91_l0_0] at hF
  refine cond_some hF (fun h1971 hF => ?_) (fun h1971 hF => ?_)
  ·
   refine cond_some hF (fun h1972 hF => ?_) (fun _ hF => nomatch hF)
   refine bind_some hF (fun x1973 h1974 hF => ?_)
   refine cond_some hF (fun h1975 hF => ?_) (fun _ hF => nomatch hF)
   refine bind_some hF (fun w2017 h2015 hF => ?_)
   have pz : HoldAll E H hn91 [.int (nlen (len a1920)) (nlen (len a1920)), .test (ilt v1970 (nlen (len a1920))) true, .test (inr v1970 (len a1920)) true, .sub (flat eGMsg a1920) (nidx v1970 2) 2 [(.lit (.int .i64 x1973.To)), (.lit (.int .i64 x1973.V))], .test (leqm [(.lit (.int .i64 x1973.To)), (.lit (.int .i64 x1973.V))] 1 2) true, .test (apok (len v1969) 1 16) true, .sl (nadd (len v1969) 1) (lapp (flat eGMsg v1969) [(.lit (.int .i64 x1973.To)), (.lit (.int .i64 x1973.V))]) (len (α := GMsg) (appL v1969 [x1973])) (flat eGMsg (appL v1969 [x1973])), .int (nlen (len (α := GMsg) (appL v1969 [x1973]))) (nlen (len (α := GMsg) (appL v1969 [x1973]))), .int (wsub .i64 (nlen (len (α := GMsg) (appL v1969 [x1973]))) 1) (wsub .i64 (nlen (len (α := GMsg) (appL v1969 [x1973]))) 1), .loop 2 c91_1 (F91_l1_1_S a1920 v1970 (appL v1969 [x1973]) (wsub .i64 (nlen (len (α := GMsg) (appL v1969 [x1973]))) 1)) (.exit 2) (F91_l1_1_X0 a1920 v1970 w2017), .int (wadd .i64 v1970 1) (wadd .i64 v1970 1)] := ⟨rfl, h1971, h1972, ⟨rfl, sub_flat0 eGMsg_len h1974 2 (by decide)⟩, rfl, h1975, (app_ok (enc := eGMsg) (v1969 : List GMsg) [x1973]), rfl, rfl, (F91_l1_1_ok K a1920 v1970 K (appL v1969 [x1973]) (wsub .i64 (nlen (len (α := GMsg) (appL v1969 [x1973]))) 1) _ h2015), rfl, trivial⟩
   have h0 := ih _ _ _ hF
   have hn := fun ex ts' => loop_nextC (h := hn91) (l := 0) (c := c91_0) (ts := F91_l0_0_S a1920 v1969 v1970) (ts1 := (F91_l0_0_S a1920 w2017 (wadd .i64 v1970 1))) (ex := ex) (ts' := ts') pz (by kernel_rfl)
   exact hn _ _ h0
  obtain rfl := Option.some.inj hF
  have pz : HoldAll E H hn91 [.int (nlen (len a1920)) (nlen (len a1920)), .test (ilt v1970 (nlen (len a1920))) false] := ⟨rfl, h1971, trivial⟩
  exact loop_endC (h := hn91) (l := 0) (c := c91_0) (ts := F91_l0_0_S a1920 v1969 v1970) (ts' := F91_l0_0_X0 a1920 v1969) (ex := (.exit 0)) pz (by kernel_rfl) trivial
def F91 (K : Nat) (a1920 : List GMsg) : Option (List GMsg) :=
 (F91_l0_0 K a1920 K [] 0).bind fun w2023 =>
 some w2023
theorem F91_ok (K : Nat) (a1920 : List GMsg) (r : List GMsg) (hF : F91 K a1920 = some r) : Evt E H 91 [.one (.sl (len a1920) (flat eGMsg a1920))] (F91_res r) := by
 rw [F91] at hF
 refine bind_some hF (fun w2023 h2021 hF => ?_)
 obtain rfl := Option.some.inj hF
 have pz : HoldAll E H hn91 [.loop 0 c91_0 (F91_l0_0_S a1920 [] 0) (.exit 0) (F91_l0_0_X0 a1920 w2023)] := ⟨(F91_l0_0_ok K a1920 K [] 0 _ h2021), trivial⟩
 exact fn_playC hn91 (r := F91_res w2023) pz (by kernel_rfl) (by kernel_rfl)
noncomputable def hn90 : Hint := { H 90 with nt := 19, prot := 0 }
noncomputable def c90_0 : Code := loopOf E 90 0
def F90_res (r4044 : List GMsg) : Res := ⟨[(.one (.own 130 (.sl (len r4044) (flat eGMsg r4044))))], []⟩
def F90_l0_0 (K : Nat) (a4023 : List (List GMsg)) : Nat → List GMsg → Int → Option (List GMsg)
 | 0, _, _ => none
 | k + 1, v4029, v4030 =>
  bif (ilt v4030 (nlen (len a4023))) then
   (bif (inr v4030 (len a4023)) then
   (elAt a4023 v4030).bind fun x4033 =>
   bif (apok (len v4029) (len x4033) 16) then
   F90_l0_0 K a4023 k (appL v4029 x4033) (wadd .i64 v4030 1)
   else none
   else none)
  else
  some v4029
def F90_l0_0_S (a4023 : List (List GMsg)) (v4029 : List GMsg) (v4030 : Int) : TS := .on [0, 1, 192, 193, 256, 257] [(0, ⟨.one, 0, nob⟩), (1, ⟨.im, 0, (.sl (len a4023) (flat (eSl eGMsg) a4023))⟩), (192, ⟨.one, 0, nob⟩), (193, ⟨(.own 130), 0, (.sl (len v4029) (flat eGMsg v4029))⟩), (256, ⟨.one, 0, nob⟩), (257, ⟨.im, 0, (.lit (.int .i64 v4030))⟩)]
def F90_l0_0_X0 (a4023 : List (List GMsg)) (w4036 : List GMsg) : TS := .on [192, 193] [(192, ⟨.one, 0, nob⟩), (193, ⟨(.own 130), 0, (.sl (len w4036) (flat eGMsg w4036))⟩)]
theorem F90_l0_0_ok (K : Nat) (a4023 : List (List GMsg)) : ∀ (k : Nat) (v4029 : List GMsg) (v4030 : Int) (r : List GMsg), F90_l0_0 K a4023 k v4029 v4030 = some r → LoopEv E H hn90 0 c90_0 (F90_l0_0_S a4023 v4029 v4030) (.exit 0) (F90_l0_0_X0 a4023 r) := by
 intro k
 induction k with
 | zero => intro v4029 v4030 r hF; cases hF
 | succ k ih =>
  intro v4029 v4030 r hF
  rw [F90_l0_0] at hF
  refine cond_some hF (fun h4031 hF => ?_) (fun h4031 hF => ?_)
  ·
   refine cond_some hF (fun h4032 hF => ?_) (fun _ hF => nomatch hF)
   refine bind_some hF (fun x4033 h4034 hF => ?_)
   refine cond_some hF (fun h4035 hF => ?_) (fun _ hF => nomatch hF)
   have pz : HoldAll E H hn90 [.int (nlen (len a4023)) (nlen (len a4023)), .test (ilt v4030 (nlen (len a4023))) true, .test (inr v4030 (len a4023)) true, .sub (flat (eSl eGMsg) a4023) (nidx v4030 1) 1 [(.sl (len x4033) (flat eGMsg x4033))], .test (leqm (flat eGMsg x4033) (len x4033) 2) true, .test (apok (len v4029) (len x4033) 16) true, .sl (nadd (len v4029) (len x4033)) (lapp (flat eGMsg v4029) (flat eGMsg x4033)) (len (α := GMsg) (appL v4029 x4033)) (flat eGMsg (appL v4029 x4033)), .int (wadd .i64 v4030 1) (wadd .i64 v4030 1)] := ⟨rfl, h4031, h4032, ⟨rfl, sub_flat0 (eSl_len _) h4034 1 (by decide)⟩, (leqm_flat eGMsg_len _), h4035, (app_ok (enc := eGMsg) (v4029 : List GMsg) x4033), rfl, trivial⟩
   have h0 := ih _ _ _ hF
   have hn := fun ex ts' => loop_nextC (h := hn90) (l := 0) (c := c90_0) (ts := F90_l0_0_S a4023 v4029 v4030) (ts1 := (F90_l0_0_S a4023 (appL v4029 x4033) (wadd .i64 v4030 1))) (ex := ex) (ts' := ts') pz (by kernel_rfl)
   exact hn _ _ h0
  obtain rfl := Option.some.inj hF
  have pz : HoldAll E H hn90 [.int (nlen (len a4023)) (nlen (len a4023)), .test (ilt v4030 (nlen (len a4023))) false] := ⟨rfl, h4031, trivial⟩
  exact loop_endC (h := hn90) (l := 0) (c := c90_0) (ts := F90_l0_0_S a4023 v4029 v4030) (ts' := F90_l0_0_X0 a4023 v4029) (ex := (.exit 0)) pz (by kernel_rfl) trivial
def F90 (K : Nat) (a4023 : List (List GMsg)) : Option (List GMsg) :=
 (F90_l0_0 K a4023 K [] 0).bind fun w4040 =>
 (F91 K w4040).bind fun r4042 =>
 some r4042
theorem F90_ok (K : Nat) (a4023 : List (List GMsg)) (r : List GMsg) (hF : F90 K a4023 = some r) : Evt E H 90 [.one (.sl (len a4023) (flat (eSl eGMsg) a4023))] (F90_res r) := by
 rw [F90] at hF
 refine bind_some hF (fun w4040 h4038 hF => ?_)
 refine bind_some hF (fun r4042 h4043 hF => ?_)
 obtain rfl := Option.some.inj hF
 have pz : HoldAll E H hn90 [.loop 0 c90_0 (F90_l0_0_S a4023 [] 0) (.exit 0) (F90_l0_0_X0 a4023 w4040), .call 91 [.one (.sl (len w4040) (flat eGMsg w4040))] (F91_res r4042), .test (leadsAny (Res.mk [(.one (.own 130 (.sl (len r4042) (flat eGMsg r4042))))] [])) false] := ⟨(F90_l0_0_ok K a4023 K [] 0 _ h4038), (F91_ok K w4040 _ h4043), (leads_ok (by simp [leadsAny, RV.leads, RC.leads, leadsT, hasSl_lit, flat_ns eGMsg_ns])), trivial⟩
 exact fn_playC hn90 (r := F90_res r4042) pz (by kernel_rfl) (by kernel_rfl)
def leM (a b : GMsg) : Bool := ilt a.To b.To || (ieq a.To b.To && ile a.V b.V)
theorem leM_iff {a b : GMsg} : leM a b = true ↔ a.To < b.To ∨ a.To = b.To ∧ a.V ≤ b.V := by simp [leM, ilt, ieq, ile]
theorem leM_f {a b : GMsg} : leM a b = false ↔ ¬ (a.To < b.To ∨ a.To = b.To ∧ a.V ≤ b.V) := by rw [← leM_iff]; simp
theorem leM_trans {a b c : GMsg} (h : leM a b = true) (g : leM b c = true) : leM a c = true := by rw [leM_iff] at *; omega
theorem leM_anti {a b : GMsg} (h : leM a b = true) (g : leM b a = true) : a = b := by
 rw [leM_iff] at h g
 cases a; cases b
 simp only [GMsg.mk.injEq]
 dsimp only at h g
 omega
theorem leM_total {a b : GMsg} (h : leM a b = false) : leM b a = true := by rw [leM_f] at h; rw [leM_iff]; omega
def srtM (l : List GMsg) : Prop := l.Pairwise fun a b => leM a b = true
theorem srtM_eq {l l' : List GMsg} (h : srtM l) (h' : srtM l') (hp : l.Perm l') : l = l' :=
 List.Perm.eq_of_pairwise (fun a b _ _ h1 h2 => leM_anti h1 h2) h h' hp
def bubR : List GMsg → GMsg → List GMsg → List GMsg
 | [], x, Q => x :: Q
 | y :: R, x, Q => bif leM y x then (y :: R).reverse ++ x :: Q else bubR R x (y :: Q)
def sortM (l : List GMsg) : List GMsg := l.foldl (fun acc x => bubR acc.reverse x []) []
theorem bubR_perm (x : GMsg) : ∀ (R Q : List GMsg), (bubR R x Q).Perm (R.reverse ++ x :: Q)
 | [], Q => List.Perm.refl _
 | y :: R, Q => by
   rw [bubR]
   cases leM y x
   · refine (bubR_perm x R (y :: Q)).trans ?_
     rw [List.reverse_cons, List.append_assoc]
     exact List.Perm.append_left _ (List.Perm.swap y x Q)
   · exact List.Perm.refl _
theorem bubR_srt (x : GMsg) : ∀ (R Q : List GMsg), srtM (R.reverse ++ Q) → (∀ q ∈ Q, leM x q = true) → srtM (bubR R x Q)
 | [], Q, h, hx => List.pairwise_cons.2 ⟨hx, h⟩
 | y :: R, Q, h, hx => by
   rw [bubR]
   cases hy : leM y x
   · refine bubR_srt x R (y :: Q) ?_ fun q hq => ?_
     · rw [List.reverse_cons, List.append_assoc] at h; exact h
     · rcases List.mem_cons.1 hq with e | e
       · subst e; exact leM_total hy
       · exact hx q e
   · obtain ⟨h1, h2, h3⟩ := List.pairwise_append.1 h
     refine List.pairwise_append.2 ⟨h1, List.pairwise_cons.2 ⟨hx, h2⟩, fun a ha b hb => ?_⟩
     have hay : a = y ∨ leM a y = true := by
       rw [List.reverse_cons] at ha h1
       obtain ⟨_, _, h6⟩ := List.pairwise_append.1 h1
       rcases List.mem_append.1 ha with e | e
       · exact .inr (h6 a e y (by simp))
       · exact .inl (List.mem_singleton.1 e)
     rcases List.mem_cons.1 hb with e | e
     · subst e
       rcases hay with e | e
       · subst e; exact hy
       · exact leM_trans e hy
     · exact h3 a ha b e
theorem sort_go : ∀ (l acc : List GMsg), srtM acc → srtM (l.foldl (fun acc x => bubR acc.reverse x []) acc) ∧ (l.foldl (fun acc x => bubR acc.reverse x []) acc).Perm (acc ++ l)
 | [], acc, h => ⟨h, by simp⟩
 | x :: l, acc, h => by
   have h1 : srtM (bubR acc.reverse x []) := bubR_srt x acc.reverse [] (by simpa using h) (fun q hq => (nomatch hq))
   have h2 : (bubR acc.reverse x []).Perm (acc ++ [x]) := by simpa using bubR_perm x acc.reverse []
   obtain ⟨a, b⟩ := sort_go l _ h1
   refine ⟨a, b.trans ?_⟩
   have := h2.append_right l
   simpa using this
theorem sortM_srt (l : List GMsg) : srtM (sortM l) := (sort_go l [] List.Pairwise.nil).1
theorem sortM_perm (l : List GMsg) : (sortM l).Perm l := by
 have := (sort_go l [] List.Pairwise.nil).2
 rwa [List.nil_append] at this
theorem sortM_len (l : List GMsg) : (sortM l).length = l.length := (sortM_perm l).length_eq
theorem sortM_eq {l r : List GMsg} (h : srtM r) (hp : r.Perm l) : sortM l = r := srtM_eq (sortM_srt l) h ((sortM_perm l).trans hp.symm)
theorem sortM_congr {l l' : List GMsg} (hp : l.Perm l') : sortM l = sortM l' := sortM_eq (sortM_srt l') ((sortM_perm l').trans hp.symm)
theorem swap_at {α : Type} (A : List α) (y x : α) (Q : List α) : (A ++ y :: x :: Q)[A.length]? = some y ∧ (A ++ y :: x :: Q)[A.length + 1]? = some x ∧ (A ++ y :: x :: Q).set A.length x = A ++ x :: x :: Q ∧ (A ++ x :: x :: Q)[A.length + 1]? = some x ∧ (A ++ x :: x :: Q).set (A.length + 1) y = A ++ x :: y :: Q := by
 refine ⟨by simp, ?_, ?_, ?_, ?_⟩
 · rw [List.getElem?_append_right (by omega)]; simp
 · rw [List.set_append_right (h := by omega)]; simp
 · rw [List.getElem?_append_right (by omega)]; simp
 · rw [List.set_append_right (h := by omega)]; simp
theorem F91_bub (K : Nat) (a : List GMsg) (v : Int) (x : GMsg) : ∀ (R Q : List GMsg) (k : Nat), R.length < k → R.length < 1000000 → F91_l1_1 K a v k (R.reverse ++ x :: Q) (R.length : Int) = some (bubR R x Q) := by
 intro R
 induction R with
 | nil =>
   intro Q k hk _
   obtain ⟨k, rfl⟩ : ∃ q, k = q + 1 := ⟨k - 1, by omega⟩
   rw [F91_l1_1]; rfl
 | cons y R ih =>
   intro Q k hk hl
   obtain ⟨k, rfl⟩ : ∃ q, k = q + 1 := ⟨k - 1, by omega⟩
   simp only [List.length_cons] at hk hl
   have e0 : (y :: R).reverse ++ x :: Q = R.reverse ++ y :: x :: Q := by simp
   obtain ⟨s1, s2, s3, s4, s5⟩ := swap_at R.reverse y x Q
   rw [List.length_reverse] at s1 s2 s3 s4 s5
   have hlen : (R.reverse ++ y :: x :: Q).length = R.length + (Q.length + 2) := by simp
   have w : wsub .i64 ((R.length + 1 : Nat) : Int) 1 = ((R.length : Nat) : Int) := by
     show IntKind.i64.wrap _ = _
     rw [IntKind.wrap_i64]; omega
   have i1 : inr ((R.length : Nat) : Int) (len (R.reverse ++ y :: x :: Q)) = true := decide_eq_true ⟨by omega, by show ((R.length : Nat) : Int) < (((R.reverse ++ y :: x :: Q).length : Nat) : Int); omega⟩
   have i2 : inr ((R.length + 1 : Nat) : Int) (len (R.reverse ++ y :: x :: Q)) = true := decide_eq_true ⟨by omega, by show ((R.length + 1 : Nat) : Int) < (((R.reverse ++ y :: x :: Q).length : Nat) : Int); omega⟩
   have p1 : putAt (R.reverse ++ y :: x :: Q) ((R.length : Nat) : Int) x = R.reverse ++ x :: x :: Q := by unfold putAt; rw [Int.toNat_natCast]; exact s3
   have i3 : inr ((R.length + 1 : Nat) : Int) (len (R.reverse ++ x :: x :: Q)) = true := decide_eq_true ⟨by omega, by show ((R.length + 1 : Nat) : Int) < (((R.reverse ++ x :: x :: Q).length : Nat) : Int); simp; omega⟩
   have p2 : putAt (R.reverse ++ x :: x :: Q) ((R.length + 1 : Nat) : Int) y = R.reverse ++ x :: y :: Q := by unfold putAt; rw [Int.toNat_natCast]; exact s5
   have g1 : elAt (R.reverse ++ y :: x :: Q) ((R.length : Nat) : Int) = some y := by rw [elAt_nat]; exact s1
   have g2 : elAt (R.reverse ++ y :: x :: Q) ((R.length + 1 : Nat) : Int) = some x := by rw [elAt_nat]; exact s2
   have g3 : elAt (R.reverse ++ x :: x :: Q) ((R.length + 1 : Nat) : Int) = some x := by rw [elAt_nat]; exact s4
   rw [e0, List.length_cons, F91_l1_1, ilt_iff.2 (by omega : (0 : Int) < ((R.length + 1 : Nat) : Int)), cond_true, w, i1, cond_true, g1, Option.bind_some, i2, cond_true, g2, Option.bind_some, p1, i3, g3, bubR, leM]
   have sw := ih (y :: Q) k (by omega) (by omega)
   cases ilt y.To x.To
   · cases ieq y.To x.To
     · simp only [cond_false, cond_true, Option.bind_some, p2, Bool.false_or, Bool.false_and]; exact sw
     · cases ile y.V x.V
       · simp only [cond_false, cond_true, Option.bind_some, p2, Bool.false_or, Bool.true_and]; exact sw
       · simp
   · simp
theorem F91_spec {K : Nat} (l : List GMsg) (hl : l.length < 100000) (hK : l.length < K) : F91 K l = some (sortM l) := by
 let step : Nat → GMsg → List GMsg → (List GMsg → Option (List GMsg)) → Option (List GMsg) := fun i x a c =>
   bif (apok (len a) 1 16) then (F91_l1_1 K l (i : Int) K (appL a [x]) (wsub .i64 (nlen (len (α := GMsg) (appL a [x]))) 1)).bind fun w => c w else none
 have h := scanI (l := l) (L := fun k s i => F91_l0_0 K l k s i) step (fun s => some s) (fun k s i _ => rfl) (by omega) K [] 0 (by omega) (by omega)
 have hw : ∀ (r : List GMsg) (i : Nat) (a : List GMsg), a.length + r.length ≤ l.length → goI step (fun s => some s) i r a = some (r.foldl (fun acc x => bubR acc.reverse x []) a) := by
   intro r
   induction r with
   | nil => intro i a _; rfl
   | cons x r ih =>
     intro i a ha
     simp only [List.length_cons] at ha
     rw [goI]
     show (bif (apok (len a) 1 16) then (F91_l1_1 K l (i : Int) K (appL a [x]) (wsub .i64 (nlen (len (α := GMsg) (appL a [x]))) 1)).bind fun w => goI step (fun s => some s) (i + 1) r w else none) = _
     have ap : apok (len a) 1 16 = true := decide_eq_true ⟨by show a.length + 1 ≤ _; omega, by show (a.length + 1) * 16 ≤ _; omega⟩
     have w : wsub .i64 (nlen (len (α := GMsg) (appL a [x]))) 1 = ((a.reverse.length : Nat) : Int) := by
       have : nlen (len (α := GMsg) (appL a [x])) = ((a.length + 1 : Nat) : Int) := by simp [nlen, len, appL]
       rw [this, List.length_reverse]
       show IntKind.i64.wrap _ = _
       rw [IntKind.wrap_i64]; omega
     have e : appL a [x] = a.reverse.reverse ++ x :: [] := by simp [appL]
     have hb := (bubR_perm x a.reverse []).length_eq
     rw [ap, cond_true, w, e, F91_bub K l (i : Int) x a.reverse [] K (by simp; omega) (by simp; omega), Option.bind_some, ih (i + 1) _ (by rw [hb]; simp; omega)]; rfl
 rw [List.drop_zero, hw l 0 [] (by simp)] at h
 have h' : F91_l0_0 K l K [] 0 = some (sortM l) := h
 rw [F91, h']; rfl
theorem F90_spec {K : Nat} (ls : List (List GMsg)) (h1 : ls.length < 10000) (h2 : ls.length < K) (h3 : (ls.flatten).length < 100000) (h4 : (ls.flatten).length < K) : F90 K ls = some (sortM ls.flatten) := by
 let step : List GMsg → List GMsg → (List GMsg → Option (List GMsg)) → Option (List GMsg) := fun x a c => bif (apok (len a) (len x) 16) then c (appL a x) else none
 have h := scanL (l := ls) (L := fun k s i => F90_l0_0 K ls k s i) step (fun s => some s) (fun k s i _ => rfl) (by omega) h2 []
 have hw : ∀ (r : List (List GMsg)) (a : List GMsg), a.length + r.flatten.length < 100000 → goL step (fun s => some s) r a = some (a ++ r.flatten) := by
   intro r
   induction r with
   | nil => intro a _; simp [goL]
   | cons x r ih =>
     intro a ha
     rw [List.flatten_cons, List.length_append] at ha
     rw [goL]
     show (bif (apok (len a) (len x) 16) then goL step (fun s => some s) r (appL a x) else none) = _
     have ap : apok (len a) (len x) 16 = true := decide_eq_true ⟨by show a.length + x.length ≤ _; omega, by show (a.length + x.length) * 16 ≤ _; omega⟩
     rw [ap, cond_true, ih _ (by simp only [appL, List.length_append]; omega)]; simp [appL]
 rw [hw ls [] (by simpa using h3), List.nil_append] at h
 have h' : F90_l0_0 K ls K [] 0 = some ls.flatten := h
 rw [F90, h', Option.bind_some, F91_spec _ h3 h4]; rfl
noncomputable def hn65 : Hint := { H 65 with nt := 99, prot := 0 }
noncomputable def c65_0 : Code := loopOf E 65 0
def F65_res (r1106 : Int) : Res := ⟨[(.one (.im (.lit (.int .i64 r1106))))], []⟩
def F65_l0_0 (K : Nat) (a1053 : GGraph) : Nat → Int → Option ((Int) ⊕ (Unit))
 | 0, _ => none
 | k + 1, v1067 =>
  bif (ilt v1067 (nlen (len a1053.Edges))) then
   (bif (inr v1067 (len a1053.Edges)) then
   (elAt a1053.Edges v1067).bind fun x1070 =>
   bif (ilt x1070.From 0) then
    (some (.inl 4))
   else
   bif (ilt x1070.To 0) then
    (some (.inl 4))
   else
   bif (ile a1053.N x1070.From) then
    (some (.inl 4))
   else
   bif (ile a1053.N x1070.To) then
    (some (.inl 4))
   else
   bif (ilt x1070.W 0) then
    (some (.inl 1))
   else
   bif (ilt 4611686018427387904 x1070.W) then
    (some (.inl 1))
   else
   bif (ilt 0 v1067) then
    (bif (inr (wsub .i64 v1067 1) (len a1053.Edges)) then
    (elAt a1053.Edges (wsub .i64 v1067 1)).bind fun x1080 =>
    bif (ieq x1080.From x1070.From) then
     (bif (ieq x1080.To x1070.To) then
      (some (.inl 5))
     else
     bif (ilt x1070.From x1080.From) then
      (some (.inl 6))
     else
     bif (ilt x1070.To x1080.To) then
      (some (.inl 6))
     else
     F65_l0_0 K a1053 k (wadd .i64 v1067 1))
    else
    bif (ilt x1070.From x1080.From) then
     (some (.inl 6))
    else
    F65_l0_0 K a1053 k (wadd .i64 v1067 1)
    else none)
   else
   F65_l0_0 K a1053 k (wadd .i64 v1067 1)
   else none)
  else
  some (.inr ())
def F65_l0_0_S (a1053 : GGraph) (v1067 : Int) : TS := .on [64, 65, 66, 192, 193] [(64, ⟨(.box 62 2), 0, nob⟩), (65, ⟨.im, 0, (.lit (.int .i64 a1053.N))⟩), (66, ⟨.im, 0, (.sl (len a1053.Edges) (flat eGEdge a1053.Edges))⟩), (192, ⟨.one, 0, nob⟩), (193, ⟨.im, 0, (.lit (.int .i64 v1067))⟩)]
def F65_l0_0_X0 (a1053 : GGraph) (w1087 : Int) : TS := .on [128, 129] [(128, ⟨.one, 0, nob⟩), (129, ⟨.im, 0, (.lit (.int .i64 w1087))⟩)]
def F65_l0_0_X1 (a1053 : GGraph) (w1089 : Unit) : TS := .on [] []
theorem F65_l0_0_ok (K : Nat) (a1053 : GGraph) : ∀ (k : Nat) (v1067 : Int) (r : (Int) ⊕ (Unit)), F65_l0_0 K a1053 k v1067 = some r → (Sum.elim (fun w => LoopEv E H hn65 0 c65_0 (F65_l0_0_S a1053 v1067) .ret (F65_l0_0_X0 a1053 w)) (fun w => LoopEv E H hn65 0 c65_0 (F65_l0_0_S a1053 v1067) (.exit 0) (F65_l0_0_X1 a1053 w))) r := by
 intro k
 induction k with
 | zero => intro v1067 r hF; cases hF
 | succ k ih =>
  intro v1067 r hF
  rw [F65_l0_0] at hF
  refine cond_some hF (fun h1068 hF => ?_) (fun h1068 hF => ?_)
  ·
   refine cond_some hF (fun h1069 hF => ?_) (fun _ hF => nomatch hF)
   refine bind_some hF (fun x1070 h1071 hF => ?_)
   have pq1090 : ∀ {l : List Cond}, HoldAll E H hn65 l → HoldAll E H hn65 (.int (nlen (len a1053.Edges)) (nlen (len a1053.Edges)) :: .test (ilt v1067 (nlen (len a1053.Edges))) true :: .test (inr v1067 (len a1053.Edges)) true :: .sub (flat eGEdge a1053.Edges) (nidx v1067 3) 3 [(.lit (.int .i64 x1070.From)), (.lit (.int .i64 x1070.To)), (.lit (.int .i64 x1070.W))] :: l) := fun z => ⟨rfl, h1068, h1069, ⟨rfl, sub_flat0 eGEdge_len h1071 3 (by decide)⟩, z⟩
   refine cond_some hF (fun h1072 hF => ?_) (fun h1072 hF => ?_)
   ·
    obtain rfl := Option.some.inj hF
    have pz : HoldAll E H hn65 [.test (beqb (ilt x1070.From 0) false) false, .test (beqb (ilt x1070.From 0) false) false, .test (beqb (ilt x1070.From 0) false) false, .test (ilt x1070.From 0) true, .test (beqb true false) false, .test (beqb true false) false, .test (beqb true false) false, .test (beqb true false) false, .test (beqb true false) false, .test true true, .test (beqb true false) false, .test (beqb true false) false, .test (beqb true false) false, .test (beqb true false) false, .test (beqb true false) false, .test true true, .test true true] := ⟨(beqb_ft h1072), (beqb_ft h1072), (beqb_ft h1072), h1072, (beqb_ft rfl), (beqb_ft rfl), (beqb_ft rfl), (beqb_ft rfl), (beqb_ft rfl), rfl, (beqb_ft rfl), (beqb_ft rfl), (beqb_ft rfl), (beqb_ft rfl), (beqb_ft rfl), rfl, rfl, trivial⟩
    exact loop_endC (h := hn65) (l := 0) (c := c65_0) (ts := F65_l0_0_S a1053 v1067) (ts' := F65_l0_0_X0 a1053 4) (ex := .ret) (pq1090 pz) (by kernel_rfl) trivial
   have pq1091 : ∀ {l : List Cond}, HoldAll E H hn65 l → HoldAll E H hn65 (.test (beqb (ilt x1070.From 0) false) true :: .test (beqb (ilt x1070.From 0) false) true :: .test (beqb (ilt x1070.From 0) false) true :: .test (ilt x1070.From 0) false :: l) := fun z => ⟨(beqb_ff h1072), (beqb_ff h1072), (beqb_ff h1072), h1072, z⟩
   refine cond_some hF (fun h1073 hF => ?_) (fun h1073 hF => ?_)
   ·
    obtain rfl := Option.some.inj hF
    have pz : HoldAll E H hn65 [.test (beqb (ilt x1070.To 0) false) false, .test (beqb (ilt x1070.To 0) false) false, .test (beqb (ilt x1070.To 0) false) false, .test (beqb (ilt x1070.To 0) false) false, .test (beqb (ilt x1070.To 0) false) false, .test (ilt x1070.To 0) true, .test (beqb true false) false, .test (beqb true false) false, .test (beqb true false) false, .test (beqb true false) false, .test (beqb true false) false, .test true true, .test true true] := ⟨(beqb_ft h1073), (beqb_ft h1073), (beqb_ft h1073), (beqb_ft h1073), (beqb_ft h1073), h1073, (beqb_ft rfl), (beqb_ft rfl), (beqb_ft rfl), (beqb_ft rfl), (beqb_ft rfl), rfl, rfl, trivial⟩
    exact loop_endC (h := hn65) (l := 0) (c := c65_0) (ts := F65_l0_0_S a1053 v1067) (ts' := F65_l0_0_X0 a1053 4) (ex := .ret) (pq1090 (pq1091 pz)) (by kernel_rfl) trivial
   have pq1092 : ∀ {l : List Cond}, HoldAll E H hn65 l → HoldAll E H hn65 (.test (beqb (ilt x1070.To 0) false) true :: .test (beqb (ilt x1070.To 0) false) true :: .test (beqb (ilt x1070.To 0) false) true :: .test (beqb (ilt x1070.To 0) false) true :: .test (beqb (ilt x1070.To 0) false) true :: .test (ilt x1070.To 0) false :: l) := fun z => ⟨(beqb_ff h1073), (beqb_ff h1073), (beqb_ff h1073), (beqb_ff h1073), (beqb_ff h1073), h1073, z⟩
   refine cond_some hF (fun h1074 hF => ?_) (fun h1074 hF => ?_)
   ·
    obtain rfl := Option.some.inj hF
    have pz : HoldAll E H hn65 [.test (beqb (ige x1070.From a1053.N) false) false, .test (beqb (ige x1070.From a1053.N) false) false, .test (beqb (ige x1070.From a1053.N) false) false, .test (beqb (ige x1070.From a1053.N) false) false, .test (beqb (ige x1070.From a1053.N) false) false, .test (ige x1070.From a1053.N) true, .test true true] := ⟨(beqb_ft (ige_eq h1074)), (beqb_ft (ige_eq h1074)), (beqb_ft (ige_eq h1074)), (beqb_ft (ige_eq h1074)), (beqb_ft (ige_eq h1074)), (ige_eq h1074), rfl, trivial⟩
    exact loop_endC (h := hn65) (l := 0) (c := c65_0) (ts := F65_l0_0_S a1053 v1067) (ts' := F65_l0_0_X0 a1053 4) (ex := .ret) (pq1090 (pq1091 (pq1092 pz))) (by kernel_rfl) trivial
   have pq1093 : ∀ {l : List Cond}, HoldAll E H hn65 l → HoldAll E H hn65 (.test (beqb (ige x1070.From a1053.N) false) true :: .test (beqb (ige x1070.From a1053.N) false) true :: .test (beqb (ige x1070.From a1053.N) false) true :: .test (beqb (ige x1070.From a1053.N) false) true :: .test (beqb (ige x1070.From a1053.N) false) true :: .test (ige x1070.From a1053.N) false :: l) := fun z => ⟨(beqb_ff (ige_eq h1074)), (beqb_ff (ige_eq h1074)), (beqb_ff (ige_eq h1074)), (beqb_ff (ige_eq h1074)), (beqb_ff (ige_eq h1074)), (ige_eq h1074), z⟩
   refine cond_some hF (fun h1075 hF => ?_) (fun h1075 hF => ?_)
   ·
    obtain rfl := Option.some.inj hF
    have pz : HoldAll E H hn65 [.test (ige x1070.To a1053.N) true] := ⟨(ige_eq h1075), trivial⟩
    exact loop_endC (h := hn65) (l := 0) (c := c65_0) (ts := F65_l0_0_S a1053 v1067) (ts' := F65_l0_0_X0 a1053 4) (ex := .ret) (pq1090 (pq1091 (pq1092 (pq1093 pz)))) (by kernel_rfl) trivial
   refine cond_some hF (fun h1076 hF => ?_) (fun h1076 hF => ?_)
   ·
    obtain rfl := Option.some.inj hF
    have pz : HoldAll E H hn65 [.test (ige x1070.To a1053.N) false, .test (beqb (ilt x1070.W 0) false) false, .test (beqb (ilt x1070.W 0) false) false, .test (beqb (ilt x1070.W 0) false) false, .test (ilt x1070.W 0) true, .test true true] := ⟨(ige_eq h1075), (beqb_ft h1076), (beqb_ft h1076), (beqb_ft h1076), h1076, rfl, trivial⟩
    exact loop_endC (h := hn65) (l := 0) (c := c65_0) (ts := F65_l0_0_S a1053 v1067) (ts' := F65_l0_0_X0 a1053 1) (ex := .ret) (pq1090 (pq1091 (pq1092 (pq1093 pz)))) (by kernel_rfl) trivial
   have pq1094 : ∀ {l : List Cond}, HoldAll E H hn65 l → HoldAll E H hn65 (.test (ige x1070.To a1053.N) false :: .test (beqb (ilt x1070.W 0) false) true :: .test (beqb (ilt x1070.W 0) false) true :: .test (beqb (ilt x1070.W 0) false) true :: .test (ilt x1070.W 0) false :: l) := fun z => ⟨(ige_eq h1075), (beqb_ff h1076), (beqb_ff h1076), (beqb_ff h1076), h1076, z⟩
   refine cond_some hF (fun h1077 hF => ?_) (fun h1077 hF => ?_)
   ·
    obtain rfl := Option.some.inj hF
    have pz : HoldAll E H hn65 [.test (igt x1070.W 4611686018427387904) true] := ⟨(igt_eq h1077), trivial⟩
    exact loop_endC (h := hn65) (l := 0) (c := c65_0) (ts := F65_l0_0_S a1053 v1067) (ts' := F65_l0_0_X0 a1053 1) (ex := .ret) (pq1090 (pq1091 (pq1092 (pq1093 (pq1094 pz))))) (by kernel_rfl) trivial
   refine cond_some hF (fun h1078 hF => ?_) (fun h1078 hF => ?_)
   ·
    refine cond_some hF (fun h1079 hF => ?_) (fun _ hF => nomatch hF)
    refine bind_some hF (fun x1080 h1081 hF => ?_)
    have pq1095 : ∀ {l : List Cond}, HoldAll E H hn65 l → HoldAll E H hn65 (.test (igt x1070.W 4611686018427387904) false :: .test (igt v1067 0) true :: .int (wsub .i64 v1067 1) (wsub .i64 v1067 1) :: .test (inr (wsub .i64 v1067 1) (len a1053.Edges)) true :: .sub (flat eGEdge a1053.Edges) (nidx (wsub .i64 v1067 1) 3) 3 [(.lit (.int .i64 x1080.From)), (.lit (.int .i64 x1080.To)), (.lit (.int .i64 x1080.W))] :: l) := fun z => ⟨(igt_eq h1077), (igt_eq h1078), rfl, h1079, ⟨rfl, sub_flat0 eGEdge_len h1081 3 (by decide)⟩, z⟩
    refine cond_some hF (fun h1082 hF => ?_) (fun h1082 hF => ?_)
    ·
     have pq1096 : ∀ {l : List Cond}, HoldAll E H hn65 l → HoldAll E H hn65 (.test (beqb (ieq x1080.From x1070.From) true) true :: .test (beqb (ieq x1080.From x1070.From) true) true :: .test (beqb (ieq x1080.From x1070.From) true) true :: .test (beqb (ieq x1080.From x1070.From) true) true :: .test (beqb (ieq x1080.From x1070.From) true) true :: .test (ieq x1080.From x1070.From) true :: l) := fun z => ⟨(beqb_t h1082), (beqb_t h1082), (beqb_t h1082), (beqb_t h1082), (beqb_t h1082), h1082, z⟩
     refine cond_some hF (fun h1083 hF => ?_) (fun h1083 hF => ?_)
     ·
      obtain rfl := Option.some.inj hF
      have pz : HoldAll E H hn65 [.test (ieq x1080.To x1070.To) true] := ⟨h1083, trivial⟩
      exact loop_endC (h := hn65) (l := 0) (c := c65_0) (ts := F65_l0_0_S a1053 v1067) (ts' := F65_l0_0_X0 a1053 5) (ex := .ret) (pq1090 (pq1091 (pq1092 (pq1093 (pq1094 (pq1095 (pq1096 pz))))))) (by kernel_rfl) trivial
     refine cond_some hF (fun h1084 hF => ?_) (fun h1084 hF => ?_)
     ·
      obtain rfl := Option.some.inj hF
      have pz : HoldAll E H hn65 [.test (ieq x1080.To x1070.To) false, .test (beqb (igt x1080.From x1070.From) false) false, .test (beqb (igt x1080.From x1070.From) false) false, .test (beqb (igt x1080.From x1070.From) false) false, .test (beqb (igt x1080.From x1070.From) false) false, .test (beqb (igt x1080.From x1070.From) false) false, .test (beqb (igt x1080.From x1070.From) false) false, .test (beqb (igt x1080.From x1070.From) false) false, .test (igt x1080.From x1070.From) true, .test true true] := ⟨h1083, (beqb_ft (igt_eq h1084)), (beqb_ft (igt_eq h1084)), (beqb_ft (igt_eq h1084)), (beqb_ft (igt_eq h1084)), (beqb_ft (igt_eq h1084)), (beqb_ft (igt_eq h1084)), (beqb_ft (igt_eq h1084)), (igt_eq h1084), rfl, trivial⟩
      exact loop_endC (h := hn65) (l := 0) (c := c65_0) (ts := F65_l0_0_S a1053 v1067) (ts' := F65_l0_0_X0 a1053 6) (ex := .ret) (pq1090 (pq1091 (pq1092 (pq1093 (pq1094 (pq1095 (pq1096 pz))))))) (by kernel_rfl) trivial
     have pq1097 : ∀ {l : List Cond}, HoldAll E H hn65 l → HoldAll E H hn65 (.test (ieq x1080.To x1070.To) false :: .test (beqb (igt x1080.From x1070.From) false) true :: .test (beqb (igt x1080.From x1070.From) false) true :: .test (beqb (igt x1080.From x1070.From) false) true :: .test (beqb (igt x1080.From x1070.From) false) true :: .test (beqb (igt x1080.From x1070.From) false) true :: .test (beqb (igt x1080.From x1070.From) false) true :: .test (beqb (ieq x1080.From x1070.From) true) true :: .test (beqb (ieq x1080.From x1070.From) true) true :: .test (beqb (ieq x1080.From x1070.From) true) true :: .test (beqb (ieq x1080.From x1070.From) true) true :: .test (beqb (ieq x1080.From x1070.From) true) true :: .test (beqb (igt x1080.From x1070.From) false) true :: .test (ieq x1080.From x1070.From) true :: .test (igt x1080.From x1070.From) false :: l) := fun z => ⟨h1083, (beqb_ff (igt_eq h1084)), (beqb_ff (igt_eq h1084)), (beqb_ff (igt_eq h1084)), (beqb_ff (igt_eq h1084)), (beqb_ff (igt_eq h1084)), (beqb_ff (igt_eq h1084)), (beqb_t h1082), (beqb_t h1082), (beqb_t h1082), (beqb_t h1082), (beqb_t h1082), (beqb_ff (igt_eq h1084)), h1082, (igt_eq h1084), z⟩
     refine cond_some hF (fun h1085 hF => ?_) (fun h1085 hF => ?_)
     ·
      obtain rfl := Option.some.inj hF
      have pz : HoldAll E H hn65 [.test (igt x1080.To x1070.To) true] := ⟨(igt_eq h1085), trivial⟩
      exact loop_endC (h := hn65) (l := 0) (c := c65_0) (ts := F65_l0_0_S a1053 v1067) (ts' := F65_l0_0_X0 a1053 6) (ex := .ret) (pq1090 (pq1091 (pq1092 (pq1093 (pq1094 (pq1095 (pq1096 (pq1097 pz)))))))) (by kernel_rfl) trivial
     have pz : HoldAll E H hn65 [.test (igt x1080.To x1070.To) false, .int (wadd .i64 v1067 1) (wadd .i64 v1067 1)] := ⟨(igt_eq h1085), rfl, trivial⟩
     have h0 := ih _ _ hF
     have hn := fun ex ts' => loop_nextC (h := hn65) (l := 0) (c := c65_0) (ts := F65_l0_0_S a1053 v1067) (ts1 := (F65_l0_0_S a1053 (wadd .i64 v1067 1))) (ex := ex) (ts' := ts') (pq1090 (pq1091 (pq1092 (pq1093 (pq1094 (pq1095 (pq1096 (pq1097 pz)))))))) (by kernel_rfl)
     cases r with
     | inl w => exact hn _ _ h0
     | inr w => exact hn _ _ h0
    have pq1098 : ∀ {l : List Cond}, HoldAll E H hn65 l → HoldAll E H hn65 (.test (beqb (ieq x1080.From x1070.From) true) false :: .test (beqb (ieq x1080.From x1070.From) true) false :: .test (beqb (ieq x1080.From x1070.From) true) false :: .test (beqb (ieq x1080.From x1070.From) true) false :: .test (beqb (ieq x1080.From x1070.From) true) false :: .test (ieq x1080.From x1070.From) false :: .test false false :: l) := fun z => ⟨(beqb_t h1082), (beqb_t h1082), (beqb_t h1082), (beqb_t h1082), (beqb_t h1082), h1082, rfl, z⟩
    refine cond_some hF (fun h1086 hF => ?_) (fun h1086 hF => ?_)
    ·
     obtain rfl := Option.some.inj hF
     have pz : HoldAll E H hn65 [.test (beqb (igt x1080.From x1070.From) false) false, .test (beqb (igt x1080.From x1070.From) false) false, .test (beqb (igt x1080.From x1070.From) false) false, .test (beqb (igt x1080.From x1070.From) false) false, .test (beqb (igt x1080.From x1070.From) false) false, .test (beqb (igt x1080.From x1070.From) false) false, .test (beqb (igt x1080.From x1070.From) false) false, .test (igt x1080.From x1070.From) true, .test true true] := ⟨(beqb_ft (igt_eq h1086)), (beqb_ft (igt_eq h1086)), (beqb_ft (igt_eq h1086)), (beqb_ft (igt_eq h1086)), (beqb_ft (igt_eq h1086)), (beqb_ft (igt_eq h1086)), (beqb_ft (igt_eq h1086)), (igt_eq h1086), rfl, trivial⟩
     exact loop_endC (h := hn65) (l := 0) (c := c65_0) (ts := F65_l0_0_S a1053 v1067) (ts' := F65_l0_0_X0 a1053 6) (ex := .ret) (pq1090 (pq1091 (pq1092 (pq1093 (pq1094 (pq1095 (pq1098 pz))))))) (by kernel_rfl) trivial
    have pz : HoldAll E H hn65 [.test (beqb (igt x1080.From x1070.From) false) true, .test (beqb (igt x1080.From x1070.From) false) true, .test (beqb (igt x1080.From x1070.From) false) true, .test (beqb (igt x1080.From x1070.From) false) true, .test (beqb (igt x1080.From x1070.From) false) true, .test (beqb (igt x1080.From x1070.From) false) true, .test (beqb (ieq x1080.From x1070.From) true) false, .test (beqb (ieq x1080.From x1070.From) true) false, .test (beqb (ieq x1080.From x1070.From) true) false, .test (beqb (ieq x1080.From x1070.From) true) false, .test (beqb (ieq x1080.From x1070.From) true) false, .test (beqb (igt x1080.From x1070.From) false) true, .test (ieq x1080.From x1070.From) false, .test (igt x1080.From x1070.From) false, .test false false, .int (wadd .i64 v1067 1) (wadd .i64 v1067 1)] := ⟨(beqb_ff (igt_eq h1086)), (beqb_ff (igt_eq h1086)), (beqb_ff (igt_eq h1086)), (beqb_ff (igt_eq h1086)), (beqb_ff (igt_eq h1086)), (beqb_ff (igt_eq h1086)), (beqb_t h1082), (beqb_t h1082), (beqb_t h1082), (beqb_t h1082), (beqb_t h1082), (beqb_ff (igt_eq h1086)), h1082, (igt_eq h1086), rfl, rfl, trivial⟩
    have h0 := ih _ _ hF
    have hn := fun ex ts' => loop_nextC (h := hn65) (l := 0) (c := c65_0) (ts := F65_l0_0_S a1053 v1067) (ts1 := (F65_l0_0_S a1053 (wadd .i64 v1067 1))) (ex := ex) (ts' := ts') (pq1090 (pq1091 (pq1092 (pq1093 (pq1094 (pq1095 (pq1098 pz))))))) (by kernel_rfl)
    cases r with
    | inl w => exact hn _ _ h0
    | inr w => exact hn _ _ h0
   have pz : HoldAll E H hn65 [.test (igt x1070.W 4611686018427387904) false, .test (igt v1067 0) false, .int (wadd .i64 v1067 1) (wadd .i64 v1067 1)] := ⟨(igt_eq h1077), (igt_eq h1078), rfl, trivial⟩
   have h0 := ih _ _ hF
   have hn := fun ex ts' => loop_nextC (h := hn65) (l := 0) (c := c65_0) (ts := F65_l0_0_S a1053 v1067) (ts1 := (F65_l0_0_S a1053 (wadd .i64 v1067 1))) (ex := ex) (ts' := ts') (pq1090 (pq1091 (pq1092 (pq1093 (pq1094 pz))))) (by kernel_rfl)
   cases r with
   | inl w => exact hn _ _ h0
   | inr w => exact hn _ _ h0
  obtain rfl := Option.some.inj hF
  have pz : HoldAll E H hn65 [.int (nlen (len a1053.Edges)) (nlen (len a1053.Edges)), .test (ilt v1067 (nlen (len a1053.Edges))) false] := ⟨rfl, h1068, trivial⟩
  exact loop_endC (h := hn65) (l := 0) (c := c65_0) (ts := F65_l0_0_S a1053 v1067) (ts' := F65_l0_0_X1 a1053 ()) (ex := (.exit 0)) pz (by kernel_rfl) trivial
def F65 (K : Nat) (a1053 : GGraph) : Option (Int) :=
 bif (ilt a1053.N 1) then
  (some 1)
 else
 bif (ilt 24 a1053.N) then
  (some 1)
 else
 bif (ilt 80 (nlen (len a1053.Edges))) then
  (some 3)
 else
 (F65_l0_0 K a1053 K 0).bind fun y1100 =>
 Sum.elim (fun w1101 =>
  some w1101)
  (fun w1103 =>
  some 0) y1100
theorem F65_ok (K : Nat) (a1053 : GGraph) (r : Int) (hF : F65 K a1053 = some r) : Evt E H 65 [.agg (eGGraph a1053)] (F65_res r) := by
 rw [F65] at hF
 refine cond_some hF (fun h1054 hF => ?_) (fun h1054 hF => ?_)
 ·
  obtain rfl := Option.some.inj hF
  have pz : HoldAll E H hn65 [.test (beqb (ilt a1053.N 1) false) false, .test (beqb (ilt a1053.N 1) false) false, .test (beqb (ilt a1053.N 1) false) false, .test (ilt a1053.N 1) true, .test true true] := ⟨(beqb_ft h1054), (beqb_ft h1054), (beqb_ft h1054), h1054, rfl, trivial⟩
  exact fn_playC hn65 (r := F65_res 1) pz (by kernel_rfl) (by kernel_rfl)
 have pq1104 : ∀ {l : List Cond}, HoldAll E H hn65 l → HoldAll E H hn65 (.test (beqb (ilt a1053.N 1) false) true :: .test (beqb (ilt a1053.N 1) false) true :: .test (beqb (ilt a1053.N 1) false) true :: .test (ilt a1053.N 1) false :: l) := fun z => ⟨(beqb_ff h1054), (beqb_ff h1054), (beqb_ff h1054), h1054, z⟩
 refine cond_some hF (fun h1055 hF => ?_) (fun h1055 hF => ?_)
 ·
  obtain rfl := Option.some.inj hF
  have pz : HoldAll E H hn65 [.test (igt a1053.N 24) true] := ⟨(igt_eq h1055), trivial⟩
  exact fn_playC hn65 (r := F65_res 1) (pq1104 pz) (by kernel_rfl) (by kernel_rfl)
 refine cond_some hF (fun h1056 hF => ?_) (fun h1056 hF => ?_)
 ·
  obtain rfl := Option.some.inj hF
  have pz : HoldAll E H hn65 [.test (igt a1053.N 24) false, .int (nlen (len a1053.Edges)) (nlen (len a1053.Edges)), .test (igt (nlen (len a1053.Edges)) 80) true] := ⟨(igt_eq h1055), rfl, (igt_eq h1056), trivial⟩
  exact fn_playC hn65 (r := F65_res 3) (pq1104 pz) (by kernel_rfl) (by kernel_rfl)
 have pq1105 : ∀ {l : List Cond}, HoldAll E H hn65 l → HoldAll E H hn65 (.test (igt a1053.N 24) false :: .int (nlen (len a1053.Edges)) (nlen (len a1053.Edges)) :: .test (igt (nlen (len a1053.Edges)) 80) false :: l) := fun z => ⟨(igt_eq h1055), rfl, (igt_eq h1056), z⟩
 refine bind_some hF (fun y1100 h1099 hF => ?_)
 refine sum_some hF (fun w1101 hx hF => ?_) (fun w1103 hx hF => ?_)
 ·
  subst hx
  obtain rfl := Option.some.inj hF
  have pz : HoldAll E H hn65 [.loop 0 c65_0 (F65_l0_0_S a1053 0) .ret (F65_l0_0_X0 a1053 w1101)] := ⟨(F65_l0_0_ok K a1053 K 0 _ h1099), trivial⟩
  exact fn_playC hn65 (r := F65_res w1101) (pq1104 (pq1105 pz)) (by kernel_rfl) (by kernel_rfl)
 subst hx
 obtain rfl := Option.some.inj hF
 have pz : HoldAll E H hn65 [.loop 0 c65_0 (F65_l0_0_S a1053 0) (.exit 0) (F65_l0_0_X1 a1053 w1103)] := ⟨(F65_l0_0_ok K a1053 K 0 _ h1099), trivial⟩
 exact fn_playC hn65 (r := F65_res 0) (pq1104 (pq1105 pz)) (by kernel_rfl) (by kernel_rfl)
noncomputable def hn132 : Hint := { H 132 with nt := 35, prot := 0 }
def F132_res (r2404 : Int) : Res := ⟨[(.one (.im (.lit (.int .i64 r2404))))], []⟩
def F132 (K : Nat) (a2392 : GEdge) (a2393 : Int) : Option (Int) :=
 bif (ilt a2392.From 0) then
  (some 4)
 else
 bif (ile a2393 a2392.From) then
  (some 4)
 else
 bif (ilt a2392.To 0) then
  (some 4)
 else
 bif (ile a2393 a2392.To) then
  (some 4)
 else
 bif (ilt a2392.W 0) then
  (some 1)
 else
 bif (ilt 4611686018427387904 a2392.W) then
  (some 1)
 else
 some 0
theorem F132_ok (K : Nat) (a2392 : GEdge) (a2393 : Int) (r : Int) (hF : F132 K a2392 a2393 = some r) : Evt E H 132 [.agg (eGEdge a2392), .one (.lit (.int .i64 a2393))] (F132_res r) := by
 rw [F132] at hF
 refine cond_some hF (fun h2394 hF => ?_) (fun h2394 hF => ?_)
 ·
  obtain rfl := Option.some.inj hF
  have pz : HoldAll E H hn132 [.test (beqb (ilt a2392.From 0) false) false, .test (beqb (ilt a2392.From 0) false) false, .test (beqb (ilt a2392.From 0) false) false, .test (beqb (ilt a2392.From 0) false) false, .test (ilt a2392.From 0) true, .test (beqb true false) false, .test (beqb true false) false, .test (beqb true false) false, .test true true, .test (beqb true false) false, .test (beqb true false) false, .test (beqb true false) false, .test (beqb true false) false, .test true true, .test true true] := ⟨(beqb_ft h2394), (beqb_ft h2394), (beqb_ft h2394), (beqb_ft h2394), h2394, (beqb_ft rfl), (beqb_ft rfl), (beqb_ft rfl), rfl, (beqb_ft rfl), (beqb_ft rfl), (beqb_ft rfl), (beqb_ft rfl), rfl, rfl, trivial⟩
  exact fn_playC hn132 (r := F132_res 4) pz (by kernel_rfl) (by kernel_rfl)
 have pq2400 : ∀ {l : List Cond}, HoldAll E H hn132 l → HoldAll E H hn132 (.test (beqb (ilt a2392.From 0) false) true :: .test (beqb (ilt a2392.From 0) false) true :: .test (beqb (ilt a2392.From 0) false) true :: .test (beqb (ilt a2392.From 0) false) true :: .test (ilt a2392.From 0) false :: l) := fun z => ⟨(beqb_ff h2394), (beqb_ff h2394), (beqb_ff h2394), (beqb_ff h2394), h2394, z⟩
 refine cond_some hF (fun h2395 hF => ?_) (fun h2395 hF => ?_)
 ·
  obtain rfl := Option.some.inj hF
  have pz : HoldAll E H hn132 [.test (beqb (ige a2392.From a2393) false) false, .test (beqb (ige a2392.From a2393) false) false, .test (beqb (ige a2392.From a2393) false) false, .test (ige a2392.From a2393) true, .test (beqb true false) false, .test (beqb true false) false, .test (beqb true false) false, .test (beqb true false) false, .test true true, .test true true] := ⟨(beqb_ft (ige_eq h2395)), (beqb_ft (ige_eq h2395)), (beqb_ft (ige_eq h2395)), (ige_eq h2395), (beqb_ft rfl), (beqb_ft rfl), (beqb_ft rfl), (beqb_ft rfl), rfl, rfl, trivial⟩
  exact fn_playC hn132 (r := F132_res 4) (pq2400 pz) (by kernel_rfl) (by kernel_rfl)
 have pq2401 : ∀ {l : List Cond}, HoldAll E H hn132 l → HoldAll E H hn132 (.test (beqb (ige a2392.From a2393) false) true :: .test (beqb (ige a2392.From a2393) false) true :: .test (beqb (ige a2392.From a2393) false) true :: .test (ige a2392.From a2393) false :: l) := fun z => ⟨(beqb_ff (ige_eq h2395)), (beqb_ff (ige_eq h2395)), (beqb_ff (ige_eq h2395)), (ige_eq h2395), z⟩
 refine cond_some hF (fun h2396 hF => ?_) (fun h2396 hF => ?_)
 ·
  obtain rfl := Option.some.inj hF
  have pz : HoldAll E H hn132 [.test (beqb (ilt a2392.To 0) false) false, .test (beqb (ilt a2392.To 0) false) false, .test (beqb (ilt a2392.To 0) false) false, .test (beqb (ilt a2392.To 0) false) false, .test (ilt a2392.To 0) true, .test true true] := ⟨(beqb_ft h2396), (beqb_ft h2396), (beqb_ft h2396), (beqb_ft h2396), h2396, rfl, trivial⟩
  exact fn_playC hn132 (r := F132_res 4) (pq2400 (pq2401 pz)) (by kernel_rfl) (by kernel_rfl)
 have pq2402 : ∀ {l : List Cond}, HoldAll E H hn132 l → HoldAll E H hn132 (.test (beqb (ilt a2392.To 0) false) true :: .test (beqb (ilt a2392.To 0) false) true :: .test (beqb (ilt a2392.To 0) false) true :: .test (beqb (ilt a2392.To 0) false) true :: .test (ilt a2392.To 0) false :: l) := fun z => ⟨(beqb_ff h2396), (beqb_ff h2396), (beqb_ff h2396), (beqb_ff h2396), h2396, z⟩
 refine cond_some hF (fun h2397 hF => ?_) (fun h2397 hF => ?_)
 ·
  obtain rfl := Option.some.inj hF
  have pz : HoldAll E H hn132 [.test (ige a2392.To a2393) true] := ⟨(ige_eq h2397), trivial⟩
  exact fn_playC hn132 (r := F132_res 4) (pq2400 (pq2401 (pq2402 pz))) (by kernel_rfl) (by kernel_rfl)
 refine cond_some hF (fun h2398 hF => ?_) (fun h2398 hF => ?_)
 ·
  obtain rfl := Option.some.inj hF
  have pz : HoldAll E H hn132 [.test (ige a2392.To a2393) false, .test (beqb (ilt a2392.W 0) false) false, .test (beqb (ilt a2392.W 0) false) false, .test (beqb (ilt a2392.W 0) false) false, .test (ilt a2392.W 0) true, .test true true] := ⟨(ige_eq h2397), (beqb_ft h2398), (beqb_ft h2398), (beqb_ft h2398), h2398, rfl, trivial⟩
  exact fn_playC hn132 (r := F132_res 1) (pq2400 (pq2401 (pq2402 pz))) (by kernel_rfl) (by kernel_rfl)
 have pq2403 : ∀ {l : List Cond}, HoldAll E H hn132 l → HoldAll E H hn132 (.test (ige a2392.To a2393) false :: .test (beqb (ilt a2392.W 0) false) true :: .test (beqb (ilt a2392.W 0) false) true :: .test (beqb (ilt a2392.W 0) false) true :: .test (ilt a2392.W 0) false :: l) := fun z => ⟨(ige_eq h2397), (beqb_ff h2398), (beqb_ff h2398), (beqb_ff h2398), h2398, z⟩
 refine cond_some hF (fun h2399 hF => ?_) (fun h2399 hF => ?_)
 ·
  obtain rfl := Option.some.inj hF
  have pz : HoldAll E H hn132 [.test (igt a2392.W 4611686018427387904) true] := ⟨(igt_eq h2399), trivial⟩
  exact fn_playC hn132 (r := F132_res 1) (pq2400 (pq2401 (pq2402 (pq2403 pz)))) (by kernel_rfl) (by kernel_rfl)
 obtain rfl := Option.some.inj hF
 have pz : HoldAll E H hn132 [.test (igt a2392.W 4611686018427387904) false] := ⟨(igt_eq h2399), trivial⟩
 exact fn_playC hn132 (r := F132_res 0) (pq2400 (pq2401 (pq2402 (pq2403 pz)))) (by kernel_rfl) (by kernel_rfl)
noncomputable def hn133 : Hint := { H 133 with nt := 20, prot := 0 }
def F133_res (r2423 : Int) : Res := ⟨[(.one (.im (.lit (.int .i64 r2423))))], []⟩
def F133 (K : Nat) (a2420 : GEdge) (a2421 : GEdge) : Option (Int) :=
 bif (ieq a2420.From a2421.From) then
  (some (wsub .i64 a2420.To a2421.To))
 else
 some (wsub .i64 a2420.From a2421.From)
theorem F133_ok (K : Nat) (a2420 : GEdge) (a2421 : GEdge) (r : Int) (hF : F133 K a2420 a2421 = some r) : Evt E H 133 [.agg (eGEdge a2420), .agg (eGEdge a2421)] (F133_res r) := by
 rw [F133] at hF
 refine cond_some hF (fun h2422 hF => ?_) (fun h2422 hF => ?_)
 ·
  obtain rfl := Option.some.inj hF
  have pz : HoldAll E H hn133 [.test (ine a2420.From a2421.From) false, .int (wsub .i64 a2420.To a2421.To) (wsub .i64 a2420.To a2421.To)] := ⟨(ine_t h2422), rfl, trivial⟩
  exact fn_playC hn133 (r := F133_res (wsub .i64 a2420.To a2421.To)) pz (by kernel_rfl) (by kernel_rfl)
 obtain rfl := Option.some.inj hF
 have pz : HoldAll E H hn133 [.test (ine a2420.From a2421.From) true, .int (wsub .i64 a2420.From a2421.From) (wsub .i64 a2420.From a2421.From)] := ⟨(ine_f h2422), rfl, trivial⟩
 exact fn_playC hn133 (r := F133_res (wsub .i64 a2420.From a2421.From)) pz (by kernel_rfl) (by kernel_rfl)
noncomputable def hn64 : Hint := { H 64 with nt := 51, prot := 0 }
noncomputable def c64_0 : Code := loopOf E 64 0
def F64_res (r2440 : Int) : Res := ⟨[(.one (.im (.lit (.int .i64 r2440))))], []⟩
def F64_l0_0 (K : Nat) (a2384 : GGraph) : Nat → Int → Option ((Int) ⊕ (Unit))
 | 0, _ => none
 | k + 1, v2408 =>
  bif (ilt v2408 (nlen (len a2384.Edges))) then
   (bif (inr v2408 (len a2384.Edges)) then
   (elAt a2384.Edges v2408).bind fun x2411 =>
   (F132 K x2411 a2384.N).bind fun r2413 =>
   bif (ieq r2413 0) then
    (bif (ieq v2408 0) then
     (F64_l0_0 K a2384 k (wadd .i64 v2408 1))
    else
    bif (inr (wsub .i64 v2408 1) (len a2384.Edges)) then
    (elAt a2384.Edges (wsub .i64 v2408 1)).bind fun x2418 =>
    (F133 K x2418 x2411).bind fun r2424 =>
    bif (ieq r2424 0) then
     (some (.inl 5))
    else
    bif (ilt 0 r2424) then
     (some (.inl 6))
    else
    F64_l0_0 K a2384 k (wadd .i64 v2408 1)
    else none)
   else
   some (.inl r2413)
   else none)
  else
  some (.inr ())
def F64_l0_0_S (a2384 : GGraph) (v2408 : Int) : TS := .on [64, 65, 66, 1216, 1280, 1281, 1344, 1345, 1408, 1409] [(64, ⟨(.box 62 2), 0, nob⟩), (65, ⟨.im, 0, (.lit (.int .i64 a2384.N))⟩), (66, ⟨.im, 0, (.sl (len a2384.Edges) (flat eGEdge a2384.Edges))⟩), (1216, ⟨(.ad 1 0 1), 0, nob⟩), (1280, ⟨.one, 0, nob⟩), (1281, ⟨.im, 0, (.sl (len a2384.Edges) (flat eGEdge a2384.Edges))⟩), (1344, ⟨.one, 0, nob⟩), (1345, ⟨.im, 0, (.lit (.int .i64 (nlen (len a2384.Edges))))⟩), (1408, ⟨.one, 0, nob⟩), (1409, ⟨.im, 0, (.lit (.int .i64 v2408))⟩)]
def F64_l0_0_X0 (a2384 : GGraph) (w2428 : Int) : TS := .on [128, 129] [(128, ⟨.one, 0, nob⟩), (129, ⟨.im, 0, (.lit (.int .i64 w2428))⟩)]
def F64_l0_0_X1 (a2384 : GGraph) (w2430 : Unit) : TS := .on [] []
theorem F64_l0_0_ok (K : Nat) (a2384 : GGraph) : ∀ (k : Nat) (v2408 : Int) (r : (Int) ⊕ (Unit)), F64_l0_0 K a2384 k v2408 = some r → (Sum.elim (fun w => LoopEv E H hn64 0 c64_0 (F64_l0_0_S a2384 v2408) .ret (F64_l0_0_X0 a2384 w)) (fun w => LoopEv E H hn64 0 c64_0 (F64_l0_0_S a2384 v2408) (.exit 0) (F64_l0_0_X1 a2384 w))) r := by
 intro k
 induction k with
 | zero => intro v2408 r hF; cases hF
 | succ k ih =>
  intro v2408 r hF
  rw [F64_l0_0] at hF
  refine cond_some hF (fun h2409 hF => ?_) (fun h2409 hF => ?_)
  ·
   refine cond_some hF (fun h2410 hF => ?_) (fun _ hF => nomatch hF)
   refine bind_some hF (fun x2411 h2412 hF => ?_)
   refine bind_some hF (fun r2413 h2414 hF => ?_)
   have pq2431 : ∀ {l : List Cond}, HoldAll E H hn64 l → HoldAll E H hn64 (.test (ilt v2408 (nlen (len a2384.Edges))) true :: .test (inr v2408 (len a2384.Edges)) true :: .sub (flat eGEdge a2384.Edges) (nidx v2408 3) 3 [(.lit (.int .i64 x2411.From)), (.lit (.int .i64 x2411.To)), (.lit (.int .i64 x2411.W))] :: .call 132 [.agg (eGEdge x2411), .one (.lit (.int .i64 a2384.N))] (F132_res r2413) :: .test (leadsAny (Res.mk [(.one (.im (.lit (.int .i64 r2413))))] [])) false :: l) := fun z => ⟨h2409, h2410, ⟨rfl, sub_flat0 eGEdge_len h2412 3 (by decide)⟩, (F132_ok K x2411 a2384.N _ h2414), (leads_ok (by simp [leadsAny, RV.leads, RC.leads, leadsT, hasSl_lit, flat_ns eGEdge_ns])), z⟩
   refine cond_some hF (fun h2415 hF => ?_) (fun h2415 hF => ?_)
   ·
    refine cond_some hF (fun h2416 hF => ?_) (fun h2416 hF => ?_)
    ·
     have pz : HoldAll E H hn64 [.test (ine r2413 0) false, .test (ieq v2408 0) true, .int (wadd .i64 v2408 1) (wadd .i64 v2408 1)] := ⟨(ine_t h2415), h2416, rfl, trivial⟩
     have h0 := ih _ _ hF
     have hn := fun ex ts' => loop_nextC (h := hn64) (l := 0) (c := c64_0) (ts := F64_l0_0_S a2384 v2408) (ts1 := (F64_l0_0_S a2384 (wadd .i64 v2408 1))) (ex := ex) (ts' := ts') (pq2431 pz) (by kernel_rfl)
     cases r with
     | inl w => exact hn _ _ h0
     | inr w => exact hn _ _ h0
    refine cond_some hF (fun h2417 hF => ?_) (fun _ hF => nomatch hF)
    refine bind_some hF (fun x2418 h2419 hF => ?_)
    refine bind_some hF (fun r2424 h2425 hF => ?_)
    have pq2432 : ∀ {l : List Cond}, HoldAll E H hn64 l → HoldAll E H hn64 (.test (ine r2413 0) false :: .test (ieq v2408 0) false :: .int (wsub .i64 v2408 1) (wsub .i64 v2408 1) :: .test (inr (wsub .i64 v2408 1) (len a2384.Edges)) true :: .sub (flat eGEdge a2384.Edges) (nidx (wsub .i64 v2408 1) 3) 3 [(.lit (.int .i64 x2418.From)), (.lit (.int .i64 x2418.To)), (.lit (.int .i64 x2418.W))] :: .call 133 [.agg (eGEdge x2418), .agg (eGEdge x2411)] (F133_res r2424) :: .test (leadsAny (Res.mk [(.one (.im (.lit (.int .i64 r2424))))] [])) false :: l) := fun z => ⟨(ine_t h2415), h2416, rfl, h2417, ⟨rfl, sub_flat0 eGEdge_len h2419 3 (by decide)⟩, (F133_ok K x2418 x2411 _ h2425), (leads_ok (by simp [leadsAny, RV.leads, RC.leads, leadsT, hasSl_lit, flat_ns eGEdge_ns])), z⟩
    refine cond_some hF (fun h2426 hF => ?_) (fun h2426 hF => ?_)
    ·
     obtain rfl := Option.some.inj hF
     have pz : HoldAll E H hn64 [.test (ieq r2424 0) true] := ⟨h2426, trivial⟩
     exact loop_endC (h := hn64) (l := 0) (c := c64_0) (ts := F64_l0_0_S a2384 v2408) (ts' := F64_l0_0_X0 a2384 5) (ex := .ret) (pq2431 (pq2432 pz)) (by kernel_rfl) trivial
    refine cond_some hF (fun h2427 hF => ?_) (fun h2427 hF => ?_)
    ·
     obtain rfl := Option.some.inj hF
     have pz : HoldAll E H hn64 [.test (ieq r2424 0) false, .test (igt r2424 0) true] := ⟨h2426, (igt_eq h2427), trivial⟩
     exact loop_endC (h := hn64) (l := 0) (c := c64_0) (ts := F64_l0_0_S a2384 v2408) (ts' := F64_l0_0_X0 a2384 6) (ex := .ret) (pq2431 (pq2432 pz)) (by kernel_rfl) trivial
    have pz : HoldAll E H hn64 [.test (ieq r2424 0) false, .test (igt r2424 0) false, .int (wadd .i64 v2408 1) (wadd .i64 v2408 1)] := ⟨h2426, (igt_eq h2427), rfl, trivial⟩
    have h0 := ih _ _ hF
    have hn := fun ex ts' => loop_nextC (h := hn64) (l := 0) (c := c64_0) (ts := F64_l0_0_S a2384 v2408) (ts1 := (F64_l0_0_S a2384 (wadd .i64 v2408 1))) (ex := ex) (ts' := ts') (pq2431 (pq2432 pz)) (by kernel_rfl)
    cases r with
    | inl w => exact hn _ _ h0
    | inr w => exact hn _ _ h0
   obtain rfl := Option.some.inj hF
   have pz : HoldAll E H hn64 [.test (ine r2413 0) true] := ⟨(ine_f h2415), trivial⟩
   exact loop_endC (h := hn64) (l := 0) (c := c64_0) (ts := F64_l0_0_S a2384 v2408) (ts' := F64_l0_0_X0 a2384 r2413) (ex := .ret) (pq2431 pz) (by kernel_rfl) trivial
  obtain rfl := Option.some.inj hF
  have pz : HoldAll E H hn64 [.test (ilt v2408 (nlen (len a2384.Edges))) false] := ⟨h2409, trivial⟩
  exact loop_endC (h := hn64) (l := 0) (c := c64_0) (ts := F64_l0_0_S a2384 v2408) (ts' := F64_l0_0_X1 a2384 ()) (ex := (.exit 0)) pz (by kernel_rfl) trivial
def F64 (K : Nat) (a2384 : GGraph) : Option (Int) :=
 bif (ilt a2384.N 1) then
  (some 1)
 else
 bif (ilt 24 a2384.N) then
  (some 1)
 else
 bif (ilt 80 (nlen (len a2384.Edges))) then
  (some 3)
 else
 (F64_l0_0 K a2384 K 0).bind fun y2434 =>
 Sum.elim (fun w2435 =>
  some w2435)
  (fun w2437 =>
  some 0) y2434
theorem F64_ok (K : Nat) (a2384 : GGraph) (r : Int) (hF : F64 K a2384 = some r) : Evt E H 64 [.agg (eGGraph a2384)] (F64_res r) := by
 rw [F64] at hF
 refine cond_some hF (fun h2385 hF => ?_) (fun h2385 hF => ?_)
 ·
  obtain rfl := Option.some.inj hF
  have pz : HoldAll E H hn64 [.test (beqb (ilt a2384.N 1) false) false, .test (beqb (ilt a2384.N 1) false) false, .test (beqb (ilt a2384.N 1) false) false, .test (ilt a2384.N 1) true, .test true true] := ⟨(beqb_ft h2385), (beqb_ft h2385), (beqb_ft h2385), h2385, rfl, trivial⟩
  exact fn_playC hn64 (r := F64_res 1) pz (by kernel_rfl) (by kernel_rfl)
 have pq2438 : ∀ {l : List Cond}, HoldAll E H hn64 l → HoldAll E H hn64 (.test (beqb (ilt a2384.N 1) false) true :: .test (beqb (ilt a2384.N 1) false) true :: .test (beqb (ilt a2384.N 1) false) true :: .test (ilt a2384.N 1) false :: l) := fun z => ⟨(beqb_ff h2385), (beqb_ff h2385), (beqb_ff h2385), h2385, z⟩
 refine cond_some hF (fun h2386 hF => ?_) (fun h2386 hF => ?_)
 ·
  obtain rfl := Option.some.inj hF
  have pz : HoldAll E H hn64 [.test (igt a2384.N 24) true] := ⟨(igt_eq h2386), trivial⟩
  exact fn_playC hn64 (r := F64_res 1) (pq2438 pz) (by kernel_rfl) (by kernel_rfl)
 refine cond_some hF (fun h2387 hF => ?_) (fun h2387 hF => ?_)
 ·
  obtain rfl := Option.some.inj hF
  have pz : HoldAll E H hn64 [.test (igt a2384.N 24) false, .int (nlen (len a2384.Edges)) (nlen (len a2384.Edges)), .test (igt (nlen (len a2384.Edges)) 80) true] := ⟨(igt_eq h2386), rfl, (igt_eq h2387), trivial⟩
  exact fn_playC hn64 (r := F64_res 3) (pq2438 pz) (by kernel_rfl) (by kernel_rfl)
 have pq2439 : ∀ {l : List Cond}, HoldAll E H hn64 l → HoldAll E H hn64 (.test (igt a2384.N 24) false :: .int (nlen (len a2384.Edges)) (nlen (len a2384.Edges)) :: .test (igt (nlen (len a2384.Edges)) 80) false :: .int (nlen (len a2384.Edges)) (nlen (len a2384.Edges)) :: l) := fun z => ⟨(igt_eq h2386), rfl, (igt_eq h2387), rfl, z⟩
 refine bind_some hF (fun y2434 h2433 hF => ?_)
 refine sum_some hF (fun w2435 hx hF => ?_) (fun w2437 hx hF => ?_)
 ·
  subst hx
  obtain rfl := Option.some.inj hF
  have pz : HoldAll E H hn64 [.loop 0 c64_0 (F64_l0_0_S a2384 0) .ret (F64_l0_0_X0 a2384 w2435)] := ⟨(F64_l0_0_ok K a2384 K 0 _ h2433), trivial⟩
  exact fn_playC hn64 (r := F64_res w2435) (pq2438 (pq2439 pz)) (by kernel_rfl) (by kernel_rfl)
 subst hx
 obtain rfl := Option.some.inj hF
 have pz : HoldAll E H hn64 [.loop 0 c64_0 (F64_l0_0_S a2384 0) (.exit 0) (F64_l0_0_X1 a2384 w2437)] := ⟨(F64_l0_0_ok K a2384 K 0 _ h2433), trivial⟩
 exact fn_playC hn64 (r := F64_res 0) (pq2438 (pq2439 pz)) (by kernel_rfl) (by kernel_rfl)
def badE (n : Int) (e : GEdge) : Int :=
 bif ilt e.From 0 || ile n e.From || ilt e.To 0 || ile n e.To then 4 else bif ilt e.W 0 || ilt 4611686018427387904 e.W then 1 else 0
def ordE (d e : GEdge) : Int := bif ieq d.From e.From && ieq d.To e.To then 5 else bif ilt e.From d.From || (ieq d.From e.From && ilt e.To d.To) then 6 else 0
def gchk (n : Int) : Option GEdge → List GEdge → Int
 | _, [] => 0
 | prev, e :: r => bif ieq (badE n e) 0 then (match prev with
   | none => gchk n (some e) r
   | some d => bif ieq (ordE d e) 0 then gchk n (some e) r else ordE d e) else badE n e
def gcheck (g : GGraph) : Int := bif ilt g.N 1 || ilt 24 g.N then 1 else bif ilt 80 (nlen (len g.Edges)) then 3 else gchk g.N none g.Edges
def prevOf {α : Type} (l : List α) : Nat → Option α
 | 0 => none
 | i + 1 => l[i]?
theorem wsub_one {i : Nat} (h0 : 0 < i) (h : i < 4611686018427387904) : wsub .i64 (i : Int) 1 = ((i - 1 : Nat) : Int) := by
 show IntKind.i64.wrap ((i : Int) - 1) = _
 rw [IntKind.wrap_i64]; omega
theorem prev_at {α : Type} {l : List α} {i : Nat} (h0 : 0 < i) (hi : i < l.length) (hl : l.length < 4611686018427387904) :
   ∃ d, prevOf l i = some d ∧ wsub .i64 (i : Int) 1 = ((i - 1 : Nat) : Int) ∧ inr ((i - 1 : Nat) : Int) (len l) = true ∧ elAt l ((i - 1 : Nat) : Int) = some d := by
 obtain ⟨j, rfl⟩ : ∃ j, i = j + 1 := ⟨i - 1, by omega⟩
 refine ⟨l[j], by simp [prevOf], wsub_one h0 (by omega), decide_eq_true ⟨by omega, by show ((j + 1 - 1 : Nat) : Int) < (l.length : Int); omega⟩, ?_⟩
 rw [elAt_nat]
 simp
theorem prev_next {α : Type} {l : List α} {i : Nat} {x : α} {r : List α} (h : l.drop i = x :: r) : prevOf l (i + 1) = some x ∧ l.drop (i + 1) = r ∧ i < l.length := by
 have hi := lt_of_drop' h
 have := List.drop_eq_getElem_cons hi
 rw [h] at this
 injection this with a b
 exact ⟨by simp [prevOf, hi, a], b.symm, hi⟩
def sumI (v : Int) : Int ⊕ Unit := bif ieq v 0 then .inr () else .inl v
theorem F132_spec (K : Nat) (e : GEdge) (n : Int) : F132 K e n = some (badE n e) := by
 rw [F132, badE]
 cases ilt e.From 0 <;> cases ile n e.From <;> cases ilt e.To 0 <;> cases ile n e.To <;> cases ilt e.W 0 <;> cases ilt 4611686018427387904 e.W <;> rfl
theorem badE_ok {n : Int} {e : GEdge} (h : ieq (badE n e) 0 = true) : 0 ≤ e.From ∧ e.From < n ∧ 0 ≤ e.To ∧ e.To < n ∧ 0 ≤ e.W ∧ e.W ≤ 4611686018427387904 := by
 rw [badE] at h
 cases h1 : ilt e.From 0 || ile n e.From || ilt e.To 0 || ile n e.To
 · cases h2 : ilt e.W 0 || ilt 4611686018427387904 e.W
   · simp only [Bool.or_eq_false_iff, ilt_f, ile_f] at h1 h2
     omega
   · rw [h1, h2] at h; cases h
 · rw [h1] at h; cases h
theorem F133_spec (K : Nat) {n : Int} {d e : GEdge} (hn : n ≤ 24) (hd : ieq (badE n d) 0 = true) (he : ieq (badE n e) 0 = true) :
   F133 K d e = some (bif ieq d.From e.From then d.To - e.To else d.From - e.From) := by
 have h1 := badE_ok hd
 have h2 := badE_ok he
 rw [F133]
 have e1 : wsub .i64 d.To e.To = d.To - e.To := by show IntKind.i64.wrap _ = _; rw [IntKind.wrap_i64]; omega
 have e2 : wsub .i64 d.From e.From = d.From - e.From := by show IntKind.i64.wrap _ = _; rw [IntKind.wrap_i64]; omega
 rw [e1, e2]
 cases ieq d.From e.From <;> rfl
theorem F64_loop {K : Nat} (hK : 100 ≤ K) (g : GGraph) (hl : g.Edges.length ≤ 80) (hn : g.N ≤ 24) : F64_l0_0 K g K 0 = some (sumI (gchk g.N none g.Edges)) := by
 let step : Nat → GEdge → Unit → (Unit → Option (Int ⊕ Unit)) → Option (Int ⊕ Unit) := fun i x _ c =>
   (F132 K x g.N).bind fun r => bif (ieq r 0) then (bif (ieq (i : Int) 0) then c () else bif (inr (wsub .i64 (i : Int) 1) (len g.Edges)) then
       (elAt g.Edges (wsub .i64 (i : Int) 1)).bind fun d => (F133 K d x).bind fun r => bif (ieq r 0) then (some (.inl 5)) else bif (ilt 0 r) then (some (.inl 6)) else c ()
       else none) else some (.inl r)
 let fin : Unit → Option (Int ⊕ Unit) := fun _ => some (.inr ())
 have h := scanI (l := g.Edges) (L := fun k (_ : Unit) i => F64_l0_0 K g k i) step fin (fun k st i hi => rfl) (by omega) K () 0 (by omega) (by omega)
 have hw : ∀ (r : List GEdge) (i : Nat), g.Edges.drop i = r → (∀ d, prevOf g.Edges i = some d → ieq (badE g.N d) 0 = true) → (i = 0 ∨ i ≤ g.Edges.length) → goI step fin i r () = some (sumI (gchk g.N (prevOf g.Edges i) r)) := by
   intro r
   induction r with
   | nil => intro i _ _ _; rfl
   | cons x r ih =>
     intro i hr hp _
     obtain ⟨n1, n2, hi⟩ := prev_next hr
     rw [goI]
     show ((F132 K x g.N).bind fun r' => bif (ieq r' 0) then (bif (ieq (i : Int) 0) then goI step fin (i + 1) r () else bif (inr (wsub .i64 (i : Int) 1) (len g.Edges)) then
       (elAt g.Edges (wsub .i64 (i : Int) 1)).bind fun d => (F133 K d x).bind fun r' => bif (ieq r' 0) then (some (.inl 5)) else bif (ilt 0 r') then (some (.inl 6)) else goI step fin (i + 1) r ()
       else none) else some (.inl r')) = _
     rw [F132_spec, Option.bind_some]
     cases hb : ieq (badE g.N x) 0
     · have hne : badE g.N x ≠ 0 := ieq_f.1 hb
       cases prevOf g.Edges i <;> simp only [gchk, hb, cond_false, sumI]
     · have nx : goI step fin (i + 1) r () = some (sumI (gchk g.N (some x) r)) := by
         have := ih (i + 1) n2 (fun d hd => by rw [n1] at hd; cases hd; exact hb) (.inr (by omega))
         rw [n1] at this; exact this
       rw [cond_true, nx]
       cases i with
       | zero =>
         have : ieq ((0 : Nat) : Int) 0 = true := rfl
         rw [this, cond_true]
         show _ = some (sumI (gchk g.N none (x :: r)))
         rw [gchk, hb]; rfl
       | succ j =>
         obtain ⟨d, p1, p2, p3, p4⟩ := prev_at (l := g.Edges) (i := j + 1) (by omega) hi (by omega)
         have hd := hp d p1
         have : ieq ((j + 1 : Nat) : Int) 0 = false := ieq_f.2 (by omega)
         rw [this, cond_false, p2, p3, cond_true, p4, Option.bind_some, F133_spec K hn hd hb, Option.bind_some, p1, gchk, hb, cond_true]
         have b1 := badE_ok hd
         have b2 := badE_ok hb
         by_cases q1 : d.From = x.From
         · have i1 : ieq d.From x.From = true := ieq_iff.2 q1
           rw [i1, cond_true]
           by_cases q2 : d.To = x.To
           · have o5 : ordE d x = 5 := by simp [ordE, ieq_iff.2 q1, ieq_iff.2 q2]
             have : ieq (d.To - x.To) 0 = true := ieq_iff.2 (by omega)
             rw [this, cond_true, o5]; rfl
           · have : ieq (d.To - x.To) 0 = false := ieq_f.2 (by omega)
             rw [this, cond_false]
             have j2 : ieq d.To x.To = false := ieq_f.2 q2
             by_cases q3 : x.To < d.To
             · have o6 : ordE d x = 6 := by simp [ordE, i1, j2, ilt_iff.2 q3]
               have : ilt 0 (d.To - x.To) = true := ilt_iff.2 (by omega)
               rw [this, cond_true, o6]; rfl
             · have o0 : ordE d x = 0 := by simp [ordE, i1, j2, ilt_f.2 (show d.To ≤ x.To by omega), ilt_f.2 (show d.From ≤ x.From by omega)]
               have : ilt 0 (d.To - x.To) = false := ilt_f.2 (by omega)
               rw [this, cond_false, o0]; rfl
         · have i1 : ieq d.From x.From = false := ieq_f.2 q1
           rw [i1, cond_false]
           have : ieq (d.From - x.From) 0 = false := ieq_f.2 (by omega)
           rw [this, cond_false]
           by_cases q3 : x.From < d.From
           · have o6 : ordE d x = 6 := by simp [ordE, i1, ilt_iff.2 q3]
             have : ilt 0 (d.From - x.From) = true := ilt_iff.2 (by omega)
             rw [this, cond_true, o6]; rfl
           · have o0 : ordE d x = 0 := by simp [ordE, i1, ilt_f.2 (show d.From ≤ x.From by omega)]
             have : ilt 0 (d.From - x.From) = false := ilt_f.2 (by omega)
             rw [this, cond_false, o0]; rfl
 have := hw g.Edges 0 rfl (fun d hd => by cases hd) (.inl rfl)
 rw [List.drop_zero, this] at h
 exact h
theorem sumI_elim (v : Int) : (some (sumI v)).bind (fun y => Sum.elim (fun w => some w) (fun w => some 0) y) = some v := by
 unfold sumI
 cases h : ieq v 0
 · rfl
 · have : v = 0 := ieq_iff.1 h
   subst this; rfl
theorem F64_spec {K : Nat} (hK : 100 ≤ K) (g : GGraph) : F64 K g = some (gcheck g) := by
 rw [F64, gcheck]
 cases ilt g.N 1
 · cases h2 : ilt 24 g.N
   · cases h3 : ilt 80 (nlen (len g.Edges))
     · have hl : g.Edges.length ≤ 80 := by have := ilt_f.1 h3; simp only [nlen, len] at this; omega
       have hn := ilt_f.1 h2
       rw [F64_loop hK g hl hn]
       exact sumI_elim _
     · rfl
   · rfl
 · rfl
theorem F65_loop {K : Nat} (hK : 100 ≤ K) (g : GGraph) (hl : g.Edges.length ≤ 80) : F65_l0_0 K g K 0 = some (sumI (gchk g.N none g.Edges)) := by
 let chk : Nat → GEdge → Option (Int ⊕ Unit) → Option (Int ⊕ Unit) := fun i x c =>
     bif (ilt 0 (i : Int)) then
       (bif (inr (wsub .i64 (i : Int) 1) (len g.Edges)) then
       (elAt g.Edges (wsub .i64 (i : Int) 1)).bind fun d =>
       bif (ieq d.From x.From) then
         (bif (ieq d.To x.To) then (some (.inl 5)) else bif (ilt x.From d.From) then (some (.inl 6)) else bif (ilt x.To d.To) then (some (.inl 6)) else c)
       else bif (ilt x.From d.From) then (some (.inl 6)) else c
       else none)
     else c
 let step : Nat → GEdge → Unit → (Unit → Option (Int ⊕ Unit)) → Option (Int ⊕ Unit) := fun i x _ c =>
     bif (ilt x.From 0) then (some (.inl 4)) else bif (ilt x.To 0) then (some (.inl 4)) else bif (ile g.N x.From) then (some (.inl 4)) else bif (ile g.N x.To) then (some (.inl 4)) else
     bif (ilt x.W 0) then (some (.inl 1)) else bif (ilt 4611686018427387904 x.W) then (some (.inl 1)) else chk i x (c ())
 let fin : Unit → Option (Int ⊕ Unit) := fun _ => some (.inr ())
 have h := scanI (l := g.Edges) (L := fun k (_ : Unit) i => F65_l0_0 K g k i) step fin (fun k st i hi => rfl) (by omega) K () 0 (by omega) (by omega)
 have hstep : ∀ i x c, step i x () c = bif ieq (badE g.N x) 0 then chk i x (c ()) else some (.inl (badE g.N x)) := by
   intro i x c
   show (bif (ilt x.From 0) then (some (.inl 4)) else bif (ilt x.To 0) then (some (.inl 4)) else bif (ile g.N x.From) then (some (.inl 4)) else bif (ile g.N x.To) then (some (.inl 4)) else
     bif (ilt x.W 0) then (some (.inl 1)) else bif (ilt 4611686018427387904 x.W) then (some (.inl 1)) else chk i x (c ())) = _
   rw [badE]
   cases ilt x.From 0 <;> cases ile g.N x.From <;> cases ilt x.To 0 <;> cases ile g.N x.To <;> cases ilt x.W 0 <;> cases ilt 4611686018427387904 x.W <;> rfl
 have hw : ∀ (r : List GEdge) (i : Nat), g.Edges.drop i = r → goI step fin i r () = some (sumI (gchk g.N (prevOf g.Edges i) r)) := by
   intro r
   induction r with
   | nil => intro i _; rfl
   | cons x r ih =>
     intro i hr
     obtain ⟨n1, n2, hi⟩ := prev_next hr
     rw [goI, hstep]
     cases hb : ieq (badE g.N x) 0
     · have hne : badE g.N x ≠ 0 := ieq_f.1 hb
       cases prevOf g.Edges i <;> simp only [gchk, hb, cond_false, sumI]
     · have nx := ih (i + 1) n2
       rw [n1] at nx
       rw [cond_true, nx]
       cases i with
       | zero =>
         show some (sumI (gchk g.N (some x) r)) = some (sumI (gchk g.N none (x :: r)))
         rw [gchk, hb]; rfl
       | succ j =>
         obtain ⟨d, p1, p2, p3, p4⟩ := prev_at (l := g.Edges) (i := j + 1) (by omega) hi (by omega)
         have : ilt 0 ((j + 1 : Nat) : Int) = true := ilt_iff.2 (by omega)
         show (bif (ilt 0 ((j + 1 : Nat) : Int)) then
           (bif (inr (wsub .i64 ((j + 1 : Nat) : Int) 1) (len g.Edges)) then
           (elAt g.Edges (wsub .i64 ((j + 1 : Nat) : Int) 1)).bind fun d =>
           bif (ieq d.From x.From) then
             (bif (ieq d.To x.To) then (some (.inl 5)) else bif (ilt x.From d.From) then (some (.inl 6)) else bif (ilt x.To d.To) then (some (.inl 6)) else some (sumI (gchk g.N (some x) r)))
           else bif (ilt x.From d.From) then (some (.inl 6)) else some (sumI (gchk g.N (some x) r))
           else none)
         else some (sumI (gchk g.N (some x) r))) = _
         rw [this, cond_true, p2, p3, cond_true, p4, Option.bind_some, p1, gchk, hb, cond_true, ordE]
         cases hf : ieq d.From x.From
         · cases ilt x.From d.From <;> rfl
         · have : ilt x.From d.From = false := ilt_f.2 (by have := ieq_iff.1 hf; omega)
           rw [this]
           cases ieq d.To x.To <;> cases ilt x.To d.To <;> rfl
 have := hw g.Edges 0 rfl
 rw [List.drop_zero, this] at h
 exact h
theorem F65_spec {K : Nat} (hK : 100 ≤ K) (g : GGraph) : F65 K g = some (gcheck g) := by
 rw [F65, gcheck]
 cases ilt g.N 1
 · cases h2 : ilt 24 g.N
   · cases h3 : ilt 80 (nlen (len g.Edges))
     · have hl : g.Edges.length ≤ 80 := by have := ilt_f.1 h3; simp only [nlen, len] at this; omega
       rw [F65_loop hK g hl]
       exact sumI_elim _
     · rfl
   · rfl
 · rfl
theorem gcheck_ok {g : GGraph} (h : ieq (gcheck g) 0 = true) : 1 ≤ g.N ∧ g.N ≤ 24 ∧ g.Edges.length ≤ 80 ∧ gchk g.N none g.Edges = 0 := by
 rw [gcheck] at h
 cases h1 : ilt g.N 1 || ilt 24 g.N
 · rw [h1, cond_false] at h
   cases h2 : ilt 80 (nlen (len g.Edges))
   · rw [h2, cond_false] at h
     simp only [Bool.or_eq_false_iff, ilt_f] at h1
     have := ilt_f.1 h2
     simp only [nlen, len] at this
     exact ⟨by omega, by omega, by omega, ieq_iff.1 h⟩
   · rw [h2] at h; cases h
 · rw [h1] at h; cases h
noncomputable def hn59 : Hint := { H 59 with nt := 51, prot := 0 }
def F59_res (r1126 : Int) : Res := ⟨[(.one (.im (.lit (.int .i64 r1126))))], []⟩
def F59 (K : Nat) (a1051 : GGraph) (a1052 : GJob) : Option (Int) :=
 (F65 K a1051).bind fun r1107 =>
 bif (ieq r1107 0) then
  (bif (ilt a1052.Prog 1) then
   (some 1)
  else
  bif (ilt 5 a1052.Prog) then
   (some 1)
  else
  bif (ilt a1052.Source 0) then
   (some 1)
  else
  bif (ile a1051.N a1052.Source) then
   (some 1)
  else
  bif (ilt a1052.Limit 0) then
   (some 1)
  else
  bif (ilt 40 a1052.Limit) then
   (some 1)
  else
  bif (ilt a1052.Parts 1) then
   (some 1)
  else
  bif (ilt 6 a1052.Parts) then
   (some 1)
  else
  some 0)
 else
 some r1107
theorem F59_ok (K : Nat) (a1051 : GGraph) (a1052 : GJob) (r : Int) (hF : F59 K a1051 a1052 = some r) : Evt E H 59 [.agg (eGGraph a1051), .agg (eGJob a1052)] (F59_res r) := by
 rw [F59] at hF
 refine bind_some hF (fun r1107 h1108 hF => ?_)
 refine cond_some hF (fun h1109 hF => ?_) (fun h1109 hF => ?_)
 ·
  have pq1118 : ∀ {l : List Cond}, HoldAll E H hn59 l → HoldAll E H hn59 (.call 65 [.agg (eGGraph a1051)] (F65_res r1107) :: .test (leadsAny (Res.mk [(.one (.im (.lit (.int .i64 r1107))))] [])) false :: .test (ine r1107 0) false :: l) := fun z => ⟨(F65_ok K a1051 _ h1108), (leads_ok (by simp [leadsAny, RV.leads, RC.leads, leadsT, hasSl_lit])), (ine_t h1109), z⟩
  refine cond_some hF (fun h1110 hF => ?_) (fun h1110 hF => ?_)
  ·
   obtain rfl := Option.some.inj hF
   have pz : HoldAll E H hn59 [.test (beqb (ilt a1052.Prog 1) false) false, .test (beqb (ilt a1052.Prog 1) false) false, .test (beqb (ilt a1052.Prog 1) false) false, .test (ilt a1052.Prog 1) true, .test (beqb true false) false, .test (beqb true false) false, .test (beqb true false) false, .test true true, .test (beqb true false) false, .test (beqb true false) false, .test (beqb true false) false, .test (beqb true false) false, .test (beqb true false) false, .test true true, .test (beqb true false) false, .test (beqb true false) false, .test (beqb true false) false, .test true true, .test (beqb true false) false, .test (beqb true false) false, .test (beqb true false) false, .test true true, .test (beqb true false) false, .test (beqb true false) false, .test (beqb true false) false, .test true true, .test (beqb true false) false, .test (beqb true false) false, .test (beqb true false) false, .test true true, .test true true] := ⟨(beqb_ft h1110), (beqb_ft h1110), (beqb_ft h1110), h1110, (beqb_ft rfl), (beqb_ft rfl), (beqb_ft rfl), rfl, (beqb_ft rfl), (beqb_ft rfl), (beqb_ft rfl), (beqb_ft rfl), (beqb_ft rfl), rfl, (beqb_ft rfl), (beqb_ft rfl), (beqb_ft rfl), rfl, (beqb_ft rfl), (beqb_ft rfl), (beqb_ft rfl), rfl, (beqb_ft rfl), (beqb_ft rfl), (beqb_ft rfl), rfl, (beqb_ft rfl), (beqb_ft rfl), (beqb_ft rfl), rfl, rfl, trivial⟩
   exact fn_playC hn59 (r := F59_res 1) (pq1118 pz) (by kernel_rfl) (by kernel_rfl)
  have pq1119 : ∀ {l : List Cond}, HoldAll E H hn59 l → HoldAll E H hn59 (.test (beqb (ilt a1052.Prog 1) false) true :: .test (beqb (ilt a1052.Prog 1) false) true :: .test (beqb (ilt a1052.Prog 1) false) true :: .test (ilt a1052.Prog 1) false :: l) := fun z => ⟨(beqb_ff h1110), (beqb_ff h1110), (beqb_ff h1110), h1110, z⟩
  refine cond_some hF (fun h1111 hF => ?_) (fun h1111 hF => ?_)
  ·
   obtain rfl := Option.some.inj hF
   have pz : HoldAll E H hn59 [.test (beqb (igt a1052.Prog 5) false) false, .test (beqb (igt a1052.Prog 5) false) false, .test (beqb (igt a1052.Prog 5) false) false, .test (igt a1052.Prog 5) true, .test (beqb true false) false, .test (beqb true false) false, .test (beqb true false) false, .test (beqb true false) false, .test (beqb true false) false, .test true true, .test (beqb true false) false, .test (beqb true false) false, .test (beqb true false) false, .test true true, .test (beqb true false) false, .test (beqb true false) false, .test (beqb true false) false, .test true true, .test (beqb true false) false, .test (beqb true false) false, .test (beqb true false) false, .test true true, .test (beqb true false) false, .test (beqb true false) false, .test (beqb true false) false, .test true true, .test true true] := ⟨(beqb_ft (igt_eq h1111)), (beqb_ft (igt_eq h1111)), (beqb_ft (igt_eq h1111)), (igt_eq h1111), (beqb_ft rfl), (beqb_ft rfl), (beqb_ft rfl), (beqb_ft rfl), (beqb_ft rfl), rfl, (beqb_ft rfl), (beqb_ft rfl), (beqb_ft rfl), rfl, (beqb_ft rfl), (beqb_ft rfl), (beqb_ft rfl), rfl, (beqb_ft rfl), (beqb_ft rfl), (beqb_ft rfl), rfl, (beqb_ft rfl), (beqb_ft rfl), (beqb_ft rfl), rfl, rfl, trivial⟩
   exact fn_playC hn59 (r := F59_res 1) (pq1118 (pq1119 pz)) (by kernel_rfl) (by kernel_rfl)
  have pq1120 : ∀ {l : List Cond}, HoldAll E H hn59 l → HoldAll E H hn59 (.test (beqb (igt a1052.Prog 5) false) true :: .test (beqb (igt a1052.Prog 5) false) true :: .test (beqb (igt a1052.Prog 5) false) true :: .test (igt a1052.Prog 5) false :: l) := fun z => ⟨(beqb_ff (igt_eq h1111)), (beqb_ff (igt_eq h1111)), (beqb_ff (igt_eq h1111)), (igt_eq h1111), z⟩
  refine cond_some hF (fun h1112 hF => ?_) (fun h1112 hF => ?_)
  ·
   obtain rfl := Option.some.inj hF
   have pz : HoldAll E H hn59 [.test (beqb (ilt a1052.Source 0) false) false, .test (beqb (ilt a1052.Source 0) false) false, .test (beqb (ilt a1052.Source 0) false) false, .test (beqb (ilt a1052.Source 0) false) false, .test (beqb (ilt a1052.Source 0) false) false, .test (ilt a1052.Source 0) true, .test (beqb true false) false, .test (beqb true false) false, .test (beqb true false) false, .test true true, .test (beqb true false) false, .test (beqb true false) false, .test (beqb true false) false, .test true true, .test (beqb true false) false, .test (beqb true false) false, .test (beqb true false) false, .test true true, .test (beqb true false) false, .test (beqb true false) false, .test (beqb true false) false, .test true true, .test true true] := ⟨(beqb_ft h1112), (beqb_ft h1112), (beqb_ft h1112), (beqb_ft h1112), (beqb_ft h1112), h1112, (beqb_ft rfl), (beqb_ft rfl), (beqb_ft rfl), rfl, (beqb_ft rfl), (beqb_ft rfl), (beqb_ft rfl), rfl, (beqb_ft rfl), (beqb_ft rfl), (beqb_ft rfl), rfl, (beqb_ft rfl), (beqb_ft rfl), (beqb_ft rfl), rfl, rfl, trivial⟩
   exact fn_playC hn59 (r := F59_res 1) (pq1118 (pq1119 (pq1120 pz))) (by kernel_rfl) (by kernel_rfl)
  have pq1121 : ∀ {l : List Cond}, HoldAll E H hn59 l → HoldAll E H hn59 (.test (beqb (ilt a1052.Source 0) false) true :: .test (beqb (ilt a1052.Source 0) false) true :: .test (beqb (ilt a1052.Source 0) false) true :: .test (beqb (ilt a1052.Source 0) false) true :: .test (beqb (ilt a1052.Source 0) false) true :: .test (ilt a1052.Source 0) false :: l) := fun z => ⟨(beqb_ff h1112), (beqb_ff h1112), (beqb_ff h1112), (beqb_ff h1112), (beqb_ff h1112), h1112, z⟩
  refine cond_some hF (fun h1113 hF => ?_) (fun h1113 hF => ?_)
  ·
   obtain rfl := Option.some.inj hF
   have pz : HoldAll E H hn59 [.test (beqb (ige a1052.Source a1051.N) false) false, .test (beqb (ige a1052.Source a1051.N) false) false, .test (beqb (ige a1052.Source a1051.N) false) false, .test (ige a1052.Source a1051.N) true, .test (beqb true false) false, .test (beqb true false) false, .test (beqb true false) false, .test true true, .test (beqb true false) false, .test (beqb true false) false, .test (beqb true false) false, .test true true, .test (beqb true false) false, .test (beqb true false) false, .test (beqb true false) false, .test true true, .test true true] := ⟨(beqb_ft (ige_eq h1113)), (beqb_ft (ige_eq h1113)), (beqb_ft (ige_eq h1113)), (ige_eq h1113), (beqb_ft rfl), (beqb_ft rfl), (beqb_ft rfl), rfl, (beqb_ft rfl), (beqb_ft rfl), (beqb_ft rfl), rfl, (beqb_ft rfl), (beqb_ft rfl), (beqb_ft rfl), rfl, rfl, trivial⟩
   exact fn_playC hn59 (r := F59_res 1) (pq1118 (pq1119 (pq1120 (pq1121 pz)))) (by kernel_rfl) (by kernel_rfl)
  have pq1122 : ∀ {l : List Cond}, HoldAll E H hn59 l → HoldAll E H hn59 (.test (beqb (ige a1052.Source a1051.N) false) true :: .test (beqb (ige a1052.Source a1051.N) false) true :: .test (beqb (ige a1052.Source a1051.N) false) true :: .test (ige a1052.Source a1051.N) false :: l) := fun z => ⟨(beqb_ff (ige_eq h1113)), (beqb_ff (ige_eq h1113)), (beqb_ff (ige_eq h1113)), (ige_eq h1113), z⟩
  refine cond_some hF (fun h1114 hF => ?_) (fun h1114 hF => ?_)
  ·
   obtain rfl := Option.some.inj hF
   have pz : HoldAll E H hn59 [.test (beqb (ilt a1052.Limit 0) false) false, .test (beqb (ilt a1052.Limit 0) false) false, .test (beqb (ilt a1052.Limit 0) false) false, .test (ilt a1052.Limit 0) true, .test (beqb true false) false, .test (beqb true false) false, .test (beqb true false) false, .test true true, .test (beqb true false) false, .test (beqb true false) false, .test (beqb true false) false, .test true true, .test true true] := ⟨(beqb_ft h1114), (beqb_ft h1114), (beqb_ft h1114), h1114, (beqb_ft rfl), (beqb_ft rfl), (beqb_ft rfl), rfl, (beqb_ft rfl), (beqb_ft rfl), (beqb_ft rfl), rfl, rfl, trivial⟩
   exact fn_playC hn59 (r := F59_res 1) (pq1118 (pq1119 (pq1120 (pq1121 (pq1122 pz))))) (by kernel_rfl) (by kernel_rfl)
  have pq1123 : ∀ {l : List Cond}, HoldAll E H hn59 l → HoldAll E H hn59 (.test (beqb (ilt a1052.Limit 0) false) true :: .test (beqb (ilt a1052.Limit 0) false) true :: .test (beqb (ilt a1052.Limit 0) false) true :: .test (ilt a1052.Limit 0) false :: l) := fun z => ⟨(beqb_ff h1114), (beqb_ff h1114), (beqb_ff h1114), h1114, z⟩
  refine cond_some hF (fun h1115 hF => ?_) (fun h1115 hF => ?_)
  ·
   obtain rfl := Option.some.inj hF
   have pz : HoldAll E H hn59 [.test (beqb (igt a1052.Limit 40) false) false, .test (beqb (igt a1052.Limit 40) false) false, .test (beqb (igt a1052.Limit 40) false) false, .test (igt a1052.Limit 40) true, .test (beqb true false) false, .test (beqb true false) false, .test (beqb true false) false, .test true true, .test true true] := ⟨(beqb_ft (igt_eq h1115)), (beqb_ft (igt_eq h1115)), (beqb_ft (igt_eq h1115)), (igt_eq h1115), (beqb_ft rfl), (beqb_ft rfl), (beqb_ft rfl), rfl, rfl, trivial⟩
   exact fn_playC hn59 (r := F59_res 1) (pq1118 (pq1119 (pq1120 (pq1121 (pq1122 (pq1123 pz)))))) (by kernel_rfl) (by kernel_rfl)
  have pq1124 : ∀ {l : List Cond}, HoldAll E H hn59 l → HoldAll E H hn59 (.test (beqb (igt a1052.Limit 40) false) true :: .test (beqb (igt a1052.Limit 40) false) true :: .test (beqb (igt a1052.Limit 40) false) true :: .test (igt a1052.Limit 40) false :: l) := fun z => ⟨(beqb_ff (igt_eq h1115)), (beqb_ff (igt_eq h1115)), (beqb_ff (igt_eq h1115)), (igt_eq h1115), z⟩
  refine cond_some hF (fun h1116 hF => ?_) (fun h1116 hF => ?_)
  ·
   obtain rfl := Option.some.inj hF
   have pz : HoldAll E H hn59 [.test (beqb (ilt a1052.Parts 1) false) false, .test (beqb (ilt a1052.Parts 1) false) false, .test (beqb (ilt a1052.Parts 1) false) false, .test (ilt a1052.Parts 1) true, .test true true] := ⟨(beqb_ft h1116), (beqb_ft h1116), (beqb_ft h1116), h1116, rfl, trivial⟩
   exact fn_playC hn59 (r := F59_res 1) (pq1118 (pq1119 (pq1120 (pq1121 (pq1122 (pq1123 (pq1124 pz))))))) (by kernel_rfl) (by kernel_rfl)
  have pq1125 : ∀ {l : List Cond}, HoldAll E H hn59 l → HoldAll E H hn59 (.test (beqb (ilt a1052.Parts 1) false) true :: .test (beqb (ilt a1052.Parts 1) false) true :: .test (beqb (ilt a1052.Parts 1) false) true :: .test (ilt a1052.Parts 1) false :: l) := fun z => ⟨(beqb_ff h1116), (beqb_ff h1116), (beqb_ff h1116), h1116, z⟩
  refine cond_some hF (fun h1117 hF => ?_) (fun h1117 hF => ?_)
  ·
   obtain rfl := Option.some.inj hF
   have pz : HoldAll E H hn59 [.test (igt a1052.Parts 6) true] := ⟨(igt_eq h1117), trivial⟩
   exact fn_playC hn59 (r := F59_res 1) (pq1118 (pq1119 (pq1120 (pq1121 (pq1122 (pq1123 (pq1124 (pq1125 pz)))))))) (by kernel_rfl) (by kernel_rfl)
  obtain rfl := Option.some.inj hF
  have pz : HoldAll E H hn59 [.test (igt a1052.Parts 6) false] := ⟨(igt_eq h1117), trivial⟩
  exact fn_playC hn59 (r := F59_res 0) (pq1118 (pq1119 (pq1120 (pq1121 (pq1122 (pq1123 (pq1124 (pq1125 pz)))))))) (by kernel_rfl) (by kernel_rfl)
 obtain rfl := Option.some.inj hF
 have pz : HoldAll E H hn59 [.call 65 [.agg (eGGraph a1051)] (F65_res r1107), .test (leadsAny (Res.mk [(.one (.im (.lit (.int .i64 r1107))))] [])) false, .test (ine r1107 0) true] := ⟨(F65_ok K a1051 _ h1108), (leads_ok (by simp [leadsAny, RV.leads, RC.leads, leadsT, hasSl_lit])), (ine_f h1109), trivial⟩
 exact fn_playC hn59 (r := F59_res r1107) pz (by kernel_rfl) (by kernel_rfl)
noncomputable def hn143 : Hint := { H 143 with nt := 21, prot := 0 }
def F143_res (r3142 : Grule × Bool) : Res := ⟨[(.agg [(.im (.lit r3142.1.start_)), (.im (.lit r3142.1.better_)), (.im (.lit (.bool r3142.1.only_))), (.im (.lit r3142.1.send_))]), (.one (.im (.lit (.bool r3142.2))))], []⟩
def F143_res0 (r3142 : Grule × Bool) : Res := ⟨[(.agg [(.im (.lit (fnV 158))), (.im (.lit (fnV 159))), (.im (.lit (.bool r3142.1.only_))), (.im (.lit (fnV 160)))]), (.one (.im (.lit (.bool r3142.2))))], []⟩
def F143_res1 (r3142 : Grule × Bool) : Res := ⟨[(.agg [(.im (.lit (fnV 158))), (.im (.lit (fnV 159))), (.im (.lit (.bool r3142.1.only_))), (.im (.lit (fnV 161)))]), (.one (.im (.lit (.bool r3142.2))))], []⟩
def F143_res2 (r3142 : Grule × Bool) : Res := ⟨[(.agg [(.im (.lit (fnV 162))), (.im (.lit (fnV 159))), (.im (.lit (.bool r3142.1.only_))), (.im (.lit (fnV 163)))]), (.one (.im (.lit (.bool r3142.2))))], []⟩
def F143_res3 (r3142 : Grule × Bool) : Res := ⟨[(.agg [(.im (.lit (fnV 164))), (.im (.lit (fnV 165))), (.im (.lit (.bool r3142.1.only_))), (.im (.lit (fnV 163)))]), (.one (.im (.lit (.bool r3142.2))))], []⟩
def F143_res4 (r3142 : Grule × Bool) : Res := ⟨[(.agg [(.im (.lit (fnV 166))), (.im (.lit .nilFunc)), (.im (.lit (.bool r3142.1.only_))), (.im (.lit (fnV 163)))]), (.one (.im (.lit (.bool r3142.2))))], []⟩
def F143_res5 (r3142 : Grule × Bool) : Res := ⟨[(.agg [(.im (.lit .nilFunc)), (.im (.lit .nilFunc)), (.im (.lit (.bool r3142.1.only_))), (.im (.lit .nilFunc))]), (.one (.im (.lit (.bool r3142.2))))], []⟩
def F143 (K : Nat) (a3135 : Int) : Option (Grule × Bool) :=
 bif (ieq a3135 1) then
  (some ((Grule.mk (fnV 158) (fnV 159) true (fnV 160)), true))
 else
 bif (ieq a3135 3) then
  (some ((Grule.mk (fnV 158) (fnV 159) true (fnV 161)), true))
 else
 bif (ieq a3135 2) then
  (some ((Grule.mk (fnV 162) (fnV 159) false (fnV 163)), true))
 else
 bif (ieq a3135 4) then
  (some ((Grule.mk (fnV 164) (fnV 165) false (fnV 163)), true))
 else
 bif (ieq a3135 5) then
  (some ((Grule.mk (fnV 166) .nilFunc false (fnV 163)), true))
 else
 some ((Grule.mk .nilFunc .nilFunc false .nilFunc), false)
theorem F143_ok (K : Nat) (a3135 : Int) (r : Grule × Bool) (hF : F143 K a3135 = some r) : Evt E H 143 [.one (.lit (.int .i64 a3135))] (F143_res r) := by
 rw [F143] at hF
 refine cond_some hF (fun h3136 hF => ?_) (fun h3136 hF => ?_)
 ·
  obtain rfl := Option.some.inj hF
  have pz : HoldAll E H hn143 [.test (ieq a3135 1) true] := ⟨h3136, trivial⟩
  exact fn_playC hn143 (r := F143_res ((Grule.mk (fnV 158) (fnV 159) true (fnV 160)), true)) pz (by kernel_rfl) (by kernel_rfl)
 refine cond_some hF (fun h3137 hF => ?_) (fun h3137 hF => ?_)
 ·
  obtain rfl := Option.some.inj hF
  have pz : HoldAll E H hn143 [.test (ieq a3135 1) false, .test (ieq a3135 3) true] := ⟨h3136, h3137, trivial⟩
  exact fn_playC hn143 (r := F143_res ((Grule.mk (fnV 158) (fnV 159) true (fnV 161)), true)) pz (by kernel_rfl) (by kernel_rfl)
 refine cond_some hF (fun h3138 hF => ?_) (fun h3138 hF => ?_)
 ·
  obtain rfl := Option.some.inj hF
  have pz : HoldAll E H hn143 [.test (ieq a3135 1) false, .test (ieq a3135 3) false, .test (ieq a3135 2) true] := ⟨h3136, h3137, h3138, trivial⟩
  exact fn_playC hn143 (r := F143_res ((Grule.mk (fnV 162) (fnV 159) false (fnV 163)), true)) pz (by kernel_rfl) (by kernel_rfl)
 have pq3141 : ∀ {l : List Cond}, HoldAll E H hn143 l → HoldAll E H hn143 (.test (ieq a3135 1) false :: .test (ieq a3135 3) false :: .test (ieq a3135 2) false :: l) := fun z => ⟨h3136, h3137, h3138, z⟩
 refine cond_some hF (fun h3139 hF => ?_) (fun h3139 hF => ?_)
 ·
  obtain rfl := Option.some.inj hF
  have pz : HoldAll E H hn143 [.test (ieq a3135 4) true] := ⟨h3139, trivial⟩
  exact fn_playC hn143 (r := F143_res ((Grule.mk (fnV 164) (fnV 165) false (fnV 163)), true)) (pq3141 pz) (by kernel_rfl) (by kernel_rfl)
 refine cond_some hF (fun h3140 hF => ?_) (fun h3140 hF => ?_)
 ·
  obtain rfl := Option.some.inj hF
  have pz : HoldAll E H hn143 [.test (ieq a3135 4) false, .test (ieq a3135 5) true] := ⟨h3139, h3140, trivial⟩
  exact fn_playC hn143 (r := F143_res ((Grule.mk (fnV 166) .nilFunc false (fnV 163)), true)) (pq3141 pz) (by kernel_rfl) (by kernel_rfl)
 obtain rfl := Option.some.inj hF
 have pz : HoldAll E H hn143 [.test (ieq a3135 4) false, .test (ieq a3135 5) false] := ⟨h3139, h3140, trivial⟩
 exact fn_playC hn143 (r := F143_res ((Grule.mk .nilFunc .nilFunc false .nilFunc), false)) (pq3141 pz) (by kernel_rfl) (by kernel_rfl)
theorem F143_ok0 {ads : List AD} (r3142 : Grule × Bool) (e : areFns [r3142.1.start_, r3142.1.better_, r3142.1.send_] [158, 159, 160] = true) (h : Evt E H 143 ads (F143_res r3142)) : Evt E H 143 ads (F143_res0 r3142) := by
 obtain ⟨q0, e⟩ := areFns_cons e
 obtain ⟨q1, e⟩ := areFns_cons e
 obtain ⟨q2, e⟩ := areFns_cons e
 unfold F143_res at h
 rw [q0, q1, q2] at h
 exact h
theorem F143_ok1 {ads : List AD} (r3142 : Grule × Bool) (e : areFns [r3142.1.start_, r3142.1.better_, r3142.1.send_] [158, 159, 161] = true) (h : Evt E H 143 ads (F143_res r3142)) : Evt E H 143 ads (F143_res1 r3142) := by
 obtain ⟨q0, e⟩ := areFns_cons e
 obtain ⟨q1, e⟩ := areFns_cons e
 obtain ⟨q2, e⟩ := areFns_cons e
 unfold F143_res at h
 rw [q0, q1, q2] at h
 exact h
theorem F143_ok2 {ads : List AD} (r3142 : Grule × Bool) (e : areFns [r3142.1.start_, r3142.1.better_, r3142.1.send_] [162, 159, 163] = true) (h : Evt E H 143 ads (F143_res r3142)) : Evt E H 143 ads (F143_res2 r3142) := by
 obtain ⟨q0, e⟩ := areFns_cons e
 obtain ⟨q1, e⟩ := areFns_cons e
 obtain ⟨q2, e⟩ := areFns_cons e
 unfold F143_res at h
 rw [q0, q1, q2] at h
 exact h
theorem F143_ok3 {ads : List AD} (r3142 : Grule × Bool) (e : areFns [r3142.1.start_, r3142.1.better_, r3142.1.send_] [164, 165, 163] = true) (h : Evt E H 143 ads (F143_res r3142)) : Evt E H 143 ads (F143_res3 r3142) := by
 obtain ⟨q0, e⟩ := areFns_cons e
 obtain ⟨q1, e⟩ := areFns_cons e
 obtain ⟨q2, e⟩ := areFns_cons e
 unfold F143_res at h
 rw [q0, q1, q2] at h
 exact h
theorem F143_ok4 {ads : List AD} (r3142 : Grule × Bool) (e : areFns [r3142.1.start_, r3142.1.better_, r3142.1.send_] [166, 0, 163] = true) (h : Evt E H 143 ads (F143_res r3142)) : Evt E H 143 ads (F143_res4 r3142) := by
 obtain ⟨q0, e⟩ := areFns_cons e
 obtain ⟨q1, e⟩ := areFns_cons e
 obtain ⟨q2, e⟩ := areFns_cons e
 unfold F143_res at h
 rw [q0, q1, q2] at h
 exact h
theorem F143_ok5 {ads : List AD} (r3142 : Grule × Bool) (e : areFns [r3142.1.start_, r3142.1.better_, r3142.1.send_] [0, 0, 0] = true) (h : Evt E H 143 ads (F143_res r3142)) : Evt E H 143 ads (F143_res5 r3142) := by
 obtain ⟨q0, e⟩ := areFns_cons e
 obtain ⟨q1, e⟩ := areFns_cons e
 obtain ⟨q2, e⟩ := areFns_cons e
 unfold F143_res at h
 rw [q0, q1, q2] at h
 exact h
noncomputable def hn94 : Hint := { H 94 with nt := 53, prot := 0 }
def F94_res (r3230 : Int) : Res := ⟨[(.one (.im (.lit (.int .i64 r3230))))], []⟩
def F94 (K : Nat) (a3130 : GGraph) (a3131 : GJob) : Option (Int) :=
 (F64 K a3130).bind fun r3132 =>
 bif (ieq r3132 0) then
  ((F143 K a3131.Prog).bind fun r3143 =>
  bif (areFns [r3143.1.start_, r3143.1.better_, r3143.1.send_] [158, 159, 160]) then
   (bif r3143.2 then
    (bif (ilt a3131.Source 0) then
     (some 1)
    else
    bif (ile a3130.N a3131.Source) then
     (some 1)
    else
    bif (ilt a3131.Limit 0) then
     (some 1)
    else
    bif (ilt 40 a3131.Limit) then
     (some 1)
    else
    bif (ilt a3131.Parts 1) then
     (some 1)
    else
    bif (ilt 6 a3131.Parts) then
     (some 1)
    else
    some 0)
   else
   some 1)
  else
  bif (areFns [r3143.1.start_, r3143.1.better_, r3143.1.send_] [158, 159, 161]) then
   (bif r3143.2 then
    (bif (ilt a3131.Source 0) then
     (some 1)
    else
    bif (ile a3130.N a3131.Source) then
     (some 1)
    else
    bif (ilt a3131.Limit 0) then
     (some 1)
    else
    bif (ilt 40 a3131.Limit) then
     (some 1)
    else
    bif (ilt a3131.Parts 1) then
     (some 1)
    else
    bif (ilt 6 a3131.Parts) then
     (some 1)
    else
    some 0)
   else
   some 1)
  else
  bif (areFns [r3143.1.start_, r3143.1.better_, r3143.1.send_] [162, 159, 163]) then
   (bif r3143.2 then
    (bif (ilt a3131.Source 0) then
     (some 1)
    else
    bif (ile a3130.N a3131.Source) then
     (some 1)
    else
    bif (ilt a3131.Limit 0) then
     (some 1)
    else
    bif (ilt 40 a3131.Limit) then
     (some 1)
    else
    bif (ilt a3131.Parts 1) then
     (some 1)
    else
    bif (ilt 6 a3131.Parts) then
     (some 1)
    else
    some 0)
   else
   some 1)
  else
  bif (areFns [r3143.1.start_, r3143.1.better_, r3143.1.send_] [164, 165, 163]) then
   (bif r3143.2 then
    (bif (ilt a3131.Source 0) then
     (some 1)
    else
    bif (ile a3130.N a3131.Source) then
     (some 1)
    else
    bif (ilt a3131.Limit 0) then
     (some 1)
    else
    bif (ilt 40 a3131.Limit) then
     (some 1)
    else
    bif (ilt a3131.Parts 1) then
     (some 1)
    else
    bif (ilt 6 a3131.Parts) then
     (some 1)
    else
    some 0)
   else
   some 1)
  else
  bif (areFns [r3143.1.start_, r3143.1.better_, r3143.1.send_] [166, 0, 163]) then
   (bif r3143.2 then
    (bif (ilt a3131.Source 0) then
     (some 1)
    else
    bif (ile a3130.N a3131.Source) then
     (some 1)
    else
    bif (ilt a3131.Limit 0) then
     (some 1)
    else
    bif (ilt 40 a3131.Limit) then
     (some 1)
    else
    bif (ilt a3131.Parts 1) then
     (some 1)
    else
    bif (ilt 6 a3131.Parts) then
     (some 1)
    else
    some 0)
   else
   some 1)
  else
  bif (areFns [r3143.1.start_, r3143.1.better_, r3143.1.send_] [0, 0, 0]) then
  bif r3143.2 then
   (bif (ilt a3131.Source 0) then
    (some 1)
   else
   bif (ile a3130.N a3131.Source) then
    (some 1)
   else
   bif (ilt a3131.Limit 0) then
    (some 1)
   else
   bif (ilt 40 a3131.Limit) then
    (some 1)
   else
   bif (ilt a3131.Parts 1) then
    (some 1)
   else
   bif (ilt 6 a3131.Parts) then
    (some 1)
   else
   some 0)
  else
  some 1
  else none)
 else
 some r3132
theorem F94_ok (K : Nat) (a3130 : GGraph) (a3131 : GJob) (r : Int) (hF : F94 K a3130 a3131 = some r) : Evt E H 94 [.agg (eGGraph a3130), .agg (eGJob a3131)] (F94_res r) := by
 rw [F94] at hF
 refine bind_some hF (fun r3132 h3133 hF => ?_)
 refine cond_some hF (fun h3134 hF => ?_) (fun h3134 hF => ?_)
 ·
  refine bind_some hF (fun r3143 h3144 hF => ?_)
  have pq3193 : ∀ {l : List Cond}, HoldAll E H hn94 l → HoldAll E H hn94 (.call 64 [.agg (eGGraph a3130)] (F64_res r3132) :: .test (leadsAny (Res.mk [(.one (.im (.lit (.int .i64 r3132))))] [])) false :: .test (ine r3132 0) false :: l) := fun z => ⟨(F64_ok K a3130 _ h3133), (leads_ok (by simp [leadsAny, RV.leads, RC.leads, leadsT, hasSl_lit])), (ine_t h3134), z⟩
  refine cond_some hF (fun h3145 hF => ?_) (fun h3145 hF => ?_)
  ·
   refine cond_some hF (fun h3146 hF => ?_) (fun h3146 hF => ?_)
   ·
    have pq3194 : ∀ {l : List Cond}, HoldAll E H hn94 l → HoldAll E H hn94 (.call 143 [.one (.lit (.int .i64 a3131.Prog))] (F143_res0 r3143) :: .test (leadsAny (Res.mk [(.agg [(.im (.lit (fnV 158))), (.im (.lit (fnV 159))), (.im (.lit (.bool r3143.1.only_))), (.im (.lit (fnV 160)))]), (.one (.im (.lit (.bool r3143.2))))] [])) false :: .test (beqb (bnot r3143.2) false) true :: .test (beqb (bnot r3143.2) false) true :: .test (beqb (bnot r3143.2) false) true :: .test (bnot r3143.2) false :: l) := fun z => ⟨(F143_ok0 _ h3145 (F143_ok K a3131.Prog _ h3144)), (leads_ok (by simp [leadsAny, RV.leads, RC.leads, leadsT, hasSl_lit])), (beqb_ff (bnot_t h3146)), (beqb_ff (bnot_t h3146)), (beqb_ff (bnot_t h3146)), (bnot_t h3146), z⟩
    refine cond_some hF (fun h3147 hF => ?_) (fun h3147 hF => ?_)
    ·
     obtain rfl := Option.some.inj hF
     have pz : HoldAll E H hn94 [.test (beqb (ilt a3131.Source 0) false) false, .test (beqb (ilt a3131.Source 0) false) false, .test (beqb (ilt a3131.Source 0) false) false, .test (beqb (ilt a3131.Source 0) false) false, .test (beqb (ilt a3131.Source 0) false) false, .test (ilt a3131.Source 0) true, .test (beqb true false) false, .test (beqb true false) false, .test (beqb true false) false, .test true true, .test (beqb true false) false, .test (beqb true false) false, .test (beqb true false) false, .test true true, .test (beqb true false) false, .test (beqb true false) false, .test (beqb true false) false, .test true true, .test (beqb true false) false, .test (beqb true false) false, .test (beqb true false) false, .test true true, .test true true] := ⟨(beqb_ft h3147), (beqb_ft h3147), (beqb_ft h3147), (beqb_ft h3147), (beqb_ft h3147), h3147, (beqb_ft rfl), (beqb_ft rfl), (beqb_ft rfl), rfl, (beqb_ft rfl), (beqb_ft rfl), (beqb_ft rfl), rfl, (beqb_ft rfl), (beqb_ft rfl), (beqb_ft rfl), rfl, (beqb_ft rfl), (beqb_ft rfl), (beqb_ft rfl), rfl, rfl, trivial⟩
     exact fn_playC hn94 (r := F94_res 1) (pq3193 (pq3194 pz)) (by kernel_rfl) (by kernel_rfl)
    have pq3195 : ∀ {l : List Cond}, HoldAll E H hn94 l → HoldAll E H hn94 (.test (beqb (ilt a3131.Source 0) false) true :: .test (beqb (ilt a3131.Source 0) false) true :: .test (beqb (ilt a3131.Source 0) false) true :: .test (beqb (ilt a3131.Source 0) false) true :: .test (beqb (ilt a3131.Source 0) false) true :: .test (ilt a3131.Source 0) false :: l) := fun z => ⟨(beqb_ff h3147), (beqb_ff h3147), (beqb_ff h3147), (beqb_ff h3147), (beqb_ff h3147), h3147, z⟩
    refine cond_some hF (fun h3148 hF => ?_) (fun h3148 hF => ?_)
    ·
     obtain rfl := Option.some.inj hF
     have pz : HoldAll E H hn94 [.test (beqb (ige a3131.Source a3130.N) false) false, .test (beqb (ige a3131.Source a3130.N) false) false, .test (beqb (ige a3131.Source a3130.N) false) false, .test (ige a3131.Source a3130.N) true, .test (beqb true false) false, .test (beqb true false) false, .test (beqb true false) false, .test true true, .test (beqb true false) false, .test (beqb true false) false, .test (beqb true false) false, .test true true, .test (beqb true false) false, .test (beqb true false) false, .test (beqb true false) false, .test true true, .test true true] := ⟨(beqb_ft (ige_eq h3148)), (beqb_ft (ige_eq h3148)), (beqb_ft (ige_eq h3148)), (ige_eq h3148), (beqb_ft rfl), (beqb_ft rfl), (beqb_ft rfl), rfl, (beqb_ft rfl), (beqb_ft rfl), (beqb_ft rfl), rfl, (beqb_ft rfl), (beqb_ft rfl), (beqb_ft rfl), rfl, rfl, trivial⟩
     exact fn_playC hn94 (r := F94_res 1) (pq3193 (pq3194 (pq3195 pz))) (by kernel_rfl) (by kernel_rfl)
    have pq3196 : ∀ {l : List Cond}, HoldAll E H hn94 l → HoldAll E H hn94 (.test (beqb (ige a3131.Source a3130.N) false) true :: .test (beqb (ige a3131.Source a3130.N) false) true :: .test (beqb (ige a3131.Source a3130.N) false) true :: .test (ige a3131.Source a3130.N) false :: l) := fun z => ⟨(beqb_ff (ige_eq h3148)), (beqb_ff (ige_eq h3148)), (beqb_ff (ige_eq h3148)), (ige_eq h3148), z⟩
    refine cond_some hF (fun h3149 hF => ?_) (fun h3149 hF => ?_)
    ·
     obtain rfl := Option.some.inj hF
     have pz : HoldAll E H hn94 [.test (beqb (ilt a3131.Limit 0) false) false, .test (beqb (ilt a3131.Limit 0) false) false, .test (beqb (ilt a3131.Limit 0) false) false, .test (ilt a3131.Limit 0) true, .test (beqb true false) false, .test (beqb true false) false, .test (beqb true false) false, .test true true, .test (beqb true false) false, .test (beqb true false) false, .test (beqb true false) false, .test true true, .test true true] := ⟨(beqb_ft h3149), (beqb_ft h3149), (beqb_ft h3149), h3149, (beqb_ft rfl), (beqb_ft rfl), (beqb_ft rfl), rfl, (beqb_ft rfl), (beqb_ft rfl), (beqb_ft rfl), rfl, rfl, trivial⟩
     exact fn_playC hn94 (r := F94_res 1) (pq3193 (pq3194 (pq3195 (pq3196 pz)))) (by kernel_rfl) (by kernel_rfl)
    have pq3197 : ∀ {l : List Cond}, HoldAll E H hn94 l → HoldAll E H hn94 (.test (beqb (ilt a3131.Limit 0) false) true :: .test (beqb (ilt a3131.Limit 0) false) true :: .test (beqb (ilt a3131.Limit 0) false) true :: .test (ilt a3131.Limit 0) false :: l) := fun z => ⟨(beqb_ff h3149), (beqb_ff h3149), (beqb_ff h3149), h3149, z⟩
    refine cond_some hF (fun h3150 hF => ?_) (fun h3150 hF => ?_)
    ·
     obtain rfl := Option.some.inj hF
     have pz : HoldAll E H hn94 [.test (beqb (igt a3131.Limit 40) false) false, .test (beqb (igt a3131.Limit 40) false) false, .test (beqb (igt a3131.Limit 40) false) false, .test (igt a3131.Limit 40) true, .test (beqb true false) false, .test (beqb true false) false, .test (beqb true false) false, .test true true, .test true true] := ⟨(beqb_ft (igt_eq h3150)), (beqb_ft (igt_eq h3150)), (beqb_ft (igt_eq h3150)), (igt_eq h3150), (beqb_ft rfl), (beqb_ft rfl), (beqb_ft rfl), rfl, rfl, trivial⟩
     exact fn_playC hn94 (r := F94_res 1) (pq3193 (pq3194 (pq3195 (pq3196 (pq3197 pz))))) (by kernel_rfl) (by kernel_rfl)
    have pq3198 : ∀ {l : List Cond}, HoldAll E H hn94 l → HoldAll E H hn94 (.test (beqb (igt a3131.Limit 40) false) true :: .test (beqb (igt a3131.Limit 40) false) true :: .test (beqb (igt a3131.Limit 40) false) true :: .test (igt a3131.Limit 40) false :: l) := fun z => ⟨(beqb_ff (igt_eq h3150)), (beqb_ff (igt_eq h3150)), (beqb_ff (igt_eq h3150)), (igt_eq h3150), z⟩
    refine cond_some hF (fun h3151 hF => ?_) (fun h3151 hF => ?_)
    ·
     obtain rfl := Option.some.inj hF
     have pz : HoldAll E H hn94 [.test (beqb (ilt a3131.Parts 1) false) false, .test (beqb (ilt a3131.Parts 1) false) false, .test (beqb (ilt a3131.Parts 1) false) false, .test (ilt a3131.Parts 1) true, .test true true] := ⟨(beqb_ft h3151), (beqb_ft h3151), (beqb_ft h3151), h3151, rfl, trivial⟩
     exact fn_playC hn94 (r := F94_res 1) (pq3193 (pq3194 (pq3195 (pq3196 (pq3197 (pq3198 pz)))))) (by kernel_rfl) (by kernel_rfl)
    have pq3199 : ∀ {l : List Cond}, HoldAll E H hn94 l → HoldAll E H hn94 (.test (beqb (ilt a3131.Parts 1) false) true :: .test (beqb (ilt a3131.Parts 1) false) true :: .test (beqb (ilt a3131.Parts 1) false) true :: .test (ilt a3131.Parts 1) false :: l) := fun z => ⟨(beqb_ff h3151), (beqb_ff h3151), (beqb_ff h3151), h3151, z⟩
    refine cond_some hF (fun h3152 hF => ?_) (fun h3152 hF => ?_)
    ·
     obtain rfl := Option.some.inj hF
     have pz : HoldAll E H hn94 [.test (igt a3131.Parts 6) true] := ⟨(igt_eq h3152), trivial⟩
     exact fn_playC hn94 (r := F94_res 1) (pq3193 (pq3194 (pq3195 (pq3196 (pq3197 (pq3198 (pq3199 pz))))))) (by kernel_rfl) (by kernel_rfl)
    obtain rfl := Option.some.inj hF
    have pz : HoldAll E H hn94 [.test (igt a3131.Parts 6) false] := ⟨(igt_eq h3152), trivial⟩
    exact fn_playC hn94 (r := F94_res 0) (pq3193 (pq3194 (pq3195 (pq3196 (pq3197 (pq3198 (pq3199 pz))))))) (by kernel_rfl) (by kernel_rfl)
   obtain rfl := Option.some.inj hF
   have pz : HoldAll E H hn94 [.call 143 [.one (.lit (.int .i64 a3131.Prog))] (F143_res0 r3143), .test (leadsAny (Res.mk [(.agg [(.im (.lit (fnV 158))), (.im (.lit (fnV 159))), (.im (.lit (.bool r3143.1.only_))), (.im (.lit (fnV 160)))]), (.one (.im (.lit (.bool r3143.2))))] [])) false, .test (beqb (bnot r3143.2) false) false, .test (beqb (bnot r3143.2) false) false, .test (beqb (bnot r3143.2) false) false, .test (bnot r3143.2) true, .test (beqb true false) false, .test (beqb true false) false, .test (beqb true false) false, .test (beqb true false) false, .test (beqb true false) false, .test true true, .test (beqb true false) false, .test (beqb true false) false, .test (beqb true false) false, .test true true, .test (beqb true false) false, .test (beqb true false) false, .test (beqb true false) false, .test true true, .test (beqb true false) false, .test (beqb true false) false, .test (beqb true false) false, .test true true, .test (beqb true false) false, .test (beqb true false) false, .test (beqb true false) false, .test true true, .test true true] := ⟨(F143_ok0 _ h3145 (F143_ok K a3131.Prog _ h3144)), (leads_ok (by simp [leadsAny, RV.leads, RC.leads, leadsT, hasSl_lit])), (beqb_ft (bnot_f h3146)), (beqb_ft (bnot_f h3146)), (beqb_ft (bnot_f h3146)), (bnot_f h3146), (beqb_ft rfl), (beqb_ft rfl), (beqb_ft rfl), (beqb_ft rfl), (beqb_ft rfl), rfl, (beqb_ft rfl), (beqb_ft rfl), (beqb_ft rfl), rfl, (beqb_ft rfl), (beqb_ft rfl), (beqb_ft rfl), rfl, (beqb_ft rfl), (beqb_ft rfl), (beqb_ft rfl), rfl, (beqb_ft rfl), (beqb_ft rfl), (beqb_ft rfl), rfl, rfl, trivial⟩
   exact fn_playC hn94 (r := F94_res 1) (pq3193 pz) (by kernel_rfl) (by kernel_rfl)
  refine cond_some hF (fun h3153 hF => ?_) (fun h3153 hF => ?_)
  ·
   refine cond_some hF (fun h3154 hF => ?_) (fun h3154 hF => ?_)
   ·
    have pq3200 : ∀ {l : List Cond}, HoldAll E H hn94 l → HoldAll E H hn94 (.call 143 [.one (.lit (.int .i64 a3131.Prog))] (F143_res1 r3143) :: .test (leadsAny (Res.mk [(.agg [(.im (.lit (fnV 158))), (.im (.lit (fnV 159))), (.im (.lit (.bool r3143.1.only_))), (.im (.lit (fnV 161)))]), (.one (.im (.lit (.bool r3143.2))))] [])) false :: .test (beqb (bnot r3143.2) false) true :: .test (beqb (bnot r3143.2) false) true :: .test (beqb (bnot r3143.2) false) true :: .test (bnot r3143.2) false :: l) := fun z => ⟨(F143_ok1 _ h3153 (F143_ok K a3131.Prog _ h3144)), (leads_ok (by simp [leadsAny, RV.leads, RC.leads, leadsT, hasSl_lit])), (beqb_ff (bnot_t h3154)), (beqb_ff (bnot_t h3154)), (beqb_ff (bnot_t h3154)), (bnot_t h3154), z⟩
    refine cond_some hF (fun h3155 hF => ?_) (fun h3155 hF => ?_)
    ·
     obtain rfl := Option.some.inj hF
     have pz : HoldAll E H hn94 [.test (beqb (ilt a3131.Source 0) false) false, .test (beqb (ilt a3131.Source 0) false) false, .test (beqb (ilt a3131.Source 0) false) false, .test (beqb (ilt a3131.Source 0) false) false, .test (beqb (ilt a3131.Source 0) false) false, .test (ilt a3131.Source 0) true, .test (beqb true false) false, .test (beqb true false) false, .test (beqb true false) false, .test true true, .test (beqb true false) false, .test (beqb true false) false, .test (beqb true false) false, .test true true, .test (beqb true false) false, .test (beqb true false) false, .test (beqb true false) false, .test true true, .test (beqb true false) false, .test (beqb true false) false, .test (beqb true false) false, .test true true, .test true true] := ⟨(beqb_ft h3155), (beqb_ft h3155), (beqb_ft h3155), (beqb_ft h3155), (beqb_ft h3155), h3155, (beqb_ft rfl), (beqb_ft rfl), (beqb_ft rfl), rfl, (beqb_ft rfl), (beqb_ft rfl), (beqb_ft rfl), rfl, (beqb_ft rfl), (beqb_ft rfl), (beqb_ft rfl), rfl, (beqb_ft rfl), (beqb_ft rfl), (beqb_ft rfl), rfl, rfl, trivial⟩
     exact fn_playC hn94 (r := F94_res 1) (pq3193 (pq3200 pz)) (by kernel_rfl) (by kernel_rfl)
    have pq3201 : ∀ {l : List Cond}, HoldAll E H hn94 l → HoldAll E H hn94 (.test (beqb (ilt a3131.Source 0) false) true :: .test (beqb (ilt a3131.Source 0) false) true :: .test (beqb (ilt a3131.Source 0) false) true :: .test (beqb (ilt a3131.Source 0) false) true :: .test (beqb (ilt a3131.Source 0) false) true :: .test (ilt a3131.Source 0) false :: l) := fun z => ⟨(beqb_ff h3155), (beqb_ff h3155), (beqb_ff h3155), (beqb_ff h3155), (beqb_ff h3155), h3155, z⟩
    refine cond_some hF (fun h3156 hF => ?_) (fun h3156 hF => ?_)
    ·
     obtain rfl := Option.some.inj hF
     have pz : HoldAll E H hn94 [.test (beqb (ige a3131.Source a3130.N) false) false, .test (beqb (ige a3131.Source a3130.N) false) false, .test (beqb (ige a3131.Source a3130.N) false) false, .test (ige a3131.Source a3130.N) true, .test (beqb true false) false, .test (beqb true false) false, .test (beqb true false) false, .test true true, .test (beqb true false) false, .test (beqb true false) false, .test (beqb true false) false, .test true true, .test (beqb true false) false, .test (beqb true false) false, .test (beqb true false) false, .test true true, .test true true] := ⟨(beqb_ft (ige_eq h3156)), (beqb_ft (ige_eq h3156)), (beqb_ft (ige_eq h3156)), (ige_eq h3156), (beqb_ft rfl), (beqb_ft rfl), (beqb_ft rfl), rfl, (beqb_ft rfl), (beqb_ft rfl), (beqb_ft rfl), rfl, (beqb_ft rfl), (beqb_ft rfl), (beqb_ft rfl), rfl, rfl, trivial⟩
     exact fn_playC hn94 (r := F94_res 1) (pq3193 (pq3200 (pq3201 pz))) (by kernel_rfl) (by kernel_rfl)
    have pq3202 : ∀ {l : List Cond}, HoldAll E H hn94 l → HoldAll E H hn94 (.test (beqb (ige a3131.Source a3130.N) false) true :: .test (beqb (ige a3131.Source a3130.N) false) true :: .test (beqb (ige a3131.Source a3130.N) false) true :: .test (ige a3131.Source a3130.N) false :: l) := fun z => ⟨(beqb_ff (ige_eq h3156)), (beqb_ff (ige_eq h3156)), (beqb_ff (ige_eq h3156)), (ige_eq h3156), z⟩
    refine cond_some hF (fun h3157 hF => ?_) (fun h3157 hF => ?_)
    ·
     obtain rfl := Option.some.inj hF
     have pz : HoldAll E H hn94 [.test (beqb (ilt a3131.Limit 0) false) false, .test (beqb (ilt a3131.Limit 0) false) false, .test (beqb (ilt a3131.Limit 0) false) false, .test (ilt a3131.Limit 0) true, .test (beqb true false) false, .test (beqb true false) false, .test (beqb true false) false, .test true true, .test (beqb true false) false, .test (beqb true false) false, .test (beqb true false) false, .test true true, .test true true] := ⟨(beqb_ft h3157), (beqb_ft h3157), (beqb_ft h3157), h3157, (beqb_ft rfl), (beqb_ft rfl), (beqb_ft rfl), rfl, (beqb_ft rfl), (beqb_ft rfl), (beqb_ft rfl), rfl, rfl, trivial⟩
     exact fn_playC hn94 (r := F94_res 1) (pq3193 (pq3200 (pq3201 (pq3202 pz)))) (by kernel_rfl) (by kernel_rfl)
    have pq3203 : ∀ {l : List Cond}, HoldAll E H hn94 l → HoldAll E H hn94 (.test (beqb (ilt a3131.Limit 0) false) true :: .test (beqb (ilt a3131.Limit 0) false) true :: .test (beqb (ilt a3131.Limit 0) false) true :: .test (ilt a3131.Limit 0) false :: l) := fun z => ⟨(beqb_ff h3157), (beqb_ff h3157), (beqb_ff h3157), h3157, z⟩
    refine cond_some hF (fun h3158 hF => ?_) (fun h3158 hF => ?_)
    ·
     obtain rfl := Option.some.inj hF
     have pz : HoldAll E H hn94 [.test (beqb (igt a3131.Limit 40) false) false, .test (beqb (igt a3131.Limit 40) false) false, .test (beqb (igt a3131.Limit 40) false) false, .test (igt a3131.Limit 40) true, .test (beqb true false) false, .test (beqb true false) false, .test (beqb true false) false, .test true true, .test true true] := ⟨(beqb_ft (igt_eq h3158)), (beqb_ft (igt_eq h3158)), (beqb_ft (igt_eq h3158)), (igt_eq h3158), (beqb_ft rfl), (beqb_ft rfl), (beqb_ft rfl), rfl, rfl, trivial⟩
     exact fn_playC hn94 (r := F94_res 1) (pq3193 (pq3200 (pq3201 (pq3202 (pq3203 pz))))) (by kernel_rfl) (by kernel_rfl)
    have pq3204 : ∀ {l : List Cond}, HoldAll E H hn94 l → HoldAll E H hn94 (.test (beqb (igt a3131.Limit 40) false) true :: .test (beqb (igt a3131.Limit 40) false) true :: .test (beqb (igt a3131.Limit 40) false) true :: .test (igt a3131.Limit 40) false :: l) := fun z => ⟨(beqb_ff (igt_eq h3158)), (beqb_ff (igt_eq h3158)), (beqb_ff (igt_eq h3158)), (igt_eq h3158), z⟩
    refine cond_some hF (fun h3159 hF => ?_) (fun h3159 hF => ?_)
    ·
     obtain rfl := Option.some.inj hF
     have pz : HoldAll E H hn94 [.test (beqb (ilt a3131.Parts 1) false) false, .test (beqb (ilt a3131.Parts 1) false) false, .test (beqb (ilt a3131.Parts 1) false) false, .test (ilt a3131.Parts 1) true, .test true true] := ⟨(beqb_ft h3159), (beqb_ft h3159), (beqb_ft h3159), h3159, rfl, trivial⟩
     exact fn_playC hn94 (r := F94_res 1) (pq3193 (pq3200 (pq3201 (pq3202 (pq3203 (pq3204 pz)))))) (by kernel_rfl) (by kernel_rfl)
    have pq3205 : ∀ {l : List Cond}, HoldAll E H hn94 l → HoldAll E H hn94 (.test (beqb (ilt a3131.Parts 1) false) true :: .test (beqb (ilt a3131.Parts 1) false) true :: .test (beqb (ilt a3131.Parts 1) false) true :: .test (ilt a3131.Parts 1) false :: l) := fun z => ⟨(beqb_ff h3159), (beqb_ff h3159), (beqb_ff h3159), h3159, z⟩
    refine cond_some hF (fun h3160 hF => ?_) (fun h3160 hF => ?_)
    ·
     obtain rfl := Option.some.inj hF
     have pz : HoldAll E H hn94 [.test (igt a3131.Parts 6) true] := ⟨(igt_eq h3160), trivial⟩
     exact fn_playC hn94 (r := F94_res 1) (pq3193 (pq3200 (pq3201 (pq3202 (pq3203 (pq3204 (pq3205 pz))))))) (by kernel_rfl) (by kernel_rfl)
    obtain rfl := Option.some.inj hF
    have pz : HoldAll E H hn94 [.test (igt a3131.Parts 6) false] := ⟨(igt_eq h3160), trivial⟩
    exact fn_playC hn94 (r := F94_res 0) (pq3193 (pq3200 (pq3201 (pq3202 (pq3203 (pq3204 (pq3205 pz))))))) (by kernel_rfl) (by kernel_rfl)
   obtain rfl := Option.some.inj hF
   have pz : HoldAll E H hn94 [.call 143 [.one (.lit (.int .i64 a3131.Prog))] (F143_res1 r3143), .test (leadsAny (Res.mk [(.agg [(.im (.lit (fnV 158))), (.im (.lit (fnV 159))), (.im (.lit (.bool r3143.1.only_))), (.im (.lit (fnV 161)))]), (.one (.im (.lit (.bool r3143.2))))] [])) false, .test (beqb (bnot r3143.2) false) false, .test (beqb (bnot r3143.2) false) false, .test (beqb (bnot r3143.2) false) false, .test (bnot r3143.2) true, .test (beqb true false) false, .test (beqb true false) false, .test (beqb true false) false, .test (beqb true false) false, .test (beqb true false) false, .test true true, .test (beqb true false) false, .test (beqb true false) false, .test (beqb true false) false, .test true true, .test (beqb true false) false, .test (beqb true false) false, .test (beqb true false) false, .test true true, .test (beqb true false) false, .test (beqb true false) false, .test (beqb true false) false, .test true true, .test (beqb true false) false, .test (beqb true false) false, .test (beqb true false) false, .test true true, .test true true] := ⟨(F143_ok1 _ h3153 (F143_ok K a3131.Prog _ h3144)), (leads_ok (by simp [leadsAny, RV.leads, RC.leads, leadsT, hasSl_lit])), (beqb_ft (bnot_f h3154)), (beqb_ft (bnot_f h3154)), (beqb_ft (bnot_f h3154)), (bnot_f h3154), (beqb_ft rfl), (beqb_ft rfl), (beqb_ft rfl), (beqb_ft rfl), (beqb_ft rfl), rfl, (beqb_ft rfl), (beqb_ft rfl), (beqb_ft rfl), rfl, (beqb_ft rfl), (beqb_ft rfl), (beqb_ft rfl), rfl, (beqb_ft rfl), (beqb_ft rfl), (beqb_ft rfl), rfl, (beqb_ft rfl), (beqb_ft rfl), (beqb_ft rfl), rfl, rfl, trivial⟩
   exact fn_playC hn94 (r := F94_res 1) (pq3193 pz) (by kernel_rfl) (by kernel_rfl)
  refine cond_some hF (fun h3161 hF => ?_) (fun h3161 hF => ?_)
  ·
   refine cond_some hF (fun h3162 hF => ?_) (fun h3162 hF => ?_)
   ·
    have pq3206 : ∀ {l : List Cond}, HoldAll E H hn94 l → HoldAll E H hn94 (.call 143 [.one (.lit (.int .i64 a3131.Prog))] (F143_res2 r3143) :: .test (leadsAny (Res.mk [(.agg [(.im (.lit (fnV 162))), (.im (.lit (fnV 159))), (.im (.lit (.bool r3143.1.only_))), (.im (.lit (fnV 163)))]), (.one (.im (.lit (.bool r3143.2))))] [])) false :: .test (beqb (bnot r3143.2) false) true :: .test (beqb (bnot r3143.2) false) true :: .test (beqb (bnot r3143.2) false) true :: .test (bnot r3143.2) false :: l) := fun z => ⟨(F143_ok2 _ h3161 (F143_ok K a3131.Prog _ h3144)), (leads_ok (by simp [leadsAny, RV.leads, RC.leads, leadsT, hasSl_lit])), (beqb_ff (bnot_t h3162)), (beqb_ff (bnot_t h3162)), (beqb_ff (bnot_t h3162)), (bnot_t h3162), z⟩
    refine cond_some hF (fun h3163 hF => ?_) (fun h3163 hF => ?_)
    ·
     obtain rfl := Option.some.inj hF
     have pz : HoldAll E H hn94 [.test (beqb (ilt a3131.Source 0) false) false, .test (beqb (ilt a3131.Source 0) false) false, .test (beqb (ilt a3131.Source 0) false) false, .test (beqb (ilt a3131.Source 0) false) false, .test (beqb (ilt a3131.Source 0) false) false, .test (ilt a3131.Source 0) true, .test (beqb true false) false, .test (beqb true false) false, .test (beqb true false) false, .test true true, .test (beqb true false) false, .test (beqb true false) false, .test (beqb true false) false, .test true true, .test (beqb true false) false, .test (beqb true false) false, .test (beqb true false) false, .test true true, .test (beqb true false) false, .test (beqb true false) false, .test (beqb true false) false, .test true true, .test true true] := ⟨(beqb_ft h3163), (beqb_ft h3163), (beqb_ft h3163), (beqb_ft h3163), (beqb_ft h3163), h3163, (beqb_ft rfl), (beqb_ft rfl), (beqb_ft rfl), rfl, (beqb_ft rfl), (beqb_ft rfl), (beqb_ft rfl), rfl, (beqb_ft rfl), (beqb_ft rfl), (beqb_ft rfl), rfl, (beqb_ft rfl), (beqb_ft rfl), (beqb_ft rfl), rfl, rfl, trivial⟩
     exact fn_playC hn94 (r := F94_res 1) (pq3193 (pq3206 pz)) (by kernel_rfl) (by kernel_rfl)
    have pq3207 : ∀ {l : List Cond}, HoldAll E H hn94 l → HoldAll E H hn94 (.test (beqb (ilt a3131.Source 0) false) true :: .test (beqb (ilt a3131.Source 0) false) true :: .test (beqb (ilt a3131.Source 0) false) true :: .test (beqb (ilt a3131.Source 0) false) true :: .test (beqb (ilt a3131.Source 0) false) true :: .test (ilt a3131.Source 0) false :: l) := fun z => ⟨(beqb_ff h3163), (beqb_ff h3163), (beqb_ff h3163), (beqb_ff h3163), (beqb_ff h3163), h3163, z⟩
    refine cond_some hF (fun h3164 hF => ?_) (fun h3164 hF => ?_)
    ·
     obtain rfl := Option.some.inj hF
     have pz : HoldAll E H hn94 [.test (beqb (ige a3131.Source a3130.N) false) false, .test (beqb (ige a3131.Source a3130.N) false) false, .test (beqb (ige a3131.Source a3130.N) false) false, .test (ige a3131.Source a3130.N) true, .test (beqb true false) false, .test (beqb true false) false, .test (beqb true false) false, .test true true, .test (beqb true false) false, .test (beqb true false) false, .test (beqb true false) false, .test true true, .test (beqb true false) false, .test (beqb true false) false, .test (beqb true false) false, .test true true, .test true true] := ⟨(beqb_ft (ige_eq h3164)), (beqb_ft (ige_eq h3164)), (beqb_ft (ige_eq h3164)), (ige_eq h3164), (beqb_ft rfl), (beqb_ft rfl), (beqb_ft rfl), rfl, (beqb_ft rfl), (beqb_ft rfl), (beqb_ft rfl), rfl, (beqb_ft rfl), (beqb_ft rfl), (beqb_ft rfl), rfl, rfl, trivial⟩
     exact fn_playC hn94 (r := F94_res 1) (pq3193 (pq3206 (pq3207 pz))) (by kernel_rfl) (by kernel_rfl)
    have pq3208 : ∀ {l : List Cond}, HoldAll E H hn94 l → HoldAll E H hn94 (.test (beqb (ige a3131.Source a3130.N) false) true :: .test (beqb (ige a3131.Source a3130.N) false) true :: .test (beqb (ige a3131.Source a3130.N) false) true :: .test (ige a3131.Source a3130.N) false :: l) := fun z => ⟨(beqb_ff (ige_eq h3164)), (beqb_ff (ige_eq h3164)), (beqb_ff (ige_eq h3164)), (ige_eq h3164), z⟩
    refine cond_some hF (fun h3165 hF => ?_) (fun h3165 hF => ?_)
    ·
     obtain rfl := Option.some.inj hF
     have pz : HoldAll E H hn94 [.test (beqb (ilt a3131.Limit 0) false) false, .test (beqb (ilt a3131.Limit 0) false) false, .test (beqb (ilt a3131.Limit 0) false) false, .test (ilt a3131.Limit 0) true, .test (beqb true false) false, .test (beqb true false) false, .test (beqb true false) false, .test true true, .test (beqb true false) false, .test (beqb true false) false, .test (beqb true false) false, .test true true, .test true true] := ⟨(beqb_ft h3165), (beqb_ft h3165), (beqb_ft h3165), h3165, (beqb_ft rfl), (beqb_ft rfl), (beqb_ft rfl), rfl, (beqb_ft rfl), (beqb_ft rfl), (beqb_ft rfl), rfl, rfl, trivial⟩
     exact fn_playC hn94 (r := F94_res 1) (pq3193 (pq3206 (pq3207 (pq3208 pz)))) (by kernel_rfl) (by kernel_rfl)
    have pq3209 : ∀ {l : List Cond}, HoldAll E H hn94 l → HoldAll E H hn94 (.test (beqb (ilt a3131.Limit 0) false) true :: .test (beqb (ilt a3131.Limit 0) false) true :: .test (beqb (ilt a3131.Limit 0) false) true :: .test (ilt a3131.Limit 0) false :: l) := fun z => ⟨(beqb_ff h3165), (beqb_ff h3165), (beqb_ff h3165), h3165, z⟩
    refine cond_some hF (fun h3166 hF => ?_) (fun h3166 hF => ?_)
    ·
     obtain rfl := Option.some.inj hF
     have pz : HoldAll E H hn94 [.test (beqb (igt a3131.Limit 40) false) false, .test (beqb (igt a3131.Limit 40) false) false, .test (beqb (igt a3131.Limit 40) false) false, .test (igt a3131.Limit 40) true, .test (beqb true false) false, .test (beqb true false) false, .test (beqb true false) false, .test true true, .test true true] := ⟨(beqb_ft (igt_eq h3166)), (beqb_ft (igt_eq h3166)), (beqb_ft (igt_eq h3166)), (igt_eq h3166), (beqb_ft rfl), (beqb_ft rfl), (beqb_ft rfl), rfl, rfl, trivial⟩
     exact fn_playC hn94 (r := F94_res 1) (pq3193 (pq3206 (pq3207 (pq3208 (pq3209 pz))))) (by kernel_rfl) (by kernel_rfl)
    have pq3210 : ∀ {l : List Cond}, HoldAll E H hn94 l → HoldAll E H hn94 (.test (beqb (igt a3131.Limit 40) false) true :: .test (beqb (igt a3131.Limit 40) false) true :: .test (beqb (igt a3131.Limit 40) false) true :: .test (igt a3131.Limit 40) false :: l) := fun z => ⟨(beqb_ff (igt_eq h3166)), (beqb_ff (igt_eq h3166)), (beqb_ff (igt_eq h3166)), (igt_eq h3166), z⟩
    refine cond_some hF (fun h3167 hF => ?_) (fun h3167 hF => ?_)
    ·
     obtain rfl := Option.some.inj hF
     have pz : HoldAll E H hn94 [.test (beqb (ilt a3131.Parts 1) false) false, .test (beqb (ilt a3131.Parts 1) false) false, .test (beqb (ilt a3131.Parts 1) false) false, .test (ilt a3131.Parts 1) true, .test true true] := ⟨(beqb_ft h3167), (beqb_ft h3167), (beqb_ft h3167), h3167, rfl, trivial⟩
     exact fn_playC hn94 (r := F94_res 1) (pq3193 (pq3206 (pq3207 (pq3208 (pq3209 (pq3210 pz)))))) (by kernel_rfl) (by kernel_rfl)
    have pq3211 : ∀ {l : List Cond}, HoldAll E H hn94 l → HoldAll E H hn94 (.test (beqb (ilt a3131.Parts 1) false) true :: .test (beqb (ilt a3131.Parts 1) false) true :: .test (beqb (ilt a3131.Parts 1) false) true :: .test (ilt a3131.Parts 1) false :: l) := fun z => ⟨(beqb_ff h3167), (beqb_ff h3167), (beqb_ff h3167), h3167, z⟩
    refine cond_some hF (fun h3168 hF => ?_) (fun h3168 hF => ?_)
    ·
     obtain rfl := Option.some.inj hF
     have pz : HoldAll E H hn94 [.test (igt a3131.Parts 6) true] := ⟨(igt_eq h3168), trivial⟩
     exact fn_playC hn94 (r := F94_res 1) (pq3193 (pq3206 (pq3207 (pq3208 (pq3209 (pq3210 (pq3211 pz))))))) (by kernel_rfl) (by kernel_rfl)
    obtain rfl := Option.some.inj hF
    have pz : HoldAll E H hn94 [.test (igt a3131.Parts 6) false] := ⟨(igt_eq h3168), trivial⟩
    exact fn_playC hn94 (r := F94_res 0) (pq3193 (pq3206 (pq3207 (pq3208 (pq3209 (pq3210 (pq3211 pz))))))) (by kernel_rfl) (by kernel_rfl)
   obtain rfl := Option.some.inj hF
   have pz : HoldAll E H hn94 [.call 143 [.one (.lit (.int .i64 a3131.Prog))] (F143_res2 r3143), .test (leadsAny (Res.mk [(.agg [(.im (.lit (fnV 162))), (.im (.lit (fnV 159))), (.im (.lit (.bool r3143.1.only_))), (.im (.lit (fnV 163)))]), (.one (.im (.lit (.bool r3143.2))))] [])) false, .test (beqb (bnot r3143.2) false) false, .test (beqb (bnot r3143.2) false) false, .test (beqb (bnot r3143.2) false) false, .test (bnot r3143.2) true, .test (beqb true false) false, .test (beqb true false) false, .test (beqb true false) false, .test (beqb true false) false, .test (beqb true false) false, .test true true, .test (beqb true false) false, .test (beqb true false) false, .test (beqb true false) false, .test true true, .test (beqb true false) false, .test (beqb true false) false, .test (beqb true false) false, .test true true, .test (beqb true false) false, .test (beqb true false) false, .test (beqb true false) false, .test true true, .test (beqb true false) false, .test (beqb true false) false, .test (beqb true false) false, .test true true, .test true true] := ⟨(F143_ok2 _ h3161 (F143_ok K a3131.Prog _ h3144)), (leads_ok (by simp [leadsAny, RV.leads, RC.leads, leadsT, hasSl_lit])), (beqb_ft (bnot_f h3162)), (beqb_ft (bnot_f h3162)), (beqb_ft (bnot_f h3162)), (bnot_f h3162), (beqb_ft rfl), (beqb_ft rfl), (beqb_ft rfl), (beqb_ft rfl), (beqb_ft rfl), rfl, (beqb_ft rfl), (beqb_ft rfl), (beqb_ft rfl), rfl, (beqb_ft rfl), (beqb_ft rfl), (beqb_ft rfl), rfl, (beqb_ft rfl), (beqb_ft rfl), (beqb_ft rfl), rfl, (beqb_ft rfl), (beqb_ft rfl), (beqb_ft rfl), rfl, rfl, trivial⟩
   exact fn_playC hn94 (r := F94_res 1) (pq3193 pz) (by kernel_rfl) (by kernel_rfl)
  refine cond_some hF (fun h3169 hF => ?_) (fun h3169 hF => ?_)
  ·
   refine cond_some hF (fun h3170 hF => ?_) (fun h3170 hF => ?_)
   ·
    have pq3212 : ∀ {l : List Cond}, HoldAll E H hn94 l → HoldAll E H hn94 (.call 143 [.one (.lit (.int .i64 a3131.Prog))] (F143_res3 r3143) :: .test (leadsAny (Res.mk [(.agg [(.im (.lit (fnV 164))), (.im (.lit (fnV 165))), (.im (.lit (.bool r3143.1.only_))), (.im (.lit (fnV 163)))]), (.one (.im (.lit (.bool r3143.2))))] [])) false :: .test (beqb (bnot r3143.2) false) true :: .test (beqb (bnot r3143.2) false) true :: .test (beqb (bnot r3143.2) false) true :: .test (bnot r3143.2) false :: l) := fun z => ⟨(F143_ok3 _ h3169 (F143_ok K a3131.Prog _ h3144)), (leads_ok (by simp [leadsAny, RV.leads, RC.leads, leadsT, hasSl_lit])), (beqb_ff (bnot_t h3170)), (beqb_ff (bnot_t h3170)), (beqb_ff (bnot_t h3170)), (bnot_t h3170), z⟩
    refine cond_some hF (fun h3171 hF => ?_) (fun h3171 hF => ?_)
    ·
     obtain rfl := Option.some.inj hF
     have pz : HoldAll E H hn94 [.test (beqb (ilt a3131.Source 0) false) false, .test (beqb (ilt a3131.Source 0) false) false, .test (beqb (ilt a3131.Source 0) false) false, .test (beqb (ilt a3131.Source 0) false) false, .test (beqb (ilt a3131.Source 0) false) false, .test (ilt a3131.Source 0) true, .test (beqb true false) false, .test (beqb true false) false, .test (beqb true false) false, .test true true, .test (beqb true false) false, .test (beqb true false) false, .test (beqb true false) false, .test true true, .test (beqb true false) false, .test (beqb true false) false, .test (beqb true false) false, .test true true, .test (beqb true false) false, .test (beqb true false) false, .test (beqb true false) false, .test true true, .test true true] := ⟨(beqb_ft h3171), (beqb_ft h3171), (beqb_ft h3171), (beqb_ft h3171), (beqb_ft h3171), h3171, (beqb_ft rfl), (beqb_ft rfl), (beqb_ft rfl), rfl, (beqb_ft rfl), (beqb_ft rfl), (beqb_ft rfl), rfl, (beqb_ft rfl), (beqb_ft rfl), (beqb_ft rfl), rfl, (beqb_ft rfl), (beqb_ft rfl), (beqb_ft rfl), rfl, rfl, trivial⟩
     exact fn_playC hn94 (r := F94_res 1) (pq3193 (pq3212 pz)) (by kernel_rfl) (by kernel_rfl)
    have pq3213 : ∀ {l : List Cond}, HoldAll E H hn94 l → HoldAll E H hn94 (.test (beqb (ilt a3131.Source 0) false) true :: .test (beqb (ilt a3131.Source 0) false) true :: .test (beqb (ilt a3131.Source 0) false) true :: .test (beqb (ilt a3131.Source 0) false) true :: .test (beqb (ilt a3131.Source 0) false) true :: .test (ilt a3131.Source 0) false :: l) := fun z => ⟨(beqb_ff h3171), (beqb_ff h3171), (beqb_ff h3171), (beqb_ff h3171), (beqb_ff h3171), h3171, z⟩
    refine cond_some hF (fun h3172 hF => ?_) (fun h3172 hF => ?_)
    ·
     obtain rfl := Option.some.inj hF
     have pz : HoldAll E H hn94 [.test (beqb (ige a3131.Source a3130.N) false) false, .test (beqb (ige a3131.Source a3130.N) false) false, .test (beqb (ige a3131.Source a3130.N) false) false, .test (ige a3131.Source a3130.N) true, .test (beqb true false) false, .test (beqb true false) false, .test (beqb true false) false, .test true true, .test (beqb true false) false, .test (beqb true false) false, .test (beqb true false) false, .test true true, .test (beqb true false) false, .test (beqb true false) false, .test (beqb true false) false, .test true true, .test true true] := ⟨(beqb_ft (ige_eq h3172)), (beqb_ft (ige_eq h3172)), (beqb_ft (ige_eq h3172)), (ige_eq h3172), (beqb_ft rfl), (beqb_ft rfl), (beqb_ft rfl), rfl, (beqb_ft rfl), (beqb_ft rfl), (beqb_ft rfl), rfl, (beqb_ft rfl), (beqb_ft rfl), (beqb_ft rfl), rfl, rfl, trivial⟩
     exact fn_playC hn94 (r := F94_res 1) (pq3193 (pq3212 (pq3213 pz))) (by kernel_rfl) (by kernel_rfl)
    have pq3214 : ∀ {l : List Cond}, HoldAll E H hn94 l → HoldAll E H hn94 (.test (beqb (ige a3131.Source a3130.N) false) true :: .test (beqb (ige a3131.Source a3130.N) false) true :: .test (beqb (ige a3131.Source a3130.N) false) true :: .test (ige a3131.Source a3130.N) false :: l) := fun z => ⟨(beqb_ff (ige_eq h3172)), (beqb_ff (ige_eq h3172)), (beqb_ff (ige_eq h3172)), (ige_eq h3172), z⟩
    refine cond_some hF (fun h3173 hF => ?_) (fun h3173 hF => ?_)
    ·
     obtain rfl := Option.some.inj hF
     have pz : HoldAll E H hn94 [.test (beqb (ilt a3131.Limit 0) false) false, .test (beqb (ilt a3131.Limit 0) false) false, .test (beqb (ilt a3131.Limit 0) false) false, .test (ilt a3131.Limit 0) true, .test (beqb true false) false, .test (beqb true false) false, .test (beqb true false) false, .test true true, .test (beqb true false) false, .test (beqb true false) false, .test (beqb true false) false, .test true true, .test true true] := ⟨(beqb_ft h3173), (beqb_ft h3173), (beqb_ft h3173), h3173, (beqb_ft rfl), (beqb_ft rfl), (beqb_ft rfl), rfl, (beqb_ft rfl), (beqb_ft rfl), (beqb_ft rfl), rfl, rfl, trivial⟩
     exact fn_playC hn94 (r := F94_res 1) (pq3193 (pq3212 (pq3213 (pq3214 pz)))) (by kernel_rfl) (by kernel_rfl)
    have pq3215 : ∀ {l : List Cond}, HoldAll E H hn94 l → HoldAll E H hn94 (.test (beqb (ilt a3131.Limit 0) false) true :: .test (beqb (ilt a3131.Limit 0) false) true :: .test (beqb (ilt a3131.Limit 0) false) true :: .test (ilt a3131.Limit 0) false :: l) := fun z => ⟨(beqb_ff h3173), (beqb_ff h3173), (beqb_ff h3173), h3173, z⟩
    refine cond_some hF (fun h3174 hF => ?_) (fun h3174 hF => ?_)
    ·
     obtain rfl := Option.some.inj hF
     have pz : HoldAll E H hn94 [.test (beqb (igt a3131.Limit 40) false) false, .test (beqb (igt a3131.Limit 40) false) false, .test (beqb (igt a3131.Limit 40) false) false, .test (igt a3131.Limit 40) true, .test (beqb true false) false, .test (beqb true false) false, .test (beqb true false) false, .test true true, .test true true] := ⟨(beqb_ft (igt_eq h3174)), (beqb_ft (igt_eq h3174)), (beqb_ft (igt_eq h3174)), (igt_eq h3174), (beqb_ft rfl), (beqb_ft rfl), (beqb_ft rfl), rfl, rfl, trivial⟩
     exact fn_playC hn94 (r := F94_res 1) (pq3193 (pq3212 (pq3213 (pq3214 (pq3215 pz))))) (by kernel_rfl) (by kernel_rfl)
    have pq3216 : ∀ {l : List Cond}, HoldAll E H hn94 l → HoldAll E H hn94 (.test (beqb (igt a3131.Limit 40) false) true :: .test (beqb (igt a3131.Limit 40) false) true :: .test (beqb (igt a3131.Limit 40) false) true :: .test (igt a3131.Limit 40) false :: l) := fun z => ⟨(beqb_ff (igt_eq h3174)), (beqb_ff (igt_eq h3174)), (beqb_ff (igt_eq h3174)), (igt_eq h3174), z⟩
    refine cond_some hF (fun h3175 hF => ?_) (fun h3175 hF => ?_)
    ·
     obtain rfl := Option.some.inj hF
     have pz : HoldAll E H hn94 [.test (beqb (ilt a3131.Parts 1) false) false, .test (beqb (ilt a3131.Parts 1) false) false, .test (beqb (ilt a3131.Parts 1) false) false, .test (ilt a3131.Parts 1) true, .test true true] := ⟨(beqb_ft h3175), (beqb_ft h3175), (beqb_ft h3175), h3175, rfl, trivial⟩
     exact fn_playC hn94 (r := F94_res 1) (pq3193 (pq3212 (pq3213 (pq3214 (pq3215 (pq3216 pz)))))) (by kernel_rfl) (by kernel_rfl)
    have pq3217 : ∀ {l : List Cond}, HoldAll E H hn94 l → HoldAll E H hn94 (.test (beqb (ilt a3131.Parts 1) false) true :: .test (beqb (ilt a3131.Parts 1) false) true :: .test (beqb (ilt a3131.Parts 1) false) true :: .test (ilt a3131.Parts 1) false :: l) := fun z => ⟨(beqb_ff h3175), (beqb_ff h3175), (beqb_ff h3175), h3175, z⟩
    refine cond_some hF (fun h3176 hF => ?_) (fun h3176 hF => ?_)
    ·
     obtain rfl := Option.some.inj hF
     have pz : HoldAll E H hn94 [.test (igt a3131.Parts 6) true] := ⟨(igt_eq h3176), trivial⟩
     exact fn_playC hn94 (r := F94_res 1) (pq3193 (pq3212 (pq3213 (pq3214 (pq3215 (pq3216 (pq3217 pz))))))) (by kernel_rfl) (by kernel_rfl)
    obtain rfl := Option.some.inj hF
    have pz : HoldAll E H hn94 [.test (igt a3131.Parts 6) false] := ⟨(igt_eq h3176), trivial⟩
    exact fn_playC hn94 (r := F94_res 0) (pq3193 (pq3212 (pq3213 (pq3214 (pq3215 (pq3216 (pq3217 pz))))))) (by kernel_rfl) (by kernel_rfl)
   obtain rfl := Option.some.inj hF
   have pz : HoldAll E H hn94 [.call 143 [.one (.lit (.int .i64 a3131.Prog))] (F143_res3 r3143), .test (leadsAny (Res.mk [(.agg [(.im (.lit (fnV 164))), (.im (.lit (fnV 165))), (.im (.lit (.bool r3143.1.only_))), (.im (.lit (fnV 163)))]), (.one (.im (.lit (.bool r3143.2))))] [])) false, .test (beqb (bnot r3143.2) false) false, .test (beqb (bnot r3143.2) false) false, .test (beqb (bnot r3143.2) false) false, .test (bnot r3143.2) true, .test (beqb true false) false, .test (beqb true false) false, .test (beqb true false) false, .test (beqb true false) false, .test (beqb true false) false, .test true true, .test (beqb true false) false, .test (beqb true false) false, .test (beqb true false) false, .test true true, .test (beqb true false) false, .test (beqb true false) false, .test (beqb true false) false, .test true true, .test (beqb true false) false, .test (beqb true false) false, .test (beqb true false) false, .test true true, .test (beqb true false) false, .test (beqb true false) false, .test (beqb true false) false, .test true true, .test true true] := ⟨(F143_ok3 _ h3169 (F143_ok K a3131.Prog _ h3144)), (leads_ok (by simp [leadsAny, RV.leads, RC.leads, leadsT, hasSl_lit])), (beqb_ft (bnot_f h3170)), (beqb_ft (bnot_f h3170)), (beqb_ft (bnot_f h3170)), (bnot_f h3170), (beqb_ft rfl), (beqb_ft rfl), (beqb_ft rfl), (beqb_ft rfl), (beqb_ft rfl), rfl, (beqb_ft rfl), (beqb_ft rfl), (beqb_ft rfl), rfl, (beqb_ft rfl), (beqb_ft rfl), (beqb_ft rfl), rfl, (beqb_ft rfl), (beqb_ft rfl), (beqb_ft rfl), rfl, (beqb_ft rfl), (beqb_ft rfl), (beqb_ft rfl), rfl, rfl, trivial⟩
   exact fn_playC hn94 (r := F94_res 1) (pq3193 pz) (by kernel_rfl) (by kernel_rfl)
  refine cond_some hF (fun h3177 hF => ?_) (fun h3177 hF => ?_)
  ·
   refine cond_some hF (fun h3178 hF => ?_) (fun h3178 hF => ?_)
   ·
    have pq3218 : ∀ {l : List Cond}, HoldAll E H hn94 l → HoldAll E H hn94 (.call 143 [.one (.lit (.int .i64 a3131.Prog))] (F143_res4 r3143) :: .test (leadsAny (Res.mk [(.agg [(.im (.lit (fnV 166))), (.im (.lit .nilFunc)), (.im (.lit (.bool r3143.1.only_))), (.im (.lit (fnV 163)))]), (.one (.im (.lit (.bool r3143.2))))] [])) false :: .test (beqb (bnot r3143.2) false) true :: .test (beqb (bnot r3143.2) false) true :: .test (beqb (bnot r3143.2) false) true :: .test (bnot r3143.2) false :: l) := fun z => ⟨(F143_ok4 _ h3177 (F143_ok K a3131.Prog _ h3144)), (leads_ok (by simp [leadsAny, RV.leads, RC.leads, leadsT, hasSl_lit])), (beqb_ff (bnot_t h3178)), (beqb_ff (bnot_t h3178)), (beqb_ff (bnot_t h3178)), (bnot_t h3178), z⟩
    refine cond_some hF (fun h3179 hF => ?_) (fun h3179 hF => ?_)
    ·
     obtain rfl := Option.some.inj hF
     have pz : HoldAll E H hn94 [.test (beqb (ilt a3131.Source 0) false) false, .test (beqb (ilt a3131.Source 0) false) false, .test (beqb (ilt a3131.Source 0) false) false, .test (beqb (ilt a3131.Source 0) false) false, .test (beqb (ilt a3131.Source 0) false) false, .test (ilt a3131.Source 0) true, .test (beqb true false) false, .test (beqb true false) false, .test (beqb true false) false, .test true true, .test (beqb true false) false, .test (beqb true false) false, .test (beqb true false) false, .test true true, .test (beqb true false) false, .test (beqb true false) false, .test (beqb true false) false, .test true true, .test (beqb true false) false, .test (beqb true false) false, .test (beqb true false) false, .test true true, .test true true] := ⟨(beqb_ft h3179), (beqb_ft h3179), (beqb_ft h3179), (beqb_ft h3179), (beqb_ft h3179), h3179, (beqb_ft rfl), (beqb_ft rfl), (beqb_ft rfl), rfl, (beqb_ft rfl), (beqb_ft rfl), (beqb_ft rfl), rfl, (beqb_ft rfl), (beqb_ft rfl), (beqb_ft rfl), rfl, (beqb_ft rfl), (beqb_ft rfl), (beqb_ft rfl), rfl, rfl, trivial⟩
     exact fn_playC hn94 (r := F94_res 1) (pq3193 (pq3218 pz)) (by kernel_rfl) (by kernel_rfl)
    have pq3219 : ∀ {l : List Cond}, HoldAll E H hn94 l → HoldAll E H hn94 (.test (beqb (ilt a3131.Source 0) false) true :: .test (beqb (ilt a3131.Source 0) false) true :: .test (beqb (ilt a3131.Source 0) false) true :: .test (beqb (ilt a3131.Source 0) false) true :: .test (beqb (ilt a3131.Source 0) false) true :: .test (ilt a3131.Source 0) false :: l) := fun z => ⟨(beqb_ff h3179), (beqb_ff h3179), (beqb_ff h3179), (beqb_ff h3179), (beqb_ff h3179), h3179, z⟩
    refine cond_some hF (fun h3180 hF => ?_) (fun h3180 hF => ?_)
    ·
     obtain rfl := Option.some.inj hF
     have pz : HoldAll E H hn94 [.test (beqb (ige a3131.Source a3130.N) false) false, .test (beqb (ige a3131.Source a3130.N) false) false, .test (beqb (ige a3131.Source a3130.N) false) false, .test (ige a3131.Source a3130.N) true, .test (beqb true false) false, .test (beqb true false) false, .test (beqb true false) false, .test true true, .test (beqb true false) false, .test (beqb true false) false, .test (beqb true false) false, .test true true, .test (beqb true false) false, .test (beqb true false) false, .test (beqb true false) false, .test true true, .test true true] := ⟨(beqb_ft (ige_eq h3180)), (beqb_ft (ige_eq h3180)), (beqb_ft (ige_eq h3180)), (ige_eq h3180), (beqb_ft rfl), (beqb_ft rfl), (beqb_ft rfl), rfl, (beqb_ft rfl), (beqb_ft rfl), (beqb_ft rfl), rfl, (beqb_ft rfl), (beqb_ft rfl), (beqb_ft rfl), rfl, rfl, trivial⟩
     exact fn_playC hn94 (r := F94_res 1) (pq3193 (pq3218 (pq3219 pz))) (by kernel_rfl) (by kernel_rfl)
    have pq3220 : ∀ {l : List Cond}, HoldAll E H hn94 l → HoldAll E H hn94 (.test (beqb (ige a3131.Source a3130.N) false) true :: .test (beqb (ige a3131.Source a3130.N) false) true :: .test (beqb (ige a3131.Source a3130.N) false) true :: .test (ige a3131.Source a3130.N) false :: l) := fun z => ⟨(beqb_ff (ige_eq h3180)), (beqb_ff (ige_eq h3180)), (beqb_ff (ige_eq h3180)), (ige_eq h3180), z⟩
    refine cond_some hF (fun h3181 hF => ?_) (fun h3181 hF => ?_)
    ·
     obtain rfl := Option.some.inj hF
     have pz : HoldAll E H hn94 [.test (beqb (ilt a3131.Limit 0) false) false, .test (beqb (ilt a3131.Limit 0) false) false, .test (beqb (ilt a3131.Limit 0) false) false, .test (ilt a3131.Limit 0) true, .test (beqb true false) false, .test (beqb true false) false, .test (beqb true false) false, .test true true, .test (beqb true false) false, .test (beqb true false) false, .test (beqb true false) false, .test true true, .test true true] := ⟨(beqb_ft h3181), (beqb_ft h3181), (beqb_ft h3181), h3181, (beqb_ft rfl), (beqb_ft rfl), (beqb_ft rfl), rfl, (beqb_ft rfl), (beqb_ft rfl), (beqb_ft rfl), rfl, rfl, trivial⟩
     exact fn_playC hn94 (r := F94_res 1) (pq3193 (pq3218 (pq3219 (pq3220 pz)))) (by kernel_rfl) (by kernel_rfl)
    have pq3221 : ∀ {l : List Cond}, HoldAll E H hn94 l → HoldAll E H hn94 (.test (beqb (ilt a3131.Limit 0) false) true :: .test (beqb (ilt a3131.Limit 0) false) true :: .test (beqb (ilt a3131.Limit 0) false) true :: .test (ilt a3131.Limit 0) false :: l) := fun z => ⟨(beqb_ff h3181), (beqb_ff h3181), (beqb_ff h3181), h3181, z⟩
    refine cond_some hF (fun h3182 hF => ?_) (fun h3182 hF => ?_)
    ·
     obtain rfl := Option.some.inj hF
     have pz : HoldAll E H hn94 [.test (beqb (igt a3131.Limit 40) false) false, .test (beqb (igt a3131.Limit 40) false) false, .test (beqb (igt a3131.Limit 40) false) false, .test (igt a3131.Limit 40) true, .test (beqb true false) false, .test (beqb true false) false, .test (beqb true false) false, .test true true, .test true true] := ⟨(beqb_ft (igt_eq h3182)), (beqb_ft (igt_eq h3182)), (beqb_ft (igt_eq h3182)), (igt_eq h3182), (beqb_ft rfl), (beqb_ft rfl), (beqb_ft rfl), rfl, rfl, trivial⟩
     exact fn_playC hn94 (r := F94_res 1) (pq3193 (pq3218 (pq3219 (pq3220 (pq3221 pz))))) (by kernel_rfl) (by kernel_rfl)
    have pq3222 : ∀ {l : List Cond}, HoldAll E H hn94 l → HoldAll E H hn94 (.test (beqb (igt a3131.Limit 40) false) true :: .test (beqb (igt a3131.Limit 40) false) true :: .test (beqb (igt a3131.Limit 40) false) true :: .test (igt a3131.Limit 40) false :: l) := fun z => ⟨(beqb_ff (igt_eq h3182)), (beqb_ff (igt_eq h3182)), (beqb_ff (igt_eq h3182)), (igt_eq h3182), z⟩
    refine cond_some hF (fun h3183 hF => ?_) (fun h3183 hF => ?_)
    ·
     obtain rfl := Option.some.inj hF
     have pz : HoldAll E H hn94 [.test (beqb (ilt a3131.Parts 1) false) false, .test (beqb (ilt a3131.Parts 1) false) false, .test (beqb (ilt a3131.Parts 1) false) false, .test (ilt a3131.Parts 1) true, .test true true] := ⟨(beqb_ft h3183), (beqb_ft h3183), (beqb_ft h3183), h3183, rfl, trivial⟩
     exact fn_playC hn94 (r := F94_res 1) (pq3193 (pq3218 (pq3219 (pq3220 (pq3221 (pq3222 pz)))))) (by kernel_rfl) (by kernel_rfl)
    have pq3223 : ∀ {l : List Cond}, HoldAll E H hn94 l → HoldAll E H hn94 (.test (beqb (ilt a3131.Parts 1) false) true :: .test (beqb (ilt a3131.Parts 1) false) true :: .test (beqb (ilt a3131.Parts 1) false) true :: .test (ilt a3131.Parts 1) false :: l) := fun z => ⟨(beqb_ff h3183), (beqb_ff h3183), (beqb_ff h3183), h3183, z⟩
    refine cond_some hF (fun h3184 hF => ?_) (fun h3184 hF => ?_)
    ·
     obtain rfl := Option.some.inj hF
     have pz : HoldAll E H hn94 [.test (igt a3131.Parts 6) true] := ⟨(igt_eq h3184), trivial⟩
     exact fn_playC hn94 (r := F94_res 1) (pq3193 (pq3218 (pq3219 (pq3220 (pq3221 (pq3222 (pq3223 pz))))))) (by kernel_rfl) (by kernel_rfl)
    obtain rfl := Option.some.inj hF
    have pz : HoldAll E H hn94 [.test (igt a3131.Parts 6) false] := ⟨(igt_eq h3184), trivial⟩
    exact fn_playC hn94 (r := F94_res 0) (pq3193 (pq3218 (pq3219 (pq3220 (pq3221 (pq3222 (pq3223 pz))))))) (by kernel_rfl) (by kernel_rfl)
   obtain rfl := Option.some.inj hF
   have pz : HoldAll E H hn94 [.call 143 [.one (.lit (.int .i64 a3131.Prog))] (F143_res4 r3143), .test (leadsAny (Res.mk [(.agg [(.im (.lit (fnV 166))), (.im (.lit .nilFunc)), (.im (.lit (.bool r3143.1.only_))), (.im (.lit (fnV 163)))]), (.one (.im (.lit (.bool r3143.2))))] [])) false, .test (beqb (bnot r3143.2) false) false, .test (beqb (bnot r3143.2) false) false, .test (beqb (bnot r3143.2) false) false, .test (bnot r3143.2) true, .test (beqb true false) false, .test (beqb true false) false, .test (beqb true false) false, .test (beqb true false) false, .test (beqb true false) false, .test true true, .test (beqb true false) false, .test (beqb true false) false, .test (beqb true false) false, .test true true, .test (beqb true false) false, .test (beqb true false) false, .test (beqb true false) false, .test true true, .test (beqb true false) false, .test (beqb true false) false, .test (beqb true false) false, .test true true, .test (beqb true false) false, .test (beqb true false) false, .test (beqb true false) false, .test true true, .test true true] := ⟨(F143_ok4 _ h3177 (F143_ok K a3131.Prog _ h3144)), (leads_ok (by simp [leadsAny, RV.leads, RC.leads, leadsT, hasSl_lit])), (beqb_ft (bnot_f h3178)), (beqb_ft (bnot_f h3178)), (beqb_ft (bnot_f h3178)), (bnot_f h3178), (beqb_ft rfl), (beqb_ft rfl), (beqb_ft rfl), (beqb_ft rfl), (beqb_ft rfl), rfl, (beqb_ft rfl), (beqb_ft rfl), (beqb_ft rfl), rfl, (beqb_ft rfl), (beqb_ft rfl), (beqb_ft rfl), rfl, (beqb_ft rfl), (beqb_ft rfl), (beqb_ft rfl), rfl, (beqb_ft rfl), (beqb_ft rfl), (beqb_ft rfl), rfl, rfl, trivial⟩
   exact fn_playC hn94 (r := F94_res 1) (pq3193 pz) (by kernel_rfl) (by kernel_rfl)
  refine cond_some hF (fun h3185 hF => ?_) (fun _ hF => nomatch hF)
  refine cond_some hF (fun h3186 hF => ?_) (fun h3186 hF => ?_)
  ·
   have pq3224 : ∀ {l : List Cond}, HoldAll E H hn94 l → HoldAll E H hn94 (.call 143 [.one (.lit (.int .i64 a3131.Prog))] (F143_res5 r3143) :: .test (leadsAny (Res.mk [(.agg [(.im (.lit .nilFunc)), (.im (.lit .nilFunc)), (.im (.lit (.bool r3143.1.only_))), (.im (.lit .nilFunc))]), (.one (.im (.lit (.bool r3143.2))))] [])) false :: .test (beqb (bnot r3143.2) false) true :: .test (beqb (bnot r3143.2) false) true :: .test (beqb (bnot r3143.2) false) true :: .test (bnot r3143.2) false :: l) := fun z => ⟨(F143_ok5 _ h3185 (F143_ok K a3131.Prog _ h3144)), (leads_ok (by simp [leadsAny, RV.leads, RC.leads, leadsT, hasSl_lit])), (beqb_ff (bnot_t h3186)), (beqb_ff (bnot_t h3186)), (beqb_ff (bnot_t h3186)), (bnot_t h3186), z⟩
   refine cond_some hF (fun h3187 hF => ?_) (fun h3187 hF => ?_)
   ·
    obtain rfl := Option.some.inj hF
    have pz : HoldAll E H hn94 [.test (beqb (ilt a3131.Source 0) false) false, .test (beqb (ilt a3131.Source 0) false) false, .test (beqb (ilt a3131.Source 0) false) false, .test (beqb (ilt a3131.Source 0) false) false, .test (beqb (ilt a3131.Source 0) false) false, .test (ilt a3131.Source 0) true, .test (beqb true false) false, .test (beqb true false) false, .test (beqb true false) false, .test true true, .test (beqb true false) false, .test (beqb true false) false, .test (beqb true false) false, .test true true, .test (beqb true false) false, .test (beqb true false) false, .test (beqb true false) false, .test true true, .test (beqb true false) false, .test (beqb true false) false, .test (beqb true false) false, .test true true, .test true true] := ⟨(beqb_ft h3187), (beqb_ft h3187), (beqb_ft h3187), (beqb_ft h3187), (beqb_ft h3187), h3187, (beqb_ft rfl), (beqb_ft rfl), (beqb_ft rfl), rfl, (beqb_ft rfl), (beqb_ft rfl), (beqb_ft rfl), rfl, (beqb_ft rfl), (beqb_ft rfl), (beqb_ft rfl), rfl, (beqb_ft rfl), (beqb_ft rfl), (beqb_ft rfl), rfl, rfl, trivial⟩
    exact fn_playC hn94 (r := F94_res 1) (pq3193 (pq3224 pz)) (by kernel_rfl) (by kernel_rfl)
   have pq3225 : ∀ {l : List Cond}, HoldAll E H hn94 l → HoldAll E H hn94 (.test (beqb (ilt a3131.Source 0) false) true :: .test (beqb (ilt a3131.Source 0) false) true :: .test (beqb (ilt a3131.Source 0) false) true :: .test (beqb (ilt a3131.Source 0) false) true :: .test (beqb (ilt a3131.Source 0) false) true :: .test (ilt a3131.Source 0) false :: l) := fun z => ⟨(beqb_ff h3187), (beqb_ff h3187), (beqb_ff h3187), (beqb_ff h3187), (beqb_ff h3187), h3187, z⟩
   refine cond_some hF (fun h3188 hF => ?_) (fun h3188 hF => ?_)
   ·
    obtain rfl := Option.some.inj hF
    have pz : HoldAll E H hn94 [.test (beqb (ige a3131.Source a3130.N) false) false, .test (beqb (ige a3131.Source a3130.N) false) false, .test (beqb (ige a3131.Source a3130.N) false) false, .test (ige a3131.Source a3130.N) true, .test (beqb true false) false, .test (beqb true false) false, .test (beqb true false) false, .test true true, .test (beqb true false) false, .test (beqb true false) false, .test (beqb true false) false, .test true true, .test (beqb true false) false, .test (beqb true false) false, .test (beqb true false) false, .test true true, .test true true] := ⟨(beqb_ft (ige_eq h3188)), (beqb_ft (ige_eq h3188)), (beqb_ft (ige_eq h3188)), (ige_eq h3188), (beqb_ft rfl), (beqb_ft rfl), (beqb_ft rfl), rfl, (beqb_ft rfl), (beqb_ft rfl), (beqb_ft rfl), rfl, (beqb_ft rfl), (beqb_ft rfl), (beqb_ft rfl), rfl, rfl, trivial⟩
    exact fn_playC hn94 (r := F94_res 1) (pq3193 (pq3224 (pq3225 pz))) (by kernel_rfl) (by kernel_rfl)
   have pq3226 : ∀ {l : List Cond}, HoldAll E H hn94 l → HoldAll E H hn94 (.test (beqb (ige a3131.Source a3130.N) false) true :: .test (beqb (ige a3131.Source a3130.N) false) true :: .test (beqb (ige a3131.Source a3130.N) false) true :: .test (ige a3131.Source a3130.N) false :: l) := fun z => ⟨(beqb_ff (ige_eq h3188)), (beqb_ff (ige_eq h3188)), (beqb_ff (ige_eq h3188)), (ige_eq h3188), z⟩
   refine cond_some hF (fun h3189 hF => ?_) (fun h3189 hF => ?_)
   ·
    obtain rfl := Option.some.inj hF
    have pz : HoldAll E H hn94 [.test (beqb (ilt a3131.Limit 0) false) false, .test (beqb (ilt a3131.Limit 0) false) false, .test (beqb (ilt a3131.Limit 0) false) false, .test (ilt a3131.Limit 0) true, .test (beqb true false) false, .test (beqb true false) false, .test (beqb true false) false, .test true true, .test (beqb true false) false, .test (beqb true false) false, .test (beqb true false) false, .test true true, .test true true] := ⟨(beqb_ft h3189), (beqb_ft h3189), (beqb_ft h3189), h3189, (beqb_ft rfl), (beqb_ft rfl), (beqb_ft rfl), rfl, (beqb_ft rfl), (beqb_ft rfl), (beqb_ft rfl), rfl, rfl, trivial⟩
    exact fn_playC hn94 (r := F94_res 1) (pq3193 (pq3224 (pq3225 (pq3226 pz)))) (by kernel_rfl) (by kernel_rfl)
   have pq3227 : ∀ {l : List Cond}, HoldAll E H hn94 l → HoldAll E H hn94 (.test (beqb (ilt a3131.Limit 0) false) true :: .test (beqb (ilt a3131.Limit 0) false) true :: .test (beqb (ilt a3131.Limit 0) false) true :: .test (ilt a3131.Limit 0) false :: l) := fun z => ⟨(beqb_ff h3189), (beqb_ff h3189), (beqb_ff h3189), h3189, z⟩
   refine cond_some hF (fun h3190 hF => ?_) (fun h3190 hF => ?_)
   ·
    obtain rfl := Option.some.inj hF
    have pz : HoldAll E H hn94 [.test (beqb (igt a3131.Limit 40) false) false, .test (beqb (igt a3131.Limit 40) false) false, .test (beqb (igt a3131.Limit 40) false) false, .test (igt a3131.Limit 40) true, .test (beqb true false) false, .test (beqb true false) false, .test (beqb true false) false, .test true true, .test true true] := ⟨(beqb_ft (igt_eq h3190)), (beqb_ft (igt_eq h3190)), (beqb_ft (igt_eq h3190)), (igt_eq h3190), (beqb_ft rfl), (beqb_ft rfl), (beqb_ft rfl), rfl, rfl, trivial⟩
    exact fn_playC hn94 (r := F94_res 1) (pq3193 (pq3224 (pq3225 (pq3226 (pq3227 pz))))) (by kernel_rfl) (by kernel_rfl)
   have pq3228 : ∀ {l : List Cond}, HoldAll E H hn94 l → HoldAll E H hn94 (.test (beqb (igt a3131.Limit 40) false) true :: .test (beqb (igt a3131.Limit 40) false) true :: .test (beqb (igt a3131.Limit 40) false) true :: .test (igt a3131.Limit 40) false :: l) := fun z => ⟨(beqb_ff (igt_eq h3190)), (beqb_ff (igt_eq h3190)), (beqb_ff (igt_eq h3190)), (igt_eq h3190), z⟩
   refine cond_some hF (fun h3191 hF => ?_) (fun h3191 hF => ?_)
   ·
    obtain rfl := Option.some.inj hF
    have pz : HoldAll E H hn94 [.test (beqb (ilt a3131.Parts 1) false) false, .test (beqb (ilt a3131.Parts 1) false) false, .test (beqb (ilt a3131.Parts 1) false) false, .test (ilt a3131.Parts 1) true, .test true true] := ⟨(beqb_ft h3191), (beqb_ft h3191), (beqb_ft h3191), h3191, rfl, trivial⟩
    exact fn_playC hn94 (r := F94_res 1) (pq3193 (pq3224 (pq3225 (pq3226 (pq3227 (pq3228 pz)))))) (by kernel_rfl) (by kernel_rfl)
   have pq3229 : ∀ {l : List Cond}, HoldAll E H hn94 l → HoldAll E H hn94 (.test (beqb (ilt a3131.Parts 1) false) true :: .test (beqb (ilt a3131.Parts 1) false) true :: .test (beqb (ilt a3131.Parts 1) false) true :: .test (ilt a3131.Parts 1) false :: l) := fun z => ⟨(beqb_ff h3191), (beqb_ff h3191), (beqb_ff h3191), h3191, z⟩
   refine cond_some hF (fun h3192 hF => ?_) (fun h3192 hF => ?_)
   ·
    obtain rfl := Option.some.inj hF
    have pz : HoldAll E H hn94 [.test (igt a3131.Parts 6) true] := ⟨(igt_eq h3192), trivial⟩
    exact fn_playC hn94 (r := F94_res 1) (pq3193 (pq3224 (pq3225 (pq3226 (pq3227 (pq3228 (pq3229 pz))))))) (by kernel_rfl) (by kernel_rfl)
   obtain rfl := Option.some.inj hF
   have pz : HoldAll E H hn94 [.test (igt a3131.Parts 6) false] := ⟨(igt_eq h3192), trivial⟩
   exact fn_playC hn94 (r := F94_res 0) (pq3193 (pq3224 (pq3225 (pq3226 (pq3227 (pq3228 (pq3229 pz))))))) (by kernel_rfl) (by kernel_rfl)
  obtain rfl := Option.some.inj hF
  have pz : HoldAll E H hn94 [.call 143 [.one (.lit (.int .i64 a3131.Prog))] (F143_res5 r3143), .test (leadsAny (Res.mk [(.agg [(.im (.lit .nilFunc)), (.im (.lit .nilFunc)), (.im (.lit (.bool r3143.1.only_))), (.im (.lit .nilFunc))]), (.one (.im (.lit (.bool r3143.2))))] [])) false, .test (beqb (bnot r3143.2) false) false, .test (beqb (bnot r3143.2) false) false, .test (beqb (bnot r3143.2) false) false, .test (bnot r3143.2) true, .test (beqb true false) false, .test (beqb true false) false, .test (beqb true false) false, .test (beqb true false) false, .test (beqb true false) false, .test true true, .test (beqb true false) false, .test (beqb true false) false, .test (beqb true false) false, .test true true, .test (beqb true false) false, .test (beqb true false) false, .test (beqb true false) false, .test true true, .test (beqb true false) false, .test (beqb true false) false, .test (beqb true false) false, .test true true, .test (beqb true false) false, .test (beqb true false) false, .test (beqb true false) false, .test true true, .test true true] := ⟨(F143_ok5 _ h3185 (F143_ok K a3131.Prog _ h3144)), (leads_ok (by simp [leadsAny, RV.leads, RC.leads, leadsT, hasSl_lit])), (beqb_ft (bnot_f h3186)), (beqb_ft (bnot_f h3186)), (beqb_ft (bnot_f h3186)), (bnot_f h3186), (beqb_ft rfl), (beqb_ft rfl), (beqb_ft rfl), (beqb_ft rfl), (beqb_ft rfl), rfl, (beqb_ft rfl), (beqb_ft rfl), (beqb_ft rfl), rfl, (beqb_ft rfl), (beqb_ft rfl), (beqb_ft rfl), rfl, (beqb_ft rfl), (beqb_ft rfl), (beqb_ft rfl), rfl, (beqb_ft rfl), (beqb_ft rfl), (beqb_ft rfl), rfl, rfl, trivial⟩
  exact fn_playC hn94 (r := F94_res 1) (pq3193 pz) (by kernel_rfl) (by kernel_rfl)
 obtain rfl := Option.some.inj hF
 have pz : HoldAll E H hn94 [.call 64 [.agg (eGGraph a3130)] (F64_res r3132), .test (leadsAny (Res.mk [(.one (.im (.lit (.int .i64 r3132))))] [])) false, .test (ine r3132 0) true] := ⟨(F64_ok K a3130 _ h3133), (leads_ok (by simp [leadsAny, RV.leads, RC.leads, leadsT, hasSl_lit])), (ine_f h3134), trivial⟩
 exact fn_playC hn94 (r := F94_res r3132) pz (by kernel_rfl) (by kernel_rfl)
theorem af_1_1 : areFns [(fnV 158), (fnV 159), (fnV 160)] [158, 159, 160] = true := rfl
theorem af_1_3 : areFns [(fnV 158), (fnV 159), (fnV 160)] [158, 159, 161] = false := rfl
theorem af_1_2 : areFns [(fnV 158), (fnV 159), (fnV 160)] [162, 159, 163] = false := rfl
theorem af_1_4 : areFns [(fnV 158), (fnV 159), (fnV 160)] [164, 165, 163] = false := rfl
theorem af_1_5 : areFns [(fnV 158), (fnV 159), (fnV 160)] [166, 0, 163] = false := rfl
theorem af_1_0 : areFns [(fnV 158), (fnV 159), (fnV 160)] [0, 0, 0] = false := rfl
theorem af_3_1 : areFns [(fnV 158), (fnV 159), (fnV 161)] [158, 159, 160] = false := rfl
theorem af_3_3 : areFns [(fnV 158), (fnV 159), (fnV 161)] [158, 159, 161] = true := rfl
theorem af_3_2 : areFns [(fnV 158), (fnV 159), (fnV 161)] [162, 159, 163] = false := rfl
theorem af_3_4 : areFns [(fnV 158), (fnV 159), (fnV 161)] [164, 165, 163] = false := rfl
theorem af_3_5 : areFns [(fnV 158), (fnV 159), (fnV 161)] [166, 0, 163] = false := rfl
theorem af_3_0 : areFns [(fnV 158), (fnV 159), (fnV 161)] [0, 0, 0] = false := rfl
theorem af_2_1 : areFns [(fnV 162), (fnV 159), (fnV 163)] [158, 159, 160] = false := rfl
theorem af_2_3 : areFns [(fnV 162), (fnV 159), (fnV 163)] [158, 159, 161] = false := rfl
theorem af_2_2 : areFns [(fnV 162), (fnV 159), (fnV 163)] [162, 159, 163] = true := rfl
theorem af_2_4 : areFns [(fnV 162), (fnV 159), (fnV 163)] [164, 165, 163] = false := rfl
theorem af_2_5 : areFns [(fnV 162), (fnV 159), (fnV 163)] [166, 0, 163] = false := rfl
theorem af_2_0 : areFns [(fnV 162), (fnV 159), (fnV 163)] [0, 0, 0] = false := rfl
theorem af_4_1 : areFns [(fnV 164), (fnV 165), (fnV 163)] [158, 159, 160] = false := rfl
theorem af_4_3 : areFns [(fnV 164), (fnV 165), (fnV 163)] [158, 159, 161] = false := rfl
theorem af_4_2 : areFns [(fnV 164), (fnV 165), (fnV 163)] [162, 159, 163] = false := rfl
theorem af_4_4 : areFns [(fnV 164), (fnV 165), (fnV 163)] [164, 165, 163] = true := rfl
theorem af_4_5 : areFns [(fnV 164), (fnV 165), (fnV 163)] [166, 0, 163] = false := rfl
theorem af_4_0 : areFns [(fnV 164), (fnV 165), (fnV 163)] [0, 0, 0] = false := rfl
theorem af_5_1 : areFns [(fnV 166), .nilFunc, (fnV 163)] [158, 159, 160] = false := rfl
theorem af_5_3 : areFns [(fnV 166), .nilFunc, (fnV 163)] [158, 159, 161] = false := rfl
theorem af_5_2 : areFns [(fnV 166), .nilFunc, (fnV 163)] [162, 159, 163] = false := rfl
theorem af_5_4 : areFns [(fnV 166), .nilFunc, (fnV 163)] [164, 165, 163] = false := rfl
theorem af_5_5 : areFns [(fnV 166), .nilFunc, (fnV 163)] [166, 0, 163] = true := rfl
theorem af_5_0 : areFns [(fnV 166), .nilFunc, (fnV 163)] [0, 0, 0] = false := rfl
theorem af_0_1 : areFns [.nilFunc, .nilFunc, .nilFunc] [158, 159, 160] = false := rfl
theorem af_0_3 : areFns [.nilFunc, .nilFunc, .nilFunc] [158, 159, 161] = false := rfl
theorem af_0_2 : areFns [.nilFunc, .nilFunc, .nilFunc] [162, 159, 163] = false := rfl
theorem af_0_4 : areFns [.nilFunc, .nilFunc, .nilFunc] [164, 165, 163] = false := rfl
theorem af_0_5 : areFns [.nilFunc, .nilFunc, .nilFunc] [166, 0, 163] = false := rfl
theorem af_0_0 : areFns [.nilFunc, .nilFunc, .nilFunc] [0, 0, 0] = true := rfl
theorem F143_1 (K : Nat) : F143 K 1 = some (Grule.mk (fnV 158) (fnV 159) true (fnV 160), true) := rfl
theorem F143_2 (K : Nat) : F143 K 2 = some (Grule.mk (fnV 162) (fnV 159) false (fnV 163), true) := rfl
theorem F143_3 (K : Nat) : F143 K 3 = some (Grule.mk (fnV 158) (fnV 159) true (fnV 161), true) := rfl
theorem F143_4 (K : Nat) : F143 K 4 = some (Grule.mk (fnV 164) (fnV 165) false (fnV 163), true) := rfl
theorem F143_5 (K : Nat) : F143 K 5 = some (Grule.mk (fnV 166) .nilFunc false (fnV 163), true) := rfl
theorem F143_0 (K : Nat) {p : Int} (h : p < 1 ∨ 5 < p) : F143 K p = some (Grule.mk .nilFunc .nilFunc false .nilFunc, false) := by
 rw [F143, ieq_f.2 (by omega : p ≠ 1), ieq_f.2 (by omega : p ≠ 3), ieq_f.2 (by omega : p ≠ 2), ieq_f.2 (by omega : p ≠ 4), ieq_f.2 (by omega : p ≠ 5)]; rfl
theorem prog_cases (p : Int) : p = 1 ∨ p = 2 ∨ p = 3 ∨ p = 4 ∨ p = 5 ∨ (p < 1 ∨ 5 < p) := by omega
def jbad (n : Int) (j : GJob) : Bool := ilt j.Source 0 || (ile n j.Source || (ilt j.Limit 0 || (ilt 40 j.Limit || (ilt j.Parts 1 || ilt 6 j.Parts))))
def pbad (p : Int) : Bool := ilt p 1 || ilt 5 p
def jcheck (g : GGraph) (j : GJob) : Int := bif ieq (gcheck g) 0 then (bif pbad j.Prog || jbad g.N j then 1 else 0) else gcheck g
theorem jtail (n : Int) (j : GJob) : (bif (ilt j.Source 0) then (some 1) else bif (ile n j.Source) then (some 1) else bif (ilt j.Limit 0) then (some 1) else bif (ilt 40 j.Limit) then (some 1) else bif (ilt j.Parts 1) then (some 1) else bif (ilt 6 j.Parts) then (some 1) else some 0) = some (bif jbad n j then 1 else 0 : Int) := by
 unfold jbad
 cases ilt j.Source 0 <;> cases ile n j.Source <;> cases ilt j.Limit 0 <;> cases ilt 40 j.Limit <;> cases ilt j.Parts 1 <;> cases ilt 6 j.Parts <;> rfl
theorem F59_spec {K : Nat} (hK : 100 ≤ K) (g : GGraph) (j : GJob) : F59 K g j = some (jcheck g j) := by
 rw [F59, F65_spec hK, Option.bind_some, jcheck]
 cases ieq (gcheck g) 0
 · rfl
 · rw [cond_true, cond_true, jtail, pbad]
   cases ilt j.Prog 1 <;> cases ilt 5 j.Prog <;> rfl
theorem F94_spec {K : Nat} (hK : 100 ≤ K) (g : GGraph) (j : GJob) : F94 K g j = some (jcheck g j) := by
 rw [F94, F64_spec hK, Option.bind_some, jcheck]
 cases ieq (gcheck g) 0
 · rfl
 · rw [cond_true, cond_true]
   rcases prog_cases j.Prog with h | h | h | h | h | h
   · have hb : pbad j.Prog = false := by rw [h]; rfl
     rw [hb, Bool.false_or, h, F143_1]
     simp only [Option.bind_some, cond_true, cond_false, af_1_1, af_1_3, af_1_2, af_1_4, af_1_5, af_1_0, af_3_1, af_3_3, af_3_2, af_3_4, af_3_5, af_3_0, af_2_1, af_2_3, af_2_2, af_2_4, af_2_5, af_2_0, af_4_1, af_4_3, af_4_2, af_4_4, af_4_5, af_4_0, af_5_1, af_5_3, af_5_2, af_5_4, af_5_5, af_5_0, af_0_1, af_0_3, af_0_2, af_0_4, af_0_5, af_0_0, jtail]
   · have hb : pbad j.Prog = false := by rw [h]; rfl
     rw [hb, Bool.false_or, h, F143_2]
     simp only [Option.bind_some, cond_true, cond_false, af_1_1, af_1_3, af_1_2, af_1_4, af_1_5, af_1_0, af_3_1, af_3_3, af_3_2, af_3_4, af_3_5, af_3_0, af_2_1, af_2_3, af_2_2, af_2_4, af_2_5, af_2_0, af_4_1, af_4_3, af_4_2, af_4_4, af_4_5, af_4_0, af_5_1, af_5_3, af_5_2, af_5_4, af_5_5, af_5_0, af_0_1, af_0_3, af_0_2, af_0_4, af_0_5, af_0_0, jtail]
   · have hb : pbad j.Prog = false := by rw [h]; rfl
     rw [hb, Bool.false_or, h, F143_3]
     simp only [Option.bind_some, cond_true, cond_false, af_1_1, af_1_3, af_1_2, af_1_4, af_1_5, af_1_0, af_3_1, af_3_3, af_3_2, af_3_4, af_3_5, af_3_0, af_2_1, af_2_3, af_2_2, af_2_4, af_2_5, af_2_0, af_4_1, af_4_3, af_4_2, af_4_4, af_4_5, af_4_0, af_5_1, af_5_3, af_5_2, af_5_4, af_5_5, af_5_0, af_0_1, af_0_3, af_0_2, af_0_4, af_0_5, af_0_0, jtail]
   · have hb : pbad j.Prog = false := by rw [h]; rfl
     rw [hb, Bool.false_or, h, F143_4]
     simp only [Option.bind_some, cond_true, cond_false, af_1_1, af_1_3, af_1_2, af_1_4, af_1_5, af_1_0, af_3_1, af_3_3, af_3_2, af_3_4, af_3_5, af_3_0, af_2_1, af_2_3, af_2_2, af_2_4, af_2_5, af_2_0, af_4_1, af_4_3, af_4_2, af_4_4, af_4_5, af_4_0, af_5_1, af_5_3, af_5_2, af_5_4, af_5_5, af_5_0, af_0_1, af_0_3, af_0_2, af_0_4, af_0_5, af_0_0, jtail]
   · have hb : pbad j.Prog = false := by rw [h]; rfl
     rw [hb, Bool.false_or, h, F143_5]
     simp only [Option.bind_some, cond_true, cond_false, af_1_1, af_1_3, af_1_2, af_1_4, af_1_5, af_1_0, af_3_1, af_3_3, af_3_2, af_3_4, af_3_5, af_3_0, af_2_1, af_2_3, af_2_2, af_2_4, af_2_5, af_2_0, af_4_1, af_4_3, af_4_2, af_4_4, af_4_5, af_4_0, af_5_1, af_5_3, af_5_2, af_5_4, af_5_5, af_5_0, af_0_1, af_0_3, af_0_2, af_0_4, af_0_5, af_0_0, jtail]
   · have hb : pbad j.Prog = true := by
       unfold pbad
       rcases h with h | h
       · rw [ilt_iff.2 h]; rfl
       · rw [ilt_iff.2 h, Bool.or_true]
     rw [hb, Bool.true_or, F143_0 K h]
     simp only [Option.bind_some, cond_true, cond_false, af_1_1, af_1_3, af_1_2, af_1_4, af_1_5, af_1_0, af_3_1, af_3_3, af_3_2, af_3_4, af_3_5, af_3_0, af_2_1, af_2_3, af_2_2, af_2_4, af_2_5, af_2_0, af_4_1, af_4_3, af_4_2, af_4_4, af_4_5, af_4_0, af_5_1, af_5_3, af_5_2, af_5_4, af_5_5, af_5_0, af_0_1, af_0_3, af_0_2, af_0_4, af_0_5, af_0_0]
theorem jcheck_ok {g : GGraph} {j : GJob} (h : ieq (jcheck g j) 0 = true) : ieq (gcheck g) 0 = true ∧ 1 ≤ j.Prog ∧ j.Prog ≤ 5 ∧ 0 ≤ j.Source ∧ j.Source < g.N ∧ 0 ≤ j.Limit ∧ j.Limit ≤ 40 ∧ 1 ≤ j.Parts ∧ j.Parts ≤ 6 := by
 rw [jcheck] at h
 cases hg : ieq (gcheck g) 0
 · rw [hg, cond_false] at h; rw [h] at hg; cases hg
 · rw [hg, cond_true] at h
   cases hb : pbad j.Prog || jbad g.N j
   · simp only [pbad, jbad, Bool.or_eq_false_iff, ilt_f, ile_f] at hb
     obtain ⟨⟨h1, h2⟩, h3, h4, h5, h6, h7, h8⟩ := hb
     exact ⟨rfl, h1, h2, h3, h4, h5, h6, h7, h8⟩
   · rw [hb] at h; cases h
noncomputable def hn159 : Hint := { H 159 with nt := 8, prot := 0 }
def F159_res (r4157 : Bool) : Res := ⟨[(.one (.im (.lit (.bool r4157))))], []⟩
def F159 (K : Nat) (a4155 : Int) (a4156 : Int) : Option (Bool) :=
 some (ilt a4155 a4156)
theorem F159_ok (K : Nat) (a4155 : Int) (a4156 : Int) (r : Bool) (hF : F159 K a4155 a4156 = some r) : Evt E H 159 [.one (.lit (.int .i64 a4155)), .one (.lit (.int .i64 a4156))] (F159_res r) := by
 rw [F159] at hF
 obtain rfl := Option.some.inj hF
 have pz : HoldAll E H hn159 [] := trivial
 exact fn_playC hn159 (r := F159_res (ilt a4155 a4156)) pz (by kernel_rfl) (by kernel_rfl)
noncomputable def hn165 : Hint := { H 165 with nt := 8, prot := 0 }
def F165_res (r4175 : Bool) : Res := ⟨[(.one (.im (.lit (.bool r4175))))], []⟩
def F165 (K : Nat) (a4173 : Int) (a4174 : Int) : Option (Bool) :=
 some (igt a4173 a4174)
theorem F165_ok (K : Nat) (a4173 : Int) (a4174 : Int) (r : Bool) (hF : F165 K a4173 a4174 = some r) : Evt E H 165 [.one (.lit (.int .i64 a4173)), .one (.lit (.int .i64 a4174))] (F165_res r) := by
 rw [F165] at hF
 obtain rfl := Option.some.inj hF
 have pz : HoldAll E H hn165 [] := trivial
 exact fn_playC hn165 (r := F165_res (igt a4173 a4174)) pz (by kernel_rfl) (by kernel_rfl)
noncomputable def hn144 : Hint := { H 144 with nt := 23, prot := 0 }
def F144_res (r4186 : Int × Bool) : Res := ⟨[(.one (.im (.lit (.int .i64 r4186.1)))), (.one (.im (.lit (.bool r4186.2))))], []⟩
def F144 (K : Nat) (a4181 : Int) (a4182 : Int) : Option (Int × Bool) :=
 bif (beqb (ige a4181 0) (ige a4182 0)) then
  (bif (beqb (ige (wadd .i64 a4181 a4182) 0) (ige a4181 0)) then
   (some ((wadd .i64 a4181 a4182), true))
  else
  some (0, false))
 else
 some ((wadd .i64 a4181 a4182), true)
theorem F144_ok (K : Nat) (a4181 : Int) (a4182 : Int) (r : Int × Bool) (hF : F144 K a4181 a4182 = some r) : Evt E H 144 [.one (.lit (.int .i64 a4181)), .one (.lit (.int .i64 a4182))] (F144_res r) := by
 rw [F144] at hF
 refine cond_some hF (fun h4183 hF => ?_) (fun h4183 hF => ?_)
 ·
  have pq4185 : ∀ {l : List Cond}, HoldAll E H hn144 l → HoldAll E H hn144 (.int (wadd .i64 a4181 a4182) (wadd .i64 a4181 a4182) :: .test (beqb (beqb (ige a4181 0) (ige a4182 0)) true) true :: .test (beqb (beqb (ige a4181 0) (ige a4182 0)) true) true :: .test (beqb (beqb (ige a4181 0) (ige a4182 0)) true) true :: .test (beqb (beqb (ige a4181 0) (ige a4182 0)) true) true :: .test (beqb (beqb (ige a4181 0) (ige a4182 0)) true) true :: .test (beqb (ige a4181 0) (ige a4182 0)) true :: l) := fun z => ⟨rfl, (beqb_t h4183), (beqb_t h4183), (beqb_t h4183), (beqb_t h4183), (beqb_t h4183), h4183, z⟩
  refine cond_some hF (fun h4184 hF => ?_) (fun h4184 hF => ?_)
  ·
   obtain rfl := Option.some.inj hF
   have pz : HoldAll E H hn144 [.test (bnot (beqb (ige (wadd .i64 a4181 a4182) 0) (ige a4181 0))) false] := ⟨(bnot_t h4184), trivial⟩
   exact fn_playC hn144 (r := F144_res ((wadd .i64 a4181 a4182), true)) (pq4185 pz) (by kernel_rfl) (by kernel_rfl)
  obtain rfl := Option.some.inj hF
  have pz : HoldAll E H hn144 [.test (bnot (beqb (ige (wadd .i64 a4181 a4182) 0) (ige a4181 0))) true] := ⟨(bnot_f h4184), trivial⟩
  exact fn_playC hn144 (r := F144_res (0, false)) (pq4185 pz) (by kernel_rfl) (by kernel_rfl)
 obtain rfl := Option.some.inj hF
 have pz : HoldAll E H hn144 [.int (wadd .i64 a4181 a4182) (wadd .i64 a4181 a4182), .test (beqb (beqb (ige a4181 0) (ige a4182 0)) true) false, .test (beqb (beqb (ige a4181 0) (ige a4182 0)) true) false, .test (beqb (beqb (ige a4181 0) (ige a4182 0)) true) false, .test (beqb (beqb (ige a4181 0) (ige a4182 0)) true) false, .test (beqb (beqb (ige a4181 0) (ige a4182 0)) true) false, .test (beqb (ige a4181 0) (ige a4182 0)) false, .test false false] := ⟨rfl, (beqb_t h4183), (beqb_t h4183), (beqb_t h4183), (beqb_t h4183), (beqb_t h4183), h4183, rfl, trivial⟩
 exact fn_playC hn144 (r := F144_res ((wadd .i64 a4181 a4182), true)) pz (by kernel_rfl) (by kernel_rfl)
noncomputable def hn97 : Hint := { H 97 with nt := 41, prot := 0 }
def F97_res (r4201 : Int × Int) : Res := ⟨[(.one (.im (.lit (.int .i64 r4201.1)))), (.one (.im (.lit (.int .i64 r4201.2))))], []⟩
def F97 (K : Nat) (a4148 : Int) (a4149 : Int) (a4150 : Int) : Option (Int × Int) :=
 (F143 K a4148).bind fun r4151 =>
 bif (areFns [r4151.1.start_, r4151.1.better_, r4151.1.send_] [158, 159, 160]) then
  (bif r4151.2 then
   ((F159 K a4150 a4149).bind fun r4158 =>
   bif r4158 then
    (some (a4150, 0))
   else
   some (a4149, 0))
  else
  some (0, 1))
 else
 bif (areFns [r4151.1.start_, r4151.1.better_, r4151.1.send_] [158, 159, 161]) then
  (bif r4151.2 then
   ((F159 K a4150 a4149).bind fun r4163 =>
   bif r4163 then
    (some (a4150, 0))
   else
   some (a4149, 0))
  else
  some (0, 1))
 else
 bif (areFns [r4151.1.start_, r4151.1.better_, r4151.1.send_] [162, 159, 163]) then
  (bif r4151.2 then
   ((F159 K a4150 a4149).bind fun r4168 =>
   bif r4168 then
    (some (a4150, 0))
   else
   some (a4149, 0))
  else
  some (0, 1))
 else
 bif (areFns [r4151.1.start_, r4151.1.better_, r4151.1.send_] [164, 165, 163]) then
  (bif r4151.2 then
   ((F165 K a4150 a4149).bind fun r4176 =>
   bif r4176 then
    (some (a4150, 0))
   else
   some (a4149, 0))
  else
  some (0, 1))
 else
 bif (areFns [r4151.1.start_, r4151.1.better_, r4151.1.send_] [166, 0, 163]) then
  (bif r4151.2 then
   ((F144 K a4149 a4150).bind fun r4187 =>
   bif r4187.2 then
    (some (r4187.1, 0))
   else
   some (0, 8))
  else
  some (0, 1))
 else
 bif (areFns [r4151.1.start_, r4151.1.better_, r4151.1.send_] [0, 0, 0]) then
 bif r4151.2 then
  ((F144 K a4149 a4150).bind fun r4192 =>
  bif r4192.2 then
   (some (r4192.1, 0))
  else
  some (0, 8))
 else
 some (0, 1)
 else none
theorem F97_ok (K : Nat) (a4148 : Int) (a4149 : Int) (a4150 : Int) (r : Int × Int) (hF : F97 K a4148 a4149 a4150 = some r) : Evt E H 97 [.one (.lit (.int .i64 a4148)), .one (.lit (.int .i64 a4149)), .one (.lit (.int .i64 a4150))] (F97_res r) := by
 rw [F97] at hF
 refine bind_some hF (fun r4151 h4152 hF => ?_)
 refine cond_some hF (fun h4153 hF => ?_) (fun h4153 hF => ?_)
 ·
  refine cond_some hF (fun h4154 hF => ?_) (fun h4154 hF => ?_)
  ·
   refine bind_some hF (fun r4158 h4159 hF => ?_)
   have pq4195 : ∀ {l : List Cond}, HoldAll E H hn97 l → HoldAll E H hn97 (.call 143 [.one (.lit (.int .i64 a4148))] (F143_res0 r4151) :: .test (leadsAny (Res.mk [(.agg [(.im (.lit (fnV 158))), (.im (.lit (fnV 159))), (.im (.lit (.bool r4151.1.only_))), (.im (.lit (fnV 160)))]), (.one (.im (.lit (.bool r4151.2))))] [])) false :: .test (bnot r4151.2) false :: .test false false :: .call 159 [.one (.lit (.int .i64 a4150)), .one (.lit (.int .i64 a4149))] (F159_res r4158) :: .test (leadsAny (Res.mk [(.one (.im (.lit (.bool r4158))))] [])) false :: l) := fun z => ⟨(F143_ok0 _ h4153 (F143_ok K a4148 _ h4152)), (leads_ok (by simp [leadsAny, RV.leads, RC.leads, leadsT, hasSl_lit])), (bnot_t h4154), rfl, (F159_ok K a4150 a4149 _ h4159), (leads_ok (by simp [leadsAny, RV.leads, RC.leads, leadsT, hasSl_lit])), z⟩
   refine cond_some hF (fun h4160 hF => ?_) (fun h4160 hF => ?_)
   ·
    obtain rfl := Option.some.inj hF
    have pz : HoldAll E H hn97 [.test r4158 true] := ⟨h4160, trivial⟩
    exact fn_playC hn97 (r := F97_res (a4150, 0)) (pq4195 pz) (by kernel_rfl) (by kernel_rfl)
   obtain rfl := Option.some.inj hF
   have pz : HoldAll E H hn97 [.test r4158 false] := ⟨h4160, trivial⟩
   exact fn_playC hn97 (r := F97_res (a4149, 0)) (pq4195 pz) (by kernel_rfl) (by kernel_rfl)
  obtain rfl := Option.some.inj hF
  have pz : HoldAll E H hn97 [.call 143 [.one (.lit (.int .i64 a4148))] (F143_res0 r4151), .test (leadsAny (Res.mk [(.agg [(.im (.lit (fnV 158))), (.im (.lit (fnV 159))), (.im (.lit (.bool r4151.1.only_))), (.im (.lit (fnV 160)))]), (.one (.im (.lit (.bool r4151.2))))] [])) false, .test (bnot r4151.2) true] := ⟨(F143_ok0 _ h4153 (F143_ok K a4148 _ h4152)), (leads_ok (by simp [leadsAny, RV.leads, RC.leads, leadsT, hasSl_lit])), (bnot_f h4154), trivial⟩
  exact fn_playC hn97 (r := F97_res (0, 1)) pz (by kernel_rfl) (by kernel_rfl)
 refine cond_some hF (fun h4161 hF => ?_) (fun h4161 hF => ?_)
 ·
  refine cond_some hF (fun h4162 hF => ?_) (fun h4162 hF => ?_)
  ·
   refine bind_some hF (fun r4163 h4164 hF => ?_)
   have pq4196 : ∀ {l : List Cond}, HoldAll E H hn97 l → HoldAll E H hn97 (.call 143 [.one (.lit (.int .i64 a4148))] (F143_res1 r4151) :: .test (leadsAny (Res.mk [(.agg [(.im (.lit (fnV 158))), (.im (.lit (fnV 159))), (.im (.lit (.bool r4151.1.only_))), (.im (.lit (fnV 161)))]), (.one (.im (.lit (.bool r4151.2))))] [])) false :: .test (bnot r4151.2) false :: .test false false :: .call 159 [.one (.lit (.int .i64 a4150)), .one (.lit (.int .i64 a4149))] (F159_res r4163) :: .test (leadsAny (Res.mk [(.one (.im (.lit (.bool r4163))))] [])) false :: l) := fun z => ⟨(F143_ok1 _ h4161 (F143_ok K a4148 _ h4152)), (leads_ok (by simp [leadsAny, RV.leads, RC.leads, leadsT, hasSl_lit])), (bnot_t h4162), rfl, (F159_ok K a4150 a4149 _ h4164), (leads_ok (by simp [leadsAny, RV.leads, RC.leads, leadsT, hasSl_lit])), z⟩
   refine cond_some hF (fun h4165 hF => ?_) (fun h4165 hF => ?_)
   ·
    obtain rfl := Option.some.inj hF
    have pz : HoldAll E H hn97 [.test r4163 true] := ⟨h4165, trivial⟩
    exact fn_playC hn97 (r := F97_res (a4150, 0)) (pq4196 pz) (by kernel_rfl) (by kernel_rfl)
   obtain rfl := Option.some.inj hF
   have pz : HoldAll E H hn97 [.test r4163 false] := ⟨h4165, trivial⟩
   exact fn_playC hn97 (r := F97_res (a4149, 0)) (pq4196 pz) (by kernel_rfl) (by kernel_rfl)
  obtain rfl := Option.some.inj hF
  have pz : HoldAll E H hn97 [.call 143 [.one (.lit (.int .i64 a4148))] (F143_res1 r4151), .test (leadsAny (Res.mk [(.agg [(.im (.lit (fnV 158))), (.im (.lit (fnV 159))), (.im (.lit (.bool r4151.1.only_))), (.im (.lit (fnV 161)))]), (.one (.im (.lit (.bool r4151.2))))] [])) false, .test (bnot r4151.2) true] := ⟨(F143_ok1 _ h4161 (F143_ok K a4148 _ h4152)), (leads_ok (by simp [leadsAny, RV.leads, RC.leads, leadsT, hasSl_lit])), (bnot_f h4162), trivial⟩
  exact fn_playC hn97 (r := F97_res (0, 1)) pz (by kernel_rfl) (by kernel_rfl)
 refine cond_some hF (fun h4166 hF => ?_) (fun h4166 hF => ?_)
 ·
  refine cond_some hF (fun h4167 hF => ?_) (fun h4167 hF => ?_)
  ·
   refine bind_some hF (fun r4168 h4169 hF => ?_)
   have pq4197 : ∀ {l : List Cond}, HoldAll E H hn97 l → HoldAll E H hn97 (.call 143 [.one (.lit (.int .i64 a4148))] (F143_res2 r4151) :: .test (leadsAny (Res.mk [(.agg [(.im (.lit (fnV 162))), (.im (.lit (fnV 159))), (.im (.lit (.bool r4151.1.only_))), (.im (.lit (fnV 163)))]), (.one (.im (.lit (.bool r4151.2))))] [])) false :: .test (bnot r4151.2) false :: .test false false :: .call 159 [.one (.lit (.int .i64 a4150)), .one (.lit (.int .i64 a4149))] (F159_res r4168) :: .test (leadsAny (Res.mk [(.one (.im (.lit (.bool r4168))))] [])) false :: l) := fun z => ⟨(F143_ok2 _ h4166 (F143_ok K a4148 _ h4152)), (leads_ok (by simp [leadsAny, RV.leads, RC.leads, leadsT, hasSl_lit])), (bnot_t h4167), rfl, (F159_ok K a4150 a4149 _ h4169), (leads_ok (by simp [leadsAny, RV.leads, RC.leads, leadsT, hasSl_lit])), z⟩
   refine cond_some hF (fun h4170 hF => ?_) (fun h4170 hF => ?_)
   ·
    obtain rfl := Option.some.inj hF
    have pz : HoldAll E H hn97 [.test r4168 true] := ⟨h4170, trivial⟩
    exact fn_playC hn97 (r := F97_res (a4150, 0)) (pq4197 pz) (by kernel_rfl) (by kernel_rfl)
   obtain rfl := Option.some.inj hF
   have pz : HoldAll E H hn97 [.test r4168 false] := ⟨h4170, trivial⟩
   exact fn_playC hn97 (r := F97_res (a4149, 0)) (pq4197 pz) (by kernel_rfl) (by kernel_rfl)
  obtain rfl := Option.some.inj hF
  have pz : HoldAll E H hn97 [.call 143 [.one (.lit (.int .i64 a4148))] (F143_res2 r4151), .test (leadsAny (Res.mk [(.agg [(.im (.lit (fnV 162))), (.im (.lit (fnV 159))), (.im (.lit (.bool r4151.1.only_))), (.im (.lit (fnV 163)))]), (.one (.im (.lit (.bool r4151.2))))] [])) false, .test (bnot r4151.2) true] := ⟨(F143_ok2 _ h4166 (F143_ok K a4148 _ h4152)), (leads_ok (by simp [leadsAny, RV.leads, RC.leads, leadsT, hasSl_lit])), (bnot_f h4167), trivial⟩
  exact fn_playC hn97 (r := F97_res (0, 1)) pz (by kernel_rfl) (by kernel_rfl)
 refine cond_some hF (fun h4171 hF => ?_) (fun h4171 hF => ?_)
 ·
  refine cond_some hF (fun h4172 hF => ?_) (fun h4172 hF => ?_)
  ·
   refine bind_some hF (fun r4176 h4177 hF => ?_)
   have pq4198 : ∀ {l : List Cond}, HoldAll E H hn97 l → HoldAll E H hn97 (.call 143 [.one (.lit (.int .i64 a4148))] (F143_res3 r4151) :: .test (leadsAny (Res.mk [(.agg [(.im (.lit (fnV 164))), (.im (.lit (fnV 165))), (.im (.lit (.bool r4151.1.only_))), (.im (.lit (fnV 163)))]), (.one (.im (.lit (.bool r4151.2))))] [])) false :: .test (bnot r4151.2) false :: .test false false :: .call 165 [.one (.lit (.int .i64 a4150)), .one (.lit (.int .i64 a4149))] (F165_res r4176) :: .test (leadsAny (Res.mk [(.one (.im (.lit (.bool r4176))))] [])) false :: l) := fun z => ⟨(F143_ok3 _ h4171 (F143_ok K a4148 _ h4152)), (leads_ok (by simp [leadsAny, RV.leads, RC.leads, leadsT, hasSl_lit])), (bnot_t h4172), rfl, (F165_ok K a4150 a4149 _ h4177), (leads_ok (by simp [leadsAny, RV.leads, RC.leads, leadsT, hasSl_lit])), z⟩
   refine cond_some hF (fun h4178 hF => ?_) (fun h4178 hF => ?_)
   ·
    obtain rfl := Option.some.inj hF
    have pz : HoldAll E H hn97 [.test r4176 true] := ⟨h4178, trivial⟩
    exact fn_playC hn97 (r := F97_res (a4150, 0)) (pq4198 pz) (by kernel_rfl) (by kernel_rfl)
   obtain rfl := Option.some.inj hF
   have pz : HoldAll E H hn97 [.test r4176 false] := ⟨h4178, trivial⟩
   exact fn_playC hn97 (r := F97_res (a4149, 0)) (pq4198 pz) (by kernel_rfl) (by kernel_rfl)
  obtain rfl := Option.some.inj hF
  have pz : HoldAll E H hn97 [.call 143 [.one (.lit (.int .i64 a4148))] (F143_res3 r4151), .test (leadsAny (Res.mk [(.agg [(.im (.lit (fnV 164))), (.im (.lit (fnV 165))), (.im (.lit (.bool r4151.1.only_))), (.im (.lit (fnV 163)))]), (.one (.im (.lit (.bool r4151.2))))] [])) false, .test (bnot r4151.2) true] := ⟨(F143_ok3 _ h4171 (F143_ok K a4148 _ h4152)), (leads_ok (by simp [leadsAny, RV.leads, RC.leads, leadsT, hasSl_lit])), (bnot_f h4172), trivial⟩
  exact fn_playC hn97 (r := F97_res (0, 1)) pz (by kernel_rfl) (by kernel_rfl)
 refine cond_some hF (fun h4179 hF => ?_) (fun h4179 hF => ?_)
 ·
  refine cond_some hF (fun h4180 hF => ?_) (fun h4180 hF => ?_)
  ·
   refine bind_some hF (fun r4187 h4188 hF => ?_)
   have pq4199 : ∀ {l : List Cond}, HoldAll E H hn97 l → HoldAll E H hn97 (.call 143 [.one (.lit (.int .i64 a4148))] (F143_res4 r4151) :: .test (leadsAny (Res.mk [(.agg [(.im (.lit (fnV 166))), (.im (.lit .nilFunc)), (.im (.lit (.bool r4151.1.only_))), (.im (.lit (fnV 163)))]), (.one (.im (.lit (.bool r4151.2))))] [])) false :: .test (bnot r4151.2) false :: .test true true :: .call 144 [.one (.lit (.int .i64 a4149)), .one (.lit (.int .i64 a4150))] (F144_res r4187) :: .test (leadsAny (Res.mk [(.one (.im (.lit (.int .i64 r4187.1)))), (.one (.im (.lit (.bool r4187.2))))] [])) false :: l) := fun z => ⟨(F143_ok4 _ h4179 (F143_ok K a4148 _ h4152)), (leads_ok (by simp [leadsAny, RV.leads, RC.leads, leadsT, hasSl_lit])), (bnot_t h4180), rfl, (F144_ok K a4149 a4150 _ h4188), (leads_ok (by simp [leadsAny, RV.leads, RC.leads, leadsT, hasSl_lit])), z⟩
   refine cond_some hF (fun h4189 hF => ?_) (fun h4189 hF => ?_)
   ·
    obtain rfl := Option.some.inj hF
    have pz : HoldAll E H hn97 [.test (bnot r4187.2) false] := ⟨(bnot_t h4189), trivial⟩
    exact fn_playC hn97 (r := F97_res (r4187.1, 0)) (pq4199 pz) (by kernel_rfl) (by kernel_rfl)
   obtain rfl := Option.some.inj hF
   have pz : HoldAll E H hn97 [.test (bnot r4187.2) true] := ⟨(bnot_f h4189), trivial⟩
   exact fn_playC hn97 (r := F97_res (0, 8)) (pq4199 pz) (by kernel_rfl) (by kernel_rfl)
  obtain rfl := Option.some.inj hF
  have pz : HoldAll E H hn97 [.call 143 [.one (.lit (.int .i64 a4148))] (F143_res4 r4151), .test (leadsAny (Res.mk [(.agg [(.im (.lit (fnV 166))), (.im (.lit .nilFunc)), (.im (.lit (.bool r4151.1.only_))), (.im (.lit (fnV 163)))]), (.one (.im (.lit (.bool r4151.2))))] [])) false, .test (bnot r4151.2) true] := ⟨(F143_ok4 _ h4179 (F143_ok K a4148 _ h4152)), (leads_ok (by simp [leadsAny, RV.leads, RC.leads, leadsT, hasSl_lit])), (bnot_f h4180), trivial⟩
  exact fn_playC hn97 (r := F97_res (0, 1)) pz (by kernel_rfl) (by kernel_rfl)
 refine cond_some hF (fun h4190 hF => ?_) (fun _ hF => nomatch hF)
 refine cond_some hF (fun h4191 hF => ?_) (fun h4191 hF => ?_)
 ·
  refine bind_some hF (fun r4192 h4193 hF => ?_)
  have pq4200 : ∀ {l : List Cond}, HoldAll E H hn97 l → HoldAll E H hn97 (.call 143 [.one (.lit (.int .i64 a4148))] (F143_res5 r4151) :: .test (leadsAny (Res.mk [(.agg [(.im (.lit .nilFunc)), (.im (.lit .nilFunc)), (.im (.lit (.bool r4151.1.only_))), (.im (.lit .nilFunc))]), (.one (.im (.lit (.bool r4151.2))))] [])) false :: .test (bnot r4151.2) false :: .test true true :: .call 144 [.one (.lit (.int .i64 a4149)), .one (.lit (.int .i64 a4150))] (F144_res r4192) :: .test (leadsAny (Res.mk [(.one (.im (.lit (.int .i64 r4192.1)))), (.one (.im (.lit (.bool r4192.2))))] [])) false :: l) := fun z => ⟨(F143_ok5 _ h4190 (F143_ok K a4148 _ h4152)), (leads_ok (by simp [leadsAny, RV.leads, RC.leads, leadsT, hasSl_lit])), (bnot_t h4191), rfl, (F144_ok K a4149 a4150 _ h4193), (leads_ok (by simp [leadsAny, RV.leads, RC.leads, leadsT, hasSl_lit])), z⟩
  refine cond_some hF (fun h4194 hF => ?_) (fun h4194 hF => ?_)
  ·
   obtain rfl := Option.some.inj hF
   have pz : HoldAll E H hn97 [.test (bnot r4192.2) false] := ⟨(bnot_t h4194), trivial⟩
   exact fn_playC hn97 (r := F97_res (r4192.1, 0)) (pq4200 pz) (by kernel_rfl) (by kernel_rfl)
  obtain rfl := Option.some.inj hF
  have pz : HoldAll E H hn97 [.test (bnot r4192.2) true] := ⟨(bnot_f h4194), trivial⟩
  exact fn_playC hn97 (r := F97_res (0, 8)) (pq4200 pz) (by kernel_rfl) (by kernel_rfl)
 obtain rfl := Option.some.inj hF
 have pz : HoldAll E H hn97 [.call 143 [.one (.lit (.int .i64 a4148))] (F143_res5 r4151), .test (leadsAny (Res.mk [(.agg [(.im (.lit .nilFunc)), (.im (.lit .nilFunc)), (.im (.lit (.bool r4151.1.only_))), (.im (.lit .nilFunc))]), (.one (.im (.lit (.bool r4151.2))))] [])) false, .test (bnot r4151.2) true] := ⟨(F143_ok5 _ h4190 (F143_ok K a4148 _ h4152)), (leads_ok (by simp [leadsAny, RV.leads, RC.leads, leadsT, hasSl_lit])), (bnot_f h4191), trivial⟩
 exact fn_playC hn97 (r := F97_res (0, 1)) pz (by kernel_rfl) (by kernel_rfl)
noncomputable def hn145 : Hint := { H 145 with nt := 27, prot := 0 }
def F145_res (r1325 : Int × Bool) : Res := ⟨[(.one (.im (.lit (.int .i64 r1325.1)))), (.one (.im (.lit (.bool r1325.2))))], []⟩
def F145 (K : Nat) (a1312 : Int) (a1313 : Int) : Option (Int × Bool) :=
 bif (ilt 0 a1313) then
  (bif (ilt (wsub .i64 9223372036854775807 a1313) a1312) then
   (some (0, false))
  else
  bif (ilt a1313 0) then
   (bif (ilt a1312 (wsub .i64 (-9223372036854775808) a1313)) then
    (some (0, false))
   else
   some ((wadd .i64 a1312 a1313), true))
  else
  some ((wadd .i64 a1312 a1313), true))
 else
 bif (ilt a1313 0) then
  (bif (ilt a1312 (wsub .i64 (-9223372036854775808) a1313)) then
   (some (0, false))
  else
  some ((wadd .i64 a1312 a1313), true))
 else
 some ((wadd .i64 a1312 a1313), true)
theorem F145_ok (K : Nat) (a1312 : Int) (a1313 : Int) (r : Int × Bool) (hF : F145 K a1312 a1313 = some r) : Evt E H 145 [.one (.lit (.int .i64 a1312)), .one (.lit (.int .i64 a1313))] (F145_res r) := by
 rw [F145] at hF
 refine cond_some hF (fun h1314 hF => ?_) (fun h1314 hF => ?_)
 ·
  have pq1320 : ∀ {l : List Cond}, HoldAll E H hn145 l → HoldAll E H hn145 (.test (beqb (igt a1313 0) true) true :: .test (beqb (igt a1313 0) true) true :: .test (beqb (igt a1313 0) true) true :: .int (wsub .i64 9223372036854775807 a1313) (wsub .i64 9223372036854775807 a1313) :: .test (beqb (igt a1313 0) true) true :: .test (igt a1313 0) true :: l) := fun z => ⟨(beqb_t (igt_eq h1314)), (beqb_t (igt_eq h1314)), (beqb_t (igt_eq h1314)), rfl, (beqb_t (igt_eq h1314)), (igt_eq h1314), z⟩
  refine cond_some hF (fun h1315 hF => ?_) (fun h1315 hF => ?_)
  ·
   obtain rfl := Option.some.inj hF
   have pz : HoldAll E H hn145 [.test (beqb (igt a1312 (wsub .i64 9223372036854775807 a1313)) false) false, .test (beqb (igt a1312 (wsub .i64 9223372036854775807 a1313)) false) false, .test (beqb (igt a1312 (wsub .i64 9223372036854775807 a1313)) false) false, .test (beqb (igt a1312 (wsub .i64 9223372036854775807 a1313)) false) false, .test (igt a1312 (wsub .i64 9223372036854775807 a1313)) true, .test true true] := ⟨(beqb_ft (igt_eq h1315)), (beqb_ft (igt_eq h1315)), (beqb_ft (igt_eq h1315)), (beqb_ft (igt_eq h1315)), (igt_eq h1315), rfl, trivial⟩
   exact fn_playC hn145 (r := F145_res (0, false)) (pq1320 pz) (by kernel_rfl) (by kernel_rfl)
  have pq1321 : ∀ {l : List Cond}, HoldAll E H hn145 l → HoldAll E H hn145 (.test (beqb (igt a1312 (wsub .i64 9223372036854775807 a1313)) false) true :: .test (beqb (igt a1312 (wsub .i64 9223372036854775807 a1313)) false) true :: .test (beqb (igt a1312 (wsub .i64 9223372036854775807 a1313)) false) true :: l) := fun z => ⟨(beqb_ff (igt_eq h1315)), (beqb_ff (igt_eq h1315)), (beqb_ff (igt_eq h1315)), z⟩
  refine cond_some hF (fun h1316 hF => ?_) (fun h1316 hF => ?_)
  ·
   have pq1322 : ∀ {l : List Cond}, HoldAll E H hn145 l → HoldAll E H hn145 (.test (beqb (ilt a1313 0) true) true :: .test (beqb (ilt a1313 0) true) true :: .test (beqb (ilt a1313 0) true) true :: .int (wsub .i64 (-9223372036854775808) a1313) (wsub .i64 (-9223372036854775808) a1313) :: .test (beqb (ilt a1313 0) true) true :: .test (beqb (igt a1312 (wsub .i64 9223372036854775807 a1313)) false) true :: .test (ilt a1313 0) true :: .test (igt a1312 (wsub .i64 9223372036854775807 a1313)) false :: l) := fun z => ⟨(beqb_t h1316), (beqb_t h1316), (beqb_t h1316), rfl, (beqb_t h1316), (beqb_ff (igt_eq h1315)), h1316, (igt_eq h1315), z⟩
   refine cond_some hF (fun h1317 hF => ?_) (fun h1317 hF => ?_)
   ·
    obtain rfl := Option.some.inj hF
    have pz : HoldAll E H hn145 [.test (ilt a1312 (wsub .i64 (-9223372036854775808) a1313)) true] := ⟨h1317, trivial⟩
    exact fn_playC hn145 (r := F145_res (0, false)) (pq1320 (pq1321 (pq1322 pz))) (by kernel_rfl) (by kernel_rfl)
   obtain rfl := Option.some.inj hF
   have pz : HoldAll E H hn145 [.test (ilt a1312 (wsub .i64 (-9223372036854775808) a1313)) false, .int (wadd .i64 a1312 a1313) (wadd .i64 a1312 a1313)] := ⟨h1317, rfl, trivial⟩
   exact fn_playC hn145 (r := F145_res ((wadd .i64 a1312 a1313), true)) (pq1320 (pq1321 (pq1322 pz))) (by kernel_rfl) (by kernel_rfl)
  obtain rfl := Option.some.inj hF
  have pz : HoldAll E H hn145 [.test (beqb (ilt a1313 0) true) false, .test (beqb (ilt a1313 0) true) false, .test (beqb (ilt a1313 0) true) false, .test (beqb (ilt a1313 0) true) false, .test (beqb (igt a1312 (wsub .i64 9223372036854775807 a1313)) false) true, .test (ilt a1313 0) false, .test (igt a1312 (wsub .i64 9223372036854775807 a1313)) false, .test false false, .int (wadd .i64 a1312 a1313) (wadd .i64 a1312 a1313)] := ⟨(beqb_t h1316), (beqb_t h1316), (beqb_t h1316), (beqb_t h1316), (beqb_ff (igt_eq h1315)), h1316, (igt_eq h1315), rfl, rfl, trivial⟩
  exact fn_playC hn145 (r := F145_res ((wadd .i64 a1312 a1313), true)) (pq1320 (pq1321 pz)) (by kernel_rfl) (by kernel_rfl)
 have pq1323 : ∀ {l : List Cond}, HoldAll E H hn145 l → HoldAll E H hn145 (.test (beqb (igt a1313 0) true) false :: .test (beqb (igt a1313 0) true) false :: .test (beqb (igt a1313 0) true) false :: .test (beqb (igt a1313 0) true) false :: .test (igt a1313 0) false :: .test (beqb false false) true :: .test (beqb false false) true :: .test (beqb false false) true :: l) := fun z => ⟨(beqb_t (igt_eq h1314)), (beqb_t (igt_eq h1314)), (beqb_t (igt_eq h1314)), (beqb_t (igt_eq h1314)), (igt_eq h1314), (beqb_ff rfl), (beqb_ff rfl), (beqb_ff rfl), z⟩
 refine cond_some hF (fun h1318 hF => ?_) (fun h1318 hF => ?_)
 ·
  have pq1324 : ∀ {l : List Cond}, HoldAll E H hn145 l → HoldAll E H hn145 (.test (beqb (ilt a1313 0) true) true :: .test (beqb (ilt a1313 0) true) true :: .test (beqb (ilt a1313 0) true) true :: .int (wsub .i64 (-9223372036854775808) a1313) (wsub .i64 (-9223372036854775808) a1313) :: .test (beqb (ilt a1313 0) true) true :: .test (beqb false false) true :: .test (ilt a1313 0) true :: .test false false :: l) := fun z => ⟨(beqb_t h1318), (beqb_t h1318), (beqb_t h1318), rfl, (beqb_t h1318), (beqb_ff rfl), h1318, rfl, z⟩
  refine cond_some hF (fun h1319 hF => ?_) (fun h1319 hF => ?_)
  ·
   obtain rfl := Option.some.inj hF
   have pz : HoldAll E H hn145 [.test (ilt a1312 (wsub .i64 (-9223372036854775808) a1313)) true] := ⟨h1319, trivial⟩
   exact fn_playC hn145 (r := F145_res (0, false)) (pq1323 (pq1324 pz)) (by kernel_rfl) (by kernel_rfl)
  obtain rfl := Option.some.inj hF
  have pz : HoldAll E H hn145 [.test (ilt a1312 (wsub .i64 (-9223372036854775808) a1313)) false, .int (wadd .i64 a1312 a1313) (wadd .i64 a1312 a1313)] := ⟨h1319, rfl, trivial⟩
  exact fn_playC hn145 (r := F145_res ((wadd .i64 a1312 a1313), true)) (pq1323 (pq1324 pz)) (by kernel_rfl) (by kernel_rfl)
 obtain rfl := Option.some.inj hF
 have pz : HoldAll E H hn145 [.test (beqb (ilt a1313 0) true) false, .test (beqb (ilt a1313 0) true) false, .test (beqb (ilt a1313 0) true) false, .test (beqb (ilt a1313 0) true) false, .test (beqb false false) true, .test (ilt a1313 0) false, .test false false, .test false false, .int (wadd .i64 a1312 a1313) (wadd .i64 a1312 a1313)] := ⟨(beqb_t h1318), (beqb_t h1318), (beqb_t h1318), (beqb_t h1318), (beqb_ff rfl), h1318, rfl, rfl, rfl, trivial⟩
 exact fn_playC hn145 (r := F145_res ((wadd .i64 a1312 a1313), true)) (pq1323 pz) (by kernel_rfl) (by kernel_rfl)
noncomputable def hn98 : Hint := { H 98 with nt := 39, prot := 0 }
def F98_res (r1485 : Int × Int) : Res := ⟨[(.one (.im (.lit (.int .i64 r1485.1)))), (.one (.im (.lit (.int .i64 r1485.2))))], []⟩
def F98 (K : Nat) (a1469 : Int) (a1470 : Int) (a1471 : Int) : Option (Int × Int) :=
 bif (ilt a1469 1) then
  (some (0, 1))
 else
 bif (ilt 5 a1469) then
  (some (0, 1))
 else
 bif (ieq a1469 5) then
  ((F145 K a1470 a1471).bind fun r1475 =>
  bif r1475.2 then
   (some (r1475.1, 0))
  else
  some (0, 8))
 else
 bif (ieq a1469 4) then
  (bif (ilt a1471 a1470) then
   (some (a1470, 0))
  else
  some (a1471, 0))
 else
 bif (ilt a1470 a1471) then
  (some (a1470, 0))
 else
 some (a1471, 0)
theorem F98_ok (K : Nat) (a1469 : Int) (a1470 : Int) (a1471 : Int) (r : Int × Int) (hF : F98 K a1469 a1470 a1471 = some r) : Evt E H 98 [.one (.lit (.int .i64 a1469)), .one (.lit (.int .i64 a1470)), .one (.lit (.int .i64 a1471))] (F98_res r) := by
 rw [F98] at hF
 refine cond_some hF (fun h1472 hF => ?_) (fun h1472 hF => ?_)
 ·
  obtain rfl := Option.some.inj hF
  have pz : HoldAll E H hn98 [.test (beqb (ilt a1469 1) false) false, .test (beqb (ilt a1469 1) false) false, .test (ilt a1469 1) true, .test true true] := ⟨(beqb_ft h1472), (beqb_ft h1472), h1472, rfl, trivial⟩
  exact fn_playC hn98 (r := F98_res (0, 1)) pz (by kernel_rfl) (by kernel_rfl)
 have pq1481 : ∀ {l : List Cond}, HoldAll E H hn98 l → HoldAll E H hn98 (.test (beqb (ilt a1469 1) false) true :: .test (beqb (ilt a1469 1) false) true :: .test (ilt a1469 1) false :: l) := fun z => ⟨(beqb_ff h1472), (beqb_ff h1472), h1472, z⟩
 refine cond_some hF (fun h1473 hF => ?_) (fun h1473 hF => ?_)
 ·
  obtain rfl := Option.some.inj hF
  have pz : HoldAll E H hn98 [.test (igt a1469 5) true] := ⟨(igt_eq h1473), trivial⟩
  exact fn_playC hn98 (r := F98_res (0, 1)) (pq1481 pz) (by kernel_rfl) (by kernel_rfl)
 refine cond_some hF (fun h1474 hF => ?_) (fun h1474 hF => ?_)
 ·
  refine bind_some hF (fun r1475 h1476 hF => ?_)
  have pq1482 : ∀ {l : List Cond}, HoldAll E H hn98 l → HoldAll E H hn98 (.test (igt a1469 5) false :: .test (ieq a1469 5) true :: .call 145 [.one (.lit (.int .i64 a1470)), .one (.lit (.int .i64 a1471))] (F145_res r1475) :: .test (leadsAny (Res.mk [(.one (.im (.lit (.int .i64 r1475.1)))), (.one (.im (.lit (.bool r1475.2))))] [])) false :: l) := fun z => ⟨(igt_eq h1473), h1474, (F145_ok K a1470 a1471 _ h1476), (leads_ok (by simp [leadsAny, RV.leads, RC.leads, leadsT, hasSl_lit])), z⟩
  refine cond_some hF (fun h1477 hF => ?_) (fun h1477 hF => ?_)
  ·
   obtain rfl := Option.some.inj hF
   have pz : HoldAll E H hn98 [.test (bnot r1475.2) false] := ⟨(bnot_t h1477), trivial⟩
   exact fn_playC hn98 (r := F98_res (r1475.1, 0)) (pq1481 (pq1482 pz)) (by kernel_rfl) (by kernel_rfl)
  obtain rfl := Option.some.inj hF
  have pz : HoldAll E H hn98 [.test (bnot r1475.2) true] := ⟨(bnot_f h1477), trivial⟩
  exact fn_playC hn98 (r := F98_res (0, 8)) (pq1481 (pq1482 pz)) (by kernel_rfl) (by kernel_rfl)
 refine cond_some hF (fun h1478 hF => ?_) (fun h1478 hF => ?_)
 ·
  have pq1483 : ∀ {l : List Cond}, HoldAll E H hn98 l → HoldAll E H hn98 (.test (igt a1469 5) false :: .test (ieq a1469 5) false :: .test (ieq a1469 4) true :: l) := fun z => ⟨(igt_eq h1473), h1474, h1478, z⟩
  refine cond_some hF (fun h1479 hF => ?_) (fun h1479 hF => ?_)
  ·
   obtain rfl := Option.some.inj hF
   have pz : HoldAll E H hn98 [.test (igt a1470 a1471) true] := ⟨(igt_eq h1479), trivial⟩
   exact fn_playC hn98 (r := F98_res (a1470, 0)) (pq1481 (pq1483 pz)) (by kernel_rfl) (by kernel_rfl)
  obtain rfl := Option.some.inj hF
  have pz : HoldAll E H hn98 [.test (igt a1470 a1471) false] := ⟨(igt_eq h1479), trivial⟩
  exact fn_playC hn98 (r := F98_res (a1471, 0)) (pq1481 (pq1483 pz)) (by kernel_rfl) (by kernel_rfl)
 have pq1484 : ∀ {l : List Cond}, HoldAll E H hn98 l → HoldAll E H hn98 (.test (igt a1469 5) false :: .test (ieq a1469 5) false :: .test (ieq a1469 4) false :: l) := fun z => ⟨(igt_eq h1473), h1474, h1478, z⟩
 refine cond_some hF (fun h1480 hF => ?_) (fun h1480 hF => ?_)
 ·
  obtain rfl := Option.some.inj hF
  have pz : HoldAll E H hn98 [.test (ilt a1470 a1471) true] := ⟨h1480, trivial⟩
  exact fn_playC hn98 (r := F98_res (a1470, 0)) (pq1481 (pq1484 pz)) (by kernel_rfl) (by kernel_rfl)
 obtain rfl := Option.some.inj hF
 have pz : HoldAll E H hn98 [.test (ilt a1470 a1471) false] := ⟨h1480, trivial⟩
 exact fn_playC hn98 (r := F98_res (a1471, 0)) (pq1481 (pq1484 pz)) (by kernel_rfl) (by kernel_rfl)
def i64 (n : Int) : Prop := -9223372036854775808 ≤ n ∧ n ≤ 9223372036854775807
theorem i64_wf {n : Int} (h : (Lit.int .i64 n).wf = true) : i64 n := bounds_i64 h
theorem wadd_i64 {a b : Int} (h : i64 (a + b)) : wadd .i64 a b = a + b := by
 show IntKind.i64.wrap (a + b) = _
 rw [IntKind.wrap_i64]; unfold i64 at h; omega
def fitsB (n : Int) : Bool := decide (-9223372036854775808 ≤ n) && decide (n ≤ 9223372036854775807)
theorem fitsB_iff {n : Int} : fitsB n = true ↔ i64 n := by simp [fitsB, i64]
theorem fitsB_f {n : Int} : fitsB n = false ↔ n < -9223372036854775808 ∨ 9223372036854775807 < n := by
 cases h : fitsB n
 · have : ¬ i64 n := fun q => by rw [fitsB_iff.2 q] at h; cases h
   unfold i64 at this
   simp only [true_iff]; omega
 · have := fitsB_iff.1 h
   unfold i64 at this
   simp only [Bool.true_eq_false, false_iff]; omega
def addS (a b : Int) : Int × Bool := bif fitsB (a + b) then (a + b, true) else (0, false)
theorem F145_spec (K : Nat) {a b : Int} (ha : i64 a) (hb : i64 b) : F145 K a b = some (addS a b) := by
 unfold i64 at ha hb
 rw [F145, addS]
 cases h1 : ilt 0 b
 · have b1 := ilt_f.1 h1
   cases h2 : ilt b 0
   · have b2 := ilt_f.1 h2
     have : b = 0 := by omega
     rw [fitsB_iff.2 (by unfold i64; omega), wadd_i64 (by unfold i64; omega)]; rfl
   · have b2 := ilt_iff.1 h2
     have ew : wsub .i64 (-9223372036854775808) b = -9223372036854775808 - b := by
       show IntKind.i64.wrap _ = _
       rw [IntKind.wrap_i64]; omega
     rw [cond_false, cond_true, ew]
     cases h3 : ilt a (-9223372036854775808 - b)
     · have := ilt_f.1 h3
       rw [fitsB_iff.2 (by unfold i64; omega), wadd_i64 (by unfold i64; omega)]; rfl
     · have := ilt_iff.1 h3
       rw [fitsB_f.2 (by omega)]; rfl
 · have b1 := ilt_iff.1 h1
   have ew : wsub .i64 9223372036854775807 b = 9223372036854775807 - b := by
     show IntKind.i64.wrap _ = _
     rw [IntKind.wrap_i64]; omega
   rw [cond_true, ew, ilt_f.2 (by omega : (0 : Int) ≤ b), cond_false]
   cases h3 : ilt (9223372036854775807 - b) a
   · have := ilt_f.1 h3
     rw [fitsB_iff.2 (by unfold i64; omega), wadd_i64 (by unfold i64; omega)]; rfl
   · have := ilt_iff.1 h3
     rw [fitsB_f.2 (by omega)]; rfl
theorem F144_spec (K : Nat) {a b : Int} (ha : i64 a) (hb : i64 b) : F144 K a b = some (addS a b) := by
 unfold i64 at ha hb
 have ew : wadd .i64 a b = bif fitsB (a + b) then a + b else bif ilt (a + b) 0 then a + b + 18446744073709551616 else a + b - 18446744073709551616 := by
   show IntKind.i64.wrap (a + b) = _
   rw [IntKind.wrap_i64]
   cases h : fitsB (a + b)
   · have := fitsB_f.1 h
     cases h2 : ilt (a + b) 0
     · have := ilt_f.1 h2; simp only [cond_false]; omega
     · have := ilt_iff.1 h2; simp only [cond_false, cond_true]; omega
   · have := fitsB_iff.1 h; unfold i64 at this; simp only [cond_true]; omega
 have eg : ∀ x : Int, ige x 0 = !(ilt x 0) := fun x => by
   unfold ige ilt
   by_cases h : x < 0 <;> simp [h] <;> omega
 rw [F144, addS, eg, eg, eg, ew]
 cases h : fitsB (a + b)
 · have h' := fitsB_f.1 h
   rcases h' with h' | h'
   · rw [ilt_iff.2 (by omega : a < 0), ilt_iff.2 (by omega : b < 0), ilt_iff.2 (by omega : a + b < 0)]
     simp only [cond_false, cond_true]
     rw [ilt_f.2 (by omega : 0 ≤ a + b + 18446744073709551616)]; rfl
   · rw [ilt_f.2 (by omega : 0 ≤ a), ilt_f.2 (by omega : 0 ≤ b), ilt_f.2 (by omega : 0 ≤ a + b)]
     simp only [cond_false, cond_true]
     rw [ilt_iff.2 (by omega : a + b - 18446744073709551616 < 0)]; rfl
 · simp only [cond_true]
   cases h1 : ilt a 0 <;> cases h2 : ilt b 0
   · rw [ilt_f.2 (by have := ilt_f.1 h1; have := ilt_f.1 h2; omega : 0 ≤ a + b)]; rfl
   · rfl
   · rfl
   · rw [ilt_iff.2 (by have := ilt_iff.1 h1; have := ilt_iff.1 h2; omega : a + b < 0)]; rfl
def foldS (p a b : Int) : Int × Int := bif pbad p then (0, 1) else bif ieq p 5 then (bif (addS a b).2 then ((addS a b).1, 0) else (0, 8)) else bif ieq p 4 then (bif ilt a b then (b, 0) else (a, 0)) else bif ilt b a then (b, 0) else (a, 0)
theorem F98_spec (K : Nat) (p : Int) {a b : Int} (ha : i64 a) (hb : i64 b) : F98 K p a b = some (foldS p a b) := by
 rw [F98, F145_spec K ha hb, foldS, pbad]
 cases ilt p 1
 · cases ilt 5 p
   · cases ieq p 5
     · cases ieq p 4
       · simp only [Bool.or_false, cond_false]
         cases h1 : ilt a b <;> cases h2 : ilt b a
         · have := ilt_f.1 h1; have := ilt_f.1 h2
           have : a = b := by omega
           subst this; rfl
         · rfl
         · rfl
         · have := ilt_iff.1 h1; have := ilt_iff.1 h2; omega
       · simp only [Bool.or_false, cond_false, cond_true]
         cases h1 : ilt a b <;> cases h2 : ilt b a
         · have := ilt_f.1 h1; have := ilt_f.1 h2
           have : a = b := by omega
           subst this; rfl
         · rfl
         · rfl
         · have := ilt_iff.1 h1; have := ilt_iff.1 h2; omega
     · simp only [Bool.or_false, cond_false, cond_true, Option.bind_some]
       cases (addS a b).2 <;> rfl
   · rfl
 · rfl
theorem F97_spec (K : Nat) (p : Int) {a b : Int} (ha : i64 a) (hb : i64 b) : F97 K p a b = some (foldS p a b) := by
 rw [F97]
 rcases prog_cases p with q | q | q | q | q | q
 · subst q
   have e5 : ieq 1 5 = false := rfl
   have e4 : ieq 1 4 = false := rfl
   have eb : pbad 1 = false := rfl
   rw [F143_1, foldS, e5, e4, eb]
   simp only [Option.bind_some, cond_true, cond_false, af_1_1, af_1_3, af_1_2, af_1_4, af_1_5, af_1_0, af_3_1, af_3_3, af_3_2, af_3_4, af_3_5, af_3_0, af_2_1, af_2_3, af_2_2, af_2_4, af_2_5, af_2_0, af_4_1, af_4_3, af_4_2, af_4_4, af_4_5, af_4_0, af_5_1, af_5_3, af_5_2, af_5_4, af_5_5, af_5_0, af_0_1, af_0_3, af_0_2, af_0_4, af_0_5, af_0_0, F159]
   cases ilt b a <;> rfl
 · subst q
   have e5 : ieq 2 5 = false := rfl
   have e4 : ieq 2 4 = false := rfl
   have eb : pbad 2 = false := rfl
   rw [F143_2, foldS, e5, e4, eb]
   simp only [Option.bind_some, cond_true, cond_false, af_1_1, af_1_3, af_1_2, af_1_4, af_1_5, af_1_0, af_3_1, af_3_3, af_3_2, af_3_4, af_3_5, af_3_0, af_2_1, af_2_3, af_2_2, af_2_4, af_2_5, af_2_0, af_4_1, af_4_3, af_4_2, af_4_4, af_4_5, af_4_0, af_5_1, af_5_3, af_5_2, af_5_4, af_5_5, af_5_0, af_0_1, af_0_3, af_0_2, af_0_4, af_0_5, af_0_0, F159]
   cases ilt b a <;> rfl
 · subst q
   have e5 : ieq 3 5 = false := rfl
   have e4 : ieq 3 4 = false := rfl
   have eb : pbad 3 = false := rfl
   rw [F143_3, foldS, e5, e4, eb]
   simp only [Option.bind_some, cond_true, cond_false, af_1_1, af_1_3, af_1_2, af_1_4, af_1_5, af_1_0, af_3_1, af_3_3, af_3_2, af_3_4, af_3_5, af_3_0, af_2_1, af_2_3, af_2_2, af_2_4, af_2_5, af_2_0, af_4_1, af_4_3, af_4_2, af_4_4, af_4_5, af_4_0, af_5_1, af_5_3, af_5_2, af_5_4, af_5_5, af_5_0, af_0_1, af_0_3, af_0_2, af_0_4, af_0_5, af_0_0, F159]
   cases ilt b a <;> rfl
 · subst q
   have e5 : ieq 4 5 = false := rfl
   have e4 : ieq 4 4 = true := rfl
   have eb : pbad 4 = false := rfl
   rw [F143_4, foldS, e5, e4, eb]
   simp only [Option.bind_some, cond_true, cond_false, af_1_1, af_1_3, af_1_2, af_1_4, af_1_5, af_1_0, af_3_1, af_3_3, af_3_2, af_3_4, af_3_5, af_3_0, af_2_1, af_2_3, af_2_2, af_2_4, af_2_5, af_2_0, af_4_1, af_4_3, af_4_2, af_4_4, af_4_5, af_4_0, af_5_1, af_5_3, af_5_2, af_5_4, af_5_5, af_5_0, af_0_1, af_0_3, af_0_2, af_0_4, af_0_5, af_0_0, F165, igt]
   have : decide (b > a) = ilt a b := rfl
   rw [this]
   cases ilt a b <;> rfl
 · subst q
   have e5 : ieq 5 5 = true := rfl
   have e4 : ieq 5 4 = false := rfl
   have eb : pbad 5 = false := rfl
   rw [F143_5, foldS, e5, e4, eb]
   simp only [Option.bind_some, cond_true, cond_false, af_1_1, af_1_3, af_1_2, af_1_4, af_1_5, af_1_0, af_3_1, af_3_3, af_3_2, af_3_4, af_3_5, af_3_0, af_2_1, af_2_3, af_2_2, af_2_4, af_2_5, af_2_0, af_4_1, af_4_3, af_4_2, af_4_4, af_4_5, af_4_0, af_5_1, af_5_3, af_5_2, af_5_4, af_5_5, af_5_0, af_0_1, af_0_3, af_0_2, af_0_4, af_0_5, af_0_0, F144_spec K ha hb]
   cases (addS a b).2 <;> rfl
 · have eb : pbad p = true := by
     unfold pbad
     rcases q with q | q
     · rw [ilt_iff.2 q]; rfl
     · rw [ilt_iff.2 q, Bool.or_true]
   rw [F143_0 K q, foldS, eb]
   simp only [Option.bind_some, cond_true, cond_false, af_1_1, af_1_3, af_1_2, af_1_4, af_1_5, af_1_0, af_3_1, af_3_3, af_3_2, af_3_4, af_3_5, af_3_0, af_2_1, af_2_3, af_2_2, af_2_4, af_2_5, af_2_0, af_4_1, af_4_3, af_4_2, af_4_4, af_4_5, af_4_0, af_5_1, af_5_3, af_5_2, af_5_4, af_5_5, af_5_0, af_0_1, af_0_3, af_0_2, af_0_4, af_0_5, af_0_0]
theorem foldS_i64 {p a b : Int} (ha : i64 a) (hb : i64 b) : i64 (foldS p a b).1 := by
 have h0 : i64 0 := by unfold i64; omega
 rw [foldS]
 cases pbad p
 · cases ieq p 5
   · cases ieq p 4
     · simp only [cond_false]
       cases ilt b a
       · exact ha
       · exact hb
     · simp only [cond_false, cond_true]
       cases ilt a b
       · exact ha
       · exact hb
   · simp only [cond_false, cond_true]
     unfold addS
     cases h : fitsB (a + b)
     · exact h0
     · exact fitsB_iff.1 h
 · exact h0
noncomputable def hn173 : Hint := { H 173 with nt := 24, prot := 0 }
def F173_res (r5317 : Bool) : Res := ⟨[(.one (.im (.lit (.bool r5317))))], []⟩
def F173 (K : Nat) (a5312 : GMsg) (a5313 : GMsg) : Option (Bool) :=
 bif (ilt a5312.To a5313.To) then
  (some true)
 else
 bif (ieq a5312.To a5313.To) then
  (some (ilt a5312.V a5313.V))
 else
 some false
theorem F173_ok (K : Nat) (a5312 : GMsg) (a5313 : GMsg) (r : Bool) (hF : F173 K a5312 a5313 = some r) : Evt E H 173 [.agg (eGMsg a5312), .agg (eGMsg a5313)] (F173_res r) := by
 rw [F173] at hF
 refine cond_some hF (fun h5314 hF => ?_) (fun h5314 hF => ?_)
 ·
  obtain rfl := Option.some.inj hF
  have pz : HoldAll E H hn173 [.test (beqb (ilt a5312.To a5313.To) false) false, .test (beqb (ilt a5312.To a5313.To) false) false, .test (beqb (ilt a5312.To a5313.To) false) false, .test (beqb (ilt a5312.To a5313.To) false) false, .test (beqb (ilt a5312.To a5313.To) false) false, .test (beqb (ilt a5312.To a5313.To) false) false, .test (beqb (ilt a5312.To a5313.To) false) false, .test (ilt a5312.To a5313.To) true] := ⟨(beqb_ft h5314), (beqb_ft h5314), (beqb_ft h5314), (beqb_ft h5314), (beqb_ft h5314), (beqb_ft h5314), (beqb_ft h5314), h5314, trivial⟩
  exact fn_playC hn173 (r := F173_res true) pz (by kernel_rfl) (by kernel_rfl)
 have pq5316 : ∀ {l : List Cond}, HoldAll E H hn173 l → HoldAll E H hn173 (.test (beqb (ilt a5312.To a5313.To) false) true :: .test (beqb (ilt a5312.To a5313.To) false) true :: .test (beqb (ilt a5312.To a5313.To) false) true :: .test (beqb (ilt a5312.To a5313.To) false) true :: .test (beqb (ilt a5312.To a5313.To) false) true :: .test (beqb (ilt a5312.To a5313.To) false) true :: l) := fun z => ⟨(beqb_ff h5314), (beqb_ff h5314), (beqb_ff h5314), (beqb_ff h5314), (beqb_ff h5314), (beqb_ff h5314), z⟩
 refine cond_some hF (fun h5315 hF => ?_) (fun h5315 hF => ?_)
 ·
  obtain rfl := Option.some.inj hF
  have pz : HoldAll E H hn173 [.test (beqb (ieq a5312.To a5313.To) true) true, .test (beqb (ieq a5312.To a5313.To) true) true, .test (beqb (ieq a5312.To a5313.To) true) true, .test (beqb (ieq a5312.To a5313.To) true) true, .test (beqb (ieq a5312.To a5313.To) true) true, .test (beqb (ilt a5312.To a5313.To) false) true, .test (ieq a5312.To a5313.To) true, .test (ilt a5312.To a5313.To) false] := ⟨(beqb_t h5315), (beqb_t h5315), (beqb_t h5315), (beqb_t h5315), (beqb_t h5315), (beqb_ff h5314), h5315, h5314, trivial⟩
  exact fn_playC hn173 (r := F173_res (ilt a5312.V a5313.V)) (pq5316 pz) (by kernel_rfl) (by kernel_rfl)
 obtain rfl := Option.some.inj hF
 have pz : HoldAll E H hn173 [.test (beqb (ieq a5312.To a5313.To) true) false, .test (beqb (ieq a5312.To a5313.To) true) false, .test (beqb (ieq a5312.To a5313.To) true) false, .test (beqb (ieq a5312.To a5313.To) true) false, .test (beqb (ieq a5312.To a5313.To) true) false, .test (beqb (ilt a5312.To a5313.To) false) true, .test (ieq a5312.To a5313.To) false, .test (ilt a5312.To a5313.To) false] := ⟨(beqb_t h5315), (beqb_t h5315), (beqb_t h5315), (beqb_t h5315), (beqb_t h5315), (beqb_ff h5314), h5315, h5314, trivial⟩
 exact fn_playC hn173 (r := F173_res false) (pq5316 pz) (by kernel_rfl) (by kernel_rfl)
noncomputable def hn172_173 : Hint := { H 172 with nt := 68, prot := 0 }
noncomputable def c172_173_0 : Code := loopOf E 172 0
def F172_173_res (r5357 : List GMsg) : Res := ⟨[(.one (.own 130 (.sl (len r5357) (flat eGMsg r5357))))], []⟩
def F172_173_l0_0 (K : Nat)  : Nat → List GMsg → List GMsg → List GMsg → Option (List GMsg × List GMsg × List GMsg)
 | 0, _, _, _ => none
 | k + 1, v5325, v5326, v5327 =>
  bif (ilt 0 (nlen (len v5325))) then
   (bif (ilt 0 (nlen (len v5326))) then
    (bif (inr 0 (len v5326)) then
    (elAt v5326 0).bind fun x5331 =>
    bif (inr 0 (len v5325)) then
    (elAt v5325 0).bind fun x5334 =>
    (F173 K x5331 x5334).bind fun r5336 =>
    bif r5336 then
     (bif (apok (len v5327) 1 16) then
     bif (bnd 1 (nlen (len v5326)) (len v5326)) then
     F172_173_l0_0 K  k v5325 (subL v5326 1 (nlen (len v5326))) (appL v5327 [x5331])
     else none
     else none)
    else
    bif (apok (len v5327) 1 16) then
    bif (bnd 1 (nlen (len v5325)) (len v5325)) then
    F172_173_l0_0 K  k (subL v5325 1 (nlen (len v5325))) v5326 (appL v5327 [x5334])
    else none
    else none
    else none
    else none)
   else
   some (v5325, (v5326, v5327)))
  else
  some (v5325, (v5326, v5327))
def F172_173_l0_0_S  (v5325 : List GMsg) (v5326 : List GMsg) (v5327 : List GMsg) : TS := .on [64, 65, 384, 385, 448, 449, 512, 513] [(64, ⟨.one, 0, nob⟩), (65, ⟨.im, 0, (.lit (fnV 173))⟩), (384, ⟨.one, 0, nob⟩), (385, ⟨.im, 0, (.sl (len v5325) (flat eGMsg v5325))⟩), (448, ⟨.one, 0, nob⟩), (449, ⟨.im, 0, (.sl (len v5326) (flat eGMsg v5326))⟩), (512, ⟨.one, 0, nob⟩), (513, ⟨(.own 130), 0, (.sl (len v5327) (flat eGMsg v5327))⟩)]
def F172_173_l0_0_X0  (w5343 : List GMsg × List GMsg × List GMsg) : TS := .on [384, 385, 448, 449, 512, 513] [(384, ⟨.one, 0, nob⟩), (385, ⟨.im, 0, (.sl (len w5343.1) (flat eGMsg w5343.1))⟩), (448, ⟨.one, 0, nob⟩), (449, ⟨.im, 0, (.sl (len w5343.2.1) (flat eGMsg w5343.2.1))⟩), (512, ⟨.one, 0, nob⟩), (513, ⟨(.own 130), 0, (.sl (len w5343.2.2) (flat eGMsg w5343.2.2))⟩)]
theorem F172_173_l0_0_ok (K : Nat)  : ∀ (k : Nat) (v5325 : List GMsg) (v5326 : List GMsg) (v5327 : List GMsg) (r : List GMsg × List GMsg × List GMsg), F172_173_l0_0 K  k v5325 v5326 v5327 = some r → LoopEv E H hn172_173 0 c172_173_0 (F172_173_l0_0_S  v5325 v5326 v5327) (.exit 0) (F172_173_l0_0_X0  r) := by
 intro k
 induction k with
 | zero => intro v5325 v5326 v5327 r hF; cases hF
 | succ k ih =>
  intro v5325 v5326 v5327 r hF
  rw [F172_173_l0_0] at hF
  refine cond_some hF (fun h5328 hF => ?_) (fun h5328 hF => ?_)
  ·
   have pq5347 : ∀ {l : List Cond}, HoldAll E H hn172_173 l → HoldAll E H hn172_173 (.int (nlen (len v5325)) (nlen (len v5325)) :: .test (beqb (igt (nlen (len v5325)) 0) true) true :: .test (beqb (igt (nlen (len v5325)) 0) true) true :: .int (nlen (len v5326)) (nlen (len v5326)) :: .test (beqb (igt (nlen (len v5325)) 0) true) true :: .test (igt (nlen (len v5325)) 0) true :: l) := fun z => ⟨rfl, (beqb_t (igt_eq h5328)), (beqb_t (igt_eq h5328)), rfl, (beqb_t (igt_eq h5328)), (igt_eq h5328), z⟩
   refine cond_some hF (fun h5329 hF => ?_) (fun h5329 hF => ?_)
   ·
    refine cond_some hF (fun h5330 hF => ?_) (fun _ hF => nomatch hF)
    refine bind_some hF (fun x5331 h5332 hF => ?_)
    refine cond_some hF (fun h5333 hF => ?_) (fun _ hF => nomatch hF)
    refine bind_some hF (fun x5334 h5335 hF => ?_)
    refine bind_some hF (fun r5336 h5337 hF => ?_)
    have pq5348 : ∀ {l : List Cond}, HoldAll E H hn172_173 l → HoldAll E H hn172_173 (.test (igt (nlen (len v5326)) 0) true :: .test (inr 0 (len v5326)) true :: .sub (flat eGMsg v5326) (nidx 0 2) 2 [(.lit (.int .i64 x5331.To)), (.lit (.int .i64 x5331.V))] :: .test (inr 0 (len v5325)) true :: .sub (flat eGMsg v5325) (nidx 0 2) 2 [(.lit (.int .i64 x5334.To)), (.lit (.int .i64 x5334.V))] :: .call 173 [.agg (eGMsg x5331), .agg (eGMsg x5334)] (F173_res r5336) :: .test (leadsAny (Res.mk [(.one (.im (.lit (.bool r5336))))] [])) false :: l) := fun z => ⟨(igt_eq h5329), h5330, ⟨rfl, sub_flat0 eGMsg_len h5332 2 (by decide)⟩, h5333, ⟨rfl, sub_flat0 eGMsg_len h5335 2 (by decide)⟩, (F173_ok K x5331 x5334 _ h5337), (leads_ok (by simp [leadsAny, RV.leads, RC.leads, leadsT, hasSl_lit, flat_ns eGMsg_ns])), z⟩
    refine cond_some hF (fun h5338 hF => ?_) (fun h5338 hF => ?_)
    ·
     refine cond_some hF (fun h5339 hF => ?_) (fun _ hF => nomatch hF)
     refine cond_some hF (fun h5340 hF => ?_) (fun _ hF => nomatch hF)
     have pz : HoldAll E H hn172_173 [.test r5336 true, .test (inr 0 (len v5326)) true, .sub (flat eGMsg v5326) (nidx 0 2) 2 [(.lit (.int .i64 x5331.To)), (.lit (.int .i64 x5331.V))], .test (leqm [(.lit (.int .i64 x5331.To)), (.lit (.int .i64 x5331.V))] 1 2) true, .test (apok (len v5327) 1 16) true, .sl (nadd (len v5327) 1) (lapp (flat eGMsg v5327) [(.lit (.int .i64 x5331.To)), (.lit (.int .i64 x5331.V))]) (len (α := GMsg) (appL v5327 [x5331])) (flat eGMsg (appL v5327 [x5331])), .test (bnd 1 (nlen (len v5326)) (len v5326)) true, .sl (nsub 1 (nlen (len v5326))) (lsub (flat eGMsg v5326) 1 (nlen (len v5326)) 2) (len (α := GMsg) (subL v5326 1 (nlen (len v5326)))) (flat eGMsg (subL v5326 1 (nlen (len v5326))))] := ⟨h5338, h5330, ⟨rfl, sub_flat0 eGMsg_len h5332 2 (by decide)⟩, rfl, h5339, (app_ok (enc := eGMsg) (v5327 : List GMsg) [x5331]), h5340, (sub_ok eGMsg_len h5340), trivial⟩
     have h0 := ih _ _ _ _ hF
     have hn := fun ex ts' => loop_nextC (h := hn172_173) (l := 0) (c := c172_173_0) (ts := F172_173_l0_0_S  v5325 v5326 v5327) (ts1 := (F172_173_l0_0_S  v5325 (subL v5326 1 (nlen (len v5326))) (appL v5327 [x5331]))) (ex := ex) (ts' := ts') (pq5347 (pq5348 pz)) (by kernel_rfl)
     exact hn _ _ h0
    refine cond_some hF (fun h5341 hF => ?_) (fun _ hF => nomatch hF)
    refine cond_some hF (fun h5342 hF => ?_) (fun _ hF => nomatch hF)
    have pz : HoldAll E H hn172_173 [.test r5336 false, .test (inr 0 (len v5325)) true, .sub (flat eGMsg v5325) (nidx 0 2) 2 [(.lit (.int .i64 x5334.To)), (.lit (.int .i64 x5334.V))], .test (leqm [(.lit (.int .i64 x5334.To)), (.lit (.int .i64 x5334.V))] 1 2) true, .test (apok (len v5327) 1 16) true, .sl (nadd (len v5327) 1) (lapp (flat eGMsg v5327) [(.lit (.int .i64 x5334.To)), (.lit (.int .i64 x5334.V))]) (len (α := GMsg) (appL v5327 [x5334])) (flat eGMsg (appL v5327 [x5334])), .test (bnd 1 (nlen (len v5325)) (len v5325)) true, .sl (nsub 1 (nlen (len v5325))) (lsub (flat eGMsg v5325) 1 (nlen (len v5325)) 2) (len (α := GMsg) (subL v5325 1 (nlen (len v5325)))) (flat eGMsg (subL v5325 1 (nlen (len v5325))))] := ⟨h5338, h5333, ⟨rfl, sub_flat0 eGMsg_len h5335 2 (by decide)⟩, rfl, h5341, (app_ok (enc := eGMsg) (v5327 : List GMsg) [x5334]), h5342, (sub_ok eGMsg_len h5342), trivial⟩
    have h0 := ih _ _ _ _ hF
    have hn := fun ex ts' => loop_nextC (h := hn172_173) (l := 0) (c := c172_173_0) (ts := F172_173_l0_0_S  v5325 v5326 v5327) (ts1 := (F172_173_l0_0_S  (subL v5325 1 (nlen (len v5325))) v5326 (appL v5327 [x5334]))) (ex := ex) (ts' := ts') (pq5347 (pq5348 pz)) (by kernel_rfl)
    exact hn _ _ h0
   obtain rfl := Option.some.inj hF
   have pz : HoldAll E H hn172_173 [.test (igt (nlen (len v5326)) 0) false] := ⟨(igt_eq h5329), trivial⟩
   exact loop_endC (h := hn172_173) (l := 0) (c := c172_173_0) (ts := F172_173_l0_0_S  v5325 v5326 v5327) (ts' := F172_173_l0_0_X0  (v5325, (v5326, v5327))) (ex := (.exit 0)) (pq5347 pz) (by kernel_rfl) trivial
  obtain rfl := Option.some.inj hF
  have pz : HoldAll E H hn172_173 [.int (nlen (len v5325)) (nlen (len v5325)), .test (beqb (igt (nlen (len v5325)) 0) true) false, .test (beqb (igt (nlen (len v5325)) 0) true) false, .test (beqb (igt (nlen (len v5325)) 0) true) false, .test (igt (nlen (len v5325)) 0) false, .test false false] := ⟨rfl, (beqb_t (igt_eq h5328)), (beqb_t (igt_eq h5328)), (beqb_t (igt_eq h5328)), (igt_eq h5328), rfl, trivial⟩
  exact loop_endC (h := hn172_173) (l := 0) (c := c172_173_0) (ts := F172_173_l0_0_S  v5325 v5326 v5327) (ts' := F172_173_l0_0_X0  (v5325, (v5326, v5327))) (ex := (.exit 0)) pz (by kernel_rfl) trivial
def F172_173 (K : Nat) : Nat → List GMsg → Option (List GMsg)
 | 0, _ => none
 | d + 1, a5294 =>
 bif (ilt (nlen (len a5294)) 2) then
  (bif (apok 0 (len a5294) 16) then
  some (appL [] a5294)
  else none)
 else
 bif (bnd 0 (wquo .i64 (nlen (len a5294)) 2) (len a5294)) then
 (F172_173 K d (subL a5294 0 (wquo .i64 (nlen (len a5294)) 2))).bind fun r5298 =>
 bif (bnd (wquo .i64 (nlen (len a5294)) 2) (nlen (len a5294)) (len a5294)) then
 (F172_173 K d (subL a5294 (wquo .i64 (nlen (len a5294)) 2) (nlen (len a5294)))).bind fun r5301 =>
 bif (mkok 0 (nlen (len a5294)) 16) then
 (F172_173_l0_0 K  K r5298 r5301 (repL (α := GMsg) 0 (GMsg.mk 0 0))).bind fun w5351 =>
 bif (apok (len w5351.2.2) (len w5351.1) 16) then
 bif (apok (len (α := GMsg) (appL w5351.2.2 w5351.1)) (len w5351.2.1) 16) then
 some (appL (appL w5351.2.2 w5351.1) w5351.2.1)
 else none
 else none
 else none
 else none
 else none
theorem F172_173_ok (K : Nat) : ∀ (d : Nat) (a5294 : List GMsg) (r : List GMsg), F172_173 K d a5294 = some r → Evt E H 172 [.one (.sl (len a5294) (flat eGMsg a5294)), .one (.lit (fnV 173))] (F172_173_res r) := by
 intro d
 induction d with
 | zero => intro a5294 r hF; cases hF
 | succ d ih =>
  intro a5294 r hF
  rw [F172_173] at hF
  refine cond_some hF (fun h5295 hF => ?_) (fun h5295 hF => ?_)
  ·
   refine cond_some hF (fun h5296 hF => ?_) (fun _ hF => nomatch hF)
   obtain rfl := Option.some.inj hF
   have pz : HoldAll E H hn172_173 [.int (nlen (len a5294)) (nlen (len a5294)), .test (ilt (nlen (len a5294)) 2) true, .test (leqm (flat eGMsg a5294) (len a5294) 2) true, .test (apok 0 (len a5294) 16) true, .sl (nadd 0 (len a5294)) (lapp [] (flat eGMsg a5294)) (len (α := GMsg) (appL [] a5294)) (flat eGMsg (appL [] a5294))] := ⟨rfl, h5295, (leqm_flat eGMsg_len _), h5296, (app_ok (enc := eGMsg) ([] : List GMsg) a5294), trivial⟩
   exact fn_playC hn172_173 (r := F172_173_res (appL [] a5294)) pz (by kernel_rfl) (by kernel_rfl)
  refine cond_some hF (fun h5297 hF => ?_) (fun _ hF => nomatch hF)
  refine bind_some hF (fun r5298 h5299 hF => ?_)
  refine cond_some hF (fun h5300 hF => ?_) (fun _ hF => nomatch hF)
  refine bind_some hF (fun r5301 h5302 hF => ?_)
  refine cond_some hF (fun h5303 hF => ?_) (fun _ hF => nomatch hF)
  refine bind_some hF (fun w5351 h5349 hF => ?_)
  refine cond_some hF (fun h5355 hF => ?_) (fun _ hF => nomatch hF)
  refine cond_some hF (fun h5356 hF => ?_) (fun _ hF => nomatch hF)
  obtain rfl := Option.some.inj hF
  have pz : HoldAll E H hn172_173 [.int (nlen (len a5294)) (nlen (len a5294)), .test (ilt (nlen (len a5294)) 2) false, .int (nlen (len a5294)) (nlen (len a5294)), .test (izero 2) false, .int (wquo .i64 (nlen (len a5294)) 2) (wquo .i64 (nlen (len a5294)) 2), .test (bnd 0 (wquo .i64 (nlen (len a5294)) 2) (len a5294)) true, .sl (nsub 0 (wquo .i64 (nlen (len a5294)) 2)) (lsub (flat eGMsg a5294) 0 (wquo .i64 (nlen (len a5294)) 2) 2) (len (α := GMsg) (subL a5294 0 (wquo .i64 (nlen (len a5294)) 2))) (flat eGMsg (subL a5294 0 (wquo .i64 (nlen (len a5294)) 2))), .call 172 [.one (.sl (len (α := GMsg) (subL a5294 0 (wquo .i64 (nlen (len a5294)) 2))) (flat eGMsg (subL a5294 0 (wquo .i64 (nlen (len a5294)) 2)))), .one (.lit (fnV 173))] (F172_173_res r5298), .test (leadsAny (Res.mk [(.one (.own 130 (.sl (len r5298) (flat eGMsg r5298))))] [])) false, .test (bnd (wquo .i64 (nlen (len a5294)) 2) (nlen (len a5294)) (len a5294)) true, .sl (nsub (wquo .i64 (nlen (len a5294)) 2) (nlen (len a5294))) (lsub (flat eGMsg a5294) (wquo .i64 (nlen (len a5294)) 2) (nlen (len a5294)) 2) (len (α := GMsg) (subL a5294 (wquo .i64 (nlen (len a5294)) 2) (nlen (len a5294)))) (flat eGMsg (subL a5294 (wquo .i64 (nlen (len a5294)) 2) (nlen (len a5294)))), .call 172 [.one (.sl (len (α := GMsg) (subL a5294 (wquo .i64 (nlen (len a5294)) 2) (nlen (len a5294)))) (flat eGMsg (subL a5294 (wquo .i64 (nlen (len a5294)) 2) (nlen (len a5294))))), .one (.lit (fnV 173))] (F172_173_res r5301), .test (leadsAny (Res.mk [(.one (.own 130 (.sl (len r5301) (flat eGMsg r5301))))] [])) false, .int (nlen (len a5294)) (nlen (len a5294)), .test (mkok 0 (nlen (len a5294)) 16) true, .sl (nint 0) (lrep 0 [(.lit (.int .i64 0)), (.lit (.int .i64 0))]) (len (α := GMsg) (repL (α := GMsg) 0 (GMsg.mk 0 0))) (flat eGMsg (repL (α := GMsg) 0 (GMsg.mk 0 0))), .loop 0 c172_173_0 (F172_173_l0_0_S  r5298 r5301 (repL (α := GMsg) 0 (GMsg.mk 0 0))) (.exit 0) (F172_173_l0_0_X0  w5351), .test (leqm (flat eGMsg w5351.1) (len w5351.1) 2) true, .test (apok (len w5351.2.2) (len w5351.1) 16) true, .sl (nadd (len w5351.2.2) (len w5351.1)) (lapp (flat eGMsg w5351.2.2) (flat eGMsg w5351.1)) (len (α := GMsg) (appL w5351.2.2 w5351.1)) (flat eGMsg (appL w5351.2.2 w5351.1)), .test (leqm (flat eGMsg w5351.2.1) (len w5351.2.1) 2) true, .test (apok (len (α := GMsg) (appL w5351.2.2 w5351.1)) (len w5351.2.1) 16) true, .sl (nadd (len (α := GMsg) (appL w5351.2.2 w5351.1)) (len w5351.2.1)) (lapp (flat eGMsg (appL w5351.2.2 w5351.1)) (flat eGMsg w5351.2.1)) (len (α := GMsg) (appL (appL w5351.2.2 w5351.1) w5351.2.1)) (flat eGMsg (appL (appL w5351.2.2 w5351.1) w5351.2.1))] := ⟨rfl, h5295, rfl, (by first | exact rfl | (unfold Cond.Holds; decide)), rfl, h5297, (sub_ok eGMsg_len h5297), (ih (subL a5294 0 (wquo .i64 (nlen (len a5294)) 2)) _ h5299), (leads_ok (by simp [leadsAny, RV.leads, RC.leads, leadsT, hasSl_lit, flat_ns eGMsg_ns])), h5300, (sub_ok eGMsg_len h5300), (ih (subL a5294 (wquo .i64 (nlen (len a5294)) 2) (nlen (len a5294))) _ h5302), (leads_ok (by simp [leadsAny, RV.leads, RC.leads, leadsT, hasSl_lit, flat_ns eGMsg_ns])), rfl, h5303, (rep_okC (enc := eGMsg) (n := 0) (x := (GMsg.mk 0 0)) rfl), (F172_173_l0_0_ok K  K r5298 r5301 (repL (α := GMsg) 0 (GMsg.mk 0 0)) _ h5349), (leqm_flat eGMsg_len _), h5355, (app_ok (enc := eGMsg) (w5351.2.2 : List GMsg) w5351.1), (leqm_flat eGMsg_len _), h5356, (app_ok (enc := eGMsg) ((appL w5351.2.2 w5351.1) : List GMsg) w5351.2.1), trivial⟩
  exact fn_playC hn172_173 (r := F172_173_res (appL (appL w5351.2.2 w5351.1) w5351.2.1)) pz (by kernel_rfl) (by kernel_rfl)
noncomputable def hn169 : Hint := { H 169 with nt := 5, prot := 0 }
def F169_res (r5360 : List GMsg) : Res := ⟨[(.one (.own 130 (.sl (len r5360) (flat eGMsg r5360))))], []⟩
def F169 (K : Nat) (a5293 : List GMsg) : Option (List GMsg) :=
 (F172_173 K K a5293).bind fun r5358 =>
 some r5358
theorem F169_ok (K : Nat) (a5293 : List GMsg) (r : List GMsg) (hF : F169 K a5293 = some r) : Evt E H 169 [.one (.sl (len a5293) (flat eGMsg a5293))] (F169_res r) := by
 rw [F169] at hF
 refine bind_some hF (fun r5358 h5359 hF => ?_)
 obtain rfl := Option.some.inj hF
 have pz : HoldAll E H hn169 [.call 172 [.one (.sl (len a5293) (flat eGMsg a5293)), .one (.lit (fnV 173))] (F172_173_res r5358), .test (leadsAny (Res.mk [(.one (.own 130 (.sl (len r5358) (flat eGMsg r5358))))] [])) false] := ⟨(F172_173_ok K K a5293 _ h5359), (leads_ok (by simp [leadsAny, RV.leads, RC.leads, leadsT, hasSl_lit, flat_ns eGMsg_ns])), trivial⟩
 exact fn_playC hn169 (r := F169_res r5358) pz (by kernel_rfl) (by kernel_rfl)
noncomputable def hn150 : Hint := { H 150 with nt := 72, prot := 0 }
noncomputable def c150_0 : Code := loopOf E 150 0
def F150_res (r5414 : List GMsg × Int) : Res := ⟨[(.one (.own 130 (.sl (len r5414.1) (flat eGMsg r5414.1)))), (.one (.im (.lit (.int .i64 r5414.2))))], []⟩
def F150_l0_0 (K : Nat) (a5288 : Int) (r5361 : List GMsg) : Nat → List GMsg → Int → Option ((Int) ⊕ (List GMsg))
 | 0, _, _ => none
 | k + 1, v5384, v5385 =>
  bif (ilt v5385 (nlen (len r5361))) then
   (bif (inr v5385 (len r5361)) then
   (elAt r5361 v5385).bind fun x5388 =>
   bif (ilt 0 (nlen (len v5384))) then
    (bif (inr (wsub .i64 (nlen (len v5384)) 1) (len v5384)) then
    (elAt v5384 (wsub .i64 (nlen (len v5384)) 1)).bind fun x5392 =>
    bif (ieq x5392.To x5388.To) then
     ((F97 K a5288 x5392.V x5388.V).bind fun r5395 =>
     bif (ieq r5395.2 0) then
      (F150_l0_0 K a5288 r5361 k (putAt v5384 (wsub .i64 (nlen (len v5384)) 1) (GMsg.mk x5392.To r5395.1)) (wadd .i64 v5385 1))
     else
     some (.inl r5395.2))
    else
    bif (apok (len v5384) 1 16) then
    F150_l0_0 K a5288 r5361 k (appL v5384 [x5388]) (wadd .i64 v5385 1)
    else none
    else none)
   else
   bif (apok (len v5384) 1 16) then
   F150_l0_0 K a5288 r5361 k (appL v5384 [x5388]) (wadd .i64 v5385 1)
   else none
   else none)
  else
  some (.inr v5384)
def F150_l0_0_S (a5288 : Int) (r5361 : List GMsg) (v5384 : List GMsg) (v5385 : Int) : TS := .on [0, 1, 512, 513, 1472, 1473, 1536, 1537, 1600, 1601] [(0, ⟨.one, 0, nob⟩), (1, ⟨.im, 0, (.lit (.int .i64 a5288))⟩), (512, ⟨.one, 0, nob⟩), (513, ⟨(.own 130), 0, (.sl (len v5384) (flat eGMsg v5384))⟩), (1472, ⟨.one, 0, nob⟩), (1473, ⟨(.own 130), 0, (.sl (len r5361) (flat eGMsg r5361))⟩), (1536, ⟨.one, 0, nob⟩), (1537, ⟨.im, 0, (.lit (.int .i64 (nlen (len r5361))))⟩), (1600, ⟨.one, 0, nob⟩), (1601, ⟨.im, 0, (.lit (.int .i64 v5385))⟩)]
def F150_l0_0_X0 (a5288 : Int) (r5361 : List GMsg) (w5400 : Int) : TS := .on [256, 257, 320, 321] [(256, ⟨.one, 0, nob⟩), (257, ⟨(.own 130), 0, (.sl 0 [])⟩), (320, ⟨.one, 0, nob⟩), (321, ⟨.im, 0, (.lit (.int .i64 w5400))⟩)]
def F150_l0_0_X1 (a5288 : Int) (r5361 : List GMsg) (w5402 : List GMsg) : TS := .on [512, 513] [(512, ⟨.one, 0, nob⟩), (513, ⟨(.own 130), 0, (.sl (len w5402) (flat eGMsg w5402))⟩)]
theorem F150_l0_0_ok (K : Nat) (a5288 : Int) (r5361 : List GMsg) : ∀ (k : Nat) (v5384 : List GMsg) (v5385 : Int) (r : (Int) ⊕ (List GMsg)), F150_l0_0 K a5288 r5361 k v5384 v5385 = some r → (Sum.elim (fun w => LoopEv E H hn150 0 c150_0 (F150_l0_0_S a5288 r5361 v5384 v5385) .ret (F150_l0_0_X0 a5288 r5361 w)) (fun w => LoopEv E H hn150 0 c150_0 (F150_l0_0_S a5288 r5361 v5384 v5385) (.exit 0) (F150_l0_0_X1 a5288 r5361 w))) r := by
 intro k
 induction k with
 | zero => intro v5384 v5385 r hF; cases hF
 | succ k ih =>
  intro v5384 v5385 r hF
  rw [F150_l0_0] at hF
  refine cond_some hF (fun h5386 hF => ?_) (fun h5386 hF => ?_)
  ·
   refine cond_some hF (fun h5387 hF => ?_) (fun _ hF => nomatch hF)
   refine bind_some hF (fun x5388 h5389 hF => ?_)
   have pq5404 : ∀ {l : List Cond}, HoldAll E H hn150 l → HoldAll E H hn150 (.test (ilt v5385 (nlen (len r5361))) true :: .test (inr v5385 (len r5361)) true :: .sub (flat eGMsg r5361) (nidx v5385 2) 2 [(.lit (.int .i64 x5388.To)), (.lit (.int .i64 x5388.V))] :: .int (nlen (len v5384)) (nlen (len v5384)) :: l) := fun z => ⟨h5386, h5387, ⟨rfl, sub_flat0 eGMsg_len h5389 2 (by decide)⟩, rfl, z⟩
   refine cond_some hF (fun h5390 hF => ?_) (fun h5390 hF => ?_)
   ·
    refine cond_some hF (fun h5391 hF => ?_) (fun _ hF => nomatch hF)
    refine bind_some hF (fun x5392 h5393 hF => ?_)
    have pq5405 : ∀ {l : List Cond}, HoldAll E H hn150 l → HoldAll E H hn150 (.test (beqb (igt (nlen (len v5384)) 0) true) true :: .test (beqb (igt (nlen (len v5384)) 0) true) true :: .test (beqb (igt (nlen (len v5384)) 0) true) true :: .int (wsub .i64 (nlen (len v5384)) 1) (wsub .i64 (nlen (len v5384)) 1) :: .test (beqb (igt (nlen (len v5384)) 0) true) true :: .test (inr (wsub .i64 (nlen (len v5384)) 1) (len v5384)) true :: .test (beqb (igt (nlen (len v5384)) 0) true) true :: .test (beqb (igt (nlen (len v5384)) 0) true) true :: .sub (flat eGMsg v5384) (nadd (nidx (wsub .i64 (nlen (len v5384)) 1) 2) 0) 1 [(.lit (.int .i64 x5392.To))] :: .test (beqb (igt (nlen (len v5384)) 0) true) true :: .test (beqb (igt (nlen (len v5384)) 0) true) true :: .test (beqb (igt (nlen (len v5384)) 0) true) true :: .test (igt (nlen (len v5384)) 0) true :: l) := fun z => ⟨(beqb_t (igt_eq h5390)), (beqb_t (igt_eq h5390)), (beqb_t (igt_eq h5390)), rfl, (beqb_t (igt_eq h5390)), h5391, (beqb_t (igt_eq h5390)), (beqb_t (igt_eq h5390)), ⟨rfl, sub_flat eGMsg_len h5393 0 1 (by decide)⟩, (beqb_t (igt_eq h5390)), (beqb_t (igt_eq h5390)), (beqb_t (igt_eq h5390)), (igt_eq h5390), z⟩
    refine cond_some hF (fun h5394 hF => ?_) (fun h5394 hF => ?_)
    ·
     refine bind_some hF (fun r5395 h5396 hF => ?_)
     have pq5406 : ∀ {l : List Cond}, HoldAll E H hn150 l → HoldAll E H hn150 (.test (ieq x5392.To x5388.To) true :: .int (wsub .i64 (nlen (len v5384)) 1) (wsub .i64 (nlen (len v5384)) 1) :: .test (inr (wsub .i64 (nlen (len v5384)) 1) (len v5384)) true :: .sub (flat eGMsg v5384) (nadd (nidx (wsub .i64 (nlen (len v5384)) 1) 2) 1) 1 [(.lit (.int .i64 x5392.V))] :: .call 97 [.one (.lit (.int .i64 a5288)), .one (.lit (.int .i64 x5392.V)), .one (.lit (.int .i64 x5388.V))] (F97_res r5395) :: .test (leadsAny (Res.mk [(.one (.im (.lit (.int .i64 r5395.1)))), (.one (.im (.lit (.int .i64 r5395.2))))] [])) false :: l) := fun z => ⟨h5394, rfl, h5391, ⟨rfl, sub_flat eGMsg_len h5393 1 1 (by decide)⟩, (F97_ok K a5288 x5392.V x5388.V _ h5396), (leads_ok (by simp [leadsAny, RV.leads, RC.leads, leadsT, hasSl_lit, flat_ns eGMsg_ns])), z⟩
     refine cond_some hF (fun h5397 hF => ?_) (fun h5397 hF => ?_)
     ·
      have pz : HoldAll E H hn150 [.test (ine r5395.2 0) false, .int (wsub .i64 (nlen (len v5384)) 1) (wsub .i64 (nlen (len v5384)) 1), .test (inr (wsub .i64 (nlen (len v5384)) 1) (len v5384)) true, .test (lfits (nadd (nidx (wsub .i64 (nlen (len v5384)) 1) 2) 1) 1 (flat eGMsg v5384)) true, .sl (len v5384) (lset (flat eGMsg v5384) (nadd (nidx (wsub .i64 (nlen (len v5384)) 1) 2) 1) [(.lit (.int .i64 r5395.1))]) (len (α := GMsg) (putAt v5384 (wsub .i64 (nlen (len v5384)) 1) (GMsg.mk x5392.To r5395.1))) (flat eGMsg (putAt v5384 (wsub .i64 (nlen (len v5384)) 1) (GMsg.mk x5392.To r5395.1))), .int (wadd .i64 v5385 1) (wadd .i64 v5385 1)] := ⟨(ine_t h5397), rfl, h5391, (lfits_flat eGMsg_len h5393 1 _ (by decide)), (set_ok eGMsg_len h5393 1 _ (by simp) rfl), rfl, trivial⟩
      have h0 := ih _ _ _ hF
      have hn := fun ex ts' => loop_nextC (h := hn150) (l := 0) (c := c150_0) (ts := F150_l0_0_S a5288 r5361 v5384 v5385) (ts1 := (F150_l0_0_S a5288 r5361 (putAt v5384 (wsub .i64 (nlen (len v5384)) 1) (GMsg.mk x5392.To r5395.1)) (wadd .i64 v5385 1))) (ex := ex) (ts' := ts') (pq5404 (pq5405 (pq5406 pz))) (by kernel_rfl)
      cases r with
      | inl w => exact hn _ _ h0
      | inr w => exact hn _ _ h0
     obtain rfl := Option.some.inj hF
     have pz : HoldAll E H hn150 [.test (ine r5395.2 0) true] := ⟨(ine_f h5397), trivial⟩
     exact loop_endC (h := hn150) (l := 0) (c := c150_0) (ts := F150_l0_0_S a5288 r5361 v5384 v5385) (ts' := F150_l0_0_X0 a5288 r5361 r5395.2) (ex := .ret) (pq5404 (pq5405 (pq5406 pz))) (by kernel_rfl) trivial
    refine cond_some hF (fun h5398 hF => ?_) (fun _ hF => nomatch hF)
    have pz : HoldAll E H hn150 [.test (ieq x5392.To x5388.To) false, .test (leqm [(.lit (.int .i64 x5388.To)), (.lit (.int .i64 x5388.V))] 1 2) true, .test (apok (len v5384) 1 16) true, .sl (nadd (len v5384) 1) (lapp (flat eGMsg v5384) [(.lit (.int .i64 x5388.To)), (.lit (.int .i64 x5388.V))]) (len (α := GMsg) (appL v5384 [x5388])) (flat eGMsg (appL v5384 [x5388])), .int (wadd .i64 v5385 1) (wadd .i64 v5385 1)] := ⟨h5394, rfl, h5398, (app_ok (enc := eGMsg) (v5384 : List GMsg) [x5388]), rfl, trivial⟩
    have h0 := ih _ _ _ hF
    have hn := fun ex ts' => loop_nextC (h := hn150) (l := 0) (c := c150_0) (ts := F150_l0_0_S a5288 r5361 v5384 v5385) (ts1 := (F150_l0_0_S a5288 r5361 (appL v5384 [x5388]) (wadd .i64 v5385 1))) (ex := ex) (ts' := ts') (pq5404 (pq5405 pz)) (by kernel_rfl)
    cases r with
    | inl w => exact hn _ _ h0
    | inr w => exact hn _ _ h0
   refine cond_some hF (fun h5399 hF => ?_) (fun _ hF => nomatch hF)
   have pz : HoldAll E H hn150 [.test (beqb (igt (nlen (len v5384)) 0) true) false, .test (beqb (igt (nlen (len v5384)) 0) true) false, .test (beqb (igt (nlen (len v5384)) 0) true) false, .test (beqb (igt (nlen (len v5384)) 0) true) false, .test (beqb (igt (nlen (len v5384)) 0) true) false, .test (beqb (igt (nlen (len v5384)) 0) true) false, .test (beqb (igt (nlen (len v5384)) 0) true) false, .test (beqb (igt (nlen (len v5384)) 0) true) false, .test (beqb (igt (nlen (len v5384)) 0) true) false, .test (igt (nlen (len v5384)) 0) false, .test false false, .test (leqm [(.lit (.int .i64 x5388.To)), (.lit (.int .i64 x5388.V))] 1 2) true, .test (apok (len v5384) 1 16) true, .sl (nadd (len v5384) 1) (lapp (flat eGMsg v5384) [(.lit (.int .i64 x5388.To)), (.lit (.int .i64 x5388.V))]) (len (α := GMsg) (appL v5384 [x5388])) (flat eGMsg (appL v5384 [x5388])), .int (wadd .i64 v5385 1) (wadd .i64 v5385 1)] := ⟨(beqb_t (igt_eq h5390)), (beqb_t (igt_eq h5390)), (beqb_t (igt_eq h5390)), (beqb_t (igt_eq h5390)), (beqb_t (igt_eq h5390)), (beqb_t (igt_eq h5390)), (beqb_t (igt_eq h5390)), (beqb_t (igt_eq h5390)), (beqb_t (igt_eq h5390)), (igt_eq h5390), rfl, rfl, h5399, (app_ok (enc := eGMsg) (v5384 : List GMsg) [x5388]), rfl, trivial⟩
   have h0 := ih _ _ _ hF
   have hn := fun ex ts' => loop_nextC (h := hn150) (l := 0) (c := c150_0) (ts := F150_l0_0_S a5288 r5361 v5384 v5385) (ts1 := (F150_l0_0_S a5288 r5361 (appL v5384 [x5388]) (wadd .i64 v5385 1))) (ex := ex) (ts' := ts') (pq5404 pz) (by kernel_rfl)
   cases r with
   | inl w => exact hn _ _ h0
   | inr w => exact hn _ _ h0
  obtain rfl := Option.some.inj hF
  have pz : HoldAll E H hn150 [.test (ilt v5385 (nlen (len r5361))) false] := ⟨h5386, trivial⟩
  exact loop_endC (h := hn150) (l := 0) (c := c150_0) (ts := F150_l0_0_S a5288 r5361 v5384 v5385) (ts' := F150_l0_0_X1 a5288 r5361 v5384) (ex := (.exit 0)) pz (by kernel_rfl) trivial
def F150 (K : Nat) (a5288 : Int) (a5289 : List GMsg) : Option (List GMsg × Int) :=
 (F97 K a5288 0 0).bind fun r5290 =>
 bif (ieq r5290.2 0) then
  ((F169 K a5289).bind fun r5361 =>
  (F150_l0_0 K a5288 r5361 K [] 0).bind fun y5408 =>
  Sum.elim (fun w5409 =>
   some ([], w5409))
   (fun w5411 =>
   some (w5411, 0)) y5408)
 else
 some ([], r5290.2)
theorem F150_ok (K : Nat) (a5288 : Int) (a5289 : List GMsg) (r : List GMsg × Int) (hF : F150 K a5288 a5289 = some r) : Evt E H 150 [.one (.lit (.int .i64 a5288)), .one (.sl (len a5289) (flat eGMsg a5289))] (F150_res r) := by
 rw [F150] at hF
 refine bind_some hF (fun r5290 h5291 hF => ?_)
 refine cond_some hF (fun h5292 hF => ?_) (fun h5292 hF => ?_)
 ·
  refine bind_some hF (fun r5361 h5362 hF => ?_)
  have pq5413 : ∀ {l : List Cond}, HoldAll E H hn150 l → HoldAll E H hn150 (.call 97 [.one (.lit (.int .i64 a5288)), .one (.lit (.int .i64 0)), .one (.lit (.int .i64 0))] (F97_res r5290) :: .test (leadsAny (Res.mk [(.one (.im (.lit (.int .i64 r5290.1)))), (.one (.im (.lit (.int .i64 r5290.2))))] [])) false :: .test (ine r5290.2 0) false :: .call 169 [.one (.sl (len a5289) (flat eGMsg a5289))] (F169_res r5361) :: .test (leadsAny (Res.mk [(.one (.own 130 (.sl (len r5361) (flat eGMsg r5361))))] [])) false :: .int (nlen (len r5361)) (nlen (len r5361)) :: l) := fun z => ⟨(F97_ok K a5288 0 0 _ h5291), (leads_ok (by simp [leadsAny, RV.leads, RC.leads, leadsT, hasSl_lit, flat_ns eGMsg_ns])), (ine_t h5292), (F169_ok K a5289 _ h5362), (leads_ok (by simp [leadsAny, RV.leads, RC.leads, leadsT, hasSl_lit, flat_ns eGMsg_ns])), rfl, z⟩
  refine bind_some hF (fun y5408 h5407 hF => ?_)
  refine sum_some hF (fun w5409 hx hF => ?_) (fun w5411 hx hF => ?_)
  ·
   subst hx
   obtain rfl := Option.some.inj hF
   have pz : HoldAll E H hn150 [.loop 0 c150_0 (F150_l0_0_S a5288 r5361 [] 0) .ret (F150_l0_0_X0 a5288 r5361 w5409)] := ⟨(F150_l0_0_ok K a5288 r5361 K [] 0 _ h5407), trivial⟩
   exact fn_playC hn150 (r := F150_res ([], w5409)) (pq5413 pz) (by kernel_rfl) (by kernel_rfl)
  subst hx
  obtain rfl := Option.some.inj hF
  have pz : HoldAll E H hn150 [.loop 0 c150_0 (F150_l0_0_S a5288 r5361 [] 0) (.exit 0) (F150_l0_0_X1 a5288 r5361 w5411)] := ⟨(F150_l0_0_ok K a5288 r5361 K [] 0 _ h5407), trivial⟩
  exact fn_playC hn150 (r := F150_res (w5411, 0)) (pq5413 pz) (by kernel_rfl) (by kernel_rfl)
 obtain rfl := Option.some.inj hF
 have pz : HoldAll E H hn150 [.call 97 [.one (.lit (.int .i64 a5288)), .one (.lit (.int .i64 0)), .one (.lit (.int .i64 0))] (F97_res r5290), .test (leadsAny (Res.mk [(.one (.im (.lit (.int .i64 r5290.1)))), (.one (.im (.lit (.int .i64 r5290.2))))] [])) false, .test (ine r5290.2 0) true] := ⟨(F97_ok K a5288 0 0 _ h5291), (leads_ok (by simp [leadsAny, RV.leads, RC.leads, leadsT, hasSl_lit])), (ine_f h5292), trivial⟩
 exact fn_playC hn150 (r := F150_res ([], r5290.2)) pz (by kernel_rfl) (by kernel_rfl)
noncomputable def hn154 : Hint := { H 154 with nt := 18, prot := 0 }
noncomputable def c154_0 : Code := loopOf E 154 0
def F154_res (r6568 : List GMsg) : Res := ⟨[(.one (.own 130 (.sl (len r6568) (flat eGMsg r6568))))], []⟩
def F154_l0_0 (K : Nat) (a6547 : List (List GMsg)) : Nat → List GMsg → Int → Option (List GMsg)
 | 0, _, _ => none
 | k + 1, v6553, v6554 =>
  bif (ilt v6554 (nlen (len a6547))) then
   (bif (inr v6554 (len a6547)) then
   (elAt a6547 v6554).bind fun x6557 =>
   bif (apok (len v6553) (len x6557) 16) then
   F154_l0_0 K a6547 k (appL v6553 x6557) (wadd .i64 v6554 1)
   else none
   else none)
  else
  some v6553
def F154_l0_0_S (a6547 : List (List GMsg)) (v6553 : List GMsg) (v6554 : Int) : TS := .on [0, 1, 192, 193, 384, 385, 448, 449, 512, 513] [(0, ⟨.one, 0, nob⟩), (1, ⟨.im, 0, (.sl (len a6547) (flat (eSl eGMsg) a6547))⟩), (192, ⟨.one, 0, nob⟩), (193, ⟨(.own 130), 0, (.sl (len v6553) (flat eGMsg v6553))⟩), (384, ⟨.one, 0, nob⟩), (385, ⟨.im, 0, (.sl (len a6547) (flat (eSl eGMsg) a6547))⟩), (448, ⟨.one, 0, nob⟩), (449, ⟨.im, 0, (.lit (.int .i64 (nlen (len a6547))))⟩), (512, ⟨.one, 0, nob⟩), (513, ⟨.im, 0, (.lit (.int .i64 v6554))⟩)]
def F154_l0_0_X0 (a6547 : List (List GMsg)) (w6560 : List GMsg) : TS := .on [192, 193] [(192, ⟨.one, 0, nob⟩), (193, ⟨(.own 130), 0, (.sl (len w6560) (flat eGMsg w6560))⟩)]
theorem F154_l0_0_ok (K : Nat) (a6547 : List (List GMsg)) : ∀ (k : Nat) (v6553 : List GMsg) (v6554 : Int) (r : List GMsg), F154_l0_0 K a6547 k v6553 v6554 = some r → LoopEv E H hn154 0 c154_0 (F154_l0_0_S a6547 v6553 v6554) (.exit 0) (F154_l0_0_X0 a6547 r) := by
 intro k
 induction k with
 | zero => intro v6553 v6554 r hF; cases hF
 | succ k ih =>
  intro v6553 v6554 r hF
  rw [F154_l0_0] at hF
  refine cond_some hF (fun h6555 hF => ?_) (fun h6555 hF => ?_)
  ·
   refine cond_some hF (fun h6556 hF => ?_) (fun _ hF => nomatch hF)
   refine bind_some hF (fun x6557 h6558 hF => ?_)
   refine cond_some hF (fun h6559 hF => ?_) (fun _ hF => nomatch hF)
   have pz : HoldAll E H hn154 [.test (ilt v6554 (nlen (len a6547))) true, .test (inr v6554 (len a6547)) true, .sub (flat (eSl eGMsg) a6547) (nidx v6554 1) 1 [(.sl (len x6557) (flat eGMsg x6557))], .test (leqm (flat eGMsg x6557) (len x6557) 2) true, .test (apok (len v6553) (len x6557) 16) true, .sl (nadd (len v6553) (len x6557)) (lapp (flat eGMsg v6553) (flat eGMsg x6557)) (len (α := GMsg) (appL v6553 x6557)) (flat eGMsg (appL v6553 x6557)), .int (wadd .i64 v6554 1) (wadd .i64 v6554 1)] := ⟨h6555, h6556, ⟨rfl, sub_flat0 (eSl_len _) h6558 1 (by decide)⟩, (leqm_flat eGMsg_len _), h6559, (app_ok (enc := eGMsg) (v6553 : List GMsg) x6557), rfl, trivial⟩
   have h0 := ih _ _ _ hF
   have hn := fun ex ts' => loop_nextC (h := hn154) (l := 0) (c := c154_0) (ts := F154_l0_0_S a6547 v6553 v6554) (ts1 := (F154_l0_0_S a6547 (appL v6553 x6557) (wadd .i64 v6554 1))) (ex := ex) (ts' := ts') pz (by kernel_rfl)
   exact hn _ _ h0
  obtain rfl := Option.some.inj hF
  have pz : HoldAll E H hn154 [.test (ilt v6554 (nlen (len a6547))) false] := ⟨h6555, trivial⟩
  exact loop_endC (h := hn154) (l := 0) (c := c154_0) (ts := F154_l0_0_S a6547 v6553 v6554) (ts' := F154_l0_0_X0 a6547 v6553) (ex := (.exit 0)) pz (by kernel_rfl) trivial
def F154 (K : Nat) (a6547 : List (List GMsg)) : Option (List GMsg) :=
 (F154_l0_0 K a6547 K [] 0).bind fun w6564 =>
 (F169 K w6564).bind fun r6566 =>
 some r6566
theorem F154_ok (K : Nat) (a6547 : List (List GMsg)) (r : List GMsg) (hF : F154 K a6547 = some r) : Evt E H 154 [.one (.sl (len a6547) (flat (eSl eGMsg) a6547))] (F154_res r) := by
 rw [F154] at hF
 refine bind_some hF (fun w6564 h6562 hF => ?_)
 refine bind_some hF (fun r6566 h6567 hF => ?_)
 obtain rfl := Option.some.inj hF
 have pz : HoldAll E H hn154 [.int (nlen (len a6547)) (nlen (len a6547)), .loop 0 c154_0 (F154_l0_0_S a6547 [] 0) (.exit 0) (F154_l0_0_X0 a6547 w6564), .call 169 [.one (.sl (len w6564) (flat eGMsg w6564))] (F169_res r6566), .test (leadsAny (Res.mk [(.one (.own 130 (.sl (len r6566) (flat eGMsg r6566))))] [])) false] := ⟨rfl, (F154_l0_0_ok K a6547 K [] 0 _ h6562), (F169_ok K w6564 _ h6567), (leads_ok (by simp [leadsAny, RV.leads, RC.leads, leadsT, hasSl_lit, flat_ns eGMsg_ns])), trivial⟩
 exact fn_playC hn154 (r := F154_res r6566) pz (by kernel_rfl) (by kernel_rfl)
noncomputable def hn152 : Hint := { H 152 with nt := 68, prot := 0 }
noncomputable def c152_0 : Code := loopOf E 152 0
noncomputable def c152_1 : Code := loopOf E 152 1
def F152_res (r2117 : List GMsg × Int) : Res := ⟨[(.one (.own 130 (.sl (len r2117.1) (flat eGMsg r2117.1)))), (.one (.im (.lit (.int .i64 r2117.2))))], []⟩
def F152_l1_1 (K : Nat) (a1916 : Int) (r2026 : List GMsg) (v2065 : List GMsg) (x2069 : GMsg) : Nat → Int → Int → Option ((Int) ⊕ (Int × Int))
 | 0, _, _ => none
 | k + 1, v2079, v2080 =>
  bif (ilt v2079 (nlen (len r2026))) then
   (bif (inr v2079 (len r2026)) then
   (elAt r2026 v2079).bind fun x2083 =>
   bif (ieq x2083.To x2069.To) then
    ((F98 K a1916 v2080 x2083.V).bind fun r2086 =>
    bif (ieq r2086.2 0) then
     (F152_l1_1 K a1916 r2026 v2065 x2069 k (wadd .i64 v2079 1) r2086.1)
    else
    some (.inl r2086.2))
   else
   some (.inr (v2079, v2080))
   else none)
  else
  some (.inr (v2079, v2080))
def F152_l1_1_S (a1916 : Int) (r2026 : List GMsg) (v2065 : List GMsg) (x2069 : GMsg) (v2079 : Int) (v2080 : Int) : TS := .on [0, 1, 384, 385, 448, 449, 512, 513, 576, 577, 578] [(0, ⟨.one, 0, nob⟩), (1, ⟨.im, 0, (.lit (.int .i64 a1916))⟩), (384, ⟨.one, 0, nob⟩), (385, ⟨(.own 130), 0, (.sl (len r2026) (flat eGMsg r2026))⟩), (448, ⟨.one, 0, nob⟩), (449, ⟨(.own 130), 0, (.sl (len v2065) (flat eGMsg v2065))⟩), (512, ⟨.one, 0, nob⟩), (513, ⟨.im, 0, (.lit (.int .i64 v2079))⟩), (576, ⟨(.box 130 2), 0, nob⟩), (577, ⟨.im, 0, (.lit (.int .i64 x2069.To))⟩), (578, ⟨.im, 0, (.lit (.int .i64 v2080))⟩)]
def F152_l1_1_X0 (a1916 : Int) (r2026 : List GMsg) (v2065 : List GMsg) (x2069 : GMsg) (w2089 : Int) : TS := .on [256, 257, 320, 321] [(256, ⟨.one, 0, nob⟩), (257, ⟨(.own 130), 0, (.sl 0 [])⟩), (320, ⟨.one, 0, nob⟩), (321, ⟨.im, 0, (.lit (.int .i64 w2089))⟩)]
end Go.Proofs.Ytnjanliihnadjaa.Tm

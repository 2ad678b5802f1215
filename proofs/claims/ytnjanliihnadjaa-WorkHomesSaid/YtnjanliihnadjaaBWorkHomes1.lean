/- What the row of WorkHomes leans on: printed functions and plain laws. Conditions: none. -/
import Derived.Test.YtnjanliihnadjaaTy
import Derived.Test.YtnjanliihnadjaaTab
import Derived.Test.YtnjanliihnadjaaKn
import Derived.Test.YtnjanliihnadjaaWf
import Derived.IntWalk
import Derived.KernelRfl
import Derived.OpenShut
set_option linter.unusedVariables false
set_option linter.unusedSimpArgs false
namespace Go.Proofs.Ytnjanliihnadjaa.Tm
open Go
abbrev PQ (h : Hint) (f : List Cond → List Cond) : Prop := ∀ {l : List Cond}, HoldAll E H h l → HoldAll E H h (f l)
theorem elAt_nat {α : Type} (l : List α) (i : Nat) : elAt l (i : Int) = l[i]? := by simp [elAt]
theorem wadd_ok {a b : Int} (h1 : -9223372036854775808 ≤ a + b) (h2 : a + b < 9223372036854775808) : wadd .i64 a b = a + b := by
 show IntKind.i64.wrap (a + b) = a + b
 rw [IntKind.wrap_i64]
 omega
theorem wadd_nat {i : Nat} (h : i < 4611686018427387904) : wadd .i64 (i : Int) 1 = ((i + 1 : Nat) : Int) := by
 rw [wadd_ok (by omega) (by omega)]; simp
theorem at_idx {α : Type} (l : List α) (i : Nat) :
   (∃ x, l.drop i = x :: l.drop (i + 1) ∧ ilt (i : Int) (nlen (len l)) = true ∧ inr (i : Int) (len l) = true ∧ elAt l (i : Int) = some x) ∨
   (l.drop i = [] ∧ ilt (i : Int) (nlen (len l)) = false) := by
 by_cases h : i < l.length
 · left
   refine ⟨l[i], List.drop_eq_getElem_cons h, ?_, ?_, ?_⟩
   · simp [ilt, nlen, len]; omega
   · simp [inr, len]; omega
   · rw [elAt_nat]; simp [h]
 · right
   refine ⟨List.drop_eq_nil_of_le (by omega), ?_⟩
   simp [ilt, nlen, len]; omega
def goI {α σ β : Type} (step : Nat → α → σ → (σ → Option β) → Option β) (fin : σ → Option β) : Nat → List α → σ → Option β
 | _, [], s => fin s
 | i, x :: r, s => step i x s (goI step fin (i + 1) r)
def goL {α σ β : Type} (step : α → σ → (σ → Option β) → Option β) (fin : σ → Option β) : List α → σ → Option β
 | [], s => fin s
 | x :: r, s => step x s (goL step fin r)
theorem lt_of_drop' {α : Type} {l : List α} {i : Nat} {x : α} {r : List α} (h : l.drop i = x :: r) : i < l.length := by
 rcases Nat.lt_or_ge i l.length with g | g
 · exact g
 · rw [List.drop_eq_nil_of_le g] at h; cases h
theorem scanI {α σ β : Type} {l : List α} {L : Nat → σ → Int → Option β} (step : Nat → α → σ → (σ → Option β) → Option β) (fin : σ → Option β)
   (h : ∀ k s (i : Nat), i ≤ l.length → L (k + 1) s i = bif ilt i (nlen (len l)) then (bif inr i (len l) then (elAt l i).bind fun x => step i x s (fun s' => L k s' (wadd .i64 i 1)) else none) else fin s)
   (hl : l.length < 4611686018427387904) : ∀ (k : Nat) (s : σ) (i : Nat), l.length - i < k → i ≤ l.length → L k s i = goI step fin i (l.drop i) s := by
 intro k
 induction k with
 | zero => intro s i h; omega
 | succ k ih =>
   intro s i hk hi
   rw [h k s i hi]
   rcases at_idx l i with ⟨x, e1, e2, e3, e4⟩ | ⟨e1, e2⟩
   · have hlt := lt_of_drop' e1
     rw [e1, e2, e3, e4]
     simp only [cond_true, Option.bind_some, goI]
     congr 1
     funext s'
     rw [wadd_nat (by omega)]
     exact ih s' (i + 1) (by omega) (by omega)
   · rw [e1, e2]; rfl
theorem scanL {α σ β : Type} {l : List α} {L : Nat → σ → Int → Option β} (step : α → σ → (σ → Option β) → Option β) (fin : σ → Option β)
   (h : ∀ k s (i : Nat), i ≤ l.length → L (k + 1) s i = bif ilt i (nlen (len l)) then (bif inr i (len l) then (elAt l i).bind fun x => step x s (fun s' => L k s' (wadd .i64 i 1)) else none) else fin s)
   (hl : l.length < 4611686018427387904) {K : Nat} (hK : l.length < K) (s : σ) : L K s 0 = goL step fin l s := by
 have e : ∀ (i : Nat) (r : List α) (s : σ), goI (fun _ => step) fin i r s = goL step fin r s := by
   intro i r
   induction r generalizing i with
   | nil => intro s; rfl
   | cons x r ih =>
     intro s
     simp only [goI, goL]
     congr 1
     funext s'
     exact ih (i + 1) s'
 have := scanI (fun _ => step) fin h hl K s 0 (by omega) (by omega)
 rw [e, List.drop_zero] at this
 exact this
theorem ilt_not' (a b : Int) : ilt a b = !(ile b a) := by
 unfold ilt ile
 by_cases h : a < b <;> simp [h] <;> omega
theorem ieq_refl (a : Int) : ieq a a = true := by simp [ieq]
theorem beqb_refl (a : Bool) : beqb a a = true := by cases a <;> rfl
theorem ile_iff {a b : Int} : ile a b = true ↔ a ≤ b := decide_eq_true_iff
theorem ilt_iff {a b : Int} : ilt a b = true ↔ a < b := decide_eq_true_iff
theorem ieq_iff {a b : Int} : ieq a b = true ↔ a = b := by simp [ieq]
theorem ile_f {a b : Int} : ile a b = false ↔ b < a := by simp [ile]
theorem ilt_f {a b : Int} : ilt a b = false ↔ b ≤ a := by simp [ilt]
theorem ieq_f {a b : Int} : ieq a b = false ↔ a ≠ b := by simp [ieq]
noncomputable def hn140 : Hint := { H 140 with nt := 26, prot := 0 }
noncomputable def c140_0 : Code := loopOf E 140 0
def F140_res (r1 : Bool) : Res := ⟨[(.one (.im (.lit (.bool r1))))], []⟩
def F140_l0_0 (K : Nat) (a1 : List Int) (a2 : List Int) : Nat → Int → Option ((Unit) ⊕ (Unit))
 | 0, _ => none
 | k + 1, v3 =>
  bif (ilt v3 (nlen (len a1))) then
   (bif (inr v3 (len a1)) then
   (elAt a1 v3).bind fun x4 =>
   bif (inr v3 (len a2)) then
   (elAt a2 v3).bind fun x5 =>
   bif (ieq x4 x5) then
    (F140_l0_0 K a1 a2 k (wadd .i64 v3 1))
   else
   some (.inl ())
   else none
   else none)
  else
  some (.inr ())
def F140_l0_0_S (a1 : List Int) (a2 : List Int) (v3 : Int) : TS := .on [0, 1, 64, 65, 320, 321] [(0, ⟨.one, 0, nob⟩), (1, ⟨.im, 0, (.sl (len a1) (flat (eInt .i64) a1))⟩), (64, ⟨.one, 0, nob⟩), (65, ⟨.im, 0, (.sl (len a2) (flat (eInt .i64) a2))⟩), (320, ⟨.one, 0, nob⟩), (321, ⟨.im, 0, (.lit (.int .i64 v3))⟩)]
def F140_l0_0_X0 (a1 : List Int) (a2 : List Int) (w3 : Unit) : TS := .on [256, 257] [(256, ⟨.one, 0, nob⟩), (257, ⟨.im, 0, (.lit (.bool false))⟩)]
def F140_l0_0_X1 (a1 : List Int) (a2 : List Int) (w3 : Unit) : TS := .on [] []
theorem F140_l0_0_ok (K : Nat) (a1 : List Int) (a2 : List Int) : ∀ (k : Nat) (v3 : Int) (r : (Unit) ⊕ (Unit)), F140_l0_0 K a1 a2 k v3 = some r → (Sum.elim (fun w => LoopEv E H hn140 0 c140_0 (F140_l0_0_S a1 a2 v3) .ret (F140_l0_0_X0 a1 a2 w)) (fun w => LoopEv E H hn140 0 c140_0 (F140_l0_0_S a1 a2 v3) (.exit 0) (F140_l0_0_X1 a1 a2 w))) r := by
 intro k
 induction k with
 | zero => intro v3 r hF; cases hF
 | succ k ih =>
  intro v3 r hF
  rw [F140_l0_0] at hF
  refine cond_some hF (fun h4 hF => ?_) (fun h4 hF => ?_)
  ·
   refine cond_some hF (fun h5 hF => ?_) (fun _ hF => nomatch hF)
   refine bind_some hF (fun x6 h7 hF => ?_)
   refine cond_some hF (fun h8 hF => ?_) (fun _ hF => nomatch hF)
   refine bind_some hF (fun x9 h10 hF => ?_)
   have q12 : PQ hn140 fun l => (.int (nlen (len a1)) (nlen (len a1)) :: .test (ilt v3 (nlen (len a1))) true :: .test (inr v3 (len a1)) true :: .sub (flat (eInt .i64) a1) (nidx v3 1) 1 [(.lit (.int .i64 x6))] :: .test (inr v3 (len a2)) true :: .sub (flat (eInt .i64) a2) (nidx v3 1) 1 [(.lit (.int .i64 x9))] :: l) := fun z => ⟨rfl, h4, h5, ⟨rfl, sub_flat0 (eInt_len _) h7 1 (by decide)⟩, h8, ⟨rfl, sub_flat0 (eInt_len _) h10 1 (by decide)⟩, z⟩
   refine cond_some hF (fun h11 hF => ?_) (fun h11 hF => ?_)
   ·
    have pz : HoldAll E H hn140 [.test (ine x6 x9) false, .int (wadd .i64 v3 1) (wadd .i64 v3 1)] := ⟨(ine_t h11), rfl, trivial⟩
    have h0 := ih _ _ hF
    have hn := fun ex ts' => loop_nextC (h := hn140) (l := 0) (c := c140_0) (ts := F140_l0_0_S a1 a2 v3) (ts1 := (F140_l0_0_S a1 a2 (wadd .i64 v3 1))) (ex := ex) (ts' := ts') (q12 pz) (by kernel_rfl)
    cases r with
    | inl w => exact hn _ _ h0
    | inr w => exact hn _ _ h0
   obtain rfl := Option.some.inj hF
   have pz : HoldAll E H hn140 [.test (ine x6 x9) true] := ⟨(ine_f h11), trivial⟩
   exact loop_endC (h := hn140) (l := 0) (c := c140_0) (ts := F140_l0_0_S a1 a2 v3) (ts' := F140_l0_0_X0 a1 a2 ()) (ex := .ret) (q12 pz) (by kernel_rfl) trivial
  obtain rfl := Option.some.inj hF
  have pz : HoldAll E H hn140 [.int (nlen (len a1)) (nlen (len a1)), .test (ilt v3 (nlen (len a1))) false] := ⟨rfl, h4, trivial⟩
  exact loop_endC (h := hn140) (l := 0) (c := c140_0) (ts := F140_l0_0_S a1 a2 v3) (ts' := F140_l0_0_X1 a1 a2 ()) (ex := (.exit 0)) pz (by kernel_rfl) trivial
def F140 (K : Nat) (a1 : List Int) (a2 : List Int) : Option (Bool) :=
 bif (ieq (nlen (len a1)) (nlen (len a2))) then
  ((F140_l0_0 K a1 a2 K 0).bind fun y3 =>
  Sum.elim (fun w4 =>
   some false)
   (fun w5 =>
   some true) y3)
 else
 some false
theorem F140_ok (K : Nat) (a1 : List Int) (a2 : List Int) (r : Bool) (hF : F140 K a1 a2 = some r) : Evt E H 140 [.one (.sl (len a1) (flat (eInt .i64) a1)), .one (.sl (len a2) (flat (eInt .i64) a2))] (F140_res r) := by
 rw [F140] at hF
 refine cond_some hF (fun h3 hF => ?_) (fun h3 hF => ?_)
 ·
  have q8 : PQ hn140 fun l => (.int (nlen (len a1)) (nlen (len a1)) :: .int (nlen (len a2)) (nlen (len a2)) :: .test (ine (nlen (len a1)) (nlen (len a2))) false :: l) := fun z => ⟨rfl, rfl, (ine_t h3), z⟩
  refine bind_some hF (fun y5 h4 hF => ?_)
  refine sum_some hF (fun w6 hx hF => ?_) (fun w7 hx hF => ?_)
  ·
   subst hx
   obtain rfl := Option.some.inj hF
   have pz : HoldAll E H hn140 [.loop 0 c140_0 (F140_l0_0_S a1 a2 0) .ret (F140_l0_0_X0 a1 a2 w6)] := ⟨(F140_l0_0_ok K a1 a2 K 0 _ h4), trivial⟩
   exact fn_playC hn140 (r := F140_res false) (q8 pz) (by kernel_rfl) (by kernel_rfl)
  subst hx
  obtain rfl := Option.some.inj hF
  have pz : HoldAll E H hn140 [.loop 0 c140_0 (F140_l0_0_S a1 a2 0) (.exit 0) (F140_l0_0_X1 a1 a2 w7)] := ⟨(F140_l0_0_ok K a1 a2 K 0 _ h4), trivial⟩
  exact fn_playC hn140 (r := F140_res true) (q8 pz) (by kernel_rfl) (by kernel_rfl)
 obtain rfl := Option.some.inj hF
 have pz : HoldAll E H hn140 [.int (nlen (len a1)) (nlen (len a1)), .int (nlen (len a2)) (nlen (len a2)), .test (ine (nlen (len a1)) (nlen (len a2))) true] := ⟨rfl, rfl, (ine_f h3), trivial⟩
 exact fn_playC hn140 (r := F140_res false) pz (by kernel_rfl) (by kernel_rfl)
noncomputable def hn141 : Hint := { H 141 with nt := 26, prot := 0 }
noncomputable def c141_0 : Code := loopOf E 141 0
def F141_res (r1 : Bool) : Res := ⟨[(.one (.im (.lit (.bool r1))))], []⟩
def F141_l0_0 (K : Nat) (a1 : List Bool) (a2 : List Bool) : Nat → Int → Option ((Unit) ⊕ (Unit))
 | 0, _ => none
 | k + 1, v3 =>
  bif (ilt v3 (nlen (len a1))) then
   (bif (inr v3 (len a1)) then
   (elAt a1 v3).bind fun x4 =>
   bif (inr v3 (len a2)) then
   (elAt a2 v3).bind fun x5 =>
   bif (beqb x4 x5) then
    (F141_l0_0 K a1 a2 k (wadd .i64 v3 1))
   else
   some (.inl ())
   else none
   else none)
  else
  some (.inr ())
def F141_l0_0_S (a1 : List Bool) (a2 : List Bool) (v3 : Int) : TS := .on [0, 1, 64, 65, 320, 321] [(0, ⟨.one, 0, nob⟩), (1, ⟨.im, 0, (.sl (len a1) (flat eBool a1))⟩), (64, ⟨.one, 0, nob⟩), (65, ⟨.im, 0, (.sl (len a2) (flat eBool a2))⟩), (320, ⟨.one, 0, nob⟩), (321, ⟨.im, 0, (.lit (.int .i64 v3))⟩)]
def F141_l0_0_X0 (a1 : List Bool) (a2 : List Bool) (w3 : Unit) : TS := .on [256, 257] [(256, ⟨.one, 0, nob⟩), (257, ⟨.im, 0, (.lit (.bool false))⟩)]
def F141_l0_0_X1 (a1 : List Bool) (a2 : List Bool) (w3 : Unit) : TS := .on [] []
theorem F141_l0_0_ok (K : Nat) (a1 : List Bool) (a2 : List Bool) : ∀ (k : Nat) (v3 : Int) (r : (Unit) ⊕ (Unit)), F141_l0_0 K a1 a2 k v3 = some r → (Sum.elim (fun w => LoopEv E H hn141 0 c141_0 (F141_l0_0_S a1 a2 v3) .ret (F141_l0_0_X0 a1 a2 w)) (fun w => LoopEv E H hn141 0 c141_0 (F141_l0_0_S a1 a2 v3) (.exit 0) (F141_l0_0_X1 a1 a2 w))) r := by
 intro k
 induction k with
 | zero => intro v3 r hF; cases hF
 | succ k ih =>
  intro v3 r hF
  rw [F141_l0_0] at hF
  refine cond_some hF (fun h4 hF => ?_) (fun h4 hF => ?_)
  ·
   refine cond_some hF (fun h5 hF => ?_) (fun _ hF => nomatch hF)
   refine bind_some hF (fun x6 h7 hF => ?_)
   refine cond_some hF (fun h8 hF => ?_) (fun _ hF => nomatch hF)
   refine bind_some hF (fun x9 h10 hF => ?_)
   have q12 : PQ hn141 fun l => (.int (nlen (len a1)) (nlen (len a1)) :: .test (ilt v3 (nlen (len a1))) true :: .test (inr v3 (len a1)) true :: .sub (flat eBool a1) (nidx v3 1) 1 [(.lit (.bool x6))] :: .test (inr v3 (len a2)) true :: .sub (flat eBool a2) (nidx v3 1) 1 [(.lit (.bool x9))] :: l) := fun z => ⟨rfl, h4, h5, ⟨rfl, sub_flat0 eBool_len h7 1 (by decide)⟩, h8, ⟨rfl, sub_flat0 eBool_len h10 1 (by decide)⟩, z⟩
   refine cond_some hF (fun h11 hF => ?_) (fun h11 hF => ?_)
   ·
    have pz : HoldAll E H hn141 [.test (bnot (beqb x6 x9)) false, .int (wadd .i64 v3 1) (wadd .i64 v3 1)] := ⟨(bnot_t h11), rfl, trivial⟩
    have h0 := ih _ _ hF
    have hn := fun ex ts' => loop_nextC (h := hn141) (l := 0) (c := c141_0) (ts := F141_l0_0_S a1 a2 v3) (ts1 := (F141_l0_0_S a1 a2 (wadd .i64 v3 1))) (ex := ex) (ts' := ts') (q12 pz) (by kernel_rfl)
    cases r with
    | inl w => exact hn _ _ h0
    | inr w => exact hn _ _ h0
   obtain rfl := Option.some.inj hF
   have pz : HoldAll E H hn141 [.test (bnot (beqb x6 x9)) true] := ⟨(bnot_f h11), trivial⟩
   exact loop_endC (h := hn141) (l := 0) (c := c141_0) (ts := F141_l0_0_S a1 a2 v3) (ts' := F141_l0_0_X0 a1 a2 ()) (ex := .ret) (q12 pz) (by kernel_rfl) trivial
  obtain rfl := Option.some.inj hF
  have pz : HoldAll E H hn141 [.int (nlen (len a1)) (nlen (len a1)), .test (ilt v3 (nlen (len a1))) false] := ⟨rfl, h4, trivial⟩
  exact loop_endC (h := hn141) (l := 0) (c := c141_0) (ts := F141_l0_0_S a1 a2 v3) (ts' := F141_l0_0_X1 a1 a2 ()) (ex := (.exit 0)) pz (by kernel_rfl) trivial
def F141 (K : Nat) (a1 : List Bool) (a2 : List Bool) : Option (Bool) :=
 bif (ieq (nlen (len a1)) (nlen (len a2))) then
  ((F141_l0_0 K a1 a2 K 0).bind fun y3 =>
  Sum.elim (fun w4 =>
   some false)
   (fun w5 =>
   some true) y3)
 else
 some false
theorem F141_ok (K : Nat) (a1 : List Bool) (a2 : List Bool) (r : Bool) (hF : F141 K a1 a2 = some r) : Evt E H 141 [.one (.sl (len a1) (flat eBool a1)), .one (.sl (len a2) (flat eBool a2))] (F141_res r) := by
 rw [F141] at hF
 refine cond_some hF (fun h3 hF => ?_) (fun h3 hF => ?_)
 ·
  have q8 : PQ hn141 fun l => (.int (nlen (len a1)) (nlen (len a1)) :: .int (nlen (len a2)) (nlen (len a2)) :: .test (ine (nlen (len a1)) (nlen (len a2))) false :: l) := fun z => ⟨rfl, rfl, (ine_t h3), z⟩
  refine bind_some hF (fun y5 h4 hF => ?_)
  refine sum_some hF (fun w6 hx hF => ?_) (fun w7 hx hF => ?_)
  ·
   subst hx
   obtain rfl := Option.some.inj hF
   have pz : HoldAll E H hn141 [.loop 0 c141_0 (F141_l0_0_S a1 a2 0) .ret (F141_l0_0_X0 a1 a2 w6)] := ⟨(F141_l0_0_ok K a1 a2 K 0 _ h4), trivial⟩
   exact fn_playC hn141 (r := F141_res false) (q8 pz) (by kernel_rfl) (by kernel_rfl)
  subst hx
  obtain rfl := Option.some.inj hF
  have pz : HoldAll E H hn141 [.loop 0 c141_0 (F141_l0_0_S a1 a2 0) (.exit 0) (F141_l0_0_X1 a1 a2 w7)] := ⟨(F141_l0_0_ok K a1 a2 K 0 _ h4), trivial⟩
  exact fn_playC hn141 (r := F141_res true) (q8 pz) (by kernel_rfl) (by kernel_rfl)
 obtain rfl := Option.some.inj hF
 have pz : HoldAll E H hn141 [.int (nlen (len a1)) (nlen (len a1)), .int (nlen (len a2)) (nlen (len a2)), .test (ine (nlen (len a1)) (nlen (len a2))) true] := ⟨rfl, rfl, (ine_f h3), trivial⟩
 exact fn_playC hn141 (r := F141_res false) pz (by kernel_rfl) (by kernel_rfl)
noncomputable def hn89 : Hint := { H 89 with nt := 26, prot := 0 }
noncomputable def c89_0 : Code := loopOf E 89 0
def F89_res (r1 : Bool) : Res := ⟨[(.one (.im (.lit (.bool r1))))], []⟩
def F89_l0_0 (K : Nat) (a1 : List GMsg) (a2 : List GMsg) : Nat → Int → Option ((Unit) ⊕ (Unit))
 | 0, _ => none
 | k + 1, v3 =>
  bif (ilt v3 (nlen (len a1))) then
   (bif (inr v3 (len a1)) then
   (elAt a1 v3).bind fun x4 =>
   bif (inr v3 (len a2)) then
   (elAt a2 v3).bind fun x5 =>
   bif (ieq x4.To x5.To) then
    (bif (ieq x4.V x5.V) then
     (F89_l0_0 K a1 a2 k (wadd .i64 v3 1))
    else
    some (.inl ()))
   else
   some (.inl ())
   else none
   else none)
  else
  some (.inr ())
def F89_l0_0_S (a1 : List GMsg) (a2 : List GMsg) (v3 : Int) : TS := .on [0, 1, 64, 65, 320, 321] [(0, ⟨.one, 0, nob⟩), (1, ⟨.im, 0, (.sl (len a1) (flat eGMsg a1))⟩), (64, ⟨.one, 0, nob⟩), (65, ⟨.im, 0, (.sl (len a2) (flat eGMsg a2))⟩), (320, ⟨.one, 0, nob⟩), (321, ⟨.im, 0, (.lit (.int .i64 v3))⟩)]
def F89_l0_0_X0 (a1 : List GMsg) (a2 : List GMsg) (w3 : Unit) : TS := .on [256, 257] [(256, ⟨.one, 0, nob⟩), (257, ⟨.im, 0, (.lit (.bool false))⟩)]
def F89_l0_0_X1 (a1 : List GMsg) (a2 : List GMsg) (w3 : Unit) : TS := .on [] []
theorem F89_l0_0_ok (K : Nat) (a1 : List GMsg) (a2 : List GMsg) : ∀ (k : Nat) (v3 : Int) (r : (Unit) ⊕ (Unit)), F89_l0_0 K a1 a2 k v3 = some r → (Sum.elim (fun w => LoopEv E H hn89 0 c89_0 (F89_l0_0_S a1 a2 v3) .ret (F89_l0_0_X0 a1 a2 w)) (fun w => LoopEv E H hn89 0 c89_0 (F89_l0_0_S a1 a2 v3) (.exit 0) (F89_l0_0_X1 a1 a2 w))) r := by
 intro k
 induction k with
 | zero => intro v3 r hF; cases hF
 | succ k ih =>
  intro v3 r hF
  rw [F89_l0_0] at hF
  refine cond_some hF (fun h4 hF => ?_) (fun h4 hF => ?_)
  ·
   refine cond_some hF (fun h5 hF => ?_) (fun _ hF => nomatch hF)
   refine bind_some hF (fun x6 h7 hF => ?_)
   refine cond_some hF (fun h8 hF => ?_) (fun _ hF => nomatch hF)
   refine bind_some hF (fun x9 h10 hF => ?_)
   have q13 : PQ hn89 fun l => (.int (nlen (len a1)) (nlen (len a1)) :: .test (ilt v3 (nlen (len a1))) true :: .test (inr v3 (len a1)) true :: .sub (flat eGMsg a1) (nidx v3 2) 2 [(.lit (.int .i64 x6.To)), (.lit (.int .i64 x6.V))] :: .test (inr v3 (len a2)) true :: .sub (flat eGMsg a2) (nidx v3 2) 2 [(.lit (.int .i64 x9.To)), (.lit (.int .i64 x9.V))] :: l) := fun z => ⟨rfl, h4, h5, ⟨rfl, sub_flat0 eGMsg_len h7 2 (by decide)⟩, h8, ⟨rfl, sub_flat0 eGMsg_len h10 2 (by decide)⟩, z⟩
   refine cond_some hF (fun h11 hF => ?_) (fun h11 hF => ?_)
   ·
    refine cond_some hF (fun h12 hF => ?_) (fun h12 hF => ?_)
    ·
     have pz : HoldAll E H hn89 [.test (bnot (band (ieq x6.To x9.To) (band (ieq x6.V x9.V) true))) false, .int (wadd .i64 v3 1) (wadd .i64 v3 1)] := ⟨(bnot_t (band_tt h11 (band_tt h12 rfl))), rfl, trivial⟩
     have h0 := ih _ _ hF
     have hn := fun ex ts' => loop_nextC (h := hn89) (l := 0) (c := c89_0) (ts := F89_l0_0_S a1 a2 v3) (ts1 := (F89_l0_0_S a1 a2 (wadd .i64 v3 1))) (ex := ex) (ts' := ts') (q13 pz) (by kernel_rfl)
     cases r with
     | inl w => exact hn _ _ h0
     | inr w => exact hn _ _ h0
    obtain rfl := Option.some.inj hF
    have pz : HoldAll E H hn89 [.test (bnot (band (ieq x6.To x9.To) (band (ieq x6.V x9.V) true))) true] := ⟨(bnot_f (band_f2 h11 (band_f1 h12))), trivial⟩
    exact loop_endC (h := hn89) (l := 0) (c := c89_0) (ts := F89_l0_0_S a1 a2 v3) (ts' := F89_l0_0_X0 a1 a2 ()) (ex := .ret) (q13 pz) (by kernel_rfl) trivial
   obtain rfl := Option.some.inj hF
   have pz : HoldAll E H hn89 [.test (bnot (band (ieq x6.To x9.To) (band (ieq x6.V x9.V) true))) true] := ⟨(bnot_f (band_f1 h11)), trivial⟩
   exact loop_endC (h := hn89) (l := 0) (c := c89_0) (ts := F89_l0_0_S a1 a2 v3) (ts' := F89_l0_0_X0 a1 a2 ()) (ex := .ret) (q13 pz) (by kernel_rfl) trivial
  obtain rfl := Option.some.inj hF
  have pz : HoldAll E H hn89 [.int (nlen (len a1)) (nlen (len a1)), .test (ilt v3 (nlen (len a1))) false] := ⟨rfl, h4, trivial⟩
  exact loop_endC (h := hn89) (l := 0) (c := c89_0) (ts := F89_l0_0_S a1 a2 v3) (ts' := F89_l0_0_X1 a1 a2 ()) (ex := (.exit 0)) pz (by kernel_rfl) trivial
def F89 (K : Nat) (a1 : List GMsg) (a2 : List GMsg) : Option (Bool) :=
 bif (ieq (nlen (len a1)) (nlen (len a2))) then
  ((F89_l0_0 K a1 a2 K 0).bind fun y3 =>
  Sum.elim (fun w4 =>
   some false)
   (fun w5 =>
   some true) y3)
 else
 some false
theorem F89_ok (K : Nat) (a1 : List GMsg) (a2 : List GMsg) (r : Bool) (hF : F89 K a1 a2 = some r) : Evt E H 89 [.one (.sl (len a1) (flat eGMsg a1)), .one (.sl (len a2) (flat eGMsg a2))] (F89_res r) := by
 rw [F89] at hF
 refine cond_some hF (fun h3 hF => ?_) (fun h3 hF => ?_)
 ·
  have q8 : PQ hn89 fun l => (.int (nlen (len a1)) (nlen (len a1)) :: .int (nlen (len a2)) (nlen (len a2)) :: .test (ine (nlen (len a1)) (nlen (len a2))) false :: l) := fun z => ⟨rfl, rfl, (ine_t h3), z⟩
  refine bind_some hF (fun y5 h4 hF => ?_)
  refine sum_some hF (fun w6 hx hF => ?_) (fun w7 hx hF => ?_)
  ·
   subst hx
   obtain rfl := Option.some.inj hF
   have pz : HoldAll E H hn89 [.loop 0 c89_0 (F89_l0_0_S a1 a2 0) .ret (F89_l0_0_X0 a1 a2 w6)] := ⟨(F89_l0_0_ok K a1 a2 K 0 _ h4), trivial⟩
   exact fn_playC hn89 (r := F89_res false) (q8 pz) (by kernel_rfl) (by kernel_rfl)
  subst hx
  obtain rfl := Option.some.inj hF
  have pz : HoldAll E H hn89 [.loop 0 c89_0 (F89_l0_0_S a1 a2 0) (.exit 0) (F89_l0_0_X1 a1 a2 w7)] := ⟨(F89_l0_0_ok K a1 a2 K 0 _ h4), trivial⟩
  exact fn_playC hn89 (r := F89_res true) (q8 pz) (by kernel_rfl) (by kernel_rfl)
 obtain rfl := Option.some.inj hF
 have pz : HoldAll E H hn89 [.int (nlen (len a1)) (nlen (len a1)), .int (nlen (len a2)) (nlen (len a2)), .test (ine (nlen (len a1)) (nlen (len a2))) true] := ⟨rfl, rfl, (ine_f h3), trivial⟩
 exact fn_playC hn89 (r := F89_res false) pz (by kernel_rfl) (by kernel_rfl)
noncomputable def hn118 : Hint := { H 118 with nt := 38, prot := 0 }
def F118_res (r1 : Bool) : Res := ⟨[(.one (.im (.lit (.bool r1))))], []⟩
def F118 (K : Nat) (a1 : GPart) (a2 : GPart) : Option (Bool) :=
 bif (ieq a1.P a2.P) then
  (bif (ieq a1.Step a2.Step) then
   ((F140 K a1.Vals a2.Vals).bind fun r3 =>
   bif r3 then
    ((F141 K a1.Rest a2.Rest).bind fun r4 =>
    bif r4 then
     ((F89 K a1.In a2.In).bind fun r5 =>
     some r5)
    else
    some false)
   else
   some false)
  else
  some false)
 else
 some false
theorem F118_ok (K : Nat) (a1 : GPart) (a2 : GPart) (r : Bool) (hF : F118 K a1 a2 = some r) : Evt E H 118 [.agg (eGPart a1), .agg (eGPart a2)] (F118_res r) := by
 rw [F118] at hF
 refine cond_some hF (fun h3 hF => ?_) (fun h3 hF => ?_)
 ·
  have q13 : PQ hn118 fun l => (.test (beqb (ieq a1.P a2.P) true) true :: .test (beqb (ieq a1.P a2.P) true) true :: .test (beqb (ieq a1.P a2.P) true) true :: .test (beqb (ieq a1.P a2.P) true) true :: .test (beqb (ieq a1.P a2.P) true) true :: .test (ieq a1.P a2.P) true :: l) := fun z => ⟨(beqb_t h3), (beqb_t h3), (beqb_t h3), (beqb_t h3), (beqb_t h3), h3, z⟩
  refine cond_some hF (fun h4 hF => ?_) (fun h4 hF => ?_)
  ·
   refine bind_some hF (fun r5 h6 hF => ?_)
   have q14 : PQ hn118 fun l => (.test (beqb (ieq a1.Step a2.Step) true) true :: .test (beqb (ieq a1.Step a2.Step) true) true :: .test (beqb (ieq a1.Step a2.Step) true) true :: .test (beqb (ieq a1.Step a2.Step) true) true :: .test (beqb (ieq a1.Step a2.Step) true) true :: .call 140 [.one (.sl (len a1.Vals) (flat (eInt .i64) a1.Vals)), .one (.sl (len a2.Vals) (flat (eInt .i64) a2.Vals))] (F140_res r5) :: .test (leadsAny (Res.mk [(.one (.im (.lit (.bool r5))))] [])) false :: .test (ieq a1.Step a2.Step) true :: l) := fun z => ⟨(beqb_t h4), (beqb_t h4), (beqb_t h4), (beqb_t h4), (beqb_t h4), (F140_ok K a1.Vals a2.Vals _ h6), (leads_ok (by simp [leadsAny, RV.leads, RC.leads, leadsT, hasSl_lit, flat_ns (eInt_ns _)])), h4, z⟩
   refine cond_some hF (fun h7 hF => ?_) (fun h7 hF => ?_)
   ·
    refine bind_some hF (fun r8 h9 hF => ?_)
    have q15 : PQ hn118 fun l => (.test (beqb r5 true) true :: .test (beqb r5 true) true :: .test (beqb r5 true) true :: .test (beqb r5 true) true :: .test (beqb r5 true) true :: .call 141 [.one (.sl (len a1.Rest) (flat eBool a1.Rest)), .one (.sl (len a2.Rest) (flat eBool a2.Rest))] (F141_res r8) :: .test (leadsAny (Res.mk [(.one (.im (.lit (.bool r8))))] [])) false :: .test r5 true :: l) := fun z => ⟨(beqb_t h7), (beqb_t h7), (beqb_t h7), (beqb_t h7), (beqb_t h7), (F141_ok K a1.Rest a2.Rest _ h9), (leads_ok (by simp [leadsAny, RV.leads, RC.leads, leadsT, hasSl_lit, flat_ns eBool_ns])), h7, z⟩
    refine cond_some hF (fun h10 hF => ?_) (fun h10 hF => ?_)
    ·
     refine bind_some hF (fun r11 h12 hF => ?_)
     obtain rfl := Option.some.inj hF
     have pz : HoldAll E H hn118 [.test (beqb r8 true) true, .test (beqb r8 true) true, .test (beqb r8 true) true, .test (beqb r8 true) true, .test (beqb r8 true) true, .call 89 [.one (.sl (len a1.In) (flat eGMsg a1.In)), .one (.sl (len a2.In) (flat eGMsg a2.In))] (F89_res r11), .test (leadsAny (Res.mk [(.one (.im (.lit (.bool r11))))] [])) false, .test r8 true] := ⟨(beqb_t h10), (beqb_t h10), (beqb_t h10), (beqb_t h10), (beqb_t h10), (F89_ok K a1.In a2.In _ h12), (leads_ok (by simp [leadsAny, RV.leads, RC.leads, leadsT, hasSl_lit, flat_ns eGMsg_ns])), h10, trivial⟩
     exact fn_playC hn118 (r := F118_res r11) (q13 (q14 (q15 pz))) (by kernel_rfl) (by kernel_rfl)
    obtain rfl := Option.some.inj hF
    have pz : HoldAll E H hn118 [.test (beqb r8 true) false, .test (beqb r8 true) false, .test (beqb r8 true) false, .test (beqb r8 true) false, .test (beqb r8 true) false, .test r8 false] := ⟨(beqb_t h10), (beqb_t h10), (beqb_t h10), (beqb_t h10), (beqb_t h10), h10, trivial⟩
    exact fn_playC hn118 (r := F118_res false) (q13 (q14 (q15 pz))) (by kernel_rfl) (by kernel_rfl)
   obtain rfl := Option.some.inj hF
   have pz : HoldAll E H hn118 [.test (beqb r5 true) false, .test (beqb r5 true) false, .test (beqb r5 true) false, .test (beqb r5 true) false, .test (beqb r5 true) false, .test r5 false, .test (beqb false true) false, .test (beqb false true) false, .test (beqb false true) false, .test (beqb false true) false, .test (beqb false true) false, .test false false] := ⟨(beqb_t h7), (beqb_t h7), (beqb_t h7), (beqb_t h7), (beqb_t h7), h7, (beqb_t rfl), (beqb_t rfl), (beqb_t rfl), (beqb_t rfl), (beqb_t rfl), rfl, trivial⟩
   exact fn_playC hn118 (r := F118_res false) (q13 (q14 pz)) (by kernel_rfl) (by kernel_rfl)
  obtain rfl := Option.some.inj hF
  have pz : HoldAll E H hn118 [.test (beqb (ieq a1.Step a2.Step) true) false, .test (beqb (ieq a1.Step a2.Step) true) false, .test (beqb (ieq a1.Step a2.Step) true) false, .test (beqb (ieq a1.Step a2.Step) true) false, .test (beqb (ieq a1.Step a2.Step) true) false, .test (ieq a1.Step a2.Step) false, .test (beqb false true) false, .test (beqb false true) false, .test (beqb false true) false, .test (beqb false true) false, .test (beqb false true) false, .test false false, .test (beqb false true) false, .test (beqb false true) false, .test (beqb false true) false, .test (beqb false true) false, .test (beqb false true) false, .test false false] := ⟨(beqb_t h4), (beqb_t h4), (beqb_t h4), (beqb_t h4), (beqb_t h4), h4, (beqb_t rfl), (beqb_t rfl), (beqb_t rfl), (beqb_t rfl), (beqb_t rfl), rfl, (beqb_t rfl), (beqb_t rfl), (beqb_t rfl), (beqb_t rfl), (beqb_t rfl), rfl, trivial⟩
  exact fn_playC hn118 (r := F118_res false) (q13 pz) (by kernel_rfl) (by kernel_rfl)
 obtain rfl := Option.some.inj hF
 have pz : HoldAll E H hn118 [.test (beqb (ieq a1.P a2.P) true) false, .test (beqb (ieq a1.P a2.P) true) false, .test (beqb (ieq a1.P a2.P) true) false, .test (beqb (ieq a1.P a2.P) true) false, .test (beqb (ieq a1.P a2.P) true) false, .test (ieq a1.P a2.P) false, .test (beqb false true) false, .test (beqb false true) false, .test (beqb false true) false, .test (beqb false true) false, .test (beqb false true) false, .test false false, .test (beqb false true) false, .test (beqb false true) false, .test (beqb false true) false, .test (beqb false true) false, .test (beqb false true) false, .test false false, .test (beqb false true) false, .test (beqb false true) false, .test (beqb false true) false, .test (beqb false true) false, .test (beqb false true) false, .test false false] := ⟨(beqb_t h3), (beqb_t h3), (beqb_t h3), (beqb_t h3), (beqb_t h3), h3, (beqb_t rfl), (beqb_t rfl), (beqb_t rfl), (beqb_t rfl), (beqb_t rfl), rfl, (beqb_t rfl), (beqb_t rfl), (beqb_t rfl), (beqb_t rfl), (beqb_t rfl), rfl, (beqb_t rfl), (beqb_t rfl), (beqb_t rfl), (beqb_t rfl), (beqb_t rfl), rfl, trivial⟩
 exact fn_playC hn118 (r := F118_res false) pz (by kernel_rfl) (by kernel_rfl)
theorem self_go {α : Type} {l : List α} (eq : α → α → Option (Unit ⊕ Unit) → Option (Unit ⊕ Unit)) (he : ∀ x ∈ l, ∀ c, eq x x c = c) : ∀ (r : List α) (i : Nat), l.drop i = r →
   goI (fun i x (_ : Unit) c => bif inr (i : Int) (len l) then (elAt l (i : Int)).bind fun y => eq x y (c ()) else none) (fun _ => some (.inr ())) i r () = some (.inr ()) := by
 intro r
 induction r with
 | nil => intro i _; rfl
 | cons x r ih =>
   intro i hr
   have hi := lt_of_drop' hr
   have hd := List.drop_eq_getElem_cons hi
   rw [hr] at hd
   injection hd with a b
   have e1 : inr (i : Int) (len l) = true := decide_eq_true ⟨by omega, by show (i : Int) < (l.length : Int); omega⟩
   have e2 : elAt l (i : Int) = some x := by rw [elAt_nat, a]; simp [hi]
   rw [goI, e1, e2, cond_true, Option.bind_some, he x (by rw [a]; exact List.getElem_mem hi)]
   exact ih (i + 1) b.symm
theorem same140 {K : Nat} (l : List Int) (hl : l.length < 1000000) (hK : l.length < K) : F140 K l l = some true := by
 have h := scanI (l := l) (L := fun k (_ : Unit) i => F140_l0_0 K l l k i) (fun i x (_ : Unit) c => bif inr (i : Int) (len l) then (elAt l (i : Int)).bind fun y => bif ieq x y then c () else some (.inl ()) else none) (fun _ => some (.inr ())) (fun k st i hi => rfl) (by omega) K () 0 (by omega) (by omega)
 have g := self_go (l := l) (fun x y c => bif ieq x y then c else some (.inl ())) (fun x _ c => by rw [ieq_refl]; rfl) l 0 rfl
 have h' : F140_l0_0 K l l K 0 = some (.inr ()) := h.trans g
 rw [F140, ieq_refl, h']; rfl
theorem same141 {K : Nat} (l : List Bool) (hl : l.length < 1000000) (hK : l.length < K) : F141 K l l = some true := by
 have h := scanI (l := l) (L := fun k (_ : Unit) i => F141_l0_0 K l l k i) (fun i x (_ : Unit) c => bif inr (i : Int) (len l) then (elAt l (i : Int)).bind fun y => bif beqb x y then c () else some (.inl ()) else none) (fun _ => some (.inr ())) (fun k st i hi => rfl) (by omega) K () 0 (by omega) (by omega)
 have g := self_go (l := l) (fun x y c => bif beqb x y then c else some (.inl ())) (fun x _ c => by rw [beqb_refl]; rfl) l 0 rfl
 have h' : F141_l0_0 K l l K 0 = some (.inr ()) := h.trans g
 rw [F141, ieq_refl, h']; rfl
theorem same89 {K : Nat} (l : List GMsg) (hl : l.length < 1000000) (hK : l.length < K) : F89 K l l = some true := by
 have h := scanI (l := l) (L := fun k (_ : Unit) i => F89_l0_0 K l l k i) (fun i x (_ : Unit) c => bif inr (i : Int) (len l) then (elAt l (i : Int)).bind fun y => bif ieq x.To y.To then (bif ieq x.V y.V then c () else some (.inl ())) else some (.inl ()) else none) (fun _ => some (.inr ())) (fun k st i hi => rfl) (by omega) K () 0 (by omega) (by omega)
 have g := self_go (l := l) (fun x y c => bif ieq x.To y.To then (bif ieq x.V y.V then c else some (.inl ())) else some (.inl ())) (fun x _ c => by rw [ieq_refl, ieq_refl]; rfl) l 0 rfl
 have h' : F89_l0_0 K l l K 0 = some (.inr ()) := h.trans g
 rw [F89, ieq_refl, h']; rfl
def fitP (K : Nat) (x : GPart) : Prop := (x.Vals.length < 1000000 ∧ x.Vals.length < K) ∧ (x.Rest.length < 1000000 ∧ x.Rest.length < K) ∧ x.In.length < 1000000 ∧ x.In.length < K
theorem same118 {K : Nat} (x : GPart) (h : fitP K x) : F118 K x x = some true := by
 rw [F118, ieq_refl, ieq_refl, same140 x.Vals h.1.1 h.1.2, same141 x.Rest h.2.1.1 h.2.1.2, same89 x.In h.2.2.1 h.2.2.2]; rfl
def leM (a b : GMsg) : Bool := ilt a.To b.To || (ieq a.To b.To && ile a.V b.V)
theorem leM_iff {a b : GMsg} : leM a b = true ↔ a.To < b.To ∨ a.To = b.To ∧ a.V ≤ b.V := by simp [leM, ilt, ieq, ile]
theorem leM_f {a b : GMsg} : leM a b = false ↔ ¬ (a.To < b.To ∨ a.To = b.To ∧ a.V ≤ b.V) := by rw [← leM_iff]; simp
theorem leM_trans {a b c : GMsg} (h : leM a b = true) (g : leM b c = true) : leM a c = true := by rw [leM_iff] at *; omega
theorem leM_anti {a b : GMsg} (h : leM a b = true) (g : leM b a = true) : a = b := by
 rw [leM_iff] at h g
 cases a; cases b
 simp only [GMsg.mk.injEq]
 dsimp only at h g
 omega
theorem leM_total {a b : GMsg} (h : leM a b = false) : leM b a = true := by rw [leM_f] at h; rw [leM_iff]; omega
def srtM (l : List GMsg) : Prop := l.Pairwise fun a b => leM a b = true
theorem srtM_eq {l l' : List GMsg} (h : srtM l) (h' : srtM l') (hp : l.Perm l') : l = l' :=
 List.Perm.eq_of_pairwise (fun a b _ _ h1 h2 => leM_anti h1 h2) h h' hp
def bubR : List GMsg → GMsg → List GMsg → List GMsg
 | [], x, Q => x :: Q
 | y :: R, x, Q => bif leM y x then (y :: R).reverse ++ x :: Q else bubR R x (y :: Q)
def sortM (l : List GMsg) : List GMsg := l.foldl (fun acc x => bubR acc.reverse x []) []
theorem bubR_perm (x : GMsg) : ∀ (R Q : List GMsg), (bubR R x Q).Perm (R.reverse ++ x :: Q)
 | [], Q => List.Perm.refl _
 | y :: R, Q => by
   rw [bubR]
   cases leM y x
   · refine (bubR_perm x R (y :: Q)).trans ?_
     rw [List.reverse_cons, List.append_assoc]
     exact List.Perm.append_left _ (List.Perm.swap y x Q)
   · exact List.Perm.refl _
theorem bubR_srt (x : GMsg) : ∀ (R Q : List GMsg), srtM (R.reverse ++ Q) → (∀ q ∈ Q, leM x q = true) → srtM (bubR R x Q)
 | [], Q, h, hx => List.pairwise_cons.2 ⟨hx, h⟩
 | y :: R, Q, h, hx => by
   rw [bubR]
   cases hy : leM y x
   · refine bubR_srt x R (y :: Q) ?_ fun q hq => ?_
     · rw [List.reverse_cons, List.append_assoc] at h; exact h
     · rcases List.mem_cons.1 hq with e | e
       · subst e; exact leM_total hy
       · exact hx q e
   · obtain ⟨h1, h2, h3⟩ := List.pairwise_append.1 h
     refine List.pairwise_append.2 ⟨h1, List.pairwise_cons.2 ⟨hx, h2⟩, fun a ha b hb => ?_⟩
     have hay : a = y ∨ leM a y = true := by
       rw [List.reverse_cons] at ha h1
       obtain ⟨_, _, h6⟩ := List.pairwise_append.1 h1
       rcases List.mem_append.1 ha with e | e
       · exact .inr (h6 a e y (by simp))
       · exact .inl (List.mem_singleton.1 e)
     rcases List.mem_cons.1 hb with e | e
     · subst e
       rcases hay with e | e
       · subst e; exact hy
       · exact leM_trans e hy
     · exact h3 a ha b e
theorem sort_go : ∀ (l acc : List GMsg), srtM acc → srtM (l.foldl (fun acc x => bubR acc.reverse x []) acc) ∧ (l.foldl (fun acc x => bubR acc.reverse x []) acc).Perm (acc ++ l)
 | [], acc, h => ⟨h, by simp⟩
 | x :: l, acc, h => by
   have h1 : srtM (bubR acc.reverse x []) := bubR_srt x acc.reverse [] (by simpa using h) (fun q hq => (nomatch hq))
   have h2 : (bubR acc.reverse x []).Perm (acc ++ [x]) := by simpa using bubR_perm x acc.reverse []
   obtain ⟨a, b⟩ := sort_go l _ h1
   refine ⟨a, b.trans ?_⟩
   have := h2.append_right l
   simpa using this
theorem sortM_srt (l : List GMsg) : srtM (sortM l) := (sort_go l [] List.Pairwise.nil).1
theorem sortM_perm (l : List GMsg) : (sortM l).Perm l := by
 have := (sort_go l [] List.Pairwise.nil).2
 rwa [List.nil_append] at this
theorem sortM_len (l : List GMsg) : (sortM l).length = l.length := (sortM_perm l).length_eq
theorem sortM_eq {l r : List GMsg} (h : srtM r) (hp : r.Perm l) : sortM l = r := srtM_eq (sortM_srt l) h ((sortM_perm l).trans hp.symm)
noncomputable def hn65 : Hint := { H 65 with nt := 99, prot := 0 }
noncomputable def c65_0 : Code := loopOf E 65 0
def F65_res (r1 : Int) : Res := ⟨[(.one (.im (.lit (.int .i64 r1))))], []⟩
def F65_l0_0 (K : Nat) (a1 : GGraph) : Nat → Int → Option ((Int) ⊕ (Unit))
 | 0, _ => none
 | k + 1, v2 =>
  bif (ilt v2 (nlen (len a1.Edges))) then
   (bif (inr v2 (len a1.Edges)) then
   (elAt a1.Edges v2).bind fun x3 =>
   bif (ilt x3.From 0) then
    (some (.inl 4))
   else
   bif (ilt x3.To 0) then
    (some (.inl 4))
   else
   bif (ile a1.N x3.From) then
    (some (.inl 4))
   else
   bif (ile a1.N x3.To) then
    (some (.inl 4))
   else
   bif (ilt x3.W 0) then
    (some (.inl 1))
   else
   bif (ilt 4611686018427387904 x3.W) then
    (some (.inl 1))
   else
   bif (ilt 0 v2) then
    (bif (inr (wsub .i64 v2 1) (len a1.Edges)) then
    (elAt a1.Edges (wsub .i64 v2 1)).bind fun x4 =>
    bif (ieq x4.From x3.From) then
     (bif (ieq x4.To x3.To) then
      (some (.inl 5))
     else
     bif (ilt x3.From x4.From) then
      (some (.inl 6))
     else
     bif (ilt x3.To x4.To) then
      (some (.inl 6))
     else
     F65_l0_0 K a1 k (wadd .i64 v2 1))
    else
    bif (ilt x3.From x4.From) then
     (some (.inl 6))
    else
    F65_l0_0 K a1 k (wadd .i64 v2 1)
    else none)
   else
   F65_l0_0 K a1 k (wadd .i64 v2 1)
   else none)
  else
  some (.inr ())
def F65_l0_0_S (a1 : GGraph) (v2 : Int) : TS := .on [64, 65, 66, 192, 193] [(64, ⟨(.box 62 2), 0, nob⟩), (65, ⟨.im, 0, (.lit (.int .i64 a1.N))⟩), (66, ⟨.im, 0, (.sl (len a1.Edges) (flat eGEdge a1.Edges))⟩), (192, ⟨.one, 0, nob⟩), (193, ⟨.im, 0, (.lit (.int .i64 v2))⟩)]
def F65_l0_0_X0 (a1 : GGraph) (w2 : Int) : TS := .on [128, 129] [(128, ⟨.one, 0, nob⟩), (129, ⟨.im, 0, (.lit (.int .i64 w2))⟩)]
def F65_l0_0_X1 (a1 : GGraph) (w2 : Unit) : TS := .on [] []
theorem F65_l0_0_ok (K : Nat) (a1 : GGraph) : ∀ (k : Nat) (v2 : Int) (r : (Int) ⊕ (Unit)), F65_l0_0 K a1 k v2 = some r → (Sum.elim (fun w => LoopEv E H hn65 0 c65_0 (F65_l0_0_S a1 v2) .ret (F65_l0_0_X0 a1 w)) (fun w => LoopEv E H hn65 0 c65_0 (F65_l0_0_S a1 v2) (.exit 0) (F65_l0_0_X1 a1 w))) r := by
 intro k
 induction k with
 | zero => intro v2 r hF; cases hF
 | succ k ih =>
  intro v2 r hF
  rw [F65_l0_0] at hF
  refine cond_some hF (fun h3 hF => ?_) (fun h3 hF => ?_)
  ·
   refine cond_some hF (fun h4 hF => ?_) (fun _ hF => nomatch hF)
   refine bind_some hF (fun x5 h6 hF => ?_)
   have q22 : PQ hn65 fun l => (.int (nlen (len a1.Edges)) (nlen (len a1.Edges)) :: .test (ilt v2 (nlen (len a1.Edges))) true :: .test (inr v2 (len a1.Edges)) true :: .sub (flat eGEdge a1.Edges) (nidx v2 3) 3 [(.lit (.int .i64 x5.From)), (.lit (.int .i64 x5.To)), (.lit (.int .i64 x5.W))] :: l) := fun z => ⟨rfl, h3, h4, ⟨rfl, sub_flat0 eGEdge_len h6 3 (by decide)⟩, z⟩
   refine cond_some hF (fun h7 hF => ?_) (fun h7 hF => ?_)
   ·
    obtain rfl := Option.some.inj hF
    have pz : HoldAll E H hn65 [.test (beqb (ilt x5.From 0) false) false, .test (beqb (ilt x5.From 0) false) false, .test (beqb (ilt x5.From 0) false) false, .test (ilt x5.From 0) true, .test (beqb true false) false, .test (beqb true false) false, .test (beqb true false) false, .test (beqb true false) false, .test (beqb true false) false, .test true true, .test (beqb true false) false, .test (beqb true false) false, .test (beqb true false) false, .test (beqb true false) false, .test (beqb true false) false, .test true true, .test true true] := ⟨(beqb_ft h7), (beqb_ft h7), (beqb_ft h7), h7, (beqb_ft rfl), (beqb_ft rfl), (beqb_ft rfl), (beqb_ft rfl), (beqb_ft rfl), rfl, (beqb_ft rfl), (beqb_ft rfl), (beqb_ft rfl), (beqb_ft rfl), (beqb_ft rfl), rfl, rfl, trivial⟩
    exact loop_endC (h := hn65) (l := 0) (c := c65_0) (ts := F65_l0_0_S a1 v2) (ts' := F65_l0_0_X0 a1 4) (ex := .ret) (q22 pz) (by kernel_rfl) trivial
   have q23 : PQ hn65 fun l => (.test (beqb (ilt x5.From 0) false) true :: .test (beqb (ilt x5.From 0) false) true :: .test (beqb (ilt x5.From 0) false) true :: .test (ilt x5.From 0) false :: l) := fun z => ⟨(beqb_ff h7), (beqb_ff h7), (beqb_ff h7), h7, z⟩
   refine cond_some hF (fun h8 hF => ?_) (fun h8 hF => ?_)
   ·
    obtain rfl := Option.some.inj hF
    have pz : HoldAll E H hn65 [.test (beqb (ilt x5.To 0) false) false, .test (beqb (ilt x5.To 0) false) false, .test (beqb (ilt x5.To 0) false) false, .test (beqb (ilt x5.To 0) false) false, .test (beqb (ilt x5.To 0) false) false, .test (ilt x5.To 0) true, .test (beqb true false) false, .test (beqb true false) false, .test (beqb true false) false, .test (beqb true false) false, .test (beqb true false) false, .test true true, .test true true] := ⟨(beqb_ft h8), (beqb_ft h8), (beqb_ft h8), (beqb_ft h8), (beqb_ft h8), h8, (beqb_ft rfl), (beqb_ft rfl), (beqb_ft rfl), (beqb_ft rfl), (beqb_ft rfl), rfl, rfl, trivial⟩
    exact loop_endC (h := hn65) (l := 0) (c := c65_0) (ts := F65_l0_0_S a1 v2) (ts' := F65_l0_0_X0 a1 4) (ex := .ret) (q22 (q23 pz)) (by kernel_rfl) trivial
   have q24 : PQ hn65 fun l => (.test (beqb (ilt x5.To 0) false) true :: .test (beqb (ilt x5.To 0) false) true :: .test (beqb (ilt x5.To 0) false) true :: .test (beqb (ilt x5.To 0) false) true :: .test (beqb (ilt x5.To 0) false) true :: .test (ilt x5.To 0) false :: l) := fun z => ⟨(beqb_ff h8), (beqb_ff h8), (beqb_ff h8), (beqb_ff h8), (beqb_ff h8), h8, z⟩
   refine cond_some hF (fun h9 hF => ?_) (fun h9 hF => ?_)
   ·
    obtain rfl := Option.some.inj hF
    have pz : HoldAll E H hn65 [.test (beqb (ige x5.From a1.N) false) false, .test (beqb (ige x5.From a1.N) false) false, .test (beqb (ige x5.From a1.N) false) false, .test (beqb (ige x5.From a1.N) false) false, .test (beqb (ige x5.From a1.N) false) false, .test (ige x5.From a1.N) true, .test true true] := ⟨(beqb_ft (ige_eq h9)), (beqb_ft (ige_eq h9)), (beqb_ft (ige_eq h9)), (beqb_ft (ige_eq h9)), (beqb_ft (ige_eq h9)), (ige_eq h9), rfl, trivial⟩
    exact loop_endC (h := hn65) (l := 0) (c := c65_0) (ts := F65_l0_0_S a1 v2) (ts' := F65_l0_0_X0 a1 4) (ex := .ret) (q22 (q23 (q24 pz))) (by kernel_rfl) trivial
   have q25 : PQ hn65 fun l => (.test (beqb (ige x5.From a1.N) false) true :: .test (beqb (ige x5.From a1.N) false) true :: .test (beqb (ige x5.From a1.N) false) true :: .test (beqb (ige x5.From a1.N) false) true :: .test (beqb (ige x5.From a1.N) false) true :: .test (ige x5.From a1.N) false :: l) := fun z => ⟨(beqb_ff (ige_eq h9)), (beqb_ff (ige_eq h9)), (beqb_ff (ige_eq h9)), (beqb_ff (ige_eq h9)), (beqb_ff (ige_eq h9)), (ige_eq h9), z⟩
   refine cond_some hF (fun h10 hF => ?_) (fun h10 hF => ?_)
   ·
    obtain rfl := Option.some.inj hF
    have pz : HoldAll E H hn65 [.test (ige x5.To a1.N) true] := ⟨(ige_eq h10), trivial⟩
    exact loop_endC (h := hn65) (l := 0) (c := c65_0) (ts := F65_l0_0_S a1 v2) (ts' := F65_l0_0_X0 a1 4) (ex := .ret) (q22 (q23 (q24 (q25 pz)))) (by kernel_rfl) trivial
   refine cond_some hF (fun h11 hF => ?_) (fun h11 hF => ?_)
   ·
    obtain rfl := Option.some.inj hF
    have pz : HoldAll E H hn65 [.test (ige x5.To a1.N) false, .test (beqb (ilt x5.W 0) false) false, .test (beqb (ilt x5.W 0) false) false, .test (beqb (ilt x5.W 0) false) false, .test (ilt x5.W 0) true, .test true true] := ⟨(ige_eq h10), (beqb_ft h11), (beqb_ft h11), (beqb_ft h11), h11, rfl, trivial⟩
    exact loop_endC (h := hn65) (l := 0) (c := c65_0) (ts := F65_l0_0_S a1 v2) (ts' := F65_l0_0_X0 a1 1) (ex := .ret) (q22 (q23 (q24 (q25 pz)))) (by kernel_rfl) trivial
   have q26 : PQ hn65 fun l => (.test (ige x5.To a1.N) false :: .test (beqb (ilt x5.W 0) false) true :: .test (beqb (ilt x5.W 0) false) true :: .test (beqb (ilt x5.W 0) false) true :: .test (ilt x5.W 0) false :: l) := fun z => ⟨(ige_eq h10), (beqb_ff h11), (beqb_ff h11), (beqb_ff h11), h11, z⟩
   refine cond_some hF (fun h12 hF => ?_) (fun h12 hF => ?_)
   ·
    obtain rfl := Option.some.inj hF
    have pz : HoldAll E H hn65 [.test (igt x5.W 4611686018427387904) true] := ⟨(igt_eq h12), trivial⟩
    exact loop_endC (h := hn65) (l := 0) (c := c65_0) (ts := F65_l0_0_S a1 v2) (ts' := F65_l0_0_X0 a1 1) (ex := .ret) (q22 (q23 (q24 (q25 (q26 pz))))) (by kernel_rfl) trivial
   refine cond_some hF (fun h13 hF => ?_) (fun h13 hF => ?_)
   ·
    refine cond_some hF (fun h14 hF => ?_) (fun _ hF => nomatch hF)
    refine bind_some hF (fun x15 h16 hF => ?_)
    have q27 : PQ hn65 fun l => (.test (igt x5.W 4611686018427387904) false :: .test (igt v2 0) true :: .int (wsub .i64 v2 1) (wsub .i64 v2 1) :: .test (inr (wsub .i64 v2 1) (len a1.Edges)) true :: .sub (flat eGEdge a1.Edges) (nidx (wsub .i64 v2 1) 3) 3 [(.lit (.int .i64 x15.From)), (.lit (.int .i64 x15.To)), (.lit (.int .i64 x15.W))] :: l) := fun z => ⟨(igt_eq h12), (igt_eq h13), rfl, h14, ⟨rfl, sub_flat0 eGEdge_len h16 3 (by decide)⟩, z⟩
    refine cond_some hF (fun h17 hF => ?_) (fun h17 hF => ?_)
    ·
     have q28 : PQ hn65 fun l => (.test (beqb (ieq x15.From x5.From) true) true :: .test (beqb (ieq x15.From x5.From) true) true :: .test (beqb (ieq x15.From x5.From) true) true :: .test (beqb (ieq x15.From x5.From) true) true :: .test (beqb (ieq x15.From x5.From) true) true :: .test (ieq x15.From x5.From) true :: l) := fun z => ⟨(beqb_t h17), (beqb_t h17), (beqb_t h17), (beqb_t h17), (beqb_t h17), h17, z⟩
     refine cond_some hF (fun h18 hF => ?_) (fun h18 hF => ?_)
     ·
      obtain rfl := Option.some.inj hF
      have pz : HoldAll E H hn65 [.test (ieq x15.To x5.To) true] := ⟨h18, trivial⟩
      exact loop_endC (h := hn65) (l := 0) (c := c65_0) (ts := F65_l0_0_S a1 v2) (ts' := F65_l0_0_X0 a1 5) (ex := .ret) (q22 (q23 (q24 (q25 (q26 (q27 (q28 pz))))))) (by kernel_rfl) trivial
     refine cond_some hF (fun h19 hF => ?_) (fun h19 hF => ?_)
     ·
      obtain rfl := Option.some.inj hF
      have pz : HoldAll E H hn65 [.test (ieq x15.To x5.To) false, .test (beqb (igt x15.From x5.From) false) false, .test (beqb (igt x15.From x5.From) false) false, .test (beqb (igt x15.From x5.From) false) false, .test (beqb (igt x15.From x5.From) false) false, .test (beqb (igt x15.From x5.From) false) false, .test (beqb (igt x15.From x5.From) false) false, .test (beqb (igt x15.From x5.From) false) false, .test (igt x15.From x5.From) true, .test true true] := ⟨h18, (beqb_ft (igt_eq h19)), (beqb_ft (igt_eq h19)), (beqb_ft (igt_eq h19)), (beqb_ft (igt_eq h19)), (beqb_ft (igt_eq h19)), (beqb_ft (igt_eq h19)), (beqb_ft (igt_eq h19)), (igt_eq h19), rfl, trivial⟩
      exact loop_endC (h := hn65) (l := 0) (c := c65_0) (ts := F65_l0_0_S a1 v2) (ts' := F65_l0_0_X0 a1 6) (ex := .ret) (q22 (q23 (q24 (q25 (q26 (q27 (q28 pz))))))) (by kernel_rfl) trivial
     have q29 : PQ hn65 fun l => (.test (ieq x15.To x5.To) false :: .test (beqb (igt x15.From x5.From) false) true :: .test (beqb (igt x15.From x5.From) false) true :: .test (beqb (igt x15.From x5.From) false) true :: .test (beqb (igt x15.From x5.From) false) true :: .test (beqb (igt x15.From x5.From) false) true :: .test (beqb (igt x15.From x5.From) false) true :: .test (beqb (ieq x15.From x5.From) true) true :: .test (beqb (ieq x15.From x5.From) true) true :: .test (beqb (ieq x15.From x5.From) true) true :: .test (beqb (ieq x15.From x5.From) true) true :: .test (beqb (ieq x15.From x5.From) true) true :: .test (beqb (igt x15.From x5.From) false) true :: .test (ieq x15.From x5.From) true :: .test (igt x15.From x5.From) false :: l) := fun z => ⟨h18, (beqb_ff (igt_eq h19)), (beqb_ff (igt_eq h19)), (beqb_ff (igt_eq h19)), (beqb_ff (igt_eq h19)), (beqb_ff (igt_eq h19)), (beqb_ff (igt_eq h19)), (beqb_t h17), (beqb_t h17), (beqb_t h17), (beqb_t h17), (beqb_t h17), (beqb_ff (igt_eq h19)), h17, (igt_eq h19), z⟩
     refine cond_some hF (fun h20 hF => ?_) (fun h20 hF => ?_)
     ·
      obtain rfl := Option.some.inj hF
      have pz : HoldAll E H hn65 [.test (igt x15.To x5.To) true] := ⟨(igt_eq h20), trivial⟩
      exact loop_endC (h := hn65) (l := 0) (c := c65_0) (ts := F65_l0_0_S a1 v2) (ts' := F65_l0_0_X0 a1 6) (ex := .ret) (q22 (q23 (q24 (q25 (q26 (q27 (q28 (q29 pz)))))))) (by kernel_rfl) trivial
     have pz : HoldAll E H hn65 [.test (igt x15.To x5.To) false, .int (wadd .i64 v2 1) (wadd .i64 v2 1)] := ⟨(igt_eq h20), rfl, trivial⟩
     have h0 := ih _ _ hF
     have hn := fun ex ts' => loop_nextC (h := hn65) (l := 0) (c := c65_0) (ts := F65_l0_0_S a1 v2) (ts1 := (F65_l0_0_S a1 (wadd .i64 v2 1))) (ex := ex) (ts' := ts') (q22 (q23 (q24 (q25 (q26 (q27 (q28 (q29 pz)))))))) (by kernel_rfl)
     cases r with
     | inl w => exact hn _ _ h0
     | inr w => exact hn _ _ h0
    have q30 : PQ hn65 fun l => (.test (beqb (ieq x15.From x5.From) true) false :: .test (beqb (ieq x15.From x5.From) true) false :: .test (beqb (ieq x15.From x5.From) true) false :: .test (beqb (ieq x15.From x5.From) true) false :: .test (beqb (ieq x15.From x5.From) true) false :: .test (ieq x15.From x5.From) false :: .test false false :: l) := fun z => ⟨(beqb_t h17), (beqb_t h17), (beqb_t h17), (beqb_t h17), (beqb_t h17), h17, rfl, z⟩
    refine cond_some hF (fun h21 hF => ?_) (fun h21 hF => ?_)
    ·
     obtain rfl := Option.some.inj hF
     have pz : HoldAll E H hn65 [.test (beqb (igt x15.From x5.From) false) false, .test (beqb (igt x15.From x5.From) false) false, .test (beqb (igt x15.From x5.From) false) false, .test (beqb (igt x15.From x5.From) false) false, .test (beqb (igt x15.From x5.From) false) false, .test (beqb (igt x15.From x5.From) false) false, .test (beqb (igt x15.From x5.From) false) false, .test (igt x15.From x5.From) true, .test true true] := ⟨(beqb_ft (igt_eq h21)), (beqb_ft (igt_eq h21)), (beqb_ft (igt_eq h21)), (beqb_ft (igt_eq h21)), (beqb_ft (igt_eq h21)), (beqb_ft (igt_eq h21)), (beqb_ft (igt_eq h21)), (igt_eq h21), rfl, trivial⟩
     exact loop_endC (h := hn65) (l := 0) (c := c65_0) (ts := F65_l0_0_S a1 v2) (ts' := F65_l0_0_X0 a1 6) (ex := .ret) (q22 (q23 (q24 (q25 (q26 (q27 (q30 pz))))))) (by kernel_rfl) trivial
    have pz : HoldAll E H hn65 [.test (beqb (igt x15.From x5.From) false) true, .test (beqb (igt x15.From x5.From) false) true, .test (beqb (igt x15.From x5.From) false) true, .test (beqb (igt x15.From x5.From) false) true, .test (beqb (igt x15.From x5.From) false) true, .test (beqb (igt x15.From x5.From) false) true, .test (beqb (ieq x15.From x5.From) true) false, .test (beqb (ieq x15.From x5.From) true) false, .test (beqb (ieq x15.From x5.From) true) false, .test (beqb (ieq x15.From x5.From) true) false, .test (beqb (ieq x15.From x5.From) true) false, .test (beqb (igt x15.From x5.From) false) true, .test (ieq x15.From x5.From) false, .test (igt x15.From x5.From) false, .test false false, .int (wadd .i64 v2 1) (wadd .i64 v2 1)] := ⟨(beqb_ff (igt_eq h21)), (beqb_ff (igt_eq h21)), (beqb_ff (igt_eq h21)), (beqb_ff (igt_eq h21)), (beqb_ff (igt_eq h21)), (beqb_ff (igt_eq h21)), (beqb_t h17), (beqb_t h17), (beqb_t h17), (beqb_t h17), (beqb_t h17), (beqb_ff (igt_eq h21)), h17, (igt_eq h21), rfl, rfl, trivial⟩
    have h0 := ih _ _ hF
    have hn := fun ex ts' => loop_nextC (h := hn65) (l := 0) (c := c65_0) (ts := F65_l0_0_S a1 v2) (ts1 := (F65_l0_0_S a1 (wadd .i64 v2 1))) (ex := ex) (ts' := ts') (q22 (q23 (q24 (q25 (q26 (q27 (q30 pz))))))) (by kernel_rfl)
    cases r with
    | inl w => exact hn _ _ h0
    | inr w => exact hn _ _ h0
   have pz : HoldAll E H hn65 [.test (igt x5.W 4611686018427387904) false, .test (igt v2 0) false, .int (wadd .i64 v2 1) (wadd .i64 v2 1)] := ⟨(igt_eq h12), (igt_eq h13), rfl, trivial⟩
   have h0 := ih _ _ hF
   have hn := fun ex ts' => loop_nextC (h := hn65) (l := 0) (c := c65_0) (ts := F65_l0_0_S a1 v2) (ts1 := (F65_l0_0_S a1 (wadd .i64 v2 1))) (ex := ex) (ts' := ts') (q22 (q23 (q24 (q25 (q26 pz))))) (by kernel_rfl)
   cases r with
   | inl w => exact hn _ _ h0
   | inr w => exact hn _ _ h0
  obtain rfl := Option.some.inj hF
  have pz : HoldAll E H hn65 [.int (nlen (len a1.Edges)) (nlen (len a1.Edges)), .test (ilt v2 (nlen (len a1.Edges))) false] := ⟨rfl, h3, trivial⟩
  exact loop_endC (h := hn65) (l := 0) (c := c65_0) (ts := F65_l0_0_S a1 v2) (ts' := F65_l0_0_X1 a1 ()) (ex := (.exit 0)) pz (by kernel_rfl) trivial
def F65 (K : Nat) (a1 : GGraph) : Option (Int) :=
 bif (ilt a1.N 1) then
  (some 1)
 else
 bif (ilt 24 a1.N) then
  (some 1)
 else
 bif (ilt 80 (nlen (len a1.Edges))) then
  (some 3)
 else
 (F65_l0_0 K a1 K 0).bind fun y2 =>
 Sum.elim (fun w3 =>
  some w3)
  (fun w4 =>
  some 0) y2
theorem F65_ok (K : Nat) (a1 : GGraph) (r : Int) (hF : F65 K a1 = some r) : Evt E H 65 [.agg (eGGraph a1)] (F65_res r) := by
 rw [F65] at hF
 refine cond_some hF (fun h2 hF => ?_) (fun h2 hF => ?_)
 ·
  obtain rfl := Option.some.inj hF
  have pz : HoldAll E H hn65 [.test (beqb (ilt a1.N 1) false) false, .test (beqb (ilt a1.N 1) false) false, .test (beqb (ilt a1.N 1) false) false, .test (ilt a1.N 1) true, .test true true] := ⟨(beqb_ft h2), (beqb_ft h2), (beqb_ft h2), h2, rfl, trivial⟩
  exact fn_playC hn65 (r := F65_res 1) pz (by kernel_rfl) (by kernel_rfl)
 have q9 : PQ hn65 fun l => (.test (beqb (ilt a1.N 1) false) true :: .test (beqb (ilt a1.N 1) false) true :: .test (beqb (ilt a1.N 1) false) true :: .test (ilt a1.N 1) false :: l) := fun z => ⟨(beqb_ff h2), (beqb_ff h2), (beqb_ff h2), h2, z⟩
 refine cond_some hF (fun h3 hF => ?_) (fun h3 hF => ?_)
 ·
  obtain rfl := Option.some.inj hF
  have pz : HoldAll E H hn65 [.test (igt a1.N 24) true] := ⟨(igt_eq h3), trivial⟩
  exact fn_playC hn65 (r := F65_res 1) (q9 pz) (by kernel_rfl) (by kernel_rfl)
 refine cond_some hF (fun h4 hF => ?_) (fun h4 hF => ?_)
 ·
  obtain rfl := Option.some.inj hF
  have pz : HoldAll E H hn65 [.test (igt a1.N 24) false, .int (nlen (len a1.Edges)) (nlen (len a1.Edges)), .test (igt (nlen (len a1.Edges)) 80) true] := ⟨(igt_eq h3), rfl, (igt_eq h4), trivial⟩
  exact fn_playC hn65 (r := F65_res 3) (q9 pz) (by kernel_rfl) (by kernel_rfl)
 have q10 : PQ hn65 fun l => (.test (igt a1.N 24) false :: .int (nlen (len a1.Edges)) (nlen (len a1.Edges)) :: .test (igt (nlen (len a1.Edges)) 80) false :: l) := fun z => ⟨(igt_eq h3), rfl, (igt_eq h4), z⟩
 refine bind_some hF (fun y6 h5 hF => ?_)
 refine sum_some hF (fun w7 hx hF => ?_) (fun w8 hx hF => ?_)
 ·
  subst hx
  obtain rfl := Option.some.inj hF
  have pz : HoldAll E H hn65 [.loop 0 c65_0 (F65_l0_0_S a1 0) .ret (F65_l0_0_X0 a1 w7)] := ⟨(F65_l0_0_ok K a1 K 0 _ h5), trivial⟩
  exact fn_playC hn65 (r := F65_res w7) (q9 (q10 pz)) (by kernel_rfl) (by kernel_rfl)
 subst hx
 obtain rfl := Option.some.inj hF
 have pz : HoldAll E H hn65 [.loop 0 c65_0 (F65_l0_0_S a1 0) (.exit 0) (F65_l0_0_X1 a1 w8)] := ⟨(F65_l0_0_ok K a1 K 0 _ h5), trivial⟩
 exact fn_playC hn65 (r := F65_res 0) (q9 (q10 pz)) (by kernel_rfl) (by kernel_rfl)
noncomputable def hn132 : Hint := { H 132 with nt := 35, prot := 0 }
def F132_res (r1 : Int) : Res := ⟨[(.one (.im (.lit (.int .i64 r1))))], []⟩
def F132 (K : Nat) (a1 : GEdge) (a2 : Int) : Option (Int) :=
 bif (ilt a1.From 0) then
  (some 4)
 else
 bif (ile a2 a1.From) then
  (some 4)
 else
 bif (ilt a1.To 0) then
  (some 4)
 else
 bif (ile a2 a1.To) then
  (some 4)
 else
 bif (ilt a1.W 0) then
  (some 1)
 else
 bif (ilt 4611686018427387904 a1.W) then
  (some 1)
 else
 some 0
theorem F132_ok (K : Nat) (a1 : GEdge) (a2 : Int) (r : Int) (hF : F132 K a1 a2 = some r) : Evt E H 132 [.agg (eGEdge a1), .one (.lit (.int .i64 a2))] (F132_res r) := by
 rw [F132] at hF
 refine cond_some hF (fun h3 hF => ?_) (fun h3 hF => ?_)
 ·
  obtain rfl := Option.some.inj hF
  have pz : HoldAll E H hn132 [.test (beqb (ilt a1.From 0) false) false, .test (beqb (ilt a1.From 0) false) false, .test (beqb (ilt a1.From 0) false) false, .test (beqb (ilt a1.From 0) false) false, .test (ilt a1.From 0) true, .test (beqb true false) false, .test (beqb true false) false, .test (beqb true false) false, .test true true, .test (beqb true false) false, .test (beqb true false) false, .test (beqb true false) false, .test (beqb true false) false, .test true true, .test true true] := ⟨(beqb_ft h3), (beqb_ft h3), (beqb_ft h3), (beqb_ft h3), h3, (beqb_ft rfl), (beqb_ft rfl), (beqb_ft rfl), rfl, (beqb_ft rfl), (beqb_ft rfl), (beqb_ft rfl), (beqb_ft rfl), rfl, rfl, trivial⟩
  exact fn_playC hn132 (r := F132_res 4) pz (by kernel_rfl) (by kernel_rfl)
 have q9 : PQ hn132 fun l => (.test (beqb (ilt a1.From 0) false) true :: .test (beqb (ilt a1.From 0) false) true :: .test (beqb (ilt a1.From 0) false) true :: .test (beqb (ilt a1.From 0) false) true :: .test (ilt a1.From 0) false :: l) := fun z => ⟨(beqb_ff h3), (beqb_ff h3), (beqb_ff h3), (beqb_ff h3), h3, z⟩
 refine cond_some hF (fun h4 hF => ?_) (fun h4 hF => ?_)
 ·
  obtain rfl := Option.some.inj hF
  have pz : HoldAll E H hn132 [.test (beqb (ige a1.From a2) false) false, .test (beqb (ige a1.From a2) false) false, .test (beqb (ige a1.From a2) false) false, .test (ige a1.From a2) true, .test (beqb true false) false, .test (beqb true false) false, .test (beqb true false) false, .test (beqb true false) false, .test true true, .test true true] := ⟨(beqb_ft (ige_eq h4)), (beqb_ft (ige_eq h4)), (beqb_ft (ige_eq h4)), (ige_eq h4), (beqb_ft rfl), (beqb_ft rfl), (beqb_ft rfl), (beqb_ft rfl), rfl, rfl, trivial⟩
  exact fn_playC hn132 (r := F132_res 4) (q9 pz) (by kernel_rfl) (by kernel_rfl)
 have q10 : PQ hn132 fun l => (.test (beqb (ige a1.From a2) false) true :: .test (beqb (ige a1.From a2) false) true :: .test (beqb (ige a1.From a2) false) true :: .test (ige a1.From a2) false :: l) := fun z => ⟨(beqb_ff (ige_eq h4)), (beqb_ff (ige_eq h4)), (beqb_ff (ige_eq h4)), (ige_eq h4), z⟩
 refine cond_some hF (fun h5 hF => ?_) (fun h5 hF => ?_)
 ·
  obtain rfl := Option.some.inj hF
  have pz : HoldAll E H hn132 [.test (beqb (ilt a1.To 0) false) false, .test (beqb (ilt a1.To 0) false) false, .test (beqb (ilt a1.To 0) false) false, .test (beqb (ilt a1.To 0) false) false, .test (ilt a1.To 0) true, .test true true] := ⟨(beqb_ft h5), (beqb_ft h5), (beqb_ft h5), (beqb_ft h5), h5, rfl, trivial⟩
  exact fn_playC hn132 (r := F132_res 4) (q9 (q10 pz)) (by kernel_rfl) (by kernel_rfl)
 have q11 : PQ hn132 fun l => (.test (beqb (ilt a1.To 0) false) true :: .test (beqb (ilt a1.To 0) false) true :: .test (beqb (ilt a1.To 0) false) true :: .test (beqb (ilt a1.To 0) false) true :: .test (ilt a1.To 0) false :: l) := fun z => ⟨(beqb_ff h5), (beqb_ff h5), (beqb_ff h5), (beqb_ff h5), h5, z⟩
 refine cond_some hF (fun h6 hF => ?_) (fun h6 hF => ?_)
 ·
  obtain rfl := Option.some.inj hF
  have pz : HoldAll E H hn132 [.test (ige a1.To a2) true] := ⟨(ige_eq h6), trivial⟩
  exact fn_playC hn132 (r := F132_res 4) (q9 (q10 (q11 pz))) (by kernel_rfl) (by kernel_rfl)
 refine cond_some hF (fun h7 hF => ?_) (fun h7 hF => ?_)
 ·
  obtain rfl := Option.some.inj hF
  have pz : HoldAll E H hn132 [.test (ige a1.To a2) false, .test (beqb (ilt a1.W 0) false) false, .test (beqb (ilt a1.W 0) false) false, .test (beqb (ilt a1.W 0) false) false, .test (ilt a1.W 0) true, .test true true] := ⟨(ige_eq h6), (beqb_ft h7), (beqb_ft h7), (beqb_ft h7), h7, rfl, trivial⟩
  exact fn_playC hn132 (r := F132_res 1) (q9 (q10 (q11 pz))) (by kernel_rfl) (by kernel_rfl)
 have q12 : PQ hn132 fun l => (.test (ige a1.To a2) false :: .test (beqb (ilt a1.W 0) false) true :: .test (beqb (ilt a1.W 0) false) true :: .test (beqb (ilt a1.W 0) false) true :: .test (ilt a1.W 0) false :: l) := fun z => ⟨(ige_eq h6), (beqb_ff h7), (beqb_ff h7), (beqb_ff h7), h7, z⟩
 refine cond_some hF (fun h8 hF => ?_) (fun h8 hF => ?_)
 ·
  obtain rfl := Option.some.inj hF
  have pz : HoldAll E H hn132 [.test (igt a1.W 4611686018427387904) true] := ⟨(igt_eq h8), trivial⟩
  exact fn_playC hn132 (r := F132_res 1) (q9 (q10 (q11 (q12 pz)))) (by kernel_rfl) (by kernel_rfl)
 obtain rfl := Option.some.inj hF
 have pz : HoldAll E H hn132 [.test (igt a1.W 4611686018427387904) false] := ⟨(igt_eq h8), trivial⟩
 exact fn_playC hn132 (r := F132_res 0) (q9 (q10 (q11 (q12 pz)))) (by kernel_rfl) (by kernel_rfl)
noncomputable def hn133 : Hint := { H 133 with nt := 20, prot := 0 }
def F133_res (r1 : Int) : Res := ⟨[(.one (.im (.lit (.int .i64 r1))))], []⟩
def F133 (K : Nat) (a1 : GEdge) (a2 : GEdge) : Option (Int) :=
 bif (ieq a1.From a2.From) then
  (some (wsub .i64 a1.To a2.To))
 else
 some (wsub .i64 a1.From a2.From)
theorem F133_ok (K : Nat) (a1 : GEdge) (a2 : GEdge) (r : Int) (hF : F133 K a1 a2 = some r) : Evt E H 133 [.agg (eGEdge a1), .agg (eGEdge a2)] (F133_res r) := by
 rw [F133] at hF
 refine cond_some hF (fun h3 hF => ?_) (fun h3 hF => ?_)
 ·
  obtain rfl := Option.some.inj hF
  have pz : HoldAll E H hn133 [.test (ine a1.From a2.From) false, .int (wsub .i64 a1.To a2.To) (wsub .i64 a1.To a2.To)] := ⟨(ine_t h3), rfl, trivial⟩
  exact fn_playC hn133 (r := F133_res (wsub .i64 a1.To a2.To)) pz (by kernel_rfl) (by kernel_rfl)
 obtain rfl := Option.some.inj hF
 have pz : HoldAll E H hn133 [.test (ine a1.From a2.From) true, .int (wsub .i64 a1.From a2.From) (wsub .i64 a1.From a2.From)] := ⟨(ine_f h3), rfl, trivial⟩
 exact fn_playC hn133 (r := F133_res (wsub .i64 a1.From a2.From)) pz (by kernel_rfl) (by kernel_rfl)
noncomputable def hn64 : Hint := { H 64 with nt := 51, prot := 0 }
noncomputable def c64_0 : Code := loopOf E 64 0
def F64_res (r1 : Int) : Res := ⟨[(.one (.im (.lit (.int .i64 r1))))], []⟩
def F64_l0_0 (K : Nat) (a1 : GGraph) : Nat → Int → Option ((Int) ⊕ (Unit))
 | 0, _ => none
 | k + 1, v2 =>
  bif (ilt v2 (nlen (len a1.Edges))) then
   (bif (inr v2 (len a1.Edges)) then
   (elAt a1.Edges v2).bind fun x3 =>
   (F132 K x3 a1.N).bind fun r4 =>
   bif (ieq r4 0) then
    (bif (ieq v2 0) then
     (F64_l0_0 K a1 k (wadd .i64 v2 1))
    else
    bif (inr (wsub .i64 v2 1) (len a1.Edges)) then
    (elAt a1.Edges (wsub .i64 v2 1)).bind fun x5 =>
    (F133 K x5 x3).bind fun r6 =>
    bif (ieq r6 0) then
     (some (.inl 5))
    else
    bif (ilt 0 r6) then
     (some (.inl 6))
    else
    F64_l0_0 K a1 k (wadd .i64 v2 1)
    else none)
   else
   some (.inl r4)
   else none)
  else
  some (.inr ())
def F64_l0_0_S (a1 : GGraph) (v2 : Int) : TS := .on [64, 65, 66, 1216, 1280, 1281, 1344, 1345, 1408, 1409] [(64, ⟨(.box 62 2), 0, nob⟩), (65, ⟨.im, 0, (.lit (.int .i64 a1.N))⟩), (66, ⟨.im, 0, (.sl (len a1.Edges) (flat eGEdge a1.Edges))⟩), (1216, ⟨(.ad 1 0 1), 0, nob⟩), (1280, ⟨.one, 0, nob⟩), (1281, ⟨.im, 0, (.sl (len a1.Edges) (flat eGEdge a1.Edges))⟩), (1344, ⟨.one, 0, nob⟩), (1345, ⟨.im, 0, (.lit (.int .i64 (nlen (len a1.Edges))))⟩), (1408, ⟨.one, 0, nob⟩), (1409, ⟨.im, 0, (.lit (.int .i64 v2))⟩)]
def F64_l0_0_X0 (a1 : GGraph) (w2 : Int) : TS := .on [128, 129] [(128, ⟨.one, 0, nob⟩), (129, ⟨.im, 0, (.lit (.int .i64 w2))⟩)]
def F64_l0_0_X1 (a1 : GGraph) (w2 : Unit) : TS := .on [] []
theorem F64_l0_0_ok (K : Nat) (a1 : GGraph) : ∀ (k : Nat) (v2 : Int) (r : (Int) ⊕ (Unit)), F64_l0_0 K a1 k v2 = some r → (Sum.elim (fun w => LoopEv E H hn64 0 c64_0 (F64_l0_0_S a1 v2) .ret (F64_l0_0_X0 a1 w)) (fun w => LoopEv E H hn64 0 c64_0 (F64_l0_0_S a1 v2) (.exit 0) (F64_l0_0_X1 a1 w))) r := by
 intro k
 induction k with
 | zero => intro v2 r hF; cases hF
 | succ k ih =>
  intro v2 r hF
  rw [F64_l0_0] at hF
  refine cond_some hF (fun h3 hF => ?_) (fun h3 hF => ?_)
  ·
   refine cond_some hF (fun h4 hF => ?_) (fun _ hF => nomatch hF)
   refine bind_some hF (fun x5 h6 hF => ?_)
   refine bind_some hF (fun r7 h8 hF => ?_)
   have q18 : PQ hn64 fun l => (.test (ilt v2 (nlen (len a1.Edges))) true :: .test (inr v2 (len a1.Edges)) true :: .sub (flat eGEdge a1.Edges) (nidx v2 3) 3 [(.lit (.int .i64 x5.From)), (.lit (.int .i64 x5.To)), (.lit (.int .i64 x5.W))] :: .call 132 [.agg (eGEdge x5), .one (.lit (.int .i64 a1.N))] (F132_res r7) :: .test (leadsAny (Res.mk [(.one (.im (.lit (.int .i64 r7))))] [])) false :: l) := fun z => ⟨h3, h4, ⟨rfl, sub_flat0 eGEdge_len h6 3 (by decide)⟩, (F132_ok K x5 a1.N _ h8), (leads_ok (by simp [leadsAny, RV.leads, RC.leads, leadsT, hasSl_lit, flat_ns eGEdge_ns])), z⟩
   refine cond_some hF (fun h9 hF => ?_) (fun h9 hF => ?_)
   ·
    refine cond_some hF (fun h10 hF => ?_) (fun h10 hF => ?_)
    ·
     have pz : HoldAll E H hn64 [.test (ine r7 0) false, .test (ieq v2 0) true, .int (wadd .i64 v2 1) (wadd .i64 v2 1)] := ⟨(ine_t h9), h10, rfl, trivial⟩
     have h0 := ih _ _ hF
     have hn := fun ex ts' => loop_nextC (h := hn64) (l := 0) (c := c64_0) (ts := F64_l0_0_S a1 v2) (ts1 := (F64_l0_0_S a1 (wadd .i64 v2 1))) (ex := ex) (ts' := ts') (q18 pz) (by kernel_rfl)
     cases r with
     | inl w => exact hn _ _ h0
     | inr w => exact hn _ _ h0
    refine cond_some hF (fun h11 hF => ?_) (fun _ hF => nomatch hF)
    refine bind_some hF (fun x12 h13 hF => ?_)
    refine bind_some hF (fun r14 h15 hF => ?_)
    have q19 : PQ hn64 fun l => (.test (ine r7 0) false :: .test (ieq v2 0) false :: .int (wsub .i64 v2 1) (wsub .i64 v2 1) :: .test (inr (wsub .i64 v2 1) (len a1.Edges)) true :: .sub (flat eGEdge a1.Edges) (nidx (wsub .i64 v2 1) 3) 3 [(.lit (.int .i64 x12.From)), (.lit (.int .i64 x12.To)), (.lit (.int .i64 x12.W))] :: .call 133 [.agg (eGEdge x12), .agg (eGEdge x5)] (F133_res r14) :: .test (leadsAny (Res.mk [(.one (.im (.lit (.int .i64 r14))))] [])) false :: l) := fun z => ⟨(ine_t h9), h10, rfl, h11, ⟨rfl, sub_flat0 eGEdge_len h13 3 (by decide)⟩, (F133_ok K x12 x5 _ h15), (leads_ok (by simp [leadsAny, RV.leads, RC.leads, leadsT, hasSl_lit, flat_ns eGEdge_ns])), z⟩
    refine cond_some hF (fun h16 hF => ?_) (fun h16 hF => ?_)
    ·
     obtain rfl := Option.some.inj hF
     have pz : HoldAll E H hn64 [.test (ieq r14 0) true] := ⟨h16, trivial⟩
     exact loop_endC (h := hn64) (l := 0) (c := c64_0) (ts := F64_l0_0_S a1 v2) (ts' := F64_l0_0_X0 a1 5) (ex := .ret) (q18 (q19 pz)) (by kernel_rfl) trivial
    refine cond_some hF (fun h17 hF => ?_) (fun h17 hF => ?_)
    ·
     obtain rfl := Option.some.inj hF
     have pz : HoldAll E H hn64 [.test (ieq r14 0) false, .test (igt r14 0) true] := ⟨h16, (igt_eq h17), trivial⟩
     exact loop_endC (h := hn64) (l := 0) (c := c64_0) (ts := F64_l0_0_S a1 v2) (ts' := F64_l0_0_X0 a1 6) (ex := .ret) (q18 (q19 pz)) (by kernel_rfl) trivial
    have pz : HoldAll E H hn64 [.test (ieq r14 0) false, .test (igt r14 0) false, .int (wadd .i64 v2 1) (wadd .i64 v2 1)] := ⟨h16, (igt_eq h17), rfl, trivial⟩
    have h0 := ih _ _ hF
    have hn := fun ex ts' => loop_nextC (h := hn64) (l := 0) (c := c64_0) (ts := F64_l0_0_S a1 v2) (ts1 := (F64_l0_0_S a1 (wadd .i64 v2 1))) (ex := ex) (ts' := ts') (q18 (q19 pz)) (by kernel_rfl)
    cases r with
    | inl w => exact hn _ _ h0
    | inr w => exact hn _ _ h0
   obtain rfl := Option.some.inj hF
   have pz : HoldAll E H hn64 [.test (ine r7 0) true] := ⟨(ine_f h9), trivial⟩
   exact loop_endC (h := hn64) (l := 0) (c := c64_0) (ts := F64_l0_0_S a1 v2) (ts' := F64_l0_0_X0 a1 r7) (ex := .ret) (q18 pz) (by kernel_rfl) trivial
  obtain rfl := Option.some.inj hF
  have pz : HoldAll E H hn64 [.test (ilt v2 (nlen (len a1.Edges))) false] := ⟨h3, trivial⟩
  exact loop_endC (h := hn64) (l := 0) (c := c64_0) (ts := F64_l0_0_S a1 v2) (ts' := F64_l0_0_X1 a1 ()) (ex := (.exit 0)) pz (by kernel_rfl) trivial
def F64 (K : Nat) (a1 : GGraph) : Option (Int) :=
 bif (ilt a1.N 1) then
  (some 1)
 else
 bif (ilt 24 a1.N) then
  (some 1)
 else
 bif (ilt 80 (nlen (len a1.Edges))) then
  (some 3)
 else
 (F64_l0_0 K a1 K 0).bind fun y2 =>
 Sum.elim (fun w3 =>
  some w3)
  (fun w4 =>
  some 0) y2
theorem F64_ok (K : Nat) (a1 : GGraph) (r : Int) (hF : F64 K a1 = some r) : Evt E H 64 [.agg (eGGraph a1)] (F64_res r) := by
 rw [F64] at hF
 refine cond_some hF (fun h2 hF => ?_) (fun h2 hF => ?_)
 ·
  obtain rfl := Option.some.inj hF
  have pz : HoldAll E H hn64 [.test (beqb (ilt a1.N 1) false) false, .test (beqb (ilt a1.N 1) false) false, .test (beqb (ilt a1.N 1) false) false, .test (ilt a1.N 1) true, .test true true] := ⟨(beqb_ft h2), (beqb_ft h2), (beqb_ft h2), h2, rfl, trivial⟩
  exact fn_playC hn64 (r := F64_res 1) pz (by kernel_rfl) (by kernel_rfl)
 have q9 : PQ hn64 fun l => (.test (beqb (ilt a1.N 1) false) true :: .test (beqb (ilt a1.N 1) false) true :: .test (beqb (ilt a1.N 1) false) true :: .test (ilt a1.N 1) false :: l) := fun z => ⟨(beqb_ff h2), (beqb_ff h2), (beqb_ff h2), h2, z⟩
 refine cond_some hF (fun h3 hF => ?_) (fun h3 hF => ?_)
 ·
  obtain rfl := Option.some.inj hF
  have pz : HoldAll E H hn64 [.test (igt a1.N 24) true] := ⟨(igt_eq h3), trivial⟩
  exact fn_playC hn64 (r := F64_res 1) (q9 pz) (by kernel_rfl) (by kernel_rfl)
 refine cond_some hF (fun h4 hF => ?_) (fun h4 hF => ?_)
 ·
  obtain rfl := Option.some.inj hF
  have pz : HoldAll E H hn64 [.test (igt a1.N 24) false, .int (nlen (len a1.Edges)) (nlen (len a1.Edges)), .test (igt (nlen (len a1.Edges)) 80) true] := ⟨(igt_eq h3), rfl, (igt_eq h4), trivial⟩
  exact fn_playC hn64 (r := F64_res 3) (q9 pz) (by kernel_rfl) (by kernel_rfl)
 have q10 : PQ hn64 fun l => (.test (igt a1.N 24) false :: .int (nlen (len a1.Edges)) (nlen (len a1.Edges)) :: .test (igt (nlen (len a1.Edges)) 80) false :: .int (nlen (len a1.Edges)) (nlen (len a1.Edges)) :: l) := fun z => ⟨(igt_eq h3), rfl, (igt_eq h4), rfl, z⟩
 refine bind_some hF (fun y6 h5 hF => ?_)
 refine sum_some hF (fun w7 hx hF => ?_) (fun w8 hx hF => ?_)
 ·
  subst hx
  obtain rfl := Option.some.inj hF
  have pz : HoldAll E H hn64 [.loop 0 c64_0 (F64_l0_0_S a1 0) .ret (F64_l0_0_X0 a1 w7)] := ⟨(F64_l0_0_ok K a1 K 0 _ h5), trivial⟩
  exact fn_playC hn64 (r := F64_res w7) (q9 (q10 pz)) (by kernel_rfl) (by kernel_rfl)
 subst hx
 obtain rfl := Option.some.inj hF
 have pz : HoldAll E H hn64 [.loop 0 c64_0 (F64_l0_0_S a1 0) (.exit 0) (F64_l0_0_X1 a1 w8)] := ⟨(F64_l0_0_ok K a1 K 0 _ h5), trivial⟩
 exact fn_playC hn64 (r := F64_res 0) (q9 (q10 pz)) (by kernel_rfl) (by kernel_rfl)
def badE (n : Int) (e : GEdge) : Int :=
 bif ilt e.From 0 || ile n e.From || ilt e.To 0 || ile n e.To then 4 else bif ilt e.W 0 || ilt 4611686018427387904 e.W then 1 else 0
def ordE (d e : GEdge) : Int := bif ieq d.From e.From && ieq d.To e.To then 5 else bif ilt e.From d.From || (ieq d.From e.From && ilt e.To d.To) then 6 else 0
def gchk (n : Int) : Option GEdge → List GEdge → Int
 | _, [] => 0
 | prev, e :: r => bif ieq (badE n e) 0 then (match prev with
   | none => gchk n (some e) r
   | some d => bif ieq (ordE d e) 0 then gchk n (some e) r else ordE d e) else badE n e
def gcheck (g : GGraph) : Int := bif ilt g.N 1 || ilt 24 g.N then 1 else bif ilt 80 (nlen (len g.Edges)) then 3 else gchk g.N none g.Edges
def prevOf {α : Type} (l : List α) : Nat → Option α
 | 0 => none
 | i + 1 => l[i]?
theorem wsub_one {i : Nat} (h0 : 0 < i) (h : i < 4611686018427387904) : wsub .i64 (i : Int) 1 = ((i - 1 : Nat) : Int) := by
 show IntKind.i64.wrap ((i : Int) - 1) = _
 rw [IntKind.wrap_i64]; omega
theorem prev_at {α : Type} {l : List α} {i : Nat} (h0 : 0 < i) (hi : i < l.length) (hl : l.length < 4611686018427387904) :
   ∃ d, prevOf l i = some d ∧ wsub .i64 (i : Int) 1 = ((i - 1 : Nat) : Int) ∧ inr ((i - 1 : Nat) : Int) (len l) = true ∧ elAt l ((i - 1 : Nat) : Int) = some d := by
 obtain ⟨j, rfl⟩ : ∃ j, i = j + 1 := ⟨i - 1, by omega⟩
 refine ⟨l[j], by simp [prevOf], wsub_one h0 (by omega), decide_eq_true ⟨by omega, by show ((j + 1 - 1 : Nat) : Int) < (l.length : Int); omega⟩, ?_⟩
 rw [elAt_nat]
 simp
theorem prev_next {α : Type} {l : List α} {i : Nat} {x : α} {r : List α} (h : l.drop i = x :: r) : prevOf l (i + 1) = some x ∧ l.drop (i + 1) = r ∧ i < l.length := by
 have hi := lt_of_drop' h
 have := List.drop_eq_getElem_cons hi
 rw [h] at this
 injection this with a b
 exact ⟨by simp [prevOf, hi, a], b.symm, hi⟩
def sumI (v : Int) : Int ⊕ Unit := bif ieq v 0 then .inr () else .inl v
theorem F132_spec (K : Nat) (e : GEdge) (n : Int) : F132 K e n = some (badE n e) := by
 rw [F132, badE]
 cases ilt e.From 0 <;> cases ile n e.From <;> cases ilt e.To 0 <;> cases ile n e.To <;> cases ilt e.W 0 <;> cases ilt 4611686018427387904 e.W <;> rfl
theorem badE_ok {n : Int} {e : GEdge} (h : ieq (badE n e) 0 = true) : 0 ≤ e.From ∧ e.From < n ∧ 0 ≤ e.To ∧ e.To < n ∧ 0 ≤ e.W ∧ e.W ≤ 4611686018427387904 := by
 rw [badE] at h
 cases h1 : ilt e.From 0 || ile n e.From || ilt e.To 0 || ile n e.To
 · cases h2 : ilt e.W 0 || ilt 4611686018427387904 e.W
   · simp only [Bool.or_eq_false_iff, ilt_f, ile_f] at h1 h2
     omega
   · rw [h1, h2] at h; cases h
 · rw [h1] at h; cases h
theorem F133_spec (K : Nat) {n : Int} {d e : GEdge} (hn : n ≤ 24) (hd : ieq (badE n d) 0 = true) (he : ieq (badE n e) 0 = true) :
   F133 K d e = some (bif ieq d.From e.From then d.To - e.To else d.From - e.From) := by
 have h1 := badE_ok hd
 have h2 := badE_ok he
 rw [F133]
 have e1 : wsub .i64 d.To e.To = d.To - e.To := by show IntKind.i64.wrap _ = _; rw [IntKind.wrap_i64]; omega
 have e2 : wsub .i64 d.From e.From = d.From - e.From := by show IntKind.i64.wrap _ = _; rw [IntKind.wrap_i64]; omega
 rw [e1, e2]
 cases ieq d.From e.From <;> rfl
theorem F64_loop {K : Nat} (hK : 100 ≤ K) (g : GGraph) (hl : g.Edges.length ≤ 80) (hn : g.N ≤ 24) : F64_l0_0 K g K 0 = some (sumI (gchk g.N none g.Edges)) := by
 let step : Nat → GEdge → Unit → (Unit → Option (Int ⊕ Unit)) → Option (Int ⊕ Unit) := fun i x _ c =>
   (F132 K x g.N).bind fun r => bif (ieq r 0) then (bif (ieq (i : Int) 0) then c () else bif (inr (wsub .i64 (i : Int) 1) (len g.Edges)) then
       (elAt g.Edges (wsub .i64 (i : Int) 1)).bind fun d => (F133 K d x).bind fun r => bif (ieq r 0) then (some (.inl 5)) else bif (ilt 0 r) then (some (.inl 6)) else c ()
       else none) else some (.inl r)
 let fin : Unit → Option (Int ⊕ Unit) := fun _ => some (.inr ())
 have h := scanI (l := g.Edges) (L := fun k (_ : Unit) i => F64_l0_0 K g k i) step fin (fun k st i hi => rfl) (by omega) K () 0 (by omega) (by omega)
 have hw : ∀ (r : List GEdge) (i : Nat), g.Edges.drop i = r → (∀ d, prevOf g.Edges i = some d → ieq (badE g.N d) 0 = true) → (i = 0 ∨ i ≤ g.Edges.length) → goI step fin i r () = some (sumI (gchk g.N (prevOf g.Edges i) r)) := by
   intro r
   induction r with
   | nil => intro i _ _ _; rfl
   | cons x r ih =>
     intro i hr hp _
     obtain ⟨n1, n2, hi⟩ := prev_next hr
     rw [goI]
     show ((F132 K x g.N).bind fun r' => bif (ieq r' 0) then (bif (ieq (i : Int) 0) then goI step fin (i + 1) r () else bif (inr (wsub .i64 (i : Int) 1) (len g.Edges)) then
       (elAt g.Edges (wsub .i64 (i : Int) 1)).bind fun d => (F133 K d x).bind fun r' => bif (ieq r' 0) then (some (.inl 5)) else bif (ilt 0 r') then (some (.inl 6)) else goI step fin (i + 1) r ()
       else none) else some (.inl r')) = _
     rw [F132_spec, Option.bind_some]
     cases hb : ieq (badE g.N x) 0
     · have hne : badE g.N x ≠ 0 := ieq_f.1 hb
       cases prevOf g.Edges i <;> simp only [gchk, hb, cond_false, sumI]
     · have nx : goI step fin (i + 1) r () = some (sumI (gchk g.N (some x) r)) := by
         have := ih (i + 1) n2 (fun d hd => by rw [n1] at hd; cases hd; exact hb) (.inr (by omega))
         rw [n1] at this; exact this
       rw [cond_true, nx]
       cases i with
       | zero =>
         have : ieq ((0 : Nat) : Int) 0 = true := rfl
         rw [this, cond_true]
         show _ = some (sumI (gchk g.N none (x :: r)))
         rw [gchk, hb]; rfl
       | succ j =>
         obtain ⟨d, p1, p2, p3, p4⟩ := prev_at (l := g.Edges) (i := j + 1) (by omega) hi (by omega)
         have hd := hp d p1
         have : ieq ((j + 1 : Nat) : Int) 0 = false := ieq_f.2 (by omega)
         rw [this, cond_false, p2, p3, cond_true, p4, Option.bind_some, F133_spec K hn hd hb, Option.bind_some, p1, gchk, hb, cond_true]
         have b1 := badE_ok hd
         have b2 := badE_ok hb
         by_cases q1 : d.From = x.From
         · have i1 : ieq d.From x.From = true := ieq_iff.2 q1
           rw [i1, cond_true]
           by_cases q2 : d.To = x.To
           · have o5 : ordE d x = 5 := by simp [ordE, ieq_iff.2 q1, ieq_iff.2 q2]
             have : ieq (d.To - x.To) 0 = true := ieq_iff.2 (by omega)
             rw [this, cond_true, o5]; rfl
           · have : ieq (d.To - x.To) 0 = false := ieq_f.2 (by omega)
             rw [this, cond_false]
             have j2 : ieq d.To x.To = false := ieq_f.2 q2
             by_cases q3 : x.To < d.To
             · have o6 : ordE d x = 6 := by simp [ordE, i1, j2, ilt_iff.2 q3]
               have : ilt 0 (d.To - x.To) = true := ilt_iff.2 (by omega)
               rw [this, cond_true, o6]; rfl
             · have o0 : ordE d x = 0 := by simp [ordE, i1, j2, ilt_f.2 (show d.To ≤ x.To by omega), ilt_f.2 (show d.From ≤ x.From by omega)]
               have : ilt 0 (d.To - x.To) = false := ilt_f.2 (by omega)
               rw [this, cond_false, o0]; rfl
         · have i1 : ieq d.From x.From = false := ieq_f.2 q1
           rw [i1, cond_false]
           have : ieq (d.From - x.From) 0 = false := ieq_f.2 (by omega)
           rw [this, cond_false]
           by_cases q3 : x.From < d.From
           · have o6 : ordE d x = 6 := by simp [ordE, i1, ilt_iff.2 q3]
             have : ilt 0 (d.From - x.From) = true := ilt_iff.2 (by omega)
             rw [this, cond_true, o6]; rfl
           · have o0 : ordE d x = 0 := by simp [ordE, i1, ilt_f.2 (show d.From ≤ x.From by omega)]
             have : ilt 0 (d.From - x.From) = false := ilt_f.2 (by omega)
             rw [this, cond_false, o0]; rfl
 have := hw g.Edges 0 rfl (fun d hd => by cases hd) (.inl rfl)
 rw [List.drop_zero, this] at h
 exact h
theorem sumI_elim (v : Int) : (some (sumI v)).bind (fun y => Sum.elim (fun w => some w) (fun w => some 0) y) = some v := by
 unfold sumI
 cases h : ieq v 0
 · rfl
 · have : v = 0 := ieq_iff.1 h
   subst this; rfl
theorem F64_spec {K : Nat} (hK : 100 ≤ K) (g : GGraph) : F64 K g = some (gcheck g) := by
 rw [F64, gcheck]
 cases ilt g.N 1
 · cases h2 : ilt 24 g.N
   · cases h3 : ilt 80 (nlen (len g.Edges))
     · have hl : g.Edges.length ≤ 80 := by have := ilt_f.1 h3; simp only [nlen, len] at this; omega
       have hn := ilt_f.1 h2
       rw [F64_loop hK g hl hn]
       exact sumI_elim _
     · rfl
   · rfl
 · rfl
theorem F65_loop {K : Nat} (hK : 100 ≤ K) (g : GGraph) (hl : g.Edges.length ≤ 80) : F65_l0_0 K g K 0 = some (sumI (gchk g.N none g.Edges)) := by
 let chk : Nat → GEdge → Option (Int ⊕ Unit) → Option (Int ⊕ Unit) := fun i x c =>
     bif (ilt 0 (i : Int)) then
       (bif (inr (wsub .i64 (i : Int) 1) (len g.Edges)) then
       (elAt g.Edges (wsub .i64 (i : Int) 1)).bind fun d =>
       bif (ieq d.From x.From) then
         (bif (ieq d.To x.To) then (some (.inl 5)) else bif (ilt x.From d.From) then (some (.inl 6)) else bif (ilt x.To d.To) then (some (.inl 6)) else c)
       else bif (ilt x.From d.From) then (some (.inl 6)) else c
       else none)
     else c
 let step : Nat → GEdge → Unit → (Unit → Option (Int ⊕ Unit)) → Option (Int ⊕ Unit) := fun i x _ c =>
     bif (ilt x.From 0) then (some (.inl 4)) else bif (ilt x.To 0) then (some (.inl 4)) else bif (ile g.N x.From) then (some (.inl 4)) else bif (ile g.N x.To) then (some (.inl 4)) else
     bif (ilt x.W 0) then (some (.inl 1)) else bif (ilt 4611686018427387904 x.W) then (some (.inl 1)) else chk i x (c ())
 let fin : Unit → Option (Int ⊕ Unit) := fun _ => some (.inr ())
 have h := scanI (l := g.Edges) (L := fun k (_ : Unit) i => F65_l0_0 K g k i) step fin (fun k st i hi => rfl) (by omega) K () 0 (by omega) (by omega)
 have hstep : ∀ i x c, step i x () c = bif ieq (badE g.N x) 0 then chk i x (c ()) else some (.inl (badE g.N x)) := by
   intro i x c
   show (bif (ilt x.From 0) then (some (.inl 4)) else bif (ilt x.To 0) then (some (.inl 4)) else bif (ile g.N x.From) then (some (.inl 4)) else bif (ile g.N x.To) then (some (.inl 4)) else
     bif (ilt x.W 0) then (some (.inl 1)) else bif (ilt 4611686018427387904 x.W) then (some (.inl 1)) else chk i x (c ())) = _
   rw [badE]
   cases ilt x.From 0 <;> cases ile g.N x.From <;> cases ilt x.To 0 <;> cases ile g.N x.To <;> cases ilt x.W 0 <;> cases ilt 4611686018427387904 x.W <;> rfl
 have hw : ∀ (r : List GEdge) (i : Nat), g.Edges.drop i = r → goI step fin i r () = some (sumI (gchk g.N (prevOf g.Edges i) r)) := by
   intro r
   induction r with
   | nil => intro i _; rfl
   | cons x r ih =>
     intro i hr
     obtain ⟨n1, n2, hi⟩ := prev_next hr
     rw [goI, hstep]
     cases hb : ieq (badE g.N x) 0
     · have hne : badE g.N x ≠ 0 := ieq_f.1 hb
       cases prevOf g.Edges i <;> simp only [gchk, hb, cond_false, sumI]
     · have nx := ih (i + 1) n2
       rw [n1] at nx
       rw [cond_true, nx]
       cases i with
       | zero =>
         show some (sumI (gchk g.N (some x) r)) = some (sumI (gchk g.N none (x :: r)))
         rw [gchk, hb]; rfl
       | succ j =>
         obtain ⟨d, p1, p2, p3, p4⟩ := prev_at (l := g.Edges) (i := j + 1) (by omega) hi (by omega)
         have : ilt 0 ((j + 1 : Nat) : Int) = true := ilt_iff.2 (by omega)
         show (bif (ilt 0 ((j + 1 : Nat) : Int)) then
           (bif (inr (wsub .i64 ((j + 1 : Nat) : Int) 1) (len g.Edges)) then
           (elAt g.Edges (wsub .i64 ((j + 1 : Nat) : Int) 1)).bind fun d =>
           bif (ieq d.From x.From) then
             (bif (ieq d.To x.To) then (some (.inl 5)) else bif (ilt x.From d.From) then (some (.inl 6)) else bif (ilt x.To d.To) then (some (.inl 6)) else some (sumI (gchk g.N (some x) r)))
           else bif (ilt x.From d.From) then (some (.inl 6)) else some (sumI (gchk g.N (some x) r))
           else none)
         else some (sumI (gchk g.N (some x) r))) = _
         rw [this, cond_true, p2, p3, cond_true, p4, Option.bind_some, p1, gchk, hb, cond_true, ordE]
         cases hf : ieq d.From x.From
         · cases ilt x.From d.From <;> rfl
         · have : ilt x.From d.From = false := ilt_f.2 (by have := ieq_iff.1 hf; omega)
           rw [this]
           cases ieq d.To x.To <;> cases ilt x.To d.To <;> rfl
 have := hw g.Edges 0 rfl
 rw [List.drop_zero, this] at h
 exact h
theorem F65_spec {K : Nat} (hK : 100 ≤ K) (g : GGraph) : F65 K g = some (gcheck g) := by
 rw [F65, gcheck]
 cases ilt g.N 1
 · cases h2 : ilt 24 g.N
   · cases h3 : ilt 80 (nlen (len g.Edges))
     · have hl : g.Edges.length ≤ 80 := by have := ilt_f.1 h3; simp only [nlen, len] at this; omega
       rw [F65_loop hK g hl]
       exact sumI_elim _
     · rfl
   · rfl
 · rfl
theorem gcheck_ok {g : GGraph} (h : ieq (gcheck g) 0 = true) : 1 ≤ g.N ∧ g.N ≤ 24 ∧ g.Edges.length ≤ 80 ∧ gchk g.N none g.Edges = 0 := by
 rw [gcheck] at h
 cases h1 : ilt g.N 1 || ilt 24 g.N
 · rw [h1, cond_false] at h
   cases h2 : ilt 80 (nlen (len g.Edges))
   · rw [h2, cond_false] at h
     simp only [Bool.or_eq_false_iff, ilt_f] at h1
     have := ilt_f.1 h2
     simp only [nlen, len] at this
     exact ⟨by omega, by omega, by omega, ieq_iff.1 h⟩
   · rw [h2] at h; cases h
 · rw [h1] at h; cases h
theorem gchk_mem {n : Int} : ∀ {l : List GEdge} {p : Option GEdge}, gchk n p l = 0 → ∀ e ∈ l, ieq (badE n e) 0 = true
 | [], _, _, e, h => by cases h
 | x :: l, p, h, e, he => by
   unfold gchk at h
   cases hb : ieq (badE n x) 0
   · rw [hb, cond_false] at h; rw [h] at hb; cases hb
   · rw [hb, cond_true] at h
     rcases List.mem_cons.1 he with q | q
     · subst q; exact hb
     · cases p with
       | none => exact gchk_mem h e q
       | some d =>
         dsimp only at h
         cases ho : ieq (ordE d x) 0
         · rw [ho, cond_false] at h; rw [h] at ho; cases ho
         · rw [ho, cond_true] at h; exact gchk_mem h e q
noncomputable def hn59 : Hint := { H 59 with nt := 51, prot := 0 }
def F59_res (r1 : Int) : Res := ⟨[(.one (.im (.lit (.int .i64 r1))))], []⟩
def F59 (K : Nat) (a1 : GGraph) (a2 : GJob) : Option (Int) :=
 (F65 K a1).bind fun r3 =>
 bif (ieq r3 0) then
  (bif (ilt a2.Prog 1) then
   (some 1)
  else
  bif (ilt 5 a2.Prog) then
   (some 1)
  else
  bif (ilt a2.Source 0) then
   (some 1)
  else
  bif (ile a1.N a2.Source) then
   (some 1)
  else
  bif (ilt a2.Limit 0) then
   (some 1)
  else
  bif (ilt 40 a2.Limit) then
   (some 1)
  else
  bif (ilt a2.Parts 1) then
   (some 1)
  else
  bif (ilt 6 a2.Parts) then
   (some 1)
  else
  some 0)
 else
 some r3
theorem F59_ok (K : Nat) (a1 : GGraph) (a2 : GJob) (r : Int) (hF : F59 K a1 a2 = some r) : Evt E H 59 [.agg (eGGraph a1), .agg (eGJob a2)] (F59_res r) := by
 rw [F59] at hF
 refine bind_some hF (fun r3 h4 hF => ?_)
 refine cond_some hF (fun h5 hF => ?_) (fun h5 hF => ?_)
 ·
  have q14 : PQ hn59 fun l => (.call 65 [.agg (eGGraph a1)] (F65_res r3) :: .test (leadsAny (Res.mk [(.one (.im (.lit (.int .i64 r3))))] [])) false :: .test (ine r3 0) false :: l) := fun z => ⟨(F65_ok K a1 _ h4), (leads_ok (by simp [leadsAny, RV.leads, RC.leads, leadsT, hasSl_lit])), (ine_t h5), z⟩
  refine cond_some hF (fun h6 hF => ?_) (fun h6 hF => ?_)
  ·
   obtain rfl := Option.some.inj hF
   have pz : HoldAll E H hn59 [.test (beqb (ilt a2.Prog 1) false) false, .test (beqb (ilt a2.Prog 1) false) false, .test (beqb (ilt a2.Prog 1) false) false, .test (ilt a2.Prog 1) true, .test (beqb true false) false, .test (beqb true false) false, .test (beqb true false) false, .test true true, .test (beqb true false) false, .test (beqb true false) false, .test (beqb true false) false, .test (beqb true false) false, .test (beqb true false) false, .test true true, .test (beqb true false) false, .test (beqb true false) false, .test (beqb true false) false, .test true true, .test (beqb true false) false, .test (beqb true false) false, .test (beqb true false) false, .test true true, .test (beqb true false) false, .test (beqb true false) false, .test (beqb true false) false, .test true true, .test (beqb true false) false, .test (beqb true false) false, .test (beqb true false) false, .test true true, .test true true] := ⟨(beqb_ft h6), (beqb_ft h6), (beqb_ft h6), h6, (beqb_ft rfl), (beqb_ft rfl), (beqb_ft rfl), rfl, (beqb_ft rfl), (beqb_ft rfl), (beqb_ft rfl), (beqb_ft rfl), (beqb_ft rfl), rfl, (beqb_ft rfl), (beqb_ft rfl), (beqb_ft rfl), rfl, (beqb_ft rfl), (beqb_ft rfl), (beqb_ft rfl), rfl, (beqb_ft rfl), (beqb_ft rfl), (beqb_ft rfl), rfl, (beqb_ft rfl), (beqb_ft rfl), (beqb_ft rfl), rfl, rfl, trivial⟩
   exact fn_playC hn59 (r := F59_res 1) (q14 pz) (by kernel_rfl) (by kernel_rfl)
  have q15 : PQ hn59 fun l => (.test (beqb (ilt a2.Prog 1) false) true :: .test (beqb (ilt a2.Prog 1) false) true :: .test (beqb (ilt a2.Prog 1) false) true :: .test (ilt a2.Prog 1) false :: l) := fun z => ⟨(beqb_ff h6), (beqb_ff h6), (beqb_ff h6), h6, z⟩
  refine cond_some hF (fun h7 hF => ?_) (fun h7 hF => ?_)
  ·
   obtain rfl := Option.some.inj hF
   have pz : HoldAll E H hn59 [.test (beqb (igt a2.Prog 5) false) false, .test (beqb (igt a2.Prog 5) false) false, .test (beqb (igt a2.Prog 5) false) false, .test (igt a2.Prog 5) true, .test (beqb true false) false, .test (beqb true false) false, .test (beqb true false) false, .test (beqb true false) false, .test (beqb true false) false, .test true true, .test (beqb true false) false, .test (beqb true false) false, .test (beqb true false) false, .test true true, .test (beqb true false) false, .test (beqb true false) false, .test (beqb true false) false, .test true true, .test (beqb true false) false, .test (beqb true false) false, .test (beqb true false) false, .test true true, .test (beqb true false) false, .test (beqb true false) false, .test (beqb true false) false, .test true true, .test true true] := ⟨(beqb_ft (igt_eq h7)), (beqb_ft (igt_eq h7)), (beqb_ft (igt_eq h7)), (igt_eq h7), (beqb_ft rfl), (beqb_ft rfl), (beqb_ft rfl), (beqb_ft rfl), (beqb_ft rfl), rfl, (beqb_ft rfl), (beqb_ft rfl), (beqb_ft rfl), rfl, (beqb_ft rfl), (beqb_ft rfl), (beqb_ft rfl), rfl, (beqb_ft rfl), (beqb_ft rfl), (beqb_ft rfl), rfl, (beqb_ft rfl), (beqb_ft rfl), (beqb_ft rfl), rfl, rfl, trivial⟩
   exact fn_playC hn59 (r := F59_res 1) (q14 (q15 pz)) (by kernel_rfl) (by kernel_rfl)
  have q16 : PQ hn59 fun l => (.test (beqb (igt a2.Prog 5) false) true :: .test (beqb (igt a2.Prog 5) false) true :: .test (beqb (igt a2.Prog 5) false) true :: .test (igt a2.Prog 5) false :: l) := fun z => ⟨(beqb_ff (igt_eq h7)), (beqb_ff (igt_eq h7)), (beqb_ff (igt_eq h7)), (igt_eq h7), z⟩
  refine cond_some hF (fun h8 hF => ?_) (fun h8 hF => ?_)
  ·
   obtain rfl := Option.some.inj hF
   have pz : HoldAll E H hn59 [.test (beqb (ilt a2.Source 0) false) false, .test (beqb (ilt a2.Source 0) false) false, .test (beqb (ilt a2.Source 0) false) false, .test (beqb (ilt a2.Source 0) false) false, .test (beqb (ilt a2.Source 0) false) false, .test (ilt a2.Source 0) true, .test (beqb true false) false, .test (beqb true false) false, .test (beqb true false) false, .test true true, .test (beqb true false) false, .test (beqb true false) false, .test (beqb true false) false, .test true true, .test (beqb true false) false, .test (beqb true false) false, .test (beqb true false) false, .test true true, .test (beqb true false) false, .test (beqb true false) false, .test (beqb true false) false, .test true true, .test true true] := ⟨(beqb_ft h8), (beqb_ft h8), (beqb_ft h8), (beqb_ft h8), (beqb_ft h8), h8, (beqb_ft rfl), (beqb_ft rfl), (beqb_ft rfl), rfl, (beqb_ft rfl), (beqb_ft rfl), (beqb_ft rfl), rfl, (beqb_ft rfl), (beqb_ft rfl), (beqb_ft rfl), rfl, (beqb_ft rfl), (beqb_ft rfl), (beqb_ft rfl), rfl, rfl, trivial⟩
   exact fn_playC hn59 (r := F59_res 1) (q14 (q15 (q16 pz))) (by kernel_rfl) (by kernel_rfl)
  have q17 : PQ hn59 fun l => (.test (beqb (ilt a2.Source 0) false) true :: .test (beqb (ilt a2.Source 0) false) true :: .test (beqb (ilt a2.Source 0) false) true :: .test (beqb (ilt a2.Source 0) false) true :: .test (beqb (ilt a2.Source 0) false) true :: .test (ilt a2.Source 0) false :: l) := fun z => ⟨(beqb_ff h8), (beqb_ff h8), (beqb_ff h8), (beqb_ff h8), (beqb_ff h8), h8, z⟩
  refine cond_some hF (fun h9 hF => ?_) (fun h9 hF => ?_)
  ·
   obtain rfl := Option.some.inj hF
   have pz : HoldAll E H hn59 [.test (beqb (ige a2.Source a1.N) false) false, .test (beqb (ige a2.Source a1.N) false) false, .test (beqb (ige a2.Source a1.N) false) false, .test (ige a2.Source a1.N) true, .test (beqb true false) false, .test (beqb true false) false, .test (beqb true false) false, .test true true, .test (beqb true false) false, .test (beqb true false) false, .test (beqb true false) false, .test true true, .test (beqb true false) false, .test (beqb true false) false, .test (beqb true false) false, .test true true, .test true true] := ⟨(beqb_ft (ige_eq h9)), (beqb_ft (ige_eq h9)), (beqb_ft (ige_eq h9)), (ige_eq h9), (beqb_ft rfl), (beqb_ft rfl), (beqb_ft rfl), rfl, (beqb_ft rfl), (beqb_ft rfl), (beqb_ft rfl), rfl, (beqb_ft rfl), (beqb_ft rfl), (beqb_ft rfl), rfl, rfl, trivial⟩
   exact fn_playC hn59 (r := F59_res 1) (q14 (q15 (q16 (q17 pz)))) (by kernel_rfl) (by kernel_rfl)
  have q18 : PQ hn59 fun l => (.test (beqb (ige a2.Source a1.N) false) true :: .test (beqb (ige a2.Source a1.N) false) true :: .test (beqb (ige a2.Source a1.N) false) true :: .test (ige a2.Source a1.N) false :: l) := fun z => ⟨(beqb_ff (ige_eq h9)), (beqb_ff (ige_eq h9)), (beqb_ff (ige_eq h9)), (ige_eq h9), z⟩
  refine cond_some hF (fun h10 hF => ?_) (fun h10 hF => ?_)
  ·
   obtain rfl := Option.some.inj hF
   have pz : HoldAll E H hn59 [.test (beqb (ilt a2.Limit 0) false) false, .test (beqb (ilt a2.Limit 0) false) false, .test (beqb (ilt a2.Limit 0) false) false, .test (ilt a2.Limit 0) true, .test (beqb true false) false, .test (beqb true false) false, .test (beqb true false) false, .test true true, .test (beqb true false) false, .test (beqb true false) false, .test (beqb true false) false, .test true true, .test true true] := ⟨(beqb_ft h10), (beqb_ft h10), (beqb_ft h10), h10, (beqb_ft rfl), (beqb_ft rfl), (beqb_ft rfl), rfl, (beqb_ft rfl), (beqb_ft rfl), (beqb_ft rfl), rfl, rfl, trivial⟩
   exact fn_playC hn59 (r := F59_res 1) (q14 (q15 (q16 (q17 (q18 pz))))) (by kernel_rfl) (by kernel_rfl)
  have q19 : PQ hn59 fun l => (.test (beqb (ilt a2.Limit 0) false) true :: .test (beqb (ilt a2.Limit 0) false) true :: .test (beqb (ilt a2.Limit 0) false) true :: .test (ilt a2.Limit 0) false :: l) := fun z => ⟨(beqb_ff h10), (beqb_ff h10), (beqb_ff h10), h10, z⟩
  refine cond_some hF (fun h11 hF => ?_) (fun h11 hF => ?_)
  ·
   obtain rfl := Option.some.inj hF
   have pz : HoldAll E H hn59 [.test (beqb (igt a2.Limit 40) false) false, .test (beqb (igt a2.Limit 40) false) false, .test (beqb (igt a2.Limit 40) false) false, .test (igt a2.Limit 40) true, .test (beqb true false) false, .test (beqb true false) false, .test (beqb true false) false, .test true true, .test true true] := ⟨(beqb_ft (igt_eq h11)), (beqb_ft (igt_eq h11)), (beqb_ft (igt_eq h11)), (igt_eq h11), (beqb_ft rfl), (beqb_ft rfl), (beqb_ft rfl), rfl, rfl, trivial⟩
   exact fn_playC hn59 (r := F59_res 1) (q14 (q15 (q16 (q17 (q18 (q19 pz)))))) (by kernel_rfl) (by kernel_rfl)
  have q20 : PQ hn59 fun l => (.test (beqb (igt a2.Limit 40) false) true :: .test (beqb (igt a2.Limit 40) false) true :: .test (beqb (igt a2.Limit 40) false) true :: .test (igt a2.Limit 40) false :: l) := fun z => ⟨(beqb_ff (igt_eq h11)), (beqb_ff (igt_eq h11)), (beqb_ff (igt_eq h11)), (igt_eq h11), z⟩
  refine cond_some hF (fun h12 hF => ?_) (fun h12 hF => ?_)
  ·
   obtain rfl := Option.some.inj hF
   have pz : HoldAll E H hn59 [.test (beqb (ilt a2.Parts 1) false) false, .test (beqb (ilt a2.Parts 1) false) false, .test (beqb (ilt a2.Parts 1) false) false, .test (ilt a2.Parts 1) true, .test true true] := ⟨(beqb_ft h12), (beqb_ft h12), (beqb_ft h12), h12, rfl, trivial⟩
   exact fn_playC hn59 (r := F59_res 1) (q14 (q15 (q16 (q17 (q18 (q19 (q20 pz))))))) (by kernel_rfl) (by kernel_rfl)
  have q21 : PQ hn59 fun l => (.test (beqb (ilt a2.Parts 1) false) true :: .test (beqb (ilt a2.Parts 1) false) true :: .test (beqb (ilt a2.Parts 1) false) true :: .test (ilt a2.Parts 1) false :: l) := fun z => ⟨(beqb_ff h12), (beqb_ff h12), (beqb_ff h12), h12, z⟩
  refine cond_some hF (fun h13 hF => ?_) (fun h13 hF => ?_)
  ·
   obtain rfl := Option.some.inj hF
   have pz : HoldAll E H hn59 [.test (igt a2.Parts 6) true] := ⟨(igt_eq h13), trivial⟩
   exact fn_playC hn59 (r := F59_res 1) (q14 (q15 (q16 (q17 (q18 (q19 (q20 (q21 pz)))))))) (by kernel_rfl) (by kernel_rfl)
  obtain rfl := Option.some.inj hF
  have pz : HoldAll E H hn59 [.test (igt a2.Parts 6) false] := ⟨(igt_eq h13), trivial⟩
  exact fn_playC hn59 (r := F59_res 0) (q14 (q15 (q16 (q17 (q18 (q19 (q20 (q21 pz)))))))) (by kernel_rfl) (by kernel_rfl)
 obtain rfl := Option.some.inj hF
 have pz : HoldAll E H hn59 [.call 65 [.agg (eGGraph a1)] (F65_res r3), .test (leadsAny (Res.mk [(.one (.im (.lit (.int .i64 r3))))] [])) false, .test (ine r3 0) true] := ⟨(F65_ok K a1 _ h4), (leads_ok (by simp [leadsAny, RV.leads, RC.leads, leadsT, hasSl_lit])), (ine_f h5), trivial⟩
 exact fn_playC hn59 (r := F59_res r3) pz (by kernel_rfl) (by kernel_rfl)
noncomputable def hn143 : Hint := { H 143 with nt := 21, prot := 0 }
def F143_res (r1 : Grule × Bool) : Res := ⟨[(.agg [(.im (.lit r1.1.start_)), (.im (.lit r1.1.better_)), (.im (.lit (.bool r1.1.only_))), (.im (.lit r1.1.send_))]), (.one (.im (.lit (.bool r1.2))))], []⟩
def F143_res0 (r1 : Grule × Bool) : Res := ⟨[(.agg [(.im (.lit (fnV 158))), (.im (.lit (fnV 159))), (.im (.lit (.bool r1.1.only_))), (.im (.lit (fnV 160)))]), (.one (.im (.lit (.bool r1.2))))], []⟩
def F143_res1 (r1 : Grule × Bool) : Res := ⟨[(.agg [(.im (.lit (fnV 158))), (.im (.lit (fnV 159))), (.im (.lit (.bool r1.1.only_))), (.im (.lit (fnV 161)))]), (.one (.im (.lit (.bool r1.2))))], []⟩
def F143_res2 (r1 : Grule × Bool) : Res := ⟨[(.agg [(.im (.lit (fnV 162))), (.im (.lit (fnV 159))), (.im (.lit (.bool r1.1.only_))), (.im (.lit (fnV 163)))]), (.one (.im (.lit (.bool r1.2))))], []⟩
def F143_res3 (r1 : Grule × Bool) : Res := ⟨[(.agg [(.im (.lit (fnV 164))), (.im (.lit (fnV 165))), (.im (.lit (.bool r1.1.only_))), (.im (.lit (fnV 163)))]), (.one (.im (.lit (.bool r1.2))))], []⟩
def F143_res4 (r1 : Grule × Bool) : Res := ⟨[(.agg [(.im (.lit (fnV 166))), (.im (.lit .nilFunc)), (.im (.lit (.bool r1.1.only_))), (.im (.lit (fnV 163)))]), (.one (.im (.lit (.bool r1.2))))], []⟩
def F143_res5 (r1 : Grule × Bool) : Res := ⟨[(.agg [(.im (.lit .nilFunc)), (.im (.lit .nilFunc)), (.im (.lit (.bool r1.1.only_))), (.im (.lit .nilFunc))]), (.one (.im (.lit (.bool r1.2))))], []⟩
def F143 (K : Nat) (a1 : Int) : Option (Grule × Bool) :=
 bif (ieq a1 1) then
  (some ((Grule.mk (fnV 158) (fnV 159) true (fnV 160)), true))
 else
 bif (ieq a1 3) then
  (some ((Grule.mk (fnV 158) (fnV 159) true (fnV 161)), true))
 else
 bif (ieq a1 2) then
  (some ((Grule.mk (fnV 162) (fnV 159) false (fnV 163)), true))
 else
 bif (ieq a1 4) then
  (some ((Grule.mk (fnV 164) (fnV 165) false (fnV 163)), true))
 else
 bif (ieq a1 5) then
  (some ((Grule.mk (fnV 166) .nilFunc false (fnV 163)), true))
 else
 some ((Grule.mk .nilFunc .nilFunc false .nilFunc), false)
theorem F143_ok (K : Nat) (a1 : Int) (r : Grule × Bool) (hF : F143 K a1 = some r) : Evt E H 143 [.one (.lit (.int .i64 a1))] (F143_res r) := by
 rw [F143] at hF
 refine cond_some hF (fun h2 hF => ?_) (fun h2 hF => ?_)
 ·
  obtain rfl := Option.some.inj hF
  have pz : HoldAll E H hn143 [.test (ieq a1 1) true] := ⟨h2, trivial⟩
  exact fn_playC hn143 (r := F143_res ((Grule.mk (fnV 158) (fnV 159) true (fnV 160)), true)) pz (by kernel_rfl) (by kernel_rfl)
 refine cond_some hF (fun h3 hF => ?_) (fun h3 hF => ?_)
 ·
  obtain rfl := Option.some.inj hF
  have pz : HoldAll E H hn143 [.test (ieq a1 1) false, .test (ieq a1 3) true] := ⟨h2, h3, trivial⟩
  exact fn_playC hn143 (r := F143_res ((Grule.mk (fnV 158) (fnV 159) true (fnV 161)), true)) pz (by kernel_rfl) (by kernel_rfl)
 refine cond_some hF (fun h4 hF => ?_) (fun h4 hF => ?_)
 ·
  obtain rfl := Option.some.inj hF
  have pz : HoldAll E H hn143 [.test (ieq a1 1) false, .test (ieq a1 3) false, .test (ieq a1 2) true] := ⟨h2, h3, h4, trivial⟩
  exact fn_playC hn143 (r := F143_res ((Grule.mk (fnV 162) (fnV 159) false (fnV 163)), true)) pz (by kernel_rfl) (by kernel_rfl)
 have q7 : PQ hn143 fun l => (.test (ieq a1 1) false :: .test (ieq a1 3) false :: .test (ieq a1 2) false :: l) := fun z => ⟨h2, h3, h4, z⟩
 refine cond_some hF (fun h5 hF => ?_) (fun h5 hF => ?_)
 ·
  obtain rfl := Option.some.inj hF
  have pz : HoldAll E H hn143 [.test (ieq a1 4) true] := ⟨h5, trivial⟩
  exact fn_playC hn143 (r := F143_res ((Grule.mk (fnV 164) (fnV 165) false (fnV 163)), true)) (q7 pz) (by kernel_rfl) (by kernel_rfl)
 refine cond_some hF (fun h6 hF => ?_) (fun h6 hF => ?_)
 ·
  obtain rfl := Option.some.inj hF
  have pz : HoldAll E H hn143 [.test (ieq a1 4) false, .test (ieq a1 5) true] := ⟨h5, h6, trivial⟩
  exact fn_playC hn143 (r := F143_res ((Grule.mk (fnV 166) .nilFunc false (fnV 163)), true)) (q7 pz) (by kernel_rfl) (by kernel_rfl)
 obtain rfl := Option.some.inj hF
 have pz : HoldAll E H hn143 [.test (ieq a1 4) false, .test (ieq a1 5) false] := ⟨h5, h6, trivial⟩
 exact fn_playC hn143 (r := F143_res ((Grule.mk .nilFunc .nilFunc false .nilFunc), false)) (q7 pz) (by kernel_rfl) (by kernel_rfl)
theorem F143_ok0 {ads : List AD} (r3 : Grule × Bool) (e : areFns [r3.1.start_, r3.1.better_, r3.1.send_] [158, 159, 160] = true) (h : Evt E H 143 ads (F143_res r3)) : Evt E H 143 ads (F143_res0 r3) := by
 obtain ⟨q0, e⟩ := areFns_cons e
 obtain ⟨q1, e⟩ := areFns_cons e
 obtain ⟨q2, e⟩ := areFns_cons e
 unfold F143_res at h
 rw [q0, q1, q2] at h
 exact h
theorem F143_ok1 {ads : List AD} (r3 : Grule × Bool) (e : areFns [r3.1.start_, r3.1.better_, r3.1.send_] [158, 159, 161] = true) (h : Evt E H 143 ads (F143_res r3)) : Evt E H 143 ads (F143_res1 r3) := by
 obtain ⟨q0, e⟩ := areFns_cons e
 obtain ⟨q1, e⟩ := areFns_cons e
 obtain ⟨q2, e⟩ := areFns_cons e
 unfold F143_res at h
 rw [q0, q1, q2] at h
 exact h
theorem F143_ok2 {ads : List AD} (r3 : Grule × Bool) (e : areFns [r3.1.start_, r3.1.better_, r3.1.send_] [162, 159, 163] = true) (h : Evt E H 143 ads (F143_res r3)) : Evt E H 143 ads (F143_res2 r3) := by
 obtain ⟨q0, e⟩ := areFns_cons e
 obtain ⟨q1, e⟩ := areFns_cons e
 obtain ⟨q2, e⟩ := areFns_cons e
 unfold F143_res at h
 rw [q0, q1, q2] at h
 exact h
theorem F143_ok3 {ads : List AD} (r3 : Grule × Bool) (e : areFns [r3.1.start_, r3.1.better_, r3.1.send_] [164, 165, 163] = true) (h : Evt E H 143 ads (F143_res r3)) : Evt E H 143 ads (F143_res3 r3) := by
 obtain ⟨q0, e⟩ := areFns_cons e
 obtain ⟨q1, e⟩ := areFns_cons e
 obtain ⟨q2, e⟩ := areFns_cons e
 unfold F143_res at h
 rw [q0, q1, q2] at h
 exact h
theorem F143_ok4 {ads : List AD} (r3 : Grule × Bool) (e : areFns [r3.1.start_, r3.1.better_, r3.1.send_] [166, 0, 163] = true) (h : Evt E H 143 ads (F143_res r3)) : Evt E H 143 ads (F143_res4 r3) := by
 obtain ⟨q0, e⟩ := areFns_cons e
 obtain ⟨q1, e⟩ := areFns_cons e
 obtain ⟨q2, e⟩ := areFns_cons e
 unfold F143_res at h
 rw [q0, q1, q2] at h
 exact h
theorem F143_ok5 {ads : List AD} (r3 : Grule × Bool) (e : areFns [r3.1.start_, r3.1.better_, r3.1.send_] [0, 0, 0] = true) (h : Evt E H 143 ads (F143_res r3)) : Evt E H 143 ads (F143_res5 r3) := by
 obtain ⟨q0, e⟩ := areFns_cons e
 obtain ⟨q1, e⟩ := areFns_cons e
 obtain ⟨q2, e⟩ := areFns_cons e
 unfold F143_res at h
 rw [q0, q1, q2] at h
 exact h
noncomputable def hn94 : Hint := { H 94 with nt := 53, prot := 0 }
def F94_res (r1 : Int) : Res := ⟨[(.one (.im (.lit (.int .i64 r1))))], []⟩
def F94 (K : Nat) (a1 : GGraph) (a2 : GJob) : Option (Int) :=
 (F64 K a1).bind fun r3 =>
 bif (ieq r3 0) then
  ((F143 K a2.Prog).bind fun r4 =>
  bif (areFns [r4.1.start_, r4.1.better_, r4.1.send_] [158, 159, 160]) then
   (bif r4.2 then
    (bif (ilt a2.Source 0) then
     (some 1)
    else
    bif (ile a1.N a2.Source) then
     (some 1)
    else
    bif (ilt a2.Limit 0) then
     (some 1)
    else
    bif (ilt 40 a2.Limit) then
     (some 1)
    else
    bif (ilt a2.Parts 1) then
     (some 1)
    else
    bif (ilt 6 a2.Parts) then
     (some 1)
    else
    some 0)
   else
   some 1)
  else
  bif (areFns [r4.1.start_, r4.1.better_, r4.1.send_] [158, 159, 161]) then
   (bif r4.2 then
    (bif (ilt a2.Source 0) then
     (some 1)
    else
    bif (ile a1.N a2.Source) then
     (some 1)
    else
    bif (ilt a2.Limit 0) then
     (some 1)
    else
    bif (ilt 40 a2.Limit) then
     (some 1)
    else
    bif (ilt a2.Parts 1) then
     (some 1)
    else
    bif (ilt 6 a2.Parts) then
     (some 1)
    else
    some 0)
   else
   some 1)
  else
  bif (areFns [r4.1.start_, r4.1.better_, r4.1.send_] [162, 159, 163]) then
   (bif r4.2 then
    (bif (ilt a2.Source 0) then
     (some 1)
    else
    bif (ile a1.N a2.Source) then
     (some 1)
    else
    bif (ilt a2.Limit 0) then
     (some 1)
    else
    bif (ilt 40 a2.Limit) then
     (some 1)
    else
    bif (ilt a2.Parts 1) then
     (some 1)
    else
    bif (ilt 6 a2.Parts) then
     (some 1)
    else
    some 0)
   else
   some 1)
  else
  bif (areFns [r4.1.start_, r4.1.better_, r4.1.send_] [164, 165, 163]) then
   (bif r4.2 then
    (bif (ilt a2.Source 0) then
     (some 1)
    else
    bif (ile a1.N a2.Source) then
     (some 1)
    else
    bif (ilt a2.Limit 0) then
     (some 1)
    else
    bif (ilt 40 a2.Limit) then
     (some 1)
    else
    bif (ilt a2.Parts 1) then
     (some 1)
    else
    bif (ilt 6 a2.Parts) then
     (some 1)
    else
    some 0)
   else
   some 1)
  else
  bif (areFns [r4.1.start_, r4.1.better_, r4.1.send_] [166, 0, 163]) then
   (bif r4.2 then
    (bif (ilt a2.Source 0) then
     (some 1)
    else
    bif (ile a1.N a2.Source) then
     (some 1)
    else
    bif (ilt a2.Limit 0) then
     (some 1)
    else
    bif (ilt 40 a2.Limit) then
     (some 1)
    else
    bif (ilt a2.Parts 1) then
     (some 1)
    else
    bif (ilt 6 a2.Parts) then
     (some 1)
    else
    some 0)
   else
   some 1)
  else
  bif (areFns [r4.1.start_, r4.1.better_, r4.1.send_] [0, 0, 0]) then
  bif r4.2 then
   (bif (ilt a2.Source 0) then
    (some 1)
   else
   bif (ile a1.N a2.Source) then
    (some 1)
   else
   bif (ilt a2.Limit 0) then
    (some 1)
   else
   bif (ilt 40 a2.Limit) then
    (some 1)
   else
   bif (ilt a2.Parts 1) then
    (some 1)
   else
   bif (ilt 6 a2.Parts) then
    (some 1)
   else
   some 0)
  else
  some 1
  else none)
 else
 some r3
theorem F94_ok (K : Nat) (a1 : GGraph) (a2 : GJob) (r : Int) (hF : F94 K a1 a2 = some r) : Evt E H 94 [.agg (eGGraph a1), .agg (eGJob a2)] (F94_res r) := by
 rw [F94] at hF
 refine bind_some hF (fun r3 h4 hF => ?_)
 refine cond_some hF (fun h5 hF => ?_) (fun h5 hF => ?_)
 ·
  refine bind_some hF (fun r6 h7 hF => ?_)
  have q56 : PQ hn94 fun l => (.call 64 [.agg (eGGraph a1)] (F64_res r3) :: .test (leadsAny (Res.mk [(.one (.im (.lit (.int .i64 r3))))] [])) false :: .test (ine r3 0) false :: l) := fun z => ⟨(F64_ok K a1 _ h4), (leads_ok (by simp [leadsAny, RV.leads, RC.leads, leadsT, hasSl_lit])), (ine_t h5), z⟩
  refine cond_some hF (fun h8 hF => ?_) (fun h8 hF => ?_)
  ·
   refine cond_some hF (fun h9 hF => ?_) (fun h9 hF => ?_)
   ·
    have q57 : PQ hn94 fun l => (.call 143 [.one (.lit (.int .i64 a2.Prog))] (F143_res0 r6) :: .test (leadsAny (Res.mk [(.agg [(.im (.lit (fnV 158))), (.im (.lit (fnV 159))), (.im (.lit (.bool r6.1.only_))), (.im (.lit (fnV 160)))]), (.one (.im (.lit (.bool r6.2))))] [])) false :: .test (beqb (bnot r6.2) false) true :: .test (beqb (bnot r6.2) false) true :: .test (beqb (bnot r6.2) false) true :: .test (bnot r6.2) false :: l) := fun z => ⟨(F143_ok0 _ h8 (F143_ok K a2.Prog _ h7)), (leads_ok (by simp [leadsAny, RV.leads, RC.leads, leadsT, hasSl_lit])), (beqb_ff (bnot_t h9)), (beqb_ff (bnot_t h9)), (beqb_ff (bnot_t h9)), (bnot_t h9), z⟩
    refine cond_some hF (fun h10 hF => ?_) (fun h10 hF => ?_)
    ·
     obtain rfl := Option.some.inj hF
     have pz : HoldAll E H hn94 [.test (beqb (ilt a2.Source 0) false) false, .test (beqb (ilt a2.Source 0) false) false, .test (beqb (ilt a2.Source 0) false) false, .test (beqb (ilt a2.Source 0) false) false, .test (beqb (ilt a2.Source 0) false) false, .test (ilt a2.Source 0) true, .test (beqb true false) false, .test (beqb true false) false, .test (beqb true false) false, .test true true, .test (beqb true false) false, .test (beqb true false) false, .test (beqb true false) false, .test true true, .test (beqb true false) false, .test (beqb true false) false, .test (beqb true false) false, .test true true, .test (beqb true false) false, .test (beqb true false) false, .test (beqb true false) false, .test true true, .test true true] := ⟨(beqb_ft h10), (beqb_ft h10), (beqb_ft h10), (beqb_ft h10), (beqb_ft h10), h10, (beqb_ft rfl), (beqb_ft rfl), (beqb_ft rfl), rfl, (beqb_ft rfl), (beqb_ft rfl), (beqb_ft rfl), rfl, (beqb_ft rfl), (beqb_ft rfl), (beqb_ft rfl), rfl, (beqb_ft rfl), (beqb_ft rfl), (beqb_ft rfl), rfl, rfl, trivial⟩
     exact fn_playC hn94 (r := F94_res 1) (q56 (q57 pz)) (by kernel_rfl) (by kernel_rfl)
    have q58 : PQ hn94 fun l => (.test (beqb (ilt a2.Source 0) false) true :: .test (beqb (ilt a2.Source 0) false) true :: .test (beqb (ilt a2.Source 0) false) true :: .test (beqb (ilt a2.Source 0) false) true :: .test (beqb (ilt a2.Source 0) false) true :: .test (ilt a2.Source 0) false :: l) := fun z => ⟨(beqb_ff h10), (beqb_ff h10), (beqb_ff h10), (beqb_ff h10), (beqb_ff h10), h10, z⟩
    refine cond_some hF (fun h11 hF => ?_) (fun h11 hF => ?_)
    ·
     obtain rfl := Option.some.inj hF
     have pz : HoldAll E H hn94 [.test (beqb (ige a2.Source a1.N) false) false, .test (beqb (ige a2.Source a1.N) false) false, .test (beqb (ige a2.Source a1.N) false) false, .test (ige a2.Source a1.N) true, .test (beqb true false) false, .test (beqb true false) false, .test (beqb true false) false, .test true true, .test (beqb true false) false, .test (beqb true false) false, .test (beqb true false) false, .test true true, .test (beqb true false) false, .test (beqb true false) false, .test (beqb true false) false, .test true true, .test true true] := ⟨(beqb_ft (ige_eq h11)), (beqb_ft (ige_eq h11)), (beqb_ft (ige_eq h11)), (ige_eq h11), (beqb_ft rfl), (beqb_ft rfl), (beqb_ft rfl), rfl, (beqb_ft rfl), (beqb_ft rfl), (beqb_ft rfl), rfl, (beqb_ft rfl), (beqb_ft rfl), (beqb_ft rfl), rfl, rfl, trivial⟩
     exact fn_playC hn94 (r := F94_res 1) (q56 (q57 (q58 pz))) (by kernel_rfl) (by kernel_rfl)
    have q59 : PQ hn94 fun l => (.test (beqb (ige a2.Source a1.N) false) true :: .test (beqb (ige a2.Source a1.N) false) true :: .test (beqb (ige a2.Source a1.N) false) true :: .test (ige a2.Source a1.N) false :: l) := fun z => ⟨(beqb_ff (ige_eq h11)), (beqb_ff (ige_eq h11)), (beqb_ff (ige_eq h11)), (ige_eq h11), z⟩
    refine cond_some hF (fun h12 hF => ?_) (fun h12 hF => ?_)
    ·
     obtain rfl := Option.some.inj hF
     have pz : HoldAll E H hn94 [.test (beqb (ilt a2.Limit 0) false) false, .test (beqb (ilt a2.Limit 0) false) false, .test (beqb (ilt a2.Limit 0) false) false, .test (ilt a2.Limit 0) true, .test (beqb true false) false, .test (beqb true false) false, .test (beqb true false) false, .test true true, .test (beqb true false) false, .test (beqb true false) false, .test (beqb true false) false, .test true true, .test true true] := ⟨(beqb_ft h12), (beqb_ft h12), (beqb_ft h12), h12, (beqb_ft rfl), (beqb_ft rfl), (beqb_ft rfl), rfl, (beqb_ft rfl), (beqb_ft rfl), (beqb_ft rfl), rfl, rfl, trivial⟩
     exact fn_playC hn94 (r := F94_res 1) (q56 (q57 (q58 (q59 pz)))) (by kernel_rfl) (by kernel_rfl)
    have q60 : PQ hn94 fun l => (.test (beqb (ilt a2.Limit 0) false) true :: .test (beqb (ilt a2.Limit 0) false) true :: .test (beqb (ilt a2.Limit 0) false) true :: .test (ilt a2.Limit 0) false :: l) := fun z => ⟨(beqb_ff h12), (beqb_ff h12), (beqb_ff h12), h12, z⟩
    refine cond_some hF (fun h13 hF => ?_) (fun h13 hF => ?_)
    ·
     obtain rfl := Option.some.inj hF
     have pz : HoldAll E H hn94 [.test (beqb (igt a2.Limit 40) false) false, .test (beqb (igt a2.Limit 40) false) false, .test (beqb (igt a2.Limit 40) false) false, .test (igt a2.Limit 40) true, .test (beqb true false) false, .test (beqb true false) false, .test (beqb true false) false, .test true true, .test true true] := ⟨(beqb_ft (igt_eq h13)), (beqb_ft (igt_eq h13)), (beqb_ft (igt_eq h13)), (igt_eq h13), (beqb_ft rfl), (beqb_ft rfl), (beqb_ft rfl), rfl, rfl, trivial⟩
     exact fn_playC hn94 (r := F94_res 1) (q56 (q57 (q58 (q59 (q60 pz))))) (by kernel_rfl) (by kernel_rfl)
    have q61 : PQ hn94 fun l => (.test (beqb (igt a2.Limit 40) false) true :: .test (beqb (igt a2.Limit 40) false) true :: .test (beqb (igt a2.Limit 40) false) true :: .test (igt a2.Limit 40) false :: l) := fun z => ⟨(beqb_ff (igt_eq h13)), (beqb_ff (igt_eq h13)), (beqb_ff (igt_eq h13)), (igt_eq h13), z⟩
    refine cond_some hF (fun h14 hF => ?_) (fun h14 hF => ?_)
    ·
     obtain rfl := Option.some.inj hF
     have pz : HoldAll E H hn94 [.test (beqb (ilt a2.Parts 1) false) false, .test (beqb (ilt a2.Parts 1) false) false, .test (beqb (ilt a2.Parts 1) false) false, .test (ilt a2.Parts 1) true, .test true true] := ⟨(beqb_ft h14), (beqb_ft h14), (beqb_ft h14), h14, rfl, trivial⟩
     exact fn_playC hn94 (r := F94_res 1) (q56 (q57 (q58 (q59 (q60 (q61 pz)))))) (by kernel_rfl) (by kernel_rfl)
    have q62 : PQ hn94 fun l => (.test (beqb (ilt a2.Parts 1) false) true :: .test (beqb (ilt a2.Parts 1) false) true :: .test (beqb (ilt a2.Parts 1) false) true :: .test (ilt a2.Parts 1) false :: l) := fun z => ⟨(beqb_ff h14), (beqb_ff h14), (beqb_ff h14), h14, z⟩
    refine cond_some hF (fun h15 hF => ?_) (fun h15 hF => ?_)
    ·
     obtain rfl := Option.some.inj hF
     have pz : HoldAll E H hn94 [.test (igt a2.Parts 6) true] := ⟨(igt_eq h15), trivial⟩
     exact fn_playC hn94 (r := F94_res 1) (q56 (q57 (q58 (q59 (q60 (q61 (q62 pz))))))) (by kernel_rfl) (by kernel_rfl)
    obtain rfl := Option.some.inj hF
    have pz : HoldAll E H hn94 [.test (igt a2.Parts 6) false] := ⟨(igt_eq h15), trivial⟩
    exact fn_playC hn94 (r := F94_res 0) (q56 (q57 (q58 (q59 (q60 (q61 (q62 pz))))))) (by kernel_rfl) (by kernel_rfl)
   obtain rfl := Option.some.inj hF
   have pz : HoldAll E H hn94 [.call 143 [.one (.lit (.int .i64 a2.Prog))] (F143_res0 r6), .test (leadsAny (Res.mk [(.agg [(.im (.lit (fnV 158))), (.im (.lit (fnV 159))), (.im (.lit (.bool r6.1.only_))), (.im (.lit (fnV 160)))]), (.one (.im (.lit (.bool r6.2))))] [])) false, .test (beqb (bnot r6.2) false) false, .test (beqb (bnot r6.2) false) false, .test (beqb (bnot r6.2) false) false, .test (bnot r6.2) true, .test (beqb true false) false, .test (beqb true false) false, .test (beqb true false) false, .test (beqb true false) false, .test (beqb true false) false, .test true true, .test (beqb true false) false, .test (beqb true false) false, .test (beqb true false) false, .test true true, .test (beqb true false) false, .test (beqb true false) false, .test (beqb true false) false, .test true true, .test (beqb true false) false, .test (beqb true false) false, .test (beqb true false) false, .test true true, .test (beqb true false) false, .test (beqb true false) false, .test (beqb true false) false, .test true true, .test true true] := ⟨(F143_ok0 _ h8 (F143_ok K a2.Prog _ h7)), (leads_ok (by simp [leadsAny, RV.leads, RC.leads, leadsT, hasSl_lit])), (beqb_ft (bnot_f h9)), (beqb_ft (bnot_f h9)), (beqb_ft (bnot_f h9)), (bnot_f h9), (beqb_ft rfl), (beqb_ft rfl), (beqb_ft rfl), (beqb_ft rfl), (beqb_ft rfl), rfl, (beqb_ft rfl), (beqb_ft rfl), (beqb_ft rfl), rfl, (beqb_ft rfl), (beqb_ft rfl), (beqb_ft rfl), rfl, (beqb_ft rfl), (beqb_ft rfl), (beqb_ft rfl), rfl, (beqb_ft rfl), (beqb_ft rfl), (beqb_ft rfl), rfl, rfl, trivial⟩
   exact fn_playC hn94 (r := F94_res 1) (q56 pz) (by kernel_rfl) (by kernel_rfl)
  refine cond_some hF (fun h16 hF => ?_) (fun h16 hF => ?_)
  ·
   refine cond_some hF (fun h17 hF => ?_) (fun h17 hF => ?_)
   ·
    have q63 : PQ hn94 fun l => (.call 143 [.one (.lit (.int .i64 a2.Prog))] (F143_res1 r6) :: .test (leadsAny (Res.mk [(.agg [(.im (.lit (fnV 158))), (.im (.lit (fnV 159))), (.im (.lit (.bool r6.1.only_))), (.im (.lit (fnV 161)))]), (.one (.im (.lit (.bool r6.2))))] [])) false :: .test (beqb (bnot r6.2) false) true :: .test (beqb (bnot r6.2) false) true :: .test (beqb (bnot r6.2) false) true :: .test (bnot r6.2) false :: l) := fun z => ⟨(F143_ok1 _ h16 (F143_ok K a2.Prog _ h7)), (leads_ok (by simp [leadsAny, RV.leads, RC.leads, leadsT, hasSl_lit])), (beqb_ff (bnot_t h17)), (beqb_ff (bnot_t h17)), (beqb_ff (bnot_t h17)), (bnot_t h17), z⟩
    refine cond_some hF (fun h18 hF => ?_) (fun h18 hF => ?_)
    ·
     obtain rfl := Option.some.inj hF
     have pz : HoldAll E H hn94 [.test (beqb (ilt a2.Source 0) false) false, .test (beqb (ilt a2.Source 0) false) false, .test (beqb (ilt a2.Source 0) false) false, .test (beqb (ilt a2.Source 0) false) false, .test (beqb (ilt a2.Source 0) false) false, .test (ilt a2.Source 0) true, .test (beqb true false) false, .test (beqb true false) false, .test (beqb true false) false, .test true true, .test (beqb true false) false, .test (beqb true false) false, .test (beqb true false) false, .test true true, .test (beqb true false) false, .test (beqb true false) false, .test (beqb true false) false, .test true true, .test (beqb true false) false, .test (beqb true false) false, .test (beqb true false) false, .test true true, .test true true] := ⟨(beqb_ft h18), (beqb_ft h18), (beqb_ft h18), (beqb_ft h18), (beqb_ft h18), h18, (beqb_ft rfl), (beqb_ft rfl), (beqb_ft rfl), rfl, (beqb_ft rfl), (beqb_ft rfl), (beqb_ft rfl), rfl, (beqb_ft rfl), (beqb_ft rfl), (beqb_ft rfl), rfl, (beqb_ft rfl), (beqb_ft rfl), (beqb_ft rfl), rfl, rfl, trivial⟩
     exact fn_playC hn94 (r := F94_res 1) (q56 (q63 pz)) (by kernel_rfl) (by kernel_rfl)
    have q64 : PQ hn94 fun l => (.test (beqb (ilt a2.Source 0) false) true :: .test (beqb (ilt a2.Source 0) false) true :: .test (beqb (ilt a2.Source 0) false) true :: .test (beqb (ilt a2.Source 0) false) true :: .test (beqb (ilt a2.Source 0) false) true :: .test (ilt a2.Source 0) false :: l) := fun z => ⟨(beqb_ff h18), (beqb_ff h18), (beqb_ff h18), (beqb_ff h18), (beqb_ff h18), h18, z⟩
    refine cond_some hF (fun h19 hF => ?_) (fun h19 hF => ?_)
    ·
     obtain rfl := Option.some.inj hF
     have pz : HoldAll E H hn94 [.test (beqb (ige a2.Source a1.N) false) false, .test (beqb (ige a2.Source a1.N) false) false, .test (beqb (ige a2.Source a1.N) false) false, .test (ige a2.Source a1.N) true, .test (beqb true false) false, .test (beqb true false) false, .test (beqb true false) false, .test true true, .test (beqb true false) false, .test (beqb true false) false, .test (beqb true false) false, .test true true, .test (beqb true false) false, .test (beqb true false) false, .test (beqb true false) false, .test true true, .test true true] := ⟨(beqb_ft (ige_eq h19)), (beqb_ft (ige_eq h19)), (beqb_ft (ige_eq h19)), (ige_eq h19), (beqb_ft rfl), (beqb_ft rfl), (beqb_ft rfl), rfl, (beqb_ft rfl), (beqb_ft rfl), (beqb_ft rfl), rfl, (beqb_ft rfl), (beqb_ft rfl), (beqb_ft rfl), rfl, rfl, trivial⟩
     exact fn_playC hn94 (r := F94_res 1) (q56 (q63 (q64 pz))) (by kernel_rfl) (by kernel_rfl)
    have q65 : PQ hn94 fun l => (.test (beqb (ige a2.Source a1.N) false) true :: .test (beqb (ige a2.Source a1.N) false) true :: .test (beqb (ige a2.Source a1.N) false) true :: .test (ige a2.Source a1.N) false :: l) := fun z => ⟨(beqb_ff (ige_eq h19)), (beqb_ff (ige_eq h19)), (beqb_ff (ige_eq h19)), (ige_eq h19), z⟩
    refine cond_some hF (fun h20 hF => ?_) (fun h20 hF => ?_)
    ·
     obtain rfl := Option.some.inj hF
     have pz : HoldAll E H hn94 [.test (beqb (ilt a2.Limit 0) false) false, .test (beqb (ilt a2.Limit 0) false) false, .test (beqb (ilt a2.Limit 0) false) false, .test (ilt a2.Limit 0) true, .test (beqb true false) false, .test (beqb true false) false, .test (beqb true false) false, .test true true, .test (beqb true false) false, .test (beqb true false) false, .test (beqb true false) false, .test true true, .test true true] := ⟨(beqb_ft h20), (beqb_ft h20), (beqb_ft h20), h20, (beqb_ft rfl), (beqb_ft rfl), (beqb_ft rfl), rfl, (beqb_ft rfl), (beqb_ft rfl), (beqb_ft rfl), rfl, rfl, trivial⟩
     exact fn_playC hn94 (r := F94_res 1) (q56 (q63 (q64 (q65 pz)))) (by kernel_rfl) (by kernel_rfl)
    have q66 : PQ hn94 fun l => (.test (beqb (ilt a2.Limit 0) false) true :: .test (beqb (ilt a2.Limit 0) false) true :: .test (beqb (ilt a2.Limit 0) false) true :: .test (ilt a2.Limit 0) false :: l) := fun z => ⟨(beqb_ff h20), (beqb_ff h20), (beqb_ff h20), h20, z⟩
    refine cond_some hF (fun h21 hF => ?_) (fun h21 hF => ?_)
    ·
     obtain rfl := Option.some.inj hF
     have pz : HoldAll E H hn94 [.test (beqb (igt a2.Limit 40) false) false, .test (beqb (igt a2.Limit 40) false) false, .test (beqb (igt a2.Limit 40) false) false, .test (igt a2.Limit 40) true, .test (beqb true false) false, .test (beqb true false) false, .test (beqb true false) false, .test true true, .test true true] := ⟨(beqb_ft (igt_eq h21)), (beqb_ft (igt_eq h21)), (beqb_ft (igt_eq h21)), (igt_eq h21), (beqb_ft rfl), (beqb_ft rfl), (beqb_ft rfl), rfl, rfl, trivial⟩
     exact fn_playC hn94 (r := F94_res 1) (q56 (q63 (q64 (q65 (q66 pz))))) (by kernel_rfl) (by kernel_rfl)
    have q67 : PQ hn94 fun l => (.test (beqb (igt a2.Limit 40) false) true :: .test (beqb (igt a2.Limit 40) false) true :: .test (beqb (igt a2.Limit 40) false) true :: .test (igt a2.Limit 40) false :: l) := fun z => ⟨(beqb_ff (igt_eq h21)), (beqb_ff (igt_eq h21)), (beqb_ff (igt_eq h21)), (igt_eq h21), z⟩
    refine cond_some hF (fun h22 hF => ?_) (fun h22 hF => ?_)
    ·
     obtain rfl := Option.some.inj hF
     have pz : HoldAll E H hn94 [.test (beqb (ilt a2.Parts 1) false) false, .test (beqb (ilt a2.Parts 1) false) false, .test (beqb (ilt a2.Parts 1) false) false, .test (ilt a2.Parts 1) true, .test true true] := ⟨(beqb_ft h22), (beqb_ft h22), (beqb_ft h22), h22, rfl, trivial⟩
     exact fn_playC hn94 (r := F94_res 1) (q56 (q63 (q64 (q65 (q66 (q67 pz)))))) (by kernel_rfl) (by kernel_rfl)
    have q68 : PQ hn94 fun l => (.test (beqb (ilt a2.Parts 1) false) true :: .test (beqb (ilt a2.Parts 1) false) true :: .test (beqb (ilt a2.Parts 1) false) true :: .test (ilt a2.Parts 1) false :: l) := fun z => ⟨(beqb_ff h22), (beqb_ff h22), (beqb_ff h22), h22, z⟩
    refine cond_some hF (fun h23 hF => ?_) (fun h23 hF => ?_)
    ·
     obtain rfl := Option.some.inj hF
     have pz : HoldAll E H hn94 [.test (igt a2.Parts 6) true] := ⟨(igt_eq h23), trivial⟩
     exact fn_playC hn94 (r := F94_res 1) (q56 (q63 (q64 (q65 (q66 (q67 (q68 pz))))))) (by kernel_rfl) (by kernel_rfl)
    obtain rfl := Option.some.inj hF
    have pz : HoldAll E H hn94 [.test (igt a2.Parts 6) false] := ⟨(igt_eq h23), trivial⟩
    exact fn_playC hn94 (r := F94_res 0) (q56 (q63 (q64 (q65 (q66 (q67 (q68 pz))))))) (by kernel_rfl) (by kernel_rfl)
   obtain rfl := Option.some.inj hF
   have pz : HoldAll E H hn94 [.call 143 [.one (.lit (.int .i64 a2.Prog))] (F143_res1 r6), .test (leadsAny (Res.mk [(.agg [(.im (.lit (fnV 158))), (.im (.lit (fnV 159))), (.im (.lit (.bool r6.1.only_))), (.im (.lit (fnV 161)))]), (.one (.im (.lit (.bool r6.2))))] [])) false, .test (beqb (bnot r6.2) false) false, .test (beqb (bnot r6.2) false) false, .test (beqb (bnot r6.2) false) false, .test (bnot r6.2) true, .test (beqb true false) false, .test (beqb true false) false, .test (beqb true false) false, .test (beqb true false) false, .test (beqb true false) false, .test true true, .test (beqb true false) false, .test (beqb true false) false, .test (beqb true false) false, .test true true, .test (beqb true false) false, .test (beqb true false) false, .test (beqb true false) false, .test true true, .test (beqb true false) false, .test (beqb true false) false, .test (beqb true false) false, .test true true, .test (beqb true false) false, .test (beqb true false) false, .test (beqb true false) false, .test true true, .test true true] := ⟨(F143_ok1 _ h16 (F143_ok K a2.Prog _ h7)), (leads_ok (by simp [leadsAny, RV.leads, RC.leads, leadsT, hasSl_lit])), (beqb_ft (bnot_f h17)), (beqb_ft (bnot_f h17)), (beqb_ft (bnot_f h17)), (bnot_f h17), (beqb_ft rfl), (beqb_ft rfl), (beqb_ft rfl), (beqb_ft rfl), (beqb_ft rfl), rfl, (beqb_ft rfl), (beqb_ft rfl), (beqb_ft rfl), rfl, (beqb_ft rfl), (beqb_ft rfl), (beqb_ft rfl), rfl, (beqb_ft rfl), (beqb_ft rfl), (beqb_ft rfl), rfl, (beqb_ft rfl), (beqb_ft rfl), (beqb_ft rfl), rfl, rfl, trivial⟩
   exact fn_playC hn94 (r := F94_res 1) (q56 pz) (by kernel_rfl) (by kernel_rfl)
  refine cond_some hF (fun h24 hF => ?_) (fun h24 hF => ?_)
  ·
   refine cond_some hF (fun h25 hF => ?_) (fun h25 hF => ?_)
   ·
    have q69 : PQ hn94 fun l => (.call 143 [.one (.lit (.int .i64 a2.Prog))] (F143_res2 r6) :: .test (leadsAny (Res.mk [(.agg [(.im (.lit (fnV 162))), (.im (.lit (fnV 159))), (.im (.lit (.bool r6.1.only_))), (.im (.lit (fnV 163)))]), (.one (.im (.lit (.bool r6.2))))] [])) false :: .test (beqb (bnot r6.2) false) true :: .test (beqb (bnot r6.2) false) true :: .test (beqb (bnot r6.2) false) true :: .test (bnot r6.2) false :: l) := fun z => ⟨(F143_ok2 _ h24 (F143_ok K a2.Prog _ h7)), (leads_ok (by simp [leadsAny, RV.leads, RC.leads, leadsT, hasSl_lit])), (beqb_ff (bnot_t h25)), (beqb_ff (bnot_t h25)), (beqb_ff (bnot_t h25)), (bnot_t h25), z⟩
    refine cond_some hF (fun h26 hF => ?_) (fun h26 hF => ?_)
    ·
     obtain rfl := Option.some.inj hF
     have pz : HoldAll E H hn94 [.test (beqb (ilt a2.Source 0) false) false, .test (beqb (ilt a2.Source 0) false) false, .test (beqb (ilt a2.Source 0) false) false, .test (beqb (ilt a2.Source 0) false) false, .test (beqb (ilt a2.Source 0) false) false, .test (ilt a2.Source 0) true, .test (beqb true false) false, .test (beqb true false) false, .test (beqb true false) false, .test true true, .test (beqb true false) false, .test (beqb true false) false, .test (beqb true false) false, .test true true, .test (beqb true false) false, .test (beqb true false) false, .test (beqb true false) false, .test true true, .test (beqb true false) false, .test (beqb true false) false, .test (beqb true false) false, .test true true, .test true true] := ⟨(beqb_ft h26), (beqb_ft h26), (beqb_ft h26), (beqb_ft h26), (beqb_ft h26), h26, (beqb_ft rfl), (beqb_ft rfl), (beqb_ft rfl), rfl, (beqb_ft rfl), (beqb_ft rfl), (beqb_ft rfl), rfl, (beqb_ft rfl), (beqb_ft rfl), (beqb_ft rfl), rfl, (beqb_ft rfl), (beqb_ft rfl), (beqb_ft rfl), rfl, rfl, trivial⟩
     exact fn_playC hn94 (r := F94_res 1) (q56 (q69 pz)) (by kernel_rfl) (by kernel_rfl)
    have q70 : PQ hn94 fun l => (.test (beqb (ilt a2.Source 0) false) true :: .test (beqb (ilt a2.Source 0) false) true :: .test (beqb (ilt a2.Source 0) false) true :: .test (beqb (ilt a2.Source 0) false) true :: .test (beqb (ilt a2.Source 0) false) true :: .test (ilt a2.Source 0) false :: l) := fun z => ⟨(beqb_ff h26), (beqb_ff h26), (beqb_ff h26), (beqb_ff h26), (beqb_ff h26), h26, z⟩
    refine cond_some hF (fun h27 hF => ?_) (fun h27 hF => ?_)
    ·
     obtain rfl := Option.some.inj hF
     have pz : HoldAll E H hn94 [.test (beqb (ige a2.Source a1.N) false) false, .test (beqb (ige a2.Source a1.N) false) false, .test (beqb (ige a2.Source a1.N) false) false, .test (ige a2.Source a1.N) true, .test (beqb true false) false, .test (beqb true false) false, .test (beqb true false) false, .test true true, .test (beqb true false) false, .test (beqb true false) false, .test (beqb true false) false, .test true true, .test (beqb true false) false, .test (beqb true false) false, .test (beqb true false) false, .test true true, .test true true] := ⟨(beqb_ft (ige_eq h27)), (beqb_ft (ige_eq h27)), (beqb_ft (ige_eq h27)), (ige_eq h27), (beqb_ft rfl), (beqb_ft rfl), (beqb_ft rfl), rfl, (beqb_ft rfl), (beqb_ft rfl), (beqb_ft rfl), rfl, (beqb_ft rfl), (beqb_ft rfl), (beqb_ft rfl), rfl, rfl, trivial⟩
     exact fn_playC hn94 (r := F94_res 1) (q56 (q69 (q70 pz))) (by kernel_rfl) (by kernel_rfl)
    have q71 : PQ hn94 fun l => (.test (beqb (ige a2.Source a1.N) false) true :: .test (beqb (ige a2.Source a1.N) false) true :: .test (beqb (ige a2.Source a1.N) false) true :: .test (ige a2.Source a1.N) false :: l) := fun z => ⟨(beqb_ff (ige_eq h27)), (beqb_ff (ige_eq h27)), (beqb_ff (ige_eq h27)), (ige_eq h27), z⟩
    refine cond_some hF (fun h28 hF => ?_) (fun h28 hF => ?_)
    ·
     obtain rfl := Option.some.inj hF
     have pz : HoldAll E H hn94 [.test (beqb (ilt a2.Limit 0) false) false, .test (beqb (ilt a2.Limit 0) false) false, .test (beqb (ilt a2.Limit 0) false) false, .test (ilt a2.Limit 0) true, .test (beqb true false) false, .test (beqb true false) false, .test (beqb true false) false, .test true true, .test (beqb true false) false, .test (beqb true false) false, .test (beqb true false) false, .test true true, .test true true] := ⟨(beqb_ft h28), (beqb_ft h28), (beqb_ft h28), h28, (beqb_ft rfl), (beqb_ft rfl), (beqb_ft rfl), rfl, (beqb_ft rfl), (beqb_ft rfl), (beqb_ft rfl), rfl, rfl, trivial⟩
     exact fn_playC hn94 (r := F94_res 1) (q56 (q69 (q70 (q71 pz)))) (by kernel_rfl) (by kernel_rfl)
    have q72 : PQ hn94 fun l => (.test (beqb (ilt a2.Limit 0) false) true :: .test (beqb (ilt a2.Limit 0) false) true :: .test (beqb (ilt a2.Limit 0) false) true :: .test (ilt a2.Limit 0) false :: l) := fun z => ⟨(beqb_ff h28), (beqb_ff h28), (beqb_ff h28), h28, z⟩
    refine cond_some hF (fun h29 hF => ?_) (fun h29 hF => ?_)
    ·
     obtain rfl := Option.some.inj hF
     have pz : HoldAll E H hn94 [.test (beqb (igt a2.Limit 40) false) false, .test (beqb (igt a2.Limit 40) false) false, .test (beqb (igt a2.Limit 40) false) false, .test (igt a2.Limit 40) true, .test (beqb true false) false, .test (beqb true false) false, .test (beqb true false) false, .test true true, .test true true] := ⟨(beqb_ft (igt_eq h29)), (beqb_ft (igt_eq h29)), (beqb_ft (igt_eq h29)), (igt_eq h29), (beqb_ft rfl), (beqb_ft rfl), (beqb_ft rfl), rfl, rfl, trivial⟩
     exact fn_playC hn94 (r := F94_res 1) (q56 (q69 (q70 (q71 (q72 pz))))) (by kernel_rfl) (by kernel_rfl)
    have q73 : PQ hn94 fun l => (.test (beqb (igt a2.Limit 40) false) true :: .test (beqb (igt a2.Limit 40) false) true :: .test (beqb (igt a2.Limit 40) false) true :: .test (igt a2.Limit 40) false :: l) := fun z => ⟨(beqb_ff (igt_eq h29)), (beqb_ff (igt_eq h29)), (beqb_ff (igt_eq h29)), (igt_eq h29), z⟩
    refine cond_some hF (fun h30 hF => ?_) (fun h30 hF => ?_)
    ·
     obtain rfl := Option.some.inj hF
     have pz : HoldAll E H hn94 [.test (beqb (ilt a2.Parts 1) false) false, .test (beqb (ilt a2.Parts 1) false) false, .test (beqb (ilt a2.Parts 1) false) false, .test (ilt a2.Parts 1) true, .test true true] := ⟨(beqb_ft h30), (beqb_ft h30), (beqb_ft h30), h30, rfl, trivial⟩
     exact fn_playC hn94 (r := F94_res 1) (q56 (q69 (q70 (q71 (q72 (q73 pz)))))) (by kernel_rfl) (by kernel_rfl)
    have q74 : PQ hn94 fun l => (.test (beqb (ilt a2.Parts 1) false) true :: .test (beqb (ilt a2.Parts 1) false) true :: .test (beqb (ilt a2.Parts 1) false) true :: .test (ilt a2.Parts 1) false :: l) := fun z => ⟨(beqb_ff h30), (beqb_ff h30), (beqb_ff h30), h30, z⟩
    refine cond_some hF (fun h31 hF => ?_) (fun h31 hF => ?_)
    ·
     obtain rfl := Option.some.inj hF
     have pz : HoldAll E H hn94 [.test (igt a2.Parts 6) true] := ⟨(igt_eq h31), trivial⟩
     exact fn_playC hn94 (r := F94_res 1) (q56 (q69 (q70 (q71 (q72 (q73 (q74 pz))))))) (by kernel_rfl) (by kernel_rfl)
    obtain rfl := Option.some.inj hF
    have pz : HoldAll E H hn94 [.test (igt a2.Parts 6) false] := ⟨(igt_eq h31), trivial⟩
    exact fn_playC hn94 (r := F94_res 0) (q56 (q69 (q70 (q71 (q72 (q73 (q74 pz))))))) (by kernel_rfl) (by kernel_rfl)
   obtain rfl := Option.some.inj hF
   have pz : HoldAll E H hn94 [.call 143 [.one (.lit (.int .i64 a2.Prog))] (F143_res2 r6), .test (leadsAny (Res.mk [(.agg [(.im (.lit (fnV 162))), (.im (.lit (fnV 159))), (.im (.lit (.bool r6.1.only_))), (.im (.lit (fnV 163)))]), (.one (.im (.lit (.bool r6.2))))] [])) false, .test (beqb (bnot r6.2) false) false, .test (beqb (bnot r6.2) false) false, .test (beqb (bnot r6.2) false) false, .test (bnot r6.2) true, .test (beqb true false) false, .test (beqb true false) false, .test (beqb true false) false, .test (beqb true false) false, .test (beqb true false) false, .test true true, .test (beqb true false) false, .test (beqb true false) false, .test (beqb true false) false, .test true true, .test (beqb true false) false, .test (beqb true false) false, .test (beqb true false) false, .test true true, .test (beqb true false) false, .test (beqb true false) false, .test (beqb true false) false, .test true true, .test (beqb true false) false, .test (beqb true false) false, .test (beqb true false) false, .test true true, .test true true] := ⟨(F143_ok2 _ h24 (F143_ok K a2.Prog _ h7)), (leads_ok (by simp [leadsAny, RV.leads, RC.leads, leadsT, hasSl_lit])), (beqb_ft (bnot_f h25)), (beqb_ft (bnot_f h25)), (beqb_ft (bnot_f h25)), (bnot_f h25), (beqb_ft rfl), (beqb_ft rfl), (beqb_ft rfl), (beqb_ft rfl), (beqb_ft rfl), rfl, (beqb_ft rfl), (beqb_ft rfl), (beqb_ft rfl), rfl, (beqb_ft rfl), (beqb_ft rfl), (beqb_ft rfl), rfl, (beqb_ft rfl), (beqb_ft rfl), (beqb_ft rfl), rfl, (beqb_ft rfl), (beqb_ft rfl), (beqb_ft rfl), rfl, rfl, trivial⟩
   exact fn_playC hn94 (r := F94_res 1) (q56 pz) (by kernel_rfl) (by kernel_rfl)
  refine cond_some hF (fun h32 hF => ?_) (fun h32 hF => ?_)
  ·
   refine cond_some hF (fun h33 hF => ?_) (fun h33 hF => ?_)
   ·
    have q75 : PQ hn94 fun l => (.call 143 [.one (.lit (.int .i64 a2.Prog))] (F143_res3 r6) :: .test (leadsAny (Res.mk [(.agg [(.im (.lit (fnV 164))), (.im (.lit (fnV 165))), (.im (.lit (.bool r6.1.only_))), (.im (.lit (fnV 163)))]), (.one (.im (.lit (.bool r6.2))))] [])) false :: .test (beqb (bnot r6.2) false) true :: .test (beqb (bnot r6.2) false) true :: .test (beqb (bnot r6.2) false) true :: .test (bnot r6.2) false :: l) := fun z => ⟨(F143_ok3 _ h32 (F143_ok K a2.Prog _ h7)), (leads_ok (by simp [leadsAny, RV.leads, RC.leads, leadsT, hasSl_lit])), (beqb_ff (bnot_t h33)), (beqb_ff (bnot_t h33)), (beqb_ff (bnot_t h33)), (bnot_t h33), z⟩
    refine cond_some hF (fun h34 hF => ?_) (fun h34 hF => ?_)
    ·
     obtain rfl := Option.some.inj hF
     have pz : HoldAll E H hn94 [.test (beqb (ilt a2.Source 0) false) false, .test (beqb (ilt a2.Source 0) false) false, .test (beqb (ilt a2.Source 0) false) false, .test (beqb (ilt a2.Source 0) false) false, .test (beqb (ilt a2.Source 0) false) false, .test (ilt a2.Source 0) true, .test (beqb true false) false, .test (beqb true false) false, .test (beqb true false) false, .test true true, .test (beqb true false) false, .test (beqb true false) false, .test (beqb true false) false, .test true true, .test (beqb true false) false, .test (beqb true false) false, .test (beqb true false) false, .test true true, .test (beqb true false) false, .test (beqb true false) false, .test (beqb true false) false, .test true true, .test true true] := ⟨(beqb_ft h34), (beqb_ft h34), (beqb_ft h34), (beqb_ft h34), (beqb_ft h34), h34, (beqb_ft rfl), (beqb_ft rfl), (beqb_ft rfl), rfl, (beqb_ft rfl), (beqb_ft rfl), (beqb_ft rfl), rfl, (beqb_ft rfl), (beqb_ft rfl), (beqb_ft rfl), rfl, (beqb_ft rfl), (beqb_ft rfl), (beqb_ft rfl), rfl, rfl, trivial⟩
     exact fn_playC hn94 (r := F94_res 1) (q56 (q75 pz)) (by kernel_rfl) (by kernel_rfl)
    have q76 : PQ hn94 fun l => (.test (beqb (ilt a2.Source 0) false) true :: .test (beqb (ilt a2.Source 0) false) true :: .test (beqb (ilt a2.Source 0) false) true :: .test (beqb (ilt a2.Source 0) false) true :: .test (beqb (ilt a2.Source 0) false) true :: .test (ilt a2.Source 0) false :: l) := fun z => ⟨(beqb_ff h34), (beqb_ff h34), (beqb_ff h34), (beqb_ff h34), (beqb_ff h34), h34, z⟩
    refine cond_some hF (fun h35 hF => ?_) (fun h35 hF => ?_)
    ·
     obtain rfl := Option.some.inj hF
     have pz : HoldAll E H hn94 [.test (beqb (ige a2.Source a1.N) false) false, .test (beqb (ige a2.Source a1.N) false) false, .test (beqb (ige a2.Source a1.N) false) false, .test (ige a2.Source a1.N) true, .test (beqb true false) false, .test (beqb true false) false, .test (beqb true false) false, .test true true, .test (beqb true false) false, .test (beqb true false) false, .test (beqb true false) false, .test true true, .test (beqb true false) false, .test (beqb true false) false, .test (beqb true false) false, .test true true, .test true true] := ⟨(beqb_ft (ige_eq h35)), (beqb_ft (ige_eq h35)), (beqb_ft (ige_eq h35)), (ige_eq h35), (beqb_ft rfl), (beqb_ft rfl), (beqb_ft rfl), rfl, (beqb_ft rfl), (beqb_ft rfl), (beqb_ft rfl), rfl, (beqb_ft rfl), (beqb_ft rfl), (beqb_ft rfl), rfl, rfl, trivial⟩
     exact fn_playC hn94 (r := F94_res 1) (q56 (q75 (q76 pz))) (by kernel_rfl) (by kernel_rfl)
    have q77 : PQ hn94 fun l => (.test (beqb (ige a2.Source a1.N) false) true :: .test (beqb (ige a2.Source a1.N) false) true :: .test (beqb (ige a2.Source a1.N) false) true :: .test (ige a2.Source a1.N) false :: l) := fun z => ⟨(beqb_ff (ige_eq h35)), (beqb_ff (ige_eq h35)), (beqb_ff (ige_eq h35)), (ige_eq h35), z⟩
    refine cond_some hF (fun h36 hF => ?_) (fun h36 hF => ?_)
    ·
     obtain rfl := Option.some.inj hF
     have pz : HoldAll E H hn94 [.test (beqb (ilt a2.Limit 0) false) false, .test (beqb (ilt a2.Limit 0) false) false, .test (beqb (ilt a2.Limit 0) false) false, .test (ilt a2.Limit 0) true, .test (beqb true false) false, .test (beqb true false) false, .test (beqb true false) false, .test true true, .test (beqb true false) false, .test (beqb true false) false, .test (beqb true false) false, .test true true, .test true true] := ⟨(beqb_ft h36), (beqb_ft h36), (beqb_ft h36), h36, (beqb_ft rfl), (beqb_ft rfl), (beqb_ft rfl), rfl, (beqb_ft rfl), (beqb_ft rfl), (beqb_ft rfl), rfl, rfl, trivial⟩
     exact fn_playC hn94 (r := F94_res 1) (q56 (q75 (q76 (q77 pz)))) (by kernel_rfl) (by kernel_rfl)
    have q78 : PQ hn94 fun l => (.test (beqb (ilt a2.Limit 0) false) true :: .test (beqb (ilt a2.Limit 0) false) true :: .test (beqb (ilt a2.Limit 0) false) true :: .test (ilt a2.Limit 0) false :: l) := fun z => ⟨(beqb_ff h36), (beqb_ff h36), (beqb_ff h36), h36, z⟩
    refine cond_some hF (fun h37 hF => ?_) (fun h37 hF => ?_)
    ·
     obtain rfl := Option.some.inj hF
     have pz : HoldAll E H hn94 [.test (beqb (igt a2.Limit 40) false) false, .test (beqb (igt a2.Limit 40) false) false, .test (beqb (igt a2.Limit 40) false) false, .test (igt a2.Limit 40) true, .test (beqb true false) false, .test (beqb true false) false, .test (beqb true false) false, .test true true, .test true true] := ⟨(beqb_ft (igt_eq h37)), (beqb_ft (igt_eq h37)), (beqb_ft (igt_eq h37)), (igt_eq h37), (beqb_ft rfl), (beqb_ft rfl), (beqb_ft rfl), rfl, rfl, trivial⟩
     exact fn_playC hn94 (r := F94_res 1) (q56 (q75 (q76 (q77 (q78 pz))))) (by kernel_rfl) (by kernel_rfl)
    have q79 : PQ hn94 fun l => (.test (beqb (igt a2.Limit 40) false) true :: .test (beqb (igt a2.Limit 40) false) true :: .test (beqb (igt a2.Limit 40) false) true :: .test (igt a2.Limit 40) false :: l) := fun z => ⟨(beqb_ff (igt_eq h37)), (beqb_ff (igt_eq h37)), (beqb_ff (igt_eq h37)), (igt_eq h37), z⟩
    refine cond_some hF (fun h38 hF => ?_) (fun h38 hF => ?_)
    ·
     obtain rfl := Option.some.inj hF
     have pz : HoldAll E H hn94 [.test (beqb (ilt a2.Parts 1) false) false, .test (beqb (ilt a2.Parts 1) false) false, .test (beqb (ilt a2.Parts 1) false) false, .test (ilt a2.Parts 1) true, .test true true] := ⟨(beqb_ft h38), (beqb_ft h38), (beqb_ft h38), h38, rfl, trivial⟩
     exact fn_playC hn94 (r := F94_res 1) (q56 (q75 (q76 (q77 (q78 (q79 pz)))))) (by kernel_rfl) (by kernel_rfl)
    have q80 : PQ hn94 fun l => (.test (beqb (ilt a2.Parts 1) false) true :: .test (beqb (ilt a2.Parts 1) false) true :: .test (beqb (ilt a2.Parts 1) false) true :: .test (ilt a2.Parts 1) false :: l) := fun z => ⟨(beqb_ff h38), (beqb_ff h38), (beqb_ff h38), h38, z⟩
    refine cond_some hF (fun h39 hF => ?_) (fun h39 hF => ?_)
    ·
     obtain rfl := Option.some.inj hF
     have pz : HoldAll E H hn94 [.test (igt a2.Parts 6) true] := ⟨(igt_eq h39), trivial⟩
     exact fn_playC hn94 (r := F94_res 1) (q56 (q75 (q76 (q77 (q78 (q79 (q80 pz))))))) (by kernel_rfl) (by kernel_rfl)
    obtain rfl := Option.some.inj hF
    have pz : HoldAll E H hn94 [.test (igt a2.Parts 6) false] := ⟨(igt_eq h39), trivial⟩
    exact fn_playC hn94 (r := F94_res 0) (q56 (q75 (q76 (q77 (q78 (q79 (q80 pz))))))) (by kernel_rfl) (by kernel_rfl)
   obtain rfl := Option.some.inj hF
   have pz : HoldAll E H hn94 [.call 143 [.one (.lit (.int .i64 a2.Prog))] (F143_res3 r6), .test (leadsAny (Res.mk [(.agg [(.im (.lit (fnV 164))), (.im (.lit (fnV 165))), (.im (.lit (.bool r6.1.only_))), (.im (.lit (fnV 163)))]), (.one (.im (.lit (.bool r6.2))))] [])) false, .test (beqb (bnot r6.2) false) false, .test (beqb (bnot r6.2) false) false, .test (beqb (bnot r6.2) false) false, .test (bnot r6.2) true, .test (beqb true false) false, .test (beqb true false) false, .test (beqb true false) false, .test (beqb true false) false, .test (beqb true false) false, .test true true, .test (beqb true false) false, .test (beqb true false) false, .test (beqb true false) false, .test true true, .test (beqb true false) false, .test (beqb true false) false, .test (beqb true false) false, .test true true, .test (beqb true false) false, .test (beqb true false) false, .test (beqb true false) false, .test true true, .test (beqb true false) false, .test (beqb true false) false, .test (beqb true false) false, .test true true, .test true true] := ⟨(F143_ok3 _ h32 (F143_ok K a2.Prog _ h7)), (leads_ok (by simp [leadsAny, RV.leads, RC.leads, leadsT, hasSl_lit])), (beqb_ft (bnot_f h33)), (beqb_ft (bnot_f h33)), (beqb_ft (bnot_f h33)), (bnot_f h33), (beqb_ft rfl), (beqb_ft rfl), (beqb_ft rfl), (beqb_ft rfl), (beqb_ft rfl), rfl, (beqb_ft rfl), (beqb_ft rfl), (beqb_ft rfl), rfl, (beqb_ft rfl), (beqb_ft rfl), (beqb_ft rfl), rfl, (beqb_ft rfl), (beqb_ft rfl), (beqb_ft rfl), rfl, (beqb_ft rfl), (beqb_ft rfl), (beqb_ft rfl), rfl, rfl, trivial⟩
   exact fn_playC hn94 (r := F94_res 1) (q56 pz) (by kernel_rfl) (by kernel_rfl)
  refine cond_some hF (fun h40 hF => ?_) (fun h40 hF => ?_)
  ·
   refine cond_some hF (fun h41 hF => ?_) (fun h41 hF => ?_)
   ·
    have q81 : PQ hn94 fun l => (.call 143 [.one (.lit (.int .i64 a2.Prog))] (F143_res4 r6) :: .test (leadsAny (Res.mk [(.agg [(.im (.lit (fnV 166))), (.im (.lit .nilFunc)), (.im (.lit (.bool r6.1.only_))), (.im (.lit (fnV 163)))]), (.one (.im (.lit (.bool r6.2))))] [])) false :: .test (beqb (bnot r6.2) false) true :: .test (beqb (bnot r6.2) false) true :: .test (beqb (bnot r6.2) false) true :: .test (bnot r6.2) false :: l) := fun z => ⟨(F143_ok4 _ h40 (F143_ok K a2.Prog _ h7)), (leads_ok (by simp [leadsAny, RV.leads, RC.leads, leadsT, hasSl_lit])), (beqb_ff (bnot_t h41)), (beqb_ff (bnot_t h41)), (beqb_ff (bnot_t h41)), (bnot_t h41), z⟩
    refine cond_some hF (fun h42 hF => ?_) (fun h42 hF => ?_)
    ·
     obtain rfl := Option.some.inj hF
     have pz : HoldAll E H hn94 [.test (beqb (ilt a2.Source 0) false) false, .test (beqb (ilt a2.Source 0) false) false, .test (beqb (ilt a2.Source 0) false) false, .test (beqb (ilt a2.Source 0) false) false, .test (beqb (ilt a2.Source 0) false) false, .test (ilt a2.Source 0) true, .test (beqb true false) false, .test (beqb true false) false, .test (beqb true false) false, .test true true, .test (beqb true false) false, .test (beqb true false) false, .test (beqb true false) false, .test true true, .test (beqb true false) false, .test (beqb true false) false, .test (beqb true false) false, .test true true, .test (beqb true false) false, .test (beqb true false) false, .test (beqb true false) false, .test true true, .test true true] := ⟨(beqb_ft h42), (beqb_ft h42), (beqb_ft h42), (beqb_ft h42), (beqb_ft h42), h42, (beqb_ft rfl), (beqb_ft rfl), (beqb_ft rfl), rfl, (beqb_ft rfl), (beqb_ft rfl), (beqb_ft rfl), rfl, (beqb_ft rfl), (beqb_ft rfl), (beqb_ft rfl), rfl, (beqb_ft rfl), (beqb_ft rfl), (beqb_ft rfl), rfl, rfl, trivial⟩
     exact fn_playC hn94 (r := F94_res 1) (q56 (q81 pz)) (by kernel_rfl) (by kernel_rfl)
    have q82 : PQ hn94 fun l => (.test (beqb (ilt a2.Source 0) false) true :: .test (beqb (ilt a2.Source 0) false) true :: .test (beqb (ilt a2.Source 0) false) true :: .test (beqb (ilt a2.Source 0) false) true :: .test (beqb (ilt a2.Source 0) false) true :: .test (ilt a2.Source 0) false :: l) := fun z => ⟨(beqb_ff h42), (beqb_ff h42), (beqb_ff h42), (beqb_ff h42), (beqb_ff h42), h42, z⟩
    refine cond_some hF (fun h43 hF => ?_) (fun h43 hF => ?_)
    ·
     obtain rfl := Option.some.inj hF
     have pz : HoldAll E H hn94 [.test (beqb (ige a2.Source a1.N) false) false, .test (beqb (ige a2.Source a1.N) false) false, .test (beqb (ige a2.Source a1.N) false) false, .test (ige a2.Source a1.N) true, .test (beqb true false) false, .test (beqb true false) false, .test (beqb true false) false, .test true true, .test (beqb true false) false, .test (beqb true false) false, .test (beqb true false) false, .test true true, .test (beqb true false) false, .test (beqb true false) false, .test (beqb true false) false, .test true true, .test true true] := ⟨(beqb_ft (ige_eq h43)), (beqb_ft (ige_eq h43)), (beqb_ft (ige_eq h43)), (ige_eq h43), (beqb_ft rfl), (beqb_ft rfl), (beqb_ft rfl), rfl, (beqb_ft rfl), (beqb_ft rfl), (beqb_ft rfl), rfl, (beqb_ft rfl), (beqb_ft rfl), (beqb_ft rfl), rfl, rfl, trivial⟩
     exact fn_playC hn94 (r := F94_res 1) (q56 (q81 (q82 pz))) (by kernel_rfl) (by kernel_rfl)
    have q83 : PQ hn94 fun l => (.test (beqb (ige a2.Source a1.N) false) true :: .test (beqb (ige a2.Source a1.N) false) true :: .test (beqb (ige a2.Source a1.N) false) true :: .test (ige a2.Source a1.N) false :: l) := fun z => ⟨(beqb_ff (ige_eq h43)), (beqb_ff (ige_eq h43)), (beqb_ff (ige_eq h43)), (ige_eq h43), z⟩
    refine cond_some hF (fun h44 hF => ?_) (fun h44 hF => ?_)
    ·
     obtain rfl := Option.some.inj hF
     have pz : HoldAll E H hn94 [.test (beqb (ilt a2.Limit 0) false) false, .test (beqb (ilt a2.Limit 0) false) false, .test (beqb (ilt a2.Limit 0) false) false, .test (ilt a2.Limit 0) true, .test (beqb true false) false, .test (beqb true false) false, .test (beqb true false) false, .test true true, .test (beqb true false) false, .test (beqb true false) false, .test (beqb true false) false, .test true true, .test true true] := ⟨(beqb_ft h44), (beqb_ft h44), (beqb_ft h44), h44, (beqb_ft rfl), (beqb_ft rfl), (beqb_ft rfl), rfl, (beqb_ft rfl), (beqb_ft rfl), (beqb_ft rfl), rfl, rfl, trivial⟩
     exact fn_playC hn94 (r := F94_res 1) (q56 (q81 (q82 (q83 pz)))) (by kernel_rfl) (by kernel_rfl)
    have q84 : PQ hn94 fun l => (.test (beqb (ilt a2.Limit 0) false) true :: .test (beqb (ilt a2.Limit 0) false) true :: .test (beqb (ilt a2.Limit 0) false) true :: .test (ilt a2.Limit 0) false :: l) := fun z => ⟨(beqb_ff h44), (beqb_ff h44), (beqb_ff h44), h44, z⟩
    refine cond_some hF (fun h45 hF => ?_) (fun h45 hF => ?_)
    ·
     obtain rfl := Option.some.inj hF
     have pz : HoldAll E H hn94 [.test (beqb (igt a2.Limit 40) false) false, .test (beqb (igt a2.Limit 40) false) false, .test (beqb (igt a2.Limit 40) false) false, .test (igt a2.Limit 40) true, .test (beqb true false) false, .test (beqb true false) false, .test (beqb true false) false, .test true true, .test true true] := ⟨(beqb_ft (igt_eq h45)), (beqb_ft (igt_eq h45)), (beqb_ft (igt_eq h45)), (igt_eq h45), (beqb_ft rfl), (beqb_ft rfl), (beqb_ft rfl), rfl, rfl, trivial⟩
     exact fn_playC hn94 (r := F94_res 1) (q56 (q81 (q82 (q83 (q84 pz))))) (by kernel_rfl) (by kernel_rfl)
    have q85 : PQ hn94 fun l => (.test (beqb (igt a2.Limit 40) false) true :: .test (beqb (igt a2.Limit 40) false) true :: .test (beqb (igt a2.Limit 40) false) true :: .test (igt a2.Limit 40) false :: l) := fun z => ⟨(beqb_ff (igt_eq h45)), (beqb_ff (igt_eq h45)), (beqb_ff (igt_eq h45)), (igt_eq h45), z⟩
    refine cond_some hF (fun h46 hF => ?_) (fun h46 hF => ?_)
    ·
     obtain rfl := Option.some.inj hF
     have pz : HoldAll E H hn94 [.test (beqb (ilt a2.Parts 1) false) false, .test (beqb (ilt a2.Parts 1) false) false, .test (beqb (ilt a2.Parts 1) false) false, .test (ilt a2.Parts 1) true, .test true true] := ⟨(beqb_ft h46), (beqb_ft h46), (beqb_ft h46), h46, rfl, trivial⟩
     exact fn_playC hn94 (r := F94_res 1) (q56 (q81 (q82 (q83 (q84 (q85 pz)))))) (by kernel_rfl) (by kernel_rfl)
    have q86 : PQ hn94 fun l => (.test (beqb (ilt a2.Parts 1) false) true :: .test (beqb (ilt a2.Parts 1) false) true :: .test (beqb (ilt a2.Parts 1) false) true :: .test (ilt a2.Parts 1) false :: l) := fun z => ⟨(beqb_ff h46), (beqb_ff h46), (beqb_ff h46), h46, z⟩
    refine cond_some hF (fun h47 hF => ?_) (fun h47 hF => ?_)
    ·
     obtain rfl := Option.some.inj hF
     have pz : HoldAll E H hn94 [.test (igt a2.Parts 6) true] := ⟨(igt_eq h47), trivial⟩
     exact fn_playC hn94 (r := F94_res 1) (q56 (q81 (q82 (q83 (q84 (q85 (q86 pz))))))) (by kernel_rfl) (by kernel_rfl)
    obtain rfl := Option.some.inj hF
    have pz : HoldAll E H hn94 [.test (igt a2.Parts 6) false] := ⟨(igt_eq h47), trivial⟩
    exact fn_playC hn94 (r := F94_res 0) (q56 (q81 (q82 (q83 (q84 (q85 (q86 pz))))))) (by kernel_rfl) (by kernel_rfl)
   obtain rfl := Option.some.inj hF
   have pz : HoldAll E H hn94 [.call 143 [.one (.lit (.int .i64 a2.Prog))] (F143_res4 r6), .test (leadsAny (Res.mk [(.agg [(.im (.lit (fnV 166))), (.im (.lit .nilFunc)), (.im (.lit (.bool r6.1.only_))), (.im (.lit (fnV 163)))]), (.one (.im (.lit (.bool r6.2))))] [])) false, .test (beqb (bnot r6.2) false) false, .test (beqb (bnot r6.2) false) false, .test (beqb (bnot r6.2) false) false, .test (bnot r6.2) true, .test (beqb true false) false, .test (beqb true false) false, .test (beqb true false) false, .test (beqb true false) false, .test (beqb true false) false, .test true true, .test (beqb true false) false, .test (beqb true false) false, .test (beqb true false) false, .test true true, .test (beqb true false) false, .test (beqb true false) false, .test (beqb true false) false, .test true true, .test (beqb true false) false, .test (beqb true false) false, .test (beqb true false) false, .test true true, .test (beqb true false) false, .test (beqb true false) false, .test (beqb true false) false, .test true true, .test true true] := ⟨(F143_ok4 _ h40 (F143_ok K a2.Prog _ h7)), (leads_ok (by simp [leadsAny, RV.leads, RC.leads, leadsT, hasSl_lit])), (beqb_ft (bnot_f h41)), (beqb_ft (bnot_f h41)), (beqb_ft (bnot_f h41)), (bnot_f h41), (beqb_ft rfl), (beqb_ft rfl), (beqb_ft rfl), (beqb_ft rfl), (beqb_ft rfl), rfl, (beqb_ft rfl), (beqb_ft rfl), (beqb_ft rfl), rfl, (beqb_ft rfl), (beqb_ft rfl), (beqb_ft rfl), rfl, (beqb_ft rfl), (beqb_ft rfl), (beqb_ft rfl), rfl, (beqb_ft rfl), (beqb_ft rfl), (beqb_ft rfl), rfl, rfl, trivial⟩
   exact fn_playC hn94 (r := F94_res 1) (q56 pz) (by kernel_rfl) (by kernel_rfl)
  refine cond_some hF (fun h48 hF => ?_) (fun _ hF => nomatch hF)
  refine cond_some hF (fun h49 hF => ?_) (fun h49 hF => ?_)
  ·
   have q87 : PQ hn94 fun l => (.call 143 [.one (.lit (.int .i64 a2.Prog))] (F143_res5 r6) :: .test (leadsAny (Res.mk [(.agg [(.im (.lit .nilFunc)), (.im (.lit .nilFunc)), (.im (.lit (.bool r6.1.only_))), (.im (.lit .nilFunc))]), (.one (.im (.lit (.bool r6.2))))] [])) false :: .test (beqb (bnot r6.2) false) true :: .test (beqb (bnot r6.2) false) true :: .test (beqb (bnot r6.2) false) true :: .test (bnot r6.2) false :: l) := fun z => ⟨(F143_ok5 _ h48 (F143_ok K a2.Prog _ h7)), (leads_ok (by simp [leadsAny, RV.leads, RC.leads, leadsT, hasSl_lit])), (beqb_ff (bnot_t h49)), (beqb_ff (bnot_t h49)), (beqb_ff (bnot_t h49)), (bnot_t h49), z⟩
   refine cond_some hF (fun h50 hF => ?_) (fun h50 hF => ?_)
   ·
    obtain rfl := Option.some.inj hF
    have pz : HoldAll E H hn94 [.test (beqb (ilt a2.Source 0) false) false, .test (beqb (ilt a2.Source 0) false) false, .test (beqb (ilt a2.Source 0) false) false, .test (beqb (ilt a2.Source 0) false) false, .test (beqb (ilt a2.Source 0) false) false, .test (ilt a2.Source 0) true, .test (beqb true false) false, .test (beqb true false) false, .test (beqb true false) false, .test true true, .test (beqb true false) false, .test (beqb true false) false, .test (beqb true false) false, .test true true, .test (beqb true false) false, .test (beqb true false) false, .test (beqb true false) false, .test true true, .test (beqb true false) false, .test (beqb true false) false, .test (beqb true false) false, .test true true, .test true true] := ⟨(beqb_ft h50), (beqb_ft h50), (beqb_ft h50), (beqb_ft h50), (beqb_ft h50), h50, (beqb_ft rfl), (beqb_ft rfl), (beqb_ft rfl), rfl, (beqb_ft rfl), (beqb_ft rfl), (beqb_ft rfl), rfl, (beqb_ft rfl), (beqb_ft rfl), (beqb_ft rfl), rfl, (beqb_ft rfl), (beqb_ft rfl), (beqb_ft rfl), rfl, rfl, trivial⟩
    exact fn_playC hn94 (r := F94_res 1) (q56 (q87 pz)) (by kernel_rfl) (by kernel_rfl)
   have q88 : PQ hn94 fun l => (.test (beqb (ilt a2.Source 0) false) true :: .test (beqb (ilt a2.Source 0) false) true :: .test (beqb (ilt a2.Source 0) false) true :: .test (beqb (ilt a2.Source 0) false) true :: .test (beqb (ilt a2.Source 0) false) true :: .test (ilt a2.Source 0) false :: l) := fun z => ⟨(beqb_ff h50), (beqb_ff h50), (beqb_ff h50), (beqb_ff h50), (beqb_ff h50), h50, z⟩
   refine cond_some hF (fun h51 hF => ?_) (fun h51 hF => ?_)
   ·
    obtain rfl := Option.some.inj hF
    have pz : HoldAll E H hn94 [.test (beqb (ige a2.Source a1.N) false) false, .test (beqb (ige a2.Source a1.N) false) false, .test (beqb (ige a2.Source a1.N) false) false, .test (ige a2.Source a1.N) true, .test (beqb true false) false, .test (beqb true false) false, .test (beqb true false) false, .test true true, .test (beqb true false) false, .test (beqb true false) false, .test (beqb true false) false, .test true true, .test (beqb true false) false, .test (beqb true false) false, .test (beqb true false) false, .test true true, .test true true] := ⟨(beqb_ft (ige_eq h51)), (beqb_ft (ige_eq h51)), (beqb_ft (ige_eq h51)), (ige_eq h51), (beqb_ft rfl), (beqb_ft rfl), (beqb_ft rfl), rfl, (beqb_ft rfl), (beqb_ft rfl), (beqb_ft rfl), rfl, (beqb_ft rfl), (beqb_ft rfl), (beqb_ft rfl), rfl, rfl, trivial⟩
    exact fn_playC hn94 (r := F94_res 1) (q56 (q87 (q88 pz))) (by kernel_rfl) (by kernel_rfl)
   have q89 : PQ hn94 fun l => (.test (beqb (ige a2.Source a1.N) false) true :: .test (beqb (ige a2.Source a1.N) false) true :: .test (beqb (ige a2.Source a1.N) false) true :: .test (ige a2.Source a1.N) false :: l) := fun z => ⟨(beqb_ff (ige_eq h51)), (beqb_ff (ige_eq h51)), (beqb_ff (ige_eq h51)), (ige_eq h51), z⟩
   refine cond_some hF (fun h52 hF => ?_) (fun h52 hF => ?_)
   ·
    obtain rfl := Option.some.inj hF
    have pz : HoldAll E H hn94 [.test (beqb (ilt a2.Limit 0) false) false, .test (beqb (ilt a2.Limit 0) false) false, .test (beqb (ilt a2.Limit 0) false) false, .test (ilt a2.Limit 0) true, .test (beqb true false) false, .test (beqb true false) false, .test (beqb true false) false, .test true true, .test (beqb true false) false, .test (beqb true false) false, .test (beqb true false) false, .test true true, .test true true] := ⟨(beqb_ft h52), (beqb_ft h52), (beqb_ft h52), h52, (beqb_ft rfl), (beqb_ft rfl), (beqb_ft rfl), rfl, (beqb_ft rfl), (beqb_ft rfl), (beqb_ft rfl), rfl, rfl, trivial⟩
    exact fn_playC hn94 (r := F94_res 1) (q56 (q87 (q88 (q89 pz)))) (by kernel_rfl) (by kernel_rfl)
   have q90 : PQ hn94 fun l => (.test (beqb (ilt a2.Limit 0) false) true :: .test (beqb (ilt a2.Limit 0) false) true :: .test (beqb (ilt a2.Limit 0) false) true :: .test (ilt a2.Limit 0) false :: l) := fun z => ⟨(beqb_ff h52), (beqb_ff h52), (beqb_ff h52), h52, z⟩
   refine cond_some hF (fun h53 hF => ?_) (fun h53 hF => ?_)
   ·
    obtain rfl := Option.some.inj hF
    have pz : HoldAll E H hn94 [.test (beqb (igt a2.Limit 40) false) false, .test (beqb (igt a2.Limit 40) false) false, .test (beqb (igt a2.Limit 40) false) false, .test (igt a2.Limit 40) true, .test (beqb true false) false, .test (beqb true false) false, .test (beqb true false) false, .test true true, .test true true] := ⟨(beqb_ft (igt_eq h53)), (beqb_ft (igt_eq h53)), (beqb_ft (igt_eq h53)), (igt_eq h53), (beqb_ft rfl), (beqb_ft rfl), (beqb_ft rfl), rfl, rfl, trivial⟩
    exact fn_playC hn94 (r := F94_res 1) (q56 (q87 (q88 (q89 (q90 pz))))) (by kernel_rfl) (by kernel_rfl)
   have q91 : PQ hn94 fun l => (.test (beqb (igt a2.Limit 40) false) true :: .test (beqb (igt a2.Limit 40) false) true :: .test (beqb (igt a2.Limit 40) false) true :: .test (igt a2.Limit 40) false :: l) := fun z => ⟨(beqb_ff (igt_eq h53)), (beqb_ff (igt_eq h53)), (beqb_ff (igt_eq h53)), (igt_eq h53), z⟩
   refine cond_some hF (fun h54 hF => ?_) (fun h54 hF => ?_)
   ·
    obtain rfl := Option.some.inj hF
    have pz : HoldAll E H hn94 [.test (beqb (ilt a2.Parts 1) false) false, .test (beqb (ilt a2.Parts 1) false) false, .test (beqb (ilt a2.Parts 1) false) false, .test (ilt a2.Parts 1) true, .test true true] := ⟨(beqb_ft h54), (beqb_ft h54), (beqb_ft h54), h54, rfl, trivial⟩
    exact fn_playC hn94 (r := F94_res 1) (q56 (q87 (q88 (q89 (q90 (q91 pz)))))) (by kernel_rfl) (by kernel_rfl)
   have q92 : PQ hn94 fun l => (.test (beqb (ilt a2.Parts 1) false) true :: .test (beqb (ilt a2.Parts 1) false) true :: .test (beqb (ilt a2.Parts 1) false) true :: .test (ilt a2.Parts 1) false :: l) := fun z => ⟨(beqb_ff h54), (beqb_ff h54), (beqb_ff h54), h54, z⟩
   refine cond_some hF (fun h55 hF => ?_) (fun h55 hF => ?_)
   ·
    obtain rfl := Option.some.inj hF
    have pz : HoldAll E H hn94 [.test (igt a2.Parts 6) true] := ⟨(igt_eq h55), trivial⟩
    exact fn_playC hn94 (r := F94_res 1) (q56 (q87 (q88 (q89 (q90 (q91 (q92 pz))))))) (by kernel_rfl) (by kernel_rfl)
   obtain rfl := Option.some.inj hF
   have pz : HoldAll E H hn94 [.test (igt a2.Parts 6) false] := ⟨(igt_eq h55), trivial⟩
   exact fn_playC hn94 (r := F94_res 0) (q56 (q87 (q88 (q89 (q90 (q91 (q92 pz))))))) (by kernel_rfl) (by kernel_rfl)
  obtain rfl := Option.some.inj hF
  have pz : HoldAll E H hn94 [.call 143 [.one (.lit (.int .i64 a2.Prog))] (F143_res5 r6), .test (leadsAny (Res.mk [(.agg [(.im (.lit .nilFunc)), (.im (.lit .nilFunc)), (.im (.lit (.bool r6.1.only_))), (.im (.lit .nilFunc))]), (.one (.im (.lit (.bool r6.2))))] [])) false, .test (beqb (bnot r6.2) false) false, .test (beqb (bnot r6.2) false) false, .test (beqb (bnot r6.2) false) false, .test (bnot r6.2) true, .test (beqb true false) false, .test (beqb true false) false, .test (beqb true false) false, .test (beqb true false) false, .test (beqb true false) false, .test true true, .test (beqb true false) false, .test (beqb true false) false, .test (beqb true false) false, .test true true, .test (beqb true false) false, .test (beqb true false) false, .test (beqb true false) false, .test true true, .test (beqb true false) false, .test (beqb true false) false, .test (beqb true false) false, .test true true, .test (beqb true false) false, .test (beqb true false) false, .test (beqb true false) false, .test true true, .test true true] := ⟨(F143_ok5 _ h48 (F143_ok K a2.Prog _ h7)), (leads_ok (by simp [leadsAny, RV.leads, RC.leads, leadsT, hasSl_lit])), (beqb_ft (bnot_f h49)), (beqb_ft (bnot_f h49)), (beqb_ft (bnot_f h49)), (bnot_f h49), (beqb_ft rfl), (beqb_ft rfl), (beqb_ft rfl), (beqb_ft rfl), (beqb_ft rfl), rfl, (beqb_ft rfl), (beqb_ft rfl), (beqb_ft rfl), rfl, (beqb_ft rfl), (beqb_ft rfl), (beqb_ft rfl), rfl, (beqb_ft rfl), (beqb_ft rfl), (beqb_ft rfl), rfl, (beqb_ft rfl), (beqb_ft rfl), (beqb_ft rfl), rfl, rfl, trivial⟩
  exact fn_playC hn94 (r := F94_res 1) (q56 pz) (by kernel_rfl) (by kernel_rfl)
 obtain rfl := Option.some.inj hF
 have pz : HoldAll E H hn94 [.call 64 [.agg (eGGraph a1)] (F64_res r3), .test (leadsAny (Res.mk [(.one (.im (.lit (.int .i64 r3))))] [])) false, .test (ine r3 0) true] := ⟨(F64_ok K a1 _ h4), (leads_ok (by simp [leadsAny, RV.leads, RC.leads, leadsT, hasSl_lit])), (ine_f h5), trivial⟩
 exact fn_playC hn94 (r := F94_res r3) pz (by kernel_rfl) (by kernel_rfl)
theorem af_1_1 : areFns [(fnV 158), (fnV 159), (fnV 160)] [158, 159, 160] = true := rfl
theorem af_1_3 : areFns [(fnV 158), (fnV 159), (fnV 160)] [158, 159, 161] = false := rfl
theorem af_1_2 : areFns [(fnV 158), (fnV 159), (fnV 160)] [162, 159, 163] = false := rfl
theorem af_1_4 : areFns [(fnV 158), (fnV 159), (fnV 160)] [164, 165, 163] = false := rfl
theorem af_1_5 : areFns [(fnV 158), (fnV 159), (fnV 160)] [166, 0, 163] = false := rfl
theorem af_1_0 : areFns [(fnV 158), (fnV 159), (fnV 160)] [0, 0, 0] = false := rfl
theorem af_3_1 : areFns [(fnV 158), (fnV 159), (fnV 161)] [158, 159, 160] = false := rfl
theorem af_3_3 : areFns [(fnV 158), (fnV 159), (fnV 161)] [158, 159, 161] = true := rfl
theorem af_3_2 : areFns [(fnV 158), (fnV 159), (fnV 161)] [162, 159, 163] = false := rfl
theorem af_3_4 : areFns [(fnV 158), (fnV 159), (fnV 161)] [164, 165, 163] = false := rfl
theorem af_3_5 : areFns [(fnV 158), (fnV 159), (fnV 161)] [166, 0, 163] = false := rfl
theorem af_3_0 : areFns [(fnV 158), (fnV 159), (fnV 161)] [0, 0, 0] = false := rfl
theorem af_2_1 : areFns [(fnV 162), (fnV 159), (fnV 163)] [158, 159, 160] = false := rfl
theorem af_2_3 : areFns [(fnV 162), (fnV 159), (fnV 163)] [158, 159, 161] = false := rfl
theorem af_2_2 : areFns [(fnV 162), (fnV 159), (fnV 163)] [162, 159, 163] = true := rfl
theorem af_2_4 : areFns [(fnV 162), (fnV 159), (fnV 163)] [164, 165, 163] = false := rfl
theorem af_2_5 : areFns [(fnV 162), (fnV 159), (fnV 163)] [166, 0, 163] = false := rfl
theorem af_2_0 : areFns [(fnV 162), (fnV 159), (fnV 163)] [0, 0, 0] = false := rfl
theorem af_4_1 : areFns [(fnV 164), (fnV 165), (fnV 163)] [158, 159, 160] = false := rfl
theorem af_4_3 : areFns [(fnV 164), (fnV 165), (fnV 163)] [158, 159, 161] = false := rfl
theorem af_4_2 : areFns [(fnV 164), (fnV 165), (fnV 163)] [162, 159, 163] = false := rfl
theorem af_4_4 : areFns [(fnV 164), (fnV 165), (fnV 163)] [164, 165, 163] = true := rfl
theorem af_4_5 : areFns [(fnV 164), (fnV 165), (fnV 163)] [166, 0, 163] = false := rfl
theorem af_4_0 : areFns [(fnV 164), (fnV 165), (fnV 163)] [0, 0, 0] = false := rfl
theorem af_5_1 : areFns [(fnV 166), .nilFunc, (fnV 163)] [158, 159, 160] = false := rfl
theorem af_5_3 : areFns [(fnV 166), .nilFunc, (fnV 163)] [158, 159, 161] = false := rfl
theorem af_5_2 : areFns [(fnV 166), .nilFunc, (fnV 163)] [162, 159, 163] = false := rfl
theorem af_5_4 : areFns [(fnV 166), .nilFunc, (fnV 163)] [164, 165, 163] = false := rfl
theorem af_5_5 : areFns [(fnV 166), .nilFunc, (fnV 163)] [166, 0, 163] = true := rfl
theorem af_5_0 : areFns [(fnV 166), .nilFunc, (fnV 163)] [0, 0, 0] = false := rfl
theorem af_0_1 : areFns [.nilFunc, .nilFunc, .nilFunc] [158, 159, 160] = false := rfl
theorem af_0_3 : areFns [.nilFunc, .nilFunc, .nilFunc] [158, 159, 161] = false := rfl
theorem af_0_2 : areFns [.nilFunc, .nilFunc, .nilFunc] [162, 159, 163] = false := rfl
theorem af_0_4 : areFns [.nilFunc, .nilFunc, .nilFunc] [164, 165, 163] = false := rfl
theorem af_0_5 : areFns [.nilFunc, .nilFunc, .nilFunc] [166, 0, 163] = false := rfl
theorem af_0_0 : areFns [.nilFunc, .nilFunc, .nilFunc] [0, 0, 0] = true := rfl
theorem F143_1 (K : Nat) : F143 K 1 = some (Grule.mk (fnV 158) (fnV 159) true (fnV 160), true) := rfl
theorem F143_2 (K : Nat) : F143 K 2 = some (Grule.mk (fnV 162) (fnV 159) false (fnV 163), true) := rfl
theorem F143_3 (K : Nat) : F143 K 3 = some (Grule.mk (fnV 158) (fnV 159) true (fnV 161), true) := rfl
theorem F143_4 (K : Nat) : F143 K 4 = some (Grule.mk (fnV 164) (fnV 165) false (fnV 163), true) := rfl
theorem F143_5 (K : Nat) : F143 K 5 = some (Grule.mk (fnV 166) .nilFunc false (fnV 163), true) := rfl
theorem F143_0 (K : Nat) {p : Int} (h : p < 1 ∨ 5 < p) : F143 K p = some (Grule.mk .nilFunc .nilFunc false .nilFunc, false) := by
 rw [F143, ieq_f.2 (by omega : p ≠ 1), ieq_f.2 (by omega : p ≠ 3), ieq_f.2 (by omega : p ≠ 2), ieq_f.2 (by omega : p ≠ 4), ieq_f.2 (by omega : p ≠ 5)]; rfl
theorem prog_cases (p : Int) : p = 1 ∨ p = 2 ∨ p = 3 ∨ p = 4 ∨ p = 5 ∨ (p < 1 ∨ 5 < p) := by omega
def jbad (n : Int) (j : GJob) : Bool := ilt j.Source 0 || (ile n j.Source || (ilt j.Limit 0 || (ilt 40 j.Limit || (ilt j.Parts 1 || ilt 6 j.Parts))))
def pbad (p : Int) : Bool := ilt p 1 || ilt 5 p
def jcheck (g : GGraph) (j : GJob) : Int := bif ieq (gcheck g) 0 then (bif pbad j.Prog || jbad g.N j then 1 else 0) else gcheck g
theorem jtail (n : Int) (j : GJob) : (bif (ilt j.Source 0) then (some 1) else bif (ile n j.Source) then (some 1) else bif (ilt j.Limit 0) then (some 1) else bif (ilt 40 j.Limit) then (some 1) else bif (ilt j.Parts 1) then (some 1) else bif (ilt 6 j.Parts) then (some 1) else some 0) = some (bif jbad n j then 1 else 0 : Int) := by
 unfold jbad
 cases ilt j.Source 0 <;> cases ile n j.Source <;> cases ilt j.Limit 0 <;> cases ilt 40 j.Limit <;> cases ilt j.Parts 1 <;> cases ilt 6 j.Parts <;> rfl
theorem F59_spec {K : Nat} (hK : 100 ≤ K) (g : GGraph) (j : GJob) : F59 K g j = some (jcheck g j) := by
 rw [F59, F65_spec hK, Option.bind_some, jcheck]
 cases ieq (gcheck g) 0
 · rfl
 · rw [cond_true, cond_true, jtail, pbad]
   cases ilt j.Prog 1 <;> cases ilt 5 j.Prog <;> rfl
theorem F94_spec {K : Nat} (hK : 100 ≤ K) (g : GGraph) (j : GJob) : F94 K g j = some (jcheck g j) := by
 rw [F94, F64_spec hK, Option.bind_some, jcheck]
 cases ieq (gcheck g) 0
 · rfl
 · rw [cond_true, cond_true]
   rcases prog_cases j.Prog with h | h | h | h | h | h
   · have hb : pbad j.Prog = false := by rw [h]; rfl
     rw [hb, Bool.false_or, h, F143_1]
     simp only [Option.bind_some, cond_true, cond_false, af_1_1, af_1_3, af_1_2, af_1_4, af_1_5, af_1_0, af_3_1, af_3_3, af_3_2, af_3_4, af_3_5, af_3_0, af_2_1, af_2_3, af_2_2, af_2_4, af_2_5, af_2_0, af_4_1, af_4_3, af_4_2, af_4_4, af_4_5, af_4_0, af_5_1, af_5_3, af_5_2, af_5_4, af_5_5, af_5_0, af_0_1, af_0_3, af_0_2, af_0_4, af_0_5, af_0_0, jtail]
   · have hb : pbad j.Prog = false := by rw [h]; rfl
     rw [hb, Bool.false_or, h, F143_2]
     simp only [Option.bind_some, cond_true, cond_false, af_1_1, af_1_3, af_1_2, af_1_4, af_1_5, af_1_0, af_3_1, af_3_3, af_3_2, af_3_4, af_3_5, af_3_0, af_2_1, af_2_3, af_2_2, af_2_4, af_2_5, af_2_0, af_4_1, af_4_3, af_4_2, af_4_4, af_4_5, af_4_0, af_5_1, af_5_3, af_5_2, af_5_4, af_5_5, af_5_0, af_0_1, af_0_3, af_0_2, af_0_4, af_0_5, af_0_0, jtail]
   · have hb : pbad j.Prog = false := by rw [h]; rfl
     rw [hb, Bool.false_or, h, F143_3]
     simp only [Option.bind_some, cond_true, cond_false, af_1_1, af_1_3, af_1_2, af_1_4, af_1_5, af_1_0, af_3_1, af_3_3, af_3_2, af_3_4, af_3_5, af_3_0, af_2_1, af_2_3, af_2_2, af_2_4, af_2_5, af_2_0, af_4_1, af_4_3, af_4_2, af_4_4, af_4_5, af_4_0, af_5_1, af_5_3, af_5_2, af_5_4, af_5_5, af_5_0, af_0_1, af_0_3, af_0_2, af_0_4, af_0_5, af_0_0, jtail]
   · have hb : pbad j.Prog = false := by rw [h]; rfl
     rw [hb, Bool.false_or, h, F143_4]
     simp only [Option.bind_some, cond_true, cond_false, af_1_1, af_1_3, af_1_2, af_1_4, af_1_5, af_1_0, af_3_1, af_3_3, af_3_2, af_3_4, af_3_5, af_3_0, af_2_1, af_2_3, af_2_2, af_2_4, af_2_5, af_2_0, af_4_1, af_4_3, af_4_2, af_4_4, af_4_5, af_4_0, af_5_1, af_5_3, af_5_2, af_5_4, af_5_5, af_5_0, af_0_1, af_0_3, af_0_2, af_0_4, af_0_5, af_0_0, jtail]
   · have hb : pbad j.Prog = false := by rw [h]; rfl
     rw [hb, Bool.false_or, h, F143_5]
     simp only [Option.bind_some, cond_true, cond_false, af_1_1, af_1_3, af_1_2, af_1_4, af_1_5, af_1_0, af_3_1, af_3_3, af_3_2, af_3_4, af_3_5, af_3_0, af_2_1, af_2_3, af_2_2, af_2_4, af_2_5, af_2_0, af_4_1, af_4_3, af_4_2, af_4_4, af_4_5, af_4_0, af_5_1, af_5_3, af_5_2, af_5_4, af_5_5, af_5_0, af_0_1, af_0_3, af_0_2, af_0_4, af_0_5, af_0_0, jtail]
   · have hb : pbad j.Prog = true := by
       unfold pbad
       rcases h with h | h
       · rw [ilt_iff.2 h]; rfl
       · rw [ilt_iff.2 h, Bool.or_true]
     rw [hb, Bool.true_or, F143_0 K h]
     simp only [Option.bind_some, cond_true, cond_false, af_1_1, af_1_3, af_1_2, af_1_4, af_1_5, af_1_0, af_3_1, af_3_3, af_3_2, af_3_4, af_3_5, af_3_0, af_2_1, af_2_3, af_2_2, af_2_4, af_2_5, af_2_0, af_4_1, af_4_3, af_4_2, af_4_4, af_4_5, af_4_0, af_5_1, af_5_3, af_5_2, af_5_4, af_5_5, af_5_0, af_0_1, af_0_3, af_0_2, af_0_4, af_0_5, af_0_0]
theorem jcheck_ok {g : GGraph} {j : GJob} (h : ieq (jcheck g j) 0 = true) : ieq (gcheck g) 0 = true ∧ 1 ≤ j.Prog ∧ j.Prog ≤ 5 ∧ 0 ≤ j.Source ∧ j.Source < g.N ∧ 0 ≤ j.Limit ∧ j.Limit ≤ 40 ∧ 1 ≤ j.Parts ∧ j.Parts ≤ 6 := by
 rw [jcheck] at h
 cases hg : ieq (gcheck g) 0
 · rw [hg, cond_false] at h; rw [h] at hg; cases hg
 · rw [hg, cond_true] at h
   cases hb : pbad j.Prog || jbad g.N j
   · simp only [pbad, jbad, Bool.or_eq_false_iff, ilt_f, ile_f] at hb
     obtain ⟨⟨h1, h2⟩, h3, h4, h5, h6, h7, h8⟩ := hb
     exact ⟨rfl, h1, h2, h3, h4, h5, h6, h7, h8⟩
   · rw [hb] at h; cases h
noncomputable def hn159 : Hint := { H 159 with nt := 8, prot := 0 }
def F159_res (r1 : Bool) : Res := ⟨[(.one (.im (.lit (.bool r1))))], []⟩
def F159 (K : Nat) (a1 : Int) (a2 : Int) : Option (Bool) :=
 some (ilt a1 a2)
theorem F159_ok (K : Nat) (a1 : Int) (a2 : Int) (r : Bool) (hF : F159 K a1 a2 = some r) : Evt E H 159 [.one (.lit (.int .i64 a1)), .one (.lit (.int .i64 a2))] (F159_res r) := by
 rw [F159] at hF
 obtain rfl := Option.some.inj hF
 have pz : HoldAll E H hn159 [] := trivial
 exact fn_playC hn159 (r := F159_res (ilt a1 a2)) pz (by kernel_rfl) (by kernel_rfl)
noncomputable def hn165 : Hint := { H 165 with nt := 8, prot := 0 }
def F165_res (r1 : Bool) : Res := ⟨[(.one (.im (.lit (.bool r1))))], []⟩
def F165 (K : Nat) (a1 : Int) (a2 : Int) : Option (Bool) :=
 some (igt a1 a2)
theorem F165_ok (K : Nat) (a1 : Int) (a2 : Int) (r : Bool) (hF : F165 K a1 a2 = some r) : Evt E H 165 [.one (.lit (.int .i64 a1)), .one (.lit (.int .i64 a2))] (F165_res r) := by
 rw [F165] at hF
 obtain rfl := Option.some.inj hF
 have pz : HoldAll E H hn165 [] := trivial
 exact fn_playC hn165 (r := F165_res (igt a1 a2)) pz (by kernel_rfl) (by kernel_rfl)
noncomputable def hn144 : Hint := { H 144 with nt := 23, prot := 0 }
def F144_res (r1 : Int × Bool) : Res := ⟨[(.one (.im (.lit (.int .i64 r1.1)))), (.one (.im (.lit (.bool r1.2))))], []⟩
def F144 (K : Nat) (a1 : Int) (a2 : Int) : Option (Int × Bool) :=
 bif (beqb (ige a1 0) (ige a2 0)) then
  (bif (beqb (ige (wadd .i64 a1 a2) 0) (ige a1 0)) then
   (some ((wadd .i64 a1 a2), true))
  else
  some (0, false))
 else
 some ((wadd .i64 a1 a2), true)
theorem F144_ok (K : Nat) (a1 : Int) (a2 : Int) (r : Int × Bool) (hF : F144 K a1 a2 = some r) : Evt E H 144 [.one (.lit (.int .i64 a1)), .one (.lit (.int .i64 a2))] (F144_res r) := by
 rw [F144] at hF
 refine cond_some hF (fun h3 hF => ?_) (fun h3 hF => ?_)
 ·
  have q5 : PQ hn144 fun l => (.int (wadd .i64 a1 a2) (wadd .i64 a1 a2) :: .test (beqb (beqb (ige a1 0) (ige a2 0)) true) true :: .test (beqb (beqb (ige a1 0) (ige a2 0)) true) true :: .test (beqb (beqb (ige a1 0) (ige a2 0)) true) true :: .test (beqb (beqb (ige a1 0) (ige a2 0)) true) true :: .test (beqb (beqb (ige a1 0) (ige a2 0)) true) true :: .test (beqb (ige a1 0) (ige a2 0)) true :: l) := fun z => ⟨rfl, (beqb_t h3), (beqb_t h3), (beqb_t h3), (beqb_t h3), (beqb_t h3), h3, z⟩
  refine cond_some hF (fun h4 hF => ?_) (fun h4 hF => ?_)
  ·
   obtain rfl := Option.some.inj hF
   have pz : HoldAll E H hn144 [.test (bnot (beqb (ige (wadd .i64 a1 a2) 0) (ige a1 0))) false] := ⟨(bnot_t h4), trivial⟩
   exact fn_playC hn144 (r := F144_res ((wadd .i64 a1 a2), true)) (q5 pz) (by kernel_rfl) (by kernel_rfl)
  obtain rfl := Option.some.inj hF
  have pz : HoldAll E H hn144 [.test (bnot (beqb (ige (wadd .i64 a1 a2) 0) (ige a1 0))) true] := ⟨(bnot_f h4), trivial⟩
  exact fn_playC hn144 (r := F144_res (0, false)) (q5 pz) (by kernel_rfl) (by kernel_rfl)
 obtain rfl := Option.some.inj hF
 have pz : HoldAll E H hn144 [.int (wadd .i64 a1 a2) (wadd .i64 a1 a2), .test (beqb (beqb (ige a1 0) (ige a2 0)) true) false, .test (beqb (beqb (ige a1 0) (ige a2 0)) true) false, .test (beqb (beqb (ige a1 0) (ige a2 0)) true) false, .test (beqb (beqb (ige a1 0) (ige a2 0)) true) false, .test (beqb (beqb (ige a1 0) (ige a2 0)) true) false, .test (beqb (ige a1 0) (ige a2 0)) false, .test false false] := ⟨rfl, (beqb_t h3), (beqb_t h3), (beqb_t h3), (beqb_t h3), (beqb_t h3), h3, rfl, trivial⟩
 exact fn_playC hn144 (r := F144_res ((wadd .i64 a1 a2), true)) pz (by kernel_rfl) (by kernel_rfl)
noncomputable def hn97 : Hint := { H 97 with nt := 41, prot := 0 }
def F97_res (r1 : Int × Int) : Res := ⟨[(.one (.im (.lit (.int .i64 r1.1)))), (.one (.im (.lit (.int .i64 r1.2))))], []⟩
def F97 (K : Nat) (a1 : Int) (a2 : Int) (a3 : Int) : Option (Int × Int) :=
 (F143 K a1).bind fun r4 =>
 bif (areFns [r4.1.start_, r4.1.better_, r4.1.send_] [158, 159, 160]) then
  (bif r4.2 then
   ((F159 K a3 a2).bind fun r5 =>
   bif r5 then
    (some (a3, 0))
   else
   some (a2, 0))
  else
  some (0, 1))
 else
 bif (areFns [r4.1.start_, r4.1.better_, r4.1.send_] [158, 159, 161]) then
  (bif r4.2 then
   ((F159 K a3 a2).bind fun r6 =>
   bif r6 then
    (some (a3, 0))
   else
   some (a2, 0))
  else
  some (0, 1))
 else
 bif (areFns [r4.1.start_, r4.1.better_, r4.1.send_] [162, 159, 163]) then
  (bif r4.2 then
   ((F159 K a3 a2).bind fun r7 =>
   bif r7 then
    (some (a3, 0))
   else
   some (a2, 0))
  else
  some (0, 1))
 else
 bif (areFns [r4.1.start_, r4.1.better_, r4.1.send_] [164, 165, 163]) then
  (bif r4.2 then
   ((F165 K a3 a2).bind fun r8 =>
   bif r8 then
    (some (a3, 0))
   else
   some (a2, 0))
  else
  some (0, 1))
 else
 bif (areFns [r4.1.start_, r4.1.better_, r4.1.send_] [166, 0, 163]) then
  (bif r4.2 then
   ((F144 K a2 a3).bind fun r9 =>
   bif r9.2 then
    (some (r9.1, 0))
   else
   some (0, 8))
  else
  some (0, 1))
 else
 bif (areFns [r4.1.start_, r4.1.better_, r4.1.send_] [0, 0, 0]) then
 bif r4.2 then
  ((F144 K a2 a3).bind fun r10 =>
  bif r10.2 then
   (some (r10.1, 0))
  else
  some (0, 8))
 else
 some (0, 1)
 else none
theorem F97_ok (K : Nat) (a1 : Int) (a2 : Int) (a3 : Int) (r : Int × Int) (hF : F97 K a1 a2 a3 = some r) : Evt E H 97 [.one (.lit (.int .i64 a1)), .one (.lit (.int .i64 a2)), .one (.lit (.int .i64 a3))] (F97_res r) := by
 rw [F97] at hF
 refine bind_some hF (fun r4 h5 hF => ?_)
 refine cond_some hF (fun h6 hF => ?_) (fun h6 hF => ?_)
 ·
  refine cond_some hF (fun h7 hF => ?_) (fun h7 hF => ?_)
  ·
   refine bind_some hF (fun r8 h9 hF => ?_)
   have q36 : PQ hn97 fun l => (.call 143 [.one (.lit (.int .i64 a1))] (F143_res0 r4) :: .test (leadsAny (Res.mk [(.agg [(.im (.lit (fnV 158))), (.im (.lit (fnV 159))), (.im (.lit (.bool r4.1.only_))), (.im (.lit (fnV 160)))]), (.one (.im (.lit (.bool r4.2))))] [])) false :: .test (bnot r4.2) false :: .test false false :: .call 159 [.one (.lit (.int .i64 a3)), .one (.lit (.int .i64 a2))] (F159_res r8) :: .test (leadsAny (Res.mk [(.one (.im (.lit (.bool r8))))] [])) false :: l) := fun z => ⟨(F143_ok0 _ h6 (F143_ok K a1 _ h5)), (leads_ok (by simp [leadsAny, RV.leads, RC.leads, leadsT, hasSl_lit])), (bnot_t h7), rfl, (F159_ok K a3 a2 _ h9), (leads_ok (by simp [leadsAny, RV.leads, RC.leads, leadsT, hasSl_lit])), z⟩
   refine cond_some hF (fun h10 hF => ?_) (fun h10 hF => ?_)
   ·
    obtain rfl := Option.some.inj hF
    have pz : HoldAll E H hn97 [.test r8 true] := ⟨h10, trivial⟩
    exact fn_playC hn97 (r := F97_res (a3, 0)) (q36 pz) (by kernel_rfl) (by kernel_rfl)
   obtain rfl := Option.some.inj hF
   have pz : HoldAll E H hn97 [.test r8 false] := ⟨h10, trivial⟩
   exact fn_playC hn97 (r := F97_res (a2, 0)) (q36 pz) (by kernel_rfl) (by kernel_rfl)
  obtain rfl := Option.some.inj hF
  have pz : HoldAll E H hn97 [.call 143 [.one (.lit (.int .i64 a1))] (F143_res0 r4), .test (leadsAny (Res.mk [(.agg [(.im (.lit (fnV 158))), (.im (.lit (fnV 159))), (.im (.lit (.bool r4.1.only_))), (.im (.lit (fnV 160)))]), (.one (.im (.lit (.bool r4.2))))] [])) false, .test (bnot r4.2) true] := ⟨(F143_ok0 _ h6 (F143_ok K a1 _ h5)), (leads_ok (by simp [leadsAny, RV.leads, RC.leads, leadsT, hasSl_lit])), (bnot_f h7), trivial⟩
  exact fn_playC hn97 (r := F97_res (0, 1)) pz (by kernel_rfl) (by kernel_rfl)
 refine cond_some hF (fun h11 hF => ?_) (fun h11 hF => ?_)
 ·
  refine cond_some hF (fun h12 hF => ?_) (fun h12 hF => ?_)
  ·
   refine bind_some hF (fun r13 h14 hF => ?_)
   have q37 : PQ hn97 fun l => (.call 143 [.one (.lit (.int .i64 a1))] (F143_res1 r4) :: .test (leadsAny (Res.mk [(.agg [(.im (.lit (fnV 158))), (.im (.lit (fnV 159))), (.im (.lit (.bool r4.1.only_))), (.im (.lit (fnV 161)))]), (.one (.im (.lit (.bool r4.2))))] [])) false :: .test (bnot r4.2) false :: .test false false :: .call 159 [.one (.lit (.int .i64 a3)), .one (.lit (.int .i64 a2))] (F159_res r13) :: .test (leadsAny (Res.mk [(.one (.im (.lit (.bool r13))))] [])) false :: l) := fun z => ⟨(F143_ok1 _ h11 (F143_ok K a1 _ h5)), (leads_ok (by simp [leadsAny, RV.leads, RC.leads, leadsT, hasSl_lit])), (bnot_t h12), rfl, (F159_ok K a3 a2 _ h14), (leads_ok (by simp [leadsAny, RV.leads, RC.leads, leadsT, hasSl_lit])), z⟩
   refine cond_some hF (fun h15 hF => ?_) (fun h15 hF => ?_)
   ·
    obtain rfl := Option.some.inj hF
    have pz : HoldAll E H hn97 [.test r13 true] := ⟨h15, trivial⟩
    exact fn_playC hn97 (r := F97_res (a3, 0)) (q37 pz) (by kernel_rfl) (by kernel_rfl)
   obtain rfl := Option.some.inj hF
   have pz : HoldAll E H hn97 [.test r13 false] := ⟨h15, trivial⟩
   exact fn_playC hn97 (r := F97_res (a2, 0)) (q37 pz) (by kernel_rfl) (by kernel_rfl)
  obtain rfl := Option.some.inj hF
  have pz : HoldAll E H hn97 [.call 143 [.one (.lit (.int .i64 a1))] (F143_res1 r4), .test (leadsAny (Res.mk [(.agg [(.im (.lit (fnV 158))), (.im (.lit (fnV 159))), (.im (.lit (.bool r4.1.only_))), (.im (.lit (fnV 161)))]), (.one (.im (.lit (.bool r4.2))))] [])) false, .test (bnot r4.2) true] := ⟨(F143_ok1 _ h11 (F143_ok K a1 _ h5)), (leads_ok (by simp [leadsAny, RV.leads, RC.leads, leadsT, hasSl_lit])), (bnot_f h12), trivial⟩
  exact fn_playC hn97 (r := F97_res (0, 1)) pz (by kernel_rfl) (by kernel_rfl)
 refine cond_some hF (fun h16 hF => ?_) (fun h16 hF => ?_)
 ·
  refine cond_some hF (fun h17 hF => ?_) (fun h17 hF => ?_)
  ·
   refine bind_some hF (fun r18 h19 hF => ?_)
   have q38 : PQ hn97 fun l => (.call 143 [.one (.lit (.int .i64 a1))] (F143_res2 r4) :: .test (leadsAny (Res.mk [(.agg [(.im (.lit (fnV 162))), (.im (.lit (fnV 159))), (.im (.lit (.bool r4.1.only_))), (.im (.lit (fnV 163)))]), (.one (.im (.lit (.bool r4.2))))] [])) false :: .test (bnot r4.2) false :: .test false false :: .call 159 [.one (.lit (.int .i64 a3)), .one (.lit (.int .i64 a2))] (F159_res r18) :: .test (leadsAny (Res.mk [(.one (.im (.lit (.bool r18))))] [])) false :: l) := fun z => ⟨(F143_ok2 _ h16 (F143_ok K a1 _ h5)), (leads_ok (by simp [leadsAny, RV.leads, RC.leads, leadsT, hasSl_lit])), (bnot_t h17), rfl, (F159_ok K a3 a2 _ h19), (leads_ok (by simp [leadsAny, RV.leads, RC.leads, leadsT, hasSl_lit])), z⟩
   refine cond_some hF (fun h20 hF => ?_) (fun h20 hF => ?_)
   ·
    obtain rfl := Option.some.inj hF
    have pz : HoldAll E H hn97 [.test r18 true] := ⟨h20, trivial⟩
    exact fn_playC hn97 (r := F97_res (a3, 0)) (q38 pz) (by kernel_rfl) (by kernel_rfl)
   obtain rfl := Option.some.inj hF
   have pz : HoldAll E H hn97 [.test r18 false] := ⟨h20, trivial⟩
   exact fn_playC hn97 (r := F97_res (a2, 0)) (q38 pz) (by kernel_rfl) (by kernel_rfl)
  obtain rfl := Option.some.inj hF
  have pz : HoldAll E H hn97 [.call 143 [.one (.lit (.int .i64 a1))] (F143_res2 r4), .test (leadsAny (Res.mk [(.agg [(.im (.lit (fnV 162))), (.im (.lit (fnV 159))), (.im (.lit (.bool r4.1.only_))), (.im (.lit (fnV 163)))]), (.one (.im (.lit (.bool r4.2))))] [])) false, .test (bnot r4.2) true] := ⟨(F143_ok2 _ h16 (F143_ok K a1 _ h5)), (leads_ok (by simp [leadsAny, RV.leads, RC.leads, leadsT, hasSl_lit])), (bnot_f h17), trivial⟩
  exact fn_playC hn97 (r := F97_res (0, 1)) pz (by kernel_rfl) (by kernel_rfl)
 refine cond_some hF (fun h21 hF => ?_) (fun h21 hF => ?_)
 ·
  refine cond_some hF (fun h22 hF => ?_) (fun h22 hF => ?_)
  ·
   refine bind_some hF (fun r23 h24 hF => ?_)
   have q39 : PQ hn97 fun l => (.call 143 [.one (.lit (.int .i64 a1))] (F143_res3 r4) :: .test (leadsAny (Res.mk [(.agg [(.im (.lit (fnV 164))), (.im (.lit (fnV 165))), (.im (.lit (.bool r4.1.only_))), (.im (.lit (fnV 163)))]), (.one (.im (.lit (.bool r4.2))))] [])) false :: .test (bnot r4.2) false :: .test false false :: .call 165 [.one (.lit (.int .i64 a3)), .one (.lit (.int .i64 a2))] (F165_res r23) :: .test (leadsAny (Res.mk [(.one (.im (.lit (.bool r23))))] [])) false :: l) := fun z => ⟨(F143_ok3 _ h21 (F143_ok K a1 _ h5)), (leads_ok (by simp [leadsAny, RV.leads, RC.leads, leadsT, hasSl_lit])), (bnot_t h22), rfl, (F165_ok K a3 a2 _ h24), (leads_ok (by simp [leadsAny, RV.leads, RC.leads, leadsT, hasSl_lit])), z⟩
   refine cond_some hF (fun h25 hF => ?_) (fun h25 hF => ?_)
   ·
    obtain rfl := Option.some.inj hF
    have pz : HoldAll E H hn97 [.test r23 true] := ⟨h25, trivial⟩
    exact fn_playC hn97 (r := F97_res (a3, 0)) (q39 pz) (by kernel_rfl) (by kernel_rfl)
   obtain rfl := Option.some.inj hF
   have pz : HoldAll E H hn97 [.test r23 false] := ⟨h25, trivial⟩
   exact fn_playC hn97 (r := F97_res (a2, 0)) (q39 pz) (by kernel_rfl) (by kernel_rfl)
  obtain rfl := Option.some.inj hF
  have pz : HoldAll E H hn97 [.call 143 [.one (.lit (.int .i64 a1))] (F143_res3 r4), .test (leadsAny (Res.mk [(.agg [(.im (.lit (fnV 164))), (.im (.lit (fnV 165))), (.im (.lit (.bool r4.1.only_))), (.im (.lit (fnV 163)))]), (.one (.im (.lit (.bool r4.2))))] [])) false, .test (bnot r4.2) true] := ⟨(F143_ok3 _ h21 (F143_ok K a1 _ h5)), (leads_ok (by simp [leadsAny, RV.leads, RC.leads, leadsT, hasSl_lit])), (bnot_f h22), trivial⟩
  exact fn_playC hn97 (r := F97_res (0, 1)) pz (by kernel_rfl) (by kernel_rfl)
 refine cond_some hF (fun h26 hF => ?_) (fun h26 hF => ?_)
 ·
  refine cond_some hF (fun h27 hF => ?_) (fun h27 hF => ?_)
  ·
   refine bind_some hF (fun r28 h29 hF => ?_)
   have q40 : PQ hn97 fun l => (.call 143 [.one (.lit (.int .i64 a1))] (F143_res4 r4) :: .test (leadsAny (Res.mk [(.agg [(.im (.lit (fnV 166))), (.im (.lit .nilFunc)), (.im (.lit (.bool r4.1.only_))), (.im (.lit (fnV 163)))]), (.one (.im (.lit (.bool r4.2))))] [])) false :: .test (bnot r4.2) false :: .test true true :: .call 144 [.one (.lit (.int .i64 a2)), .one (.lit (.int .i64 a3))] (F144_res r28) :: .test (leadsAny (Res.mk [(.one (.im (.lit (.int .i64 r28.1)))), (.one (.im (.lit (.bool r28.2))))] [])) false :: l) := fun z => ⟨(F143_ok4 _ h26 (F143_ok K a1 _ h5)), (leads_ok (by simp [leadsAny, RV.leads, RC.leads, leadsT, hasSl_lit])), (bnot_t h27), rfl, (F144_ok K a2 a3 _ h29), (leads_ok (by simp [leadsAny, RV.leads, RC.leads, leadsT, hasSl_lit])), z⟩
   refine cond_some hF (fun h30 hF => ?_) (fun h30 hF => ?_)
   ·
    obtain rfl := Option.some.inj hF
    have pz : HoldAll E H hn97 [.test (bnot r28.2) false] := ⟨(bnot_t h30), trivial⟩
    exact fn_playC hn97 (r := F97_res (r28.1, 0)) (q40 pz) (by kernel_rfl) (by kernel_rfl)
   obtain rfl := Option.some.inj hF
   have pz : HoldAll E H hn97 [.test (bnot r28.2) true] := ⟨(bnot_f h30), trivial⟩
   exact fn_playC hn97 (r := F97_res (0, 8)) (q40 pz) (by kernel_rfl) (by kernel_rfl)
  obtain rfl := Option.some.inj hF
  have pz : HoldAll E H hn97 [.call 143 [.one (.lit (.int .i64 a1))] (F143_res4 r4), .test (leadsAny (Res.mk [(.agg [(.im (.lit (fnV 166))), (.im (.lit .nilFunc)), (.im (.lit (.bool r4.1.only_))), (.im (.lit (fnV 163)))]), (.one (.im (.lit (.bool r4.2))))] [])) false, .test (bnot r4.2) true] := ⟨(F143_ok4 _ h26 (F143_ok K a1 _ h5)), (leads_ok (by simp [leadsAny, RV.leads, RC.leads, leadsT, hasSl_lit])), (bnot_f h27), trivial⟩
  exact fn_playC hn97 (r := F97_res (0, 1)) pz (by kernel_rfl) (by kernel_rfl)
 refine cond_some hF (fun h31 hF => ?_) (fun _ hF => nomatch hF)
 refine cond_some hF (fun h32 hF => ?_) (fun h32 hF => ?_)
 ·
  refine bind_some hF (fun r33 h34 hF => ?_)
  have q41 : PQ hn97 fun l => (.call 143 [.one (.lit (.int .i64 a1))] (F143_res5 r4) :: .test (leadsAny (Res.mk [(.agg [(.im (.lit .nilFunc)), (.im (.lit .nilFunc)), (.im (.lit (.bool r4.1.only_))), (.im (.lit .nilFunc))]), (.one (.im (.lit (.bool r4.2))))] [])) false :: .test (bnot r4.2) false :: .test true true :: .call 144 [.one (.lit (.int .i64 a2)), .one (.lit (.int .i64 a3))] (F144_res r33) :: .test (leadsAny (Res.mk [(.one (.im (.lit (.int .i64 r33.1)))), (.one (.im (.lit (.bool r33.2))))] [])) false :: l) := fun z => ⟨(F143_ok5 _ h31 (F143_ok K a1 _ h5)), (leads_ok (by simp [leadsAny, RV.leads, RC.leads, leadsT, hasSl_lit])), (bnot_t h32), rfl, (F144_ok K a2 a3 _ h34), (leads_ok (by simp [leadsAny, RV.leads, RC.leads, leadsT, hasSl_lit])), z⟩
  refine cond_some hF (fun h35 hF => ?_) (fun h35 hF => ?_)
  ·
   obtain rfl := Option.some.inj hF
   have pz : HoldAll E H hn97 [.test (bnot r33.2) false] := ⟨(bnot_t h35), trivial⟩
   exact fn_playC hn97 (r := F97_res (r33.1, 0)) (q41 pz) (by kernel_rfl) (by kernel_rfl)
  obtain rfl := Option.some.inj hF
  have pz : HoldAll E H hn97 [.test (bnot r33.2) true] := ⟨(bnot_f h35), trivial⟩
  exact fn_playC hn97 (r := F97_res (0, 8)) (q41 pz) (by kernel_rfl) (by kernel_rfl)
 obtain rfl := Option.some.inj hF
 have pz : HoldAll E H hn97 [.call 143 [.one (.lit (.int .i64 a1))] (F143_res5 r4), .test (leadsAny (Res.mk [(.agg [(.im (.lit .nilFunc)), (.im (.lit .nilFunc)), (.im (.lit (.bool r4.1.only_))), (.im (.lit .nilFunc))]), (.one (.im (.lit (.bool r4.2))))] [])) false, .test (bnot r4.2) true] := ⟨(F143_ok5 _ h31 (F143_ok K a1 _ h5)), (leads_ok (by simp [leadsAny, RV.leads, RC.leads, leadsT, hasSl_lit])), (bnot_f h32), trivial⟩
 exact fn_playC hn97 (r := F97_res (0, 1)) pz (by kernel_rfl) (by kernel_rfl)
def F145 (K : Nat) (a1 : Int) (a2 : Int) : Option (Int × Bool) :=
 bif (ilt 0 a2) then
  (bif (ilt (wsub .i64 9223372036854775807 a2) a1) then
   (some (0, false))
  else
  bif (ilt a2 0) then
   (bif (ilt a1 (wsub .i64 (-9223372036854775808) a2)) then
    (some (0, false))
   else
   some ((wadd .i64 a1 a2), true))
  else
  some ((wadd .i64 a1 a2), true))
 else
 bif (ilt a2 0) then
  (bif (ilt a1 (wsub .i64 (-9223372036854775808) a2)) then
   (some (0, false))
  else
  some ((wadd .i64 a1 a2), true))
 else
 some ((wadd .i64 a1 a2), true)
def i64 (n : Int) : Prop := -9223372036854775808 ≤ n ∧ n ≤ 9223372036854775807
theorem i64_wf {n : Int} (h : (Lit.int .i64 n).wf = true) : i64 n := bounds_i64 h
theorem wmul_ok {a b : Int} (h : i64 (a * b)) : wmul .i64 a b = a * b := by
 show IntKind.i64.wrap (a * b) = _
 rw [IntKind.wrap_i64]; unfold i64 at h; omega
theorem wadd_i64 {a b : Int} (h : i64 (a + b)) : wadd .i64 a b = a + b := by
 show IntKind.i64.wrap (a + b) = _
 rw [IntKind.wrap_i64]; unfold i64 at h; omega
def fitsB (n : Int) : Bool := decide (-9223372036854775808 ≤ n) && decide (n ≤ 9223372036854775807)
theorem fitsB_iff {n : Int} : fitsB n = true ↔ i64 n := by simp [fitsB, i64]
theorem fitsB_f {n : Int} : fitsB n = false ↔ n < -9223372036854775808 ∨ 9223372036854775807 < n := by
 cases h : fitsB n
 · have : ¬ i64 n := fun q => by rw [fitsB_iff.2 q] at h; cases h
   unfold i64 at this
   simp only [true_iff]; omega
 · have := fitsB_iff.1 h
   unfold i64 at this
   simp only [Bool.true_eq_false, false_iff]; omega
def addS (a b : Int) : Int × Bool := bif fitsB (a + b) then (a + b, true) else (0, false)
theorem F145_spec (K : Nat) {a b : Int} (ha : i64 a) (hb : i64 b) : F145 K a b = some (addS a b) := by
 unfold i64 at ha hb
 rw [F145, addS]
 cases h1 : ilt 0 b
 · have b1 := ilt_f.1 h1
   cases h2 : ilt b 0
   · have b2 := ilt_f.1 h2
     have : b = 0 := by omega
     rw [fitsB_iff.2 (by unfold i64; omega), wadd_i64 (by unfold i64; omega)]; rfl
   · have b2 := ilt_iff.1 h2
     have ew : wsub .i64 (-9223372036854775808) b = -9223372036854775808 - b := by
       show IntKind.i64.wrap _ = _
       rw [IntKind.wrap_i64]; omega
     rw [cond_false, cond_true, ew]
     cases h3 : ilt a (-9223372036854775808 - b)
     · have := ilt_f.1 h3
       rw [fitsB_iff.2 (by unfold i64; omega), wadd_i64 (by unfold i64; omega)]; rfl
     · have := ilt_iff.1 h3
       rw [fitsB_f.2 (by omega)]; rfl
 · have b1 := ilt_iff.1 h1
   have ew : wsub .i64 9223372036854775807 b = 9223372036854775807 - b := by
     show IntKind.i64.wrap _ = _
     rw [IntKind.wrap_i64]; omega
   rw [cond_true, ew, ilt_f.2 (by omega : (0 : Int) ≤ b), cond_false]
   cases h3 : ilt (9223372036854775807 - b) a
   · have := ilt_f.1 h3
     rw [fitsB_iff.2 (by unfold i64; omega), wadd_i64 (by unfold i64; omega)]; rfl
   · have := ilt_iff.1 h3
     rw [fitsB_f.2 (by omega)]; rfl
theorem F144_spec (K : Nat) {a b : Int} (ha : i64 a) (hb : i64 b) : F144 K a b = some (addS a b) := by
 unfold i64 at ha hb
 have ew : wadd .i64 a b = bif fitsB (a + b) then a + b else bif ilt (a + b) 0 then a + b + 18446744073709551616 else a + b - 18446744073709551616 := by
   show IntKind.i64.wrap (a + b) = _
   rw [IntKind.wrap_i64]
   cases h : fitsB (a + b)
   · have := fitsB_f.1 h
     cases h2 : ilt (a + b) 0
     · have := ilt_f.1 h2; simp only [cond_false]; omega
     · have := ilt_iff.1 h2; simp only [cond_false, cond_true]; omega
   · have := fitsB_iff.1 h; unfold i64 at this; simp only [cond_true]; omega
 have eg : ∀ x : Int, ige x 0 = !(ilt x 0) := fun x => by
   unfold ige ilt
   by_cases h : x < 0 <;> simp [h] <;> omega
 rw [F144, addS, eg, eg, eg, ew]
 cases h : fitsB (a + b)
 · have h' := fitsB_f.1 h
   rcases h' with h' | h'
   · rw [ilt_iff.2 (by omega : a < 0), ilt_iff.2 (by omega : b < 0), ilt_iff.2 (by omega : a + b < 0)]
     simp only [cond_false, cond_true]
     rw [ilt_f.2 (by omega : 0 ≤ a + b + 18446744073709551616)]; rfl
   · rw [ilt_f.2 (by omega : 0 ≤ a), ilt_f.2 (by omega : 0 ≤ b), ilt_f.2 (by omega : 0 ≤ a + b)]
     simp only [cond_false, cond_true]
     rw [ilt_iff.2 (by omega : a + b - 18446744073709551616 < 0)]; rfl
 · simp only [cond_true]
   cases h1 : ilt a 0 <;> cases h2 : ilt b 0
   · rw [ilt_f.2 (by have := ilt_f.1 h1; have := ilt_f.1 h2; omega : 0 ≤ a + b)]; rfl
   · rfl
   · rfl
   · rw [ilt_iff.2 (by have := ilt_iff.1 h1; have := ilt_iff.1 h2; omega : a + b < 0)]; rfl
def foldS (p a b : Int) : Int × Int := bif pbad p then (0, 1) else bif ieq p 5 then (bif (addS a b).2 then ((addS a b).1, 0) else (0, 8)) else bif ieq p 4 then (bif ilt a b then (b, 0) else (a, 0)) else bif ilt b a then (b, 0) else (a, 0)
theorem F97_spec (K : Nat) (p : Int) {a b : Int} (ha : i64 a) (hb : i64 b) : F97 K p a b = some (foldS p a b) := by
 rw [F97]
 rcases prog_cases p with q | q | q | q | q | q
 · subst q
   have e5 : ieq 1 5 = false := rfl
   have e4 : ieq 1 4 = false := rfl
   have eb : pbad 1 = false := rfl
   rw [F143_1, foldS, e5, e4, eb]
   simp only [Option.bind_some, cond_true, cond_false, af_1_1, af_1_3, af_1_2, af_1_4, af_1_5, af_1_0, af_3_1, af_3_3, af_3_2, af_3_4, af_3_5, af_3_0, af_2_1, af_2_3, af_2_2, af_2_4, af_2_5, af_2_0, af_4_1, af_4_3, af_4_2, af_4_4, af_4_5, af_4_0, af_5_1, af_5_3, af_5_2, af_5_4, af_5_5, af_5_0, af_0_1, af_0_3, af_0_2, af_0_4, af_0_5, af_0_0, F159]
   cases ilt b a <;> rfl
 · subst q
   have e5 : ieq 2 5 = false := rfl
   have e4 : ieq 2 4 = false := rfl
   have eb : pbad 2 = false := rfl
   rw [F143_2, foldS, e5, e4, eb]
   simp only [Option.bind_some, cond_true, cond_false, af_1_1, af_1_3, af_1_2, af_1_4, af_1_5, af_1_0, af_3_1, af_3_3, af_3_2, af_3_4, af_3_5, af_3_0, af_2_1, af_2_3, af_2_2, af_2_4, af_2_5, af_2_0, af_4_1, af_4_3, af_4_2, af_4_4, af_4_5, af_4_0, af_5_1, af_5_3, af_5_2, af_5_4, af_5_5, af_5_0, af_0_1, af_0_3, af_0_2, af_0_4, af_0_5, af_0_0, F159]
   cases ilt b a <;> rfl
 · subst q
   have e5 : ieq 3 5 = false := rfl
   have e4 : ieq 3 4 = false := rfl
   have eb : pbad 3 = false := rfl
   rw [F143_3, foldS, e5, e4, eb]
   simp only [Option.bind_some, cond_true, cond_false, af_1_1, af_1_3, af_1_2, af_1_4, af_1_5, af_1_0, af_3_1, af_3_3, af_3_2, af_3_4, af_3_5, af_3_0, af_2_1, af_2_3, af_2_2, af_2_4, af_2_5, af_2_0, af_4_1, af_4_3, af_4_2, af_4_4, af_4_5, af_4_0, af_5_1, af_5_3, af_5_2, af_5_4, af_5_5, af_5_0, af_0_1, af_0_3, af_0_2, af_0_4, af_0_5, af_0_0, F159]
   cases ilt b a <;> rfl
 · subst q
   have e5 : ieq 4 5 = false := rfl
   have e4 : ieq 4 4 = true := rfl
   have eb : pbad 4 = false := rfl
   rw [F143_4, foldS, e5, e4, eb]
   simp only [Option.bind_some, cond_true, cond_false, af_1_1, af_1_3, af_1_2, af_1_4, af_1_5, af_1_0, af_3_1, af_3_3, af_3_2, af_3_4, af_3_5, af_3_0, af_2_1, af_2_3, af_2_2, af_2_4, af_2_5, af_2_0, af_4_1, af_4_3, af_4_2, af_4_4, af_4_5, af_4_0, af_5_1, af_5_3, af_5_2, af_5_4, af_5_5, af_5_0, af_0_1, af_0_3, af_0_2, af_0_4, af_0_5, af_0_0, F165, igt]
   have : decide (b > a) = ilt a b := rfl
   rw [this]
   cases ilt a b <;> rfl
 · subst q
   have e5 : ieq 5 5 = true := rfl
   have e4 : ieq 5 4 = false := rfl
   have eb : pbad 5 = false := rfl
   rw [F143_5, foldS, e5, e4, eb]
   simp only [Option.bind_some, cond_true, cond_false, af_1_1, af_1_3, af_1_2, af_1_4, af_1_5, af_1_0, af_3_1, af_3_3, af_3_2, af_3_4, af_3_5, af_3_0, af_2_1, af_2_3, af_2_2, af_2_4, af_2_5, af_2_0, af_4_1, af_4_3, af_4_2, af_4_4, af_4_5, af_4_0, af_5_1, af_5_3, af_5_2, af_5_4, af_5_5, af_5_0, af_0_1, af_0_3, af_0_2, af_0_4, af_0_5, af_0_0, F144_spec K ha hb]
   cases (addS a b).2 <;> rfl
 · have eb : pbad p = true := by
     unfold pbad
     rcases q with q | q
     · rw [ilt_iff.2 q]; rfl
     · rw [ilt_iff.2 q, Bool.or_true]
   rw [F143_0 K q, foldS, eb]
   simp only [Option.bind_some, cond_true, cond_false, af_1_1, af_1_3, af_1_2, af_1_4, af_1_5, af_1_0, af_3_1, af_3_3, af_3_2, af_3_4, af_3_5, af_3_0, af_2_1, af_2_3, af_2_2, af_2_4, af_2_5, af_2_0, af_4_1, af_4_3, af_4_2, af_4_4, af_4_5, af_4_0, af_5_1, af_5_3, af_5_2, af_5_4, af_5_5, af_5_0, af_0_1, af_0_3, af_0_2, af_0_4, af_0_5, af_0_0]
theorem foldS_i64 {p a b : Int} (ha : i64 a) (hb : i64 b) : i64 (foldS p a b).1 := by
 have h0 : i64 0 := by unfold i64; omega
 rw [foldS]
 cases pbad p
 · cases ieq p 5
   · cases ieq p 4
     · simp only [cond_false]
       cases ilt b a
       · exact ha
       · exact hb
     · simp only [cond_false, cond_true]
       cases ilt a b
       · exact ha
       · exact hb
   · simp only [cond_false, cond_true]
     unfold addS
     cases h : fitsB (a + b)
     · exact h0
     · exact fitsB_iff.1 h
 · exact h0
noncomputable def hn149 : Hint := { H 149 with nt := 21, prot := 0 }
noncomputable def c149_0 : Code := loopOf E 149 0
def F149_res (r1 : Int × Bool) : Res := ⟨[(.one (.im (.lit (.int .i64 r1.1)))), (.one (.im (.lit (.bool r1.2))))], []⟩
def F149_l0_0 (K : Nat) (a1 : List GMsg) (a2 : Int) : Nat → Int → Option ((Int) ⊕ (Unit))
 | 0, _ => none
 | k + 1, v3 =>
  bif (ilt v3 (nlen (len a1))) then
   (bif (inr v3 (len a1)) then
   (elAt a1 v3).bind fun x4 =>
   bif (ieq x4.To a2) then
    (some (.inl x4.V))
   else
   F149_l0_0 K a1 a2 k (wadd .i64 v3 1)
   else none)
  else
  some (.inr ())
def F149_l0_0_S (a1 : List GMsg) (a2 : Int) (v3 : Int) : TS := .on [0, 1, 64, 65, 512, 513, 576, 577, 640, 641] [(0, ⟨.one, 0, nob⟩), (1, ⟨.im, 0, (.sl (len a1) (flat eGMsg a1))⟩), (64, ⟨.one, 0, nob⟩), (65, ⟨.im, 0, (.lit (.int .i64 a2))⟩), (512, ⟨.one, 0, nob⟩), (513, ⟨.im, 0, (.sl (len a1) (flat eGMsg a1))⟩), (576, ⟨.one, 0, nob⟩), (577, ⟨.im, 0, (.lit (.int .i64 (nlen (len a1))))⟩), (640, ⟨.one, 0, nob⟩), (641, ⟨.im, 0, (.lit (.int .i64 v3))⟩)]
def F149_l0_0_X0 (a1 : List GMsg) (a2 : Int) (w3 : Int) : TS := .on [256, 257, 320, 321] [(256, ⟨.one, 0, nob⟩), (257, ⟨.im, 0, (.lit (.int .i64 w3))⟩), (320, ⟨.one, 0, nob⟩), (321, ⟨.im, 0, (.lit (.bool true))⟩)]
def F149_l0_0_X1 (a1 : List GMsg) (a2 : Int) (w3 : Unit) : TS := .on [] []
theorem F149_l0_0_ok (K : Nat) (a1 : List GMsg) (a2 : Int) : ∀ (k : Nat) (v3 : Int) (r : (Int) ⊕ (Unit)), F149_l0_0 K a1 a2 k v3 = some r → (Sum.elim (fun w => LoopEv E H hn149 0 c149_0 (F149_l0_0_S a1 a2 v3) .ret (F149_l0_0_X0 a1 a2 w)) (fun w => LoopEv E H hn149 0 c149_0 (F149_l0_0_S a1 a2 v3) (.exit 0) (F149_l0_0_X1 a1 a2 w))) r := by
 intro k
 induction k with
 | zero => intro v3 r hF; cases hF
 | succ k ih =>
  intro v3 r hF
  rw [F149_l0_0] at hF
  refine cond_some hF (fun h4 hF => ?_) (fun h4 hF => ?_)
  ·
   refine cond_some hF (fun h5 hF => ?_) (fun _ hF => nomatch hF)
   refine bind_some hF (fun x6 h7 hF => ?_)
   have q9 : PQ hn149 fun l => (.test (ilt v3 (nlen (len a1))) true :: .test (inr v3 (len a1)) true :: .sub (flat eGMsg a1) (nidx v3 2) 2 [(.lit (.int .i64 x6.To)), (.lit (.int .i64 x6.V))] :: l) := fun z => ⟨h4, h5, ⟨rfl, sub_flat0 eGMsg_len h7 2 (by decide)⟩, z⟩
   refine cond_some hF (fun h8 hF => ?_) (fun h8 hF => ?_)
   ·
    obtain rfl := Option.some.inj hF
    have pz : HoldAll E H hn149 [.test (ieq x6.To a2) true] := ⟨h8, trivial⟩
    exact loop_endC (h := hn149) (l := 0) (c := c149_0) (ts := F149_l0_0_S a1 a2 v3) (ts' := F149_l0_0_X0 a1 a2 x6.V) (ex := .ret) (q9 pz) (by kernel_rfl) trivial
   have pz : HoldAll E H hn149 [.test (ieq x6.To a2) false, .int (wadd .i64 v3 1) (wadd .i64 v3 1)] := ⟨h8, rfl, trivial⟩
   have h0 := ih _ _ hF
   have hn := fun ex ts' => loop_nextC (h := hn149) (l := 0) (c := c149_0) (ts := F149_l0_0_S a1 a2 v3) (ts1 := (F149_l0_0_S a1 a2 (wadd .i64 v3 1))) (ex := ex) (ts' := ts') (q9 pz) (by kernel_rfl)
   cases r with
   | inl w => exact hn _ _ h0
   | inr w => exact hn _ _ h0
  obtain rfl := Option.some.inj hF
  have pz : HoldAll E H hn149 [.test (ilt v3 (nlen (len a1))) false] := ⟨h4, trivial⟩
  exact loop_endC (h := hn149) (l := 0) (c := c149_0) (ts := F149_l0_0_S a1 a2 v3) (ts' := F149_l0_0_X1 a1 a2 ()) (ex := (.exit 0)) pz (by kernel_rfl) trivial
def F149 (K : Nat) (a1 : List GMsg) (a2 : Int) : Option (Int × Bool) :=
 (F149_l0_0 K a1 a2 K 0).bind fun y3 =>
 Sum.elim (fun w4 =>
  some (w4, true))
  (fun w5 =>
  some (0, false)) y3
theorem F149_ok (K : Nat) (a1 : List GMsg) (a2 : Int) (r : Int × Bool) (hF : F149 K a1 a2 = some r) : Evt E H 149 [.one (.sl (len a1) (flat eGMsg a1)), .one (.lit (.int .i64 a2))] (F149_res r) := by
 rw [F149] at hF
 refine bind_some hF (fun y4 h3 hF => ?_)
 refine sum_some hF (fun w5 hx hF => ?_) (fun w6 hx hF => ?_)
 ·
  subst hx
  obtain rfl := Option.some.inj hF
  have pz : HoldAll E H hn149 [.int (nlen (len a1)) (nlen (len a1)), .loop 0 c149_0 (F149_l0_0_S a1 a2 0) .ret (F149_l0_0_X0 a1 a2 w5)] := ⟨rfl, (F149_l0_0_ok K a1 a2 K 0 _ h3), trivial⟩
  exact fn_playC hn149 (r := F149_res (w5, true)) pz (by kernel_rfl) (by kernel_rfl)
 subst hx
 obtain rfl := Option.some.inj hF
 have pz : HoldAll E H hn149 [.int (nlen (len a1)) (nlen (len a1)), .loop 0 c149_0 (F149_l0_0_S a1 a2 0) (.exit 0) (F149_l0_0_X1 a1 a2 w6)] := ⟨rfl, (F149_l0_0_ok K a1 a2 K 0 _ h3), trivial⟩
 exact fn_playC hn149 (r := F149_res (0, false)) pz (by kernel_rfl) (by kernel_rfl)
noncomputable def hn173 : Hint := { H 173 with nt := 24, prot := 0 }
def F173_res (r1 : Bool) : Res := ⟨[(.one (.im (.lit (.bool r1))))], []⟩
def F173 (K : Nat) (a1 : GMsg) (a2 : GMsg) : Option (Bool) :=
 bif (ilt a1.To a2.To) then
  (some true)
 else
 bif (ieq a1.To a2.To) then
  (some (ilt a1.V a2.V))
 else
 some false
theorem F173_ok (K : Nat) (a1 : GMsg) (a2 : GMsg) (r : Bool) (hF : F173 K a1 a2 = some r) : Evt E H 173 [.agg (eGMsg a1), .agg (eGMsg a2)] (F173_res r) := by
 rw [F173] at hF
 refine cond_some hF (fun h3 hF => ?_) (fun h3 hF => ?_)
 ·
  obtain rfl := Option.some.inj hF
  have pz : HoldAll E H hn173 [.test (beqb (ilt a1.To a2.To) false) false, .test (beqb (ilt a1.To a2.To) false) false, .test (beqb (ilt a1.To a2.To) false) false, .test (beqb (ilt a1.To a2.To) false) false, .test (beqb (ilt a1.To a2.To) false) false, .test (beqb (ilt a1.To a2.To) false) false, .test (beqb (ilt a1.To a2.To) false) false, .test (ilt a1.To a2.To) true] := ⟨(beqb_ft h3), (beqb_ft h3), (beqb_ft h3), (beqb_ft h3), (beqb_ft h3), (beqb_ft h3), (beqb_ft h3), h3, trivial⟩
  exact fn_playC hn173 (r := F173_res true) pz (by kernel_rfl) (by kernel_rfl)
 have q5 : PQ hn173 fun l => (.test (beqb (ilt a1.To a2.To) false) true :: .test (beqb (ilt a1.To a2.To) false) true :: .test (beqb (ilt a1.To a2.To) false) true :: .test (beqb (ilt a1.To a2.To) false) true :: .test (beqb (ilt a1.To a2.To) false) true :: .test (beqb (ilt a1.To a2.To) false) true :: l) := fun z => ⟨(beqb_ff h3), (beqb_ff h3), (beqb_ff h3), (beqb_ff h3), (beqb_ff h3), (beqb_ff h3), z⟩
 refine cond_some hF (fun h4 hF => ?_) (fun h4 hF => ?_)
 ·
  obtain rfl := Option.some.inj hF
  have pz : HoldAll E H hn173 [.test (beqb (ieq a1.To a2.To) true) true, .test (beqb (ieq a1.To a2.To) true) true, .test (beqb (ieq a1.To a2.To) true) true, .test (beqb (ieq a1.To a2.To) true) true, .test (beqb (ieq a1.To a2.To) true) true, .test (beqb (ilt a1.To a2.To) false) true, .test (ieq a1.To a2.To) true, .test (ilt a1.To a2.To) false] := ⟨(beqb_t h4), (beqb_t h4), (beqb_t h4), (beqb_t h4), (beqb_t h4), (beqb_ff h3), h4, h3, trivial⟩
  exact fn_playC hn173 (r := F173_res (ilt a1.V a2.V)) (q5 pz) (by kernel_rfl) (by kernel_rfl)
 obtain rfl := Option.some.inj hF
 have pz : HoldAll E H hn173 [.test (beqb (ieq a1.To a2.To) true) false, .test (beqb (ieq a1.To a2.To) true) false, .test (beqb (ieq a1.To a2.To) true) false, .test (beqb (ieq a1.To a2.To) true) false, .test (beqb (ieq a1.To a2.To) true) false, .test (beqb (ilt a1.To a2.To) false) true, .test (ieq a1.To a2.To) false, .test (ilt a1.To a2.To) false] := ⟨(beqb_t h4), (beqb_t h4), (beqb_t h4), (beqb_t h4), (beqb_t h4), (beqb_ff h3), h4, h3, trivial⟩
 exact fn_playC hn173 (r := F173_res false) (q5 pz) (by kernel_rfl) (by kernel_rfl)
noncomputable def hn172_173 : Hint := { H 172 with nt := 68, prot := 0 }
noncomputable def c172_173_0 : Code := loopOf E 172 0
def F172_173_res (r1 : List GMsg) : Res := ⟨[(.one (.own 130 (.sl (len r1) (flat eGMsg r1))))], []⟩
def F172_173_l0_0 (K : Nat)  : Nat → List GMsg → List GMsg → List GMsg → Option (List GMsg × List GMsg × List GMsg)
 | 0, _, _, _ => none
 | k + 1, v1, v2, v3 =>
  bif (ilt 0 (nlen (len v1))) then
   (bif (ilt 0 (nlen (len v2))) then
    (bif (inr 0 (len v2)) then
    (elAt v2 0).bind fun x4 =>
    bif (inr 0 (len v1)) then
    (elAt v1 0).bind fun x5 =>
    (F173 K x4 x5).bind fun r6 =>
    bif r6 then
     (bif (apok (len v3) 1 16) then
     bif (bnd 1 (nlen (len v2)) (len v2)) then
     F172_173_l0_0 K  k v1 (subL v2 1 (nlen (len v2))) (appL v3 [x4])
     else none
     else none)
    else
    bif (apok (len v3) 1 16) then
    bif (bnd 1 (nlen (len v1)) (len v1)) then
    F172_173_l0_0 K  k (subL v1 1 (nlen (len v1))) v2 (appL v3 [x5])
    else none
    else none
    else none
    else none)
   else
   some (v1, (v2, v3)))
  else
  some (v1, (v2, v3))
def F172_173_l0_0_S  (v1 : List GMsg) (v2 : List GMsg) (v3 : List GMsg) : TS := .on [64, 65, 384, 385, 448, 449, 512, 513] [(64, ⟨.one, 0, nob⟩), (65, ⟨.im, 0, (.lit (fnV 173))⟩), (384, ⟨.one, 0, nob⟩), (385, ⟨.im, 0, (.sl (len v1) (flat eGMsg v1))⟩), (448, ⟨.one, 0, nob⟩), (449, ⟨.im, 0, (.sl (len v2) (flat eGMsg v2))⟩), (512, ⟨.one, 0, nob⟩), (513, ⟨(.own 130), 0, (.sl (len v3) (flat eGMsg v3))⟩)]
def F172_173_l0_0_X0  (w1 : List GMsg × List GMsg × List GMsg) : TS := .on [384, 385, 448, 449, 512, 513] [(384, ⟨.one, 0, nob⟩), (385, ⟨.im, 0, (.sl (len w1.1) (flat eGMsg w1.1))⟩), (448, ⟨.one, 0, nob⟩), (449, ⟨.im, 0, (.sl (len w1.2.1) (flat eGMsg w1.2.1))⟩), (512, ⟨.one, 0, nob⟩), (513, ⟨(.own 130), 0, (.sl (len w1.2.2) (flat eGMsg w1.2.2))⟩)]
theorem F172_173_l0_0_ok (K : Nat)  : ∀ (k : Nat) (v1 : List GMsg) (v2 : List GMsg) (v3 : List GMsg) (r : List GMsg × List GMsg × List GMsg), F172_173_l0_0 K  k v1 v2 v3 = some r → LoopEv E H hn172_173 0 c172_173_0 (F172_173_l0_0_S  v1 v2 v3) (.exit 0) (F172_173_l0_0_X0  r) := by
 intro k
 induction k with
 | zero => intro v1 v2 v3 r hF; cases hF
 | succ k ih =>
  intro v1 v2 v3 r hF
  rw [F172_173_l0_0] at hF
  refine cond_some hF (fun h4 hF => ?_) (fun h4 hF => ?_)
  ·
   have q19 : ∀ {l : List Cond}, HoldAll E H hn172_173 l → HoldAll E H hn172_173 (.int (nlen (len v1)) (nlen (len v1)) :: .test (beqb (igt (nlen (len v1)) 0) true) true :: .test (beqb (igt (nlen (len v1)) 0) true) true :: .int (nlen (len v2)) (nlen (len v2)) :: .test (beqb (igt (nlen (len v1)) 0) true) true :: .test (igt (nlen (len v1)) 0) true :: l) := fun z => ⟨rfl, (beqb_t (igt_eq h4)), (beqb_t (igt_eq h4)), rfl, (beqb_t (igt_eq h4)), (igt_eq h4), z⟩
   refine cond_some hF (fun h5 hF => ?_) (fun h5 hF => ?_)
   ·
    refine cond_some hF (fun h6 hF => ?_) (fun _ hF => nomatch hF)
    refine bind_some hF (fun x7 h8 hF => ?_)
    refine cond_some hF (fun h9 hF => ?_) (fun _ hF => nomatch hF)
    refine bind_some hF (fun x10 h11 hF => ?_)
    refine bind_some hF (fun r12 h13 hF => ?_)
    have q20 : ∀ {l : List Cond}, HoldAll E H hn172_173 l → HoldAll E H hn172_173 (.test (igt (nlen (len v2)) 0) true :: .test (inr 0 (len v2)) true :: .sub (flat eGMsg v2) (nidx 0 2) 2 [(.lit (.int .i64 x7.To)), (.lit (.int .i64 x7.V))] :: .test (inr 0 (len v1)) true :: .sub (flat eGMsg v1) (nidx 0 2) 2 [(.lit (.int .i64 x10.To)), (.lit (.int .i64 x10.V))] :: .call 173 [.agg (eGMsg x7), .agg (eGMsg x10)] (F173_res r12) :: .test (leadsAny (Res.mk [(.one (.im (.lit (.bool r12))))] [])) false :: l) := fun z => ⟨(igt_eq h5), h6, ⟨rfl, sub_flat0 eGMsg_len h8 2 (by decide)⟩, h9, ⟨rfl, sub_flat0 eGMsg_len h11 2 (by decide)⟩, (F173_ok K x7 x10 _ h13), (leads_ok (by simp [leadsAny, RV.leads, RC.leads, leadsT, hasSl_lit, flat_ns eGMsg_ns])), z⟩
    refine cond_some hF (fun h14 hF => ?_) (fun h14 hF => ?_)
    ·
     refine cond_some hF (fun h15 hF => ?_) (fun _ hF => nomatch hF)
     refine cond_some hF (fun h16 hF => ?_) (fun _ hF => nomatch hF)
     have pz : HoldAll E H hn172_173 [.test r12 true, .test (inr 0 (len v2)) true, .sub (flat eGMsg v2) (nidx 0 2) 2 [(.lit (.int .i64 x7.To)), (.lit (.int .i64 x7.V))], .test (leqm [(.lit (.int .i64 x7.To)), (.lit (.int .i64 x7.V))] 1 2) true, .test (apok (len v3) 1 16) true, .sl (nadd (len v3) 1) (lapp (flat eGMsg v3) [(.lit (.int .i64 x7.To)), (.lit (.int .i64 x7.V))]) (len (α := GMsg) (appL v3 [x7])) (flat eGMsg (appL v3 [x7])), .test (bnd 1 (nlen (len v2)) (len v2)) true, .sl (nsub 1 (nlen (len v2))) (lsub (flat eGMsg v2) 1 (nlen (len v2)) 2) (len (α := GMsg) (subL v2 1 (nlen (len v2)))) (flat eGMsg (subL v2 1 (nlen (len v2))))] := ⟨h14, h6, ⟨rfl, sub_flat0 eGMsg_len h8 2 (by decide)⟩, rfl, h15, (app_ok (enc := eGMsg) (v3 : List GMsg) [x7]), h16, (sub_ok eGMsg_len h16), trivial⟩
     have h0 := ih _ _ _ _ hF
     have hn := fun ex ts' => loop_nextC (h := hn172_173) (l := 0) (c := c172_173_0) (ts := F172_173_l0_0_S  v1 v2 v3) (ts1 := (F172_173_l0_0_S  v1 (subL v2 1 (nlen (len v2))) (appL v3 [x7]))) (ex := ex) (ts' := ts') (q19 (q20 pz)) (by kernel_rfl)
     exact hn _ _ h0
    refine cond_some hF (fun h17 hF => ?_) (fun _ hF => nomatch hF)
    refine cond_some hF (fun h18 hF => ?_) (fun _ hF => nomatch hF)
    have pz : HoldAll E H hn172_173 [.test r12 false, .test (inr 0 (len v1)) true, .sub (flat eGMsg v1) (nidx 0 2) 2 [(.lit (.int .i64 x10.To)), (.lit (.int .i64 x10.V))], .test (leqm [(.lit (.int .i64 x10.To)), (.lit (.int .i64 x10.V))] 1 2) true, .test (apok (len v3) 1 16) true, .sl (nadd (len v3) 1) (lapp (flat eGMsg v3) [(.lit (.int .i64 x10.To)), (.lit (.int .i64 x10.V))]) (len (α := GMsg) (appL v3 [x10])) (flat eGMsg (appL v3 [x10])), .test (bnd 1 (nlen (len v1)) (len v1)) true, .sl (nsub 1 (nlen (len v1))) (lsub (flat eGMsg v1) 1 (nlen (len v1)) 2) (len (α := GMsg) (subL v1 1 (nlen (len v1)))) (flat eGMsg (subL v1 1 (nlen (len v1))))] := ⟨h14, h9, ⟨rfl, sub_flat0 eGMsg_len h11 2 (by decide)⟩, rfl, h17, (app_ok (enc := eGMsg) (v3 : List GMsg) [x10]), h18, (sub_ok eGMsg_len h18), trivial⟩
    have h0 := ih _ _ _ _ hF
    have hn := fun ex ts' => loop_nextC (h := hn172_173) (l := 0) (c := c172_173_0) (ts := F172_173_l0_0_S  v1 v2 v3) (ts1 := (F172_173_l0_0_S  (subL v1 1 (nlen (len v1))) v2 (appL v3 [x10]))) (ex := ex) (ts' := ts') (q19 (q20 pz)) (by kernel_rfl)
    exact hn _ _ h0
   obtain rfl := Option.some.inj hF
   have pz : HoldAll E H hn172_173 [.test (igt (nlen (len v2)) 0) false] := ⟨(igt_eq h5), trivial⟩
   exact loop_endC (h := hn172_173) (l := 0) (c := c172_173_0) (ts := F172_173_l0_0_S  v1 v2 v3) (ts' := F172_173_l0_0_X0  (v1, (v2, v3))) (ex := (.exit 0)) (q19 pz) (by kernel_rfl) trivial
  obtain rfl := Option.some.inj hF
  have pz : HoldAll E H hn172_173 [.int (nlen (len v1)) (nlen (len v1)), .test (beqb (igt (nlen (len v1)) 0) true) false, .test (beqb (igt (nlen (len v1)) 0) true) false, .test (beqb (igt (nlen (len v1)) 0) true) false, .test (igt (nlen (len v1)) 0) false, .test false false] := ⟨rfl, (beqb_t (igt_eq h4)), (beqb_t (igt_eq h4)), (beqb_t (igt_eq h4)), (igt_eq h4), rfl, trivial⟩
  exact loop_endC (h := hn172_173) (l := 0) (c := c172_173_0) (ts := F172_173_l0_0_S  v1 v2 v3) (ts' := F172_173_l0_0_X0  (v1, (v2, v3))) (ex := (.exit 0)) pz (by kernel_rfl) trivial
def F172_173 (K : Nat) : Nat → List GMsg → Option (List GMsg)
 | 0, _ => none
 | d + 1, a1 =>
 bif (ilt (nlen (len a1)) 2) then
  (bif (apok 0 (len a1) 16) then
  some (appL [] a1)
  else none)
 else
 bif (bnd 0 (wquo .i64 (nlen (len a1)) 2) (len a1)) then
 (F172_173 K d (subL a1 0 (wquo .i64 (nlen (len a1)) 2))).bind fun r2 =>
 bif (bnd (wquo .i64 (nlen (len a1)) 2) (nlen (len a1)) (len a1)) then
 (F172_173 K d (subL a1 (wquo .i64 (nlen (len a1)) 2) (nlen (len a1)))).bind fun r3 =>
 bif (mkok 0 (nlen (len a1)) 16) then
 (F172_173_l0_0 K  K r2 r3 (repL (α := GMsg) 0 (GMsg.mk 0 0))).bind fun w4 =>
 bif (apok (len w4.2.2) (len w4.1) 16) then
 bif (apok (len (α := GMsg) (appL w4.2.2 w4.1)) (len w4.2.1) 16) then
 some (appL (appL w4.2.2 w4.1) w4.2.1)
 else none
 else none
 else none
 else none
 else none
theorem F172_173_ok (K : Nat) : ∀ (d : Nat) (a1 : List GMsg) (r : List GMsg), F172_173 K d a1 = some r → Evt E H 172 [.one (.sl (len a1) (flat eGMsg a1)), .one (.lit (fnV 173))] (F172_173_res r) := by
 intro d
 induction d with
 | zero => intro a1 r hF; cases hF
 | succ d ih =>
  intro a1 r hF
  rw [F172_173] at hF
  refine cond_some hF (fun h2 hF => ?_) (fun h2 hF => ?_)
  ·
   refine cond_some hF (fun h3 hF => ?_) (fun _ hF => nomatch hF)
   obtain rfl := Option.some.inj hF
   have pz : HoldAll E H hn172_173 [.int (nlen (len a1)) (nlen (len a1)), .test (ilt (nlen (len a1)) 2) true, .test (leqm (flat eGMsg a1) (len a1) 2) true, .test (apok 0 (len a1) 16) true, .sl (nadd 0 (len a1)) (lapp [] (flat eGMsg a1)) (len (α := GMsg) (appL [] a1)) (flat eGMsg (appL [] a1))] := ⟨rfl, h2, (leqm_flat eGMsg_len _), h3, (app_ok (enc := eGMsg) ([] : List GMsg) a1), trivial⟩
   exact fn_playC hn172_173 (r := F172_173_res (appL [] a1)) pz (by kernel_rfl) (by kernel_rfl)
  refine cond_some hF (fun h4 hF => ?_) (fun _ hF => nomatch hF)
  refine bind_some hF (fun r5 h6 hF => ?_)
  refine cond_some hF (fun h7 hF => ?_) (fun _ hF => nomatch hF)
  refine bind_some hF (fun r8 h9 hF => ?_)
  refine cond_some hF (fun h10 hF => ?_) (fun _ hF => nomatch hF)
  refine bind_some hF (fun w12 h11 hF => ?_)
  refine cond_some hF (fun h13 hF => ?_) (fun _ hF => nomatch hF)
  refine cond_some hF (fun h14 hF => ?_) (fun _ hF => nomatch hF)
  obtain rfl := Option.some.inj hF
  have pz : HoldAll E H hn172_173 [.int (nlen (len a1)) (nlen (len a1)), .test (ilt (nlen (len a1)) 2) false, .int (nlen (len a1)) (nlen (len a1)), .test (izero 2) false, .int (wquo .i64 (nlen (len a1)) 2) (wquo .i64 (nlen (len a1)) 2), .test (bnd 0 (wquo .i64 (nlen (len a1)) 2) (len a1)) true, .sl (nsub 0 (wquo .i64 (nlen (len a1)) 2)) (lsub (flat eGMsg a1) 0 (wquo .i64 (nlen (len a1)) 2) 2) (len (α := GMsg) (subL a1 0 (wquo .i64 (nlen (len a1)) 2))) (flat eGMsg (subL a1 0 (wquo .i64 (nlen (len a1)) 2))), .call 172 [.one (.sl (len (α := GMsg) (subL a1 0 (wquo .i64 (nlen (len a1)) 2))) (flat eGMsg (subL a1 0 (wquo .i64 (nlen (len a1)) 2)))), .one (.lit (fnV 173))] (F172_173_res r5), .test (leadsAny (Res.mk [(.one (.own 130 (.sl (len r5) (flat eGMsg r5))))] [])) false, .test (bnd (wquo .i64 (nlen (len a1)) 2) (nlen (len a1)) (len a1)) true, .sl (nsub (wquo .i64 (nlen (len a1)) 2) (nlen (len a1))) (lsub (flat eGMsg a1) (wquo .i64 (nlen (len a1)) 2) (nlen (len a1)) 2) (len (α := GMsg) (subL a1 (wquo .i64 (nlen (len a1)) 2) (nlen (len a1)))) (flat eGMsg (subL a1 (wquo .i64 (nlen (len a1)) 2) (nlen (len a1)))), .call 172 [.one (.sl (len (α := GMsg) (subL a1 (wquo .i64 (nlen (len a1)) 2) (nlen (len a1)))) (flat eGMsg (subL a1 (wquo .i64 (nlen (len a1)) 2) (nlen (len a1))))), .one (.lit (fnV 173))] (F172_173_res r8), .test (leadsAny (Res.mk [(.one (.own 130 (.sl (len r8) (flat eGMsg r8))))] [])) false, .int (nlen (len a1)) (nlen (len a1)), .test (mkok 0 (nlen (len a1)) 16) true, .sl (nint 0) (lrep 0 [(.lit (.int .i64 0)), (.lit (.int .i64 0))]) (len (α := GMsg) (repL (α := GMsg) 0 (GMsg.mk 0 0))) (flat eGMsg (repL (α := GMsg) 0 (GMsg.mk 0 0))), .loop 0 c172_173_0 (F172_173_l0_0_S  r5 r8 (repL (α := GMsg) 0 (GMsg.mk 0 0))) (.exit 0) (F172_173_l0_0_X0  w12), .test (leqm (flat eGMsg w12.1) (len w12.1) 2) true, .test (apok (len w12.2.2) (len w12.1) 16) true, .sl (nadd (len w12.2.2) (len w12.1)) (lapp (flat eGMsg w12.2.2) (flat eGMsg w12.1)) (len (α := GMsg) (appL w12.2.2 w12.1)) (flat eGMsg (appL w12.2.2 w12.1)), .test (leqm (flat eGMsg w12.2.1) (len w12.2.1) 2) true, .test (apok (len (α := GMsg) (appL w12.2.2 w12.1)) (len w12.2.1) 16) true, .sl (nadd (len (α := GMsg) (appL w12.2.2 w12.1)) (len w12.2.1)) (lapp (flat eGMsg (appL w12.2.2 w12.1)) (flat eGMsg w12.2.1)) (len (α := GMsg) (appL (appL w12.2.2 w12.1) w12.2.1)) (flat eGMsg (appL (appL w12.2.2 w12.1) w12.2.1))] := ⟨rfl, h2, rfl, (by first | exact rfl | (unfold Cond.Holds; decide)), rfl, h4, (sub_ok eGMsg_len h4), (ih (subL a1 0 (wquo .i64 (nlen (len a1)) 2)) _ h6), (leads_ok (by simp [leadsAny, RV.leads, RC.leads, leadsT, hasSl_lit, flat_ns eGMsg_ns])), h7, (sub_ok eGMsg_len h7), (ih (subL a1 (wquo .i64 (nlen (len a1)) 2) (nlen (len a1))) _ h9), (leads_ok (by simp [leadsAny, RV.leads, RC.leads, leadsT, hasSl_lit, flat_ns eGMsg_ns])), rfl, h10, (rep_okC (enc := eGMsg) (n := 0) (x := (GMsg.mk 0 0)) rfl), (F172_173_l0_0_ok K  K r5 r8 (repL (α := GMsg) 0 (GMsg.mk 0 0)) _ h11), (leqm_flat eGMsg_len _), h13, (app_ok (enc := eGMsg) (w12.2.2 : List GMsg) w12.1), (leqm_flat eGMsg_len _), h14, (app_ok (enc := eGMsg) ((appL w12.2.2 w12.1) : List GMsg) w12.2.1), trivial⟩
  exact fn_playC hn172_173 (r := F172_173_res (appL (appL w12.2.2 w12.1) w12.2.1)) pz (by kernel_rfl) (by kernel_rfl)
noncomputable def hn169 : Hint := { H 169 with nt := 5, prot := 0 }
def F169_res (r1 : List GMsg) : Res := ⟨[(.one (.own 130 (.sl (len r1) (flat eGMsg r1))))], []⟩
def F169 (K : Nat) (a1 : List GMsg) : Option (List GMsg) :=
 (F172_173 K K a1).bind fun r2 =>
 some r2
theorem F169_ok (K : Nat) (a1 : List GMsg) (r : List GMsg) (hF : F169 K a1 = some r) : Evt E H 169 [.one (.sl (len a1) (flat eGMsg a1))] (F169_res r) := by
 rw [F169] at hF
 refine bind_some hF (fun r2 h3 hF => ?_)
 obtain rfl := Option.some.inj hF
 have pz : HoldAll E H hn169 [.call 172 [.one (.sl (len a1) (flat eGMsg a1)), .one (.lit (fnV 173))] (F172_173_res r2), .test (leadsAny (Res.mk [(.one (.own 130 (.sl (len r2) (flat eGMsg r2))))] [])) false] := ⟨(F172_173_ok K K a1 _ h3), (leads_ok (by simp [leadsAny, RV.leads, RC.leads, leadsT, hasSl_lit, flat_ns eGMsg_ns])), trivial⟩
 exact fn_playC hn169 (r := F169_res r2) pz (by kernel_rfl) (by kernel_rfl)
noncomputable def hn150 : Hint := { H 150 with nt := 72, prot := 0 }
noncomputable def c150_0 : Code := loopOf E 150 0
def F150_res (r1 : List GMsg × Int) : Res := ⟨[(.one (.own 130 (.sl (len r1.1) (flat eGMsg r1.1)))), (.one (.im (.lit (.int .i64 r1.2))))], []⟩
def F150_l0_0 (K : Nat) (a1 : Int) (r2 : List GMsg) : Nat → List GMsg → Int → Option ((Int) ⊕ (List GMsg))
 | 0, _, _ => none
 | k + 1, v3, v4 =>
  bif (ilt v4 (nlen (len r2))) then
   (bif (inr v4 (len r2)) then
   (elAt r2 v4).bind fun x5 =>
   bif (ilt 0 (nlen (len v3))) then
    (bif (inr (wsub .i64 (nlen (len v3)) 1) (len v3)) then
    (elAt v3 (wsub .i64 (nlen (len v3)) 1)).bind fun x6 =>
    bif (ieq x6.To x5.To) then
     ((F97 K a1 x6.V x5.V).bind fun r7 =>
     bif (ieq r7.2 0) then
      (F150_l0_0 K a1 r2 k (putAt v3 (wsub .i64 (nlen (len v3)) 1) (GMsg.mk x6.To r7.1)) (wadd .i64 v4 1))
     else
     some (.inl r7.2))
    else
    bif (apok (len v3) 1 16) then
    F150_l0_0 K a1 r2 k (appL v3 [x5]) (wadd .i64 v4 1)
    else none
    else none)
   else
   bif (apok (len v3) 1 16) then
   F150_l0_0 K a1 r2 k (appL v3 [x5]) (wadd .i64 v4 1)
   else none
   else none)
  else
  some (.inr v3)
def F150_l0_0_S (a1 : Int) (r2 : List GMsg) (v3 : List GMsg) (v4 : Int) : TS := .on [0, 1, 512, 513, 1472, 1473, 1536, 1537, 1600, 1601] [(0, ⟨.one, 0, nob⟩), (1, ⟨.im, 0, (.lit (.int .i64 a1))⟩), (512, ⟨.one, 0, nob⟩), (513, ⟨(.own 130), 0, (.sl (len v3) (flat eGMsg v3))⟩), (1472, ⟨.one, 0, nob⟩), (1473, ⟨(.own 130), 0, (.sl (len r2) (flat eGMsg r2))⟩), (1536, ⟨.one, 0, nob⟩), (1537, ⟨.im, 0, (.lit (.int .i64 (nlen (len r2))))⟩), (1600, ⟨.one, 0, nob⟩), (1601, ⟨.im, 0, (.lit (.int .i64 v4))⟩)]
def F150_l0_0_X0 (a1 : Int) (r2 : List GMsg) (w3 : Int) : TS := .on [256, 257, 320, 321] [(256, ⟨.one, 0, nob⟩), (257, ⟨(.own 130), 0, (.sl 0 [])⟩), (320, ⟨.one, 0, nob⟩), (321, ⟨.im, 0, (.lit (.int .i64 w3))⟩)]
def F150_l0_0_X1 (a1 : Int) (r2 : List GMsg) (w3 : List GMsg) : TS := .on [512, 513] [(512, ⟨.one, 0, nob⟩), (513, ⟨(.own 130), 0, (.sl (len w3) (flat eGMsg w3))⟩)]
theorem F150_l0_0_ok (K : Nat) (a1 : Int) (r2 : List GMsg) : ∀ (k : Nat) (v3 : List GMsg) (v4 : Int) (r : (Int) ⊕ (List GMsg)), F150_l0_0 K a1 r2 k v3 v4 = some r → (Sum.elim (fun w => LoopEv E H hn150 0 c150_0 (F150_l0_0_S a1 r2 v3 v4) .ret (F150_l0_0_X0 a1 r2 w)) (fun w => LoopEv E H hn150 0 c150_0 (F150_l0_0_S a1 r2 v3 v4) (.exit 0) (F150_l0_0_X1 a1 r2 w))) r := by
 intro k
 induction k with
 | zero => intro v3 v4 r hF; cases hF
 | succ k ih =>
  intro v3 v4 r hF
  rw [F150_l0_0] at hF
  refine cond_some hF (fun h5 hF => ?_) (fun h5 hF => ?_)
  ·
   refine cond_some hF (fun h6 hF => ?_) (fun _ hF => nomatch hF)
   refine bind_some hF (fun x7 h8 hF => ?_)
   have q19 : PQ hn150 fun l => (.test (ilt v4 (nlen (len r2))) true :: .test (inr v4 (len r2)) true :: .sub (flat eGMsg r2) (nidx v4 2) 2 [(.lit (.int .i64 x7.To)), (.lit (.int .i64 x7.V))] :: .int (nlen (len v3)) (nlen (len v3)) :: l) := fun z => ⟨h5, h6, ⟨rfl, sub_flat0 eGMsg_len h8 2 (by decide)⟩, rfl, z⟩
   refine cond_some hF (fun h9 hF => ?_) (fun h9 hF => ?_)
   ·
    refine cond_some hF (fun h10 hF => ?_) (fun _ hF => nomatch hF)
    refine bind_some hF (fun x11 h12 hF => ?_)
    have q20 : PQ hn150 fun l => (.test (beqb (igt (nlen (len v3)) 0) true) true :: .test (beqb (igt (nlen (len v3)) 0) true) true :: .test (beqb (igt (nlen (len v3)) 0) true) true :: .int (wsub .i64 (nlen (len v3)) 1) (wsub .i64 (nlen (len v3)) 1) :: .test (beqb (igt (nlen (len v3)) 0) true) true :: .test (inr (wsub .i64 (nlen (len v3)) 1) (len v3)) true :: .test (beqb (igt (nlen (len v3)) 0) true) true :: .test (beqb (igt (nlen (len v3)) 0) true) true :: .sub (flat eGMsg v3) (nadd (nidx (wsub .i64 (nlen (len v3)) 1) 2) 0) 1 [(.lit (.int .i64 x11.To))] :: .test (beqb (igt (nlen (len v3)) 0) true) true :: .test (beqb (igt (nlen (len v3)) 0) true) true :: .test (beqb (igt (nlen (len v3)) 0) true) true :: .test (igt (nlen (len v3)) 0) true :: l) := fun z => ⟨(beqb_t (igt_eq h9)), (beqb_t (igt_eq h9)), (beqb_t (igt_eq h9)), rfl, (beqb_t (igt_eq h9)), h10, (beqb_t (igt_eq h9)), (beqb_t (igt_eq h9)), ⟨rfl, sub_flat eGMsg_len h12 0 1 (by decide)⟩, (beqb_t (igt_eq h9)), (beqb_t (igt_eq h9)), (beqb_t (igt_eq h9)), (igt_eq h9), z⟩
    refine cond_some hF (fun h13 hF => ?_) (fun h13 hF => ?_)
    ·
     refine bind_some hF (fun r14 h15 hF => ?_)
     have q21 : PQ hn150 fun l => (.test (ieq x11.To x7.To) true :: .int (wsub .i64 (nlen (len v3)) 1) (wsub .i64 (nlen (len v3)) 1) :: .test (inr (wsub .i64 (nlen (len v3)) 1) (len v3)) true :: .sub (flat eGMsg v3) (nadd (nidx (wsub .i64 (nlen (len v3)) 1) 2) 1) 1 [(.lit (.int .i64 x11.V))] :: .call 97 [.one (.lit (.int .i64 a1)), .one (.lit (.int .i64 x11.V)), .one (.lit (.int .i64 x7.V))] (F97_res r14) :: .test (leadsAny (Res.mk [(.one (.im (.lit (.int .i64 r14.1)))), (.one (.im (.lit (.int .i64 r14.2))))] [])) false :: l) := fun z => ⟨h13, rfl, h10, ⟨rfl, sub_flat eGMsg_len h12 1 1 (by decide)⟩, (F97_ok K a1 x11.V x7.V _ h15), (leads_ok (by simp [leadsAny, RV.leads, RC.leads, leadsT, hasSl_lit, flat_ns eGMsg_ns])), z⟩
     refine cond_some hF (fun h16 hF => ?_) (fun h16 hF => ?_)
     ·
      have pz : HoldAll E H hn150 [.test (ine r14.2 0) false, .int (wsub .i64 (nlen (len v3)) 1) (wsub .i64 (nlen (len v3)) 1), .test (inr (wsub .i64 (nlen (len v3)) 1) (len v3)) true, .test (lfits (nadd (nidx (wsub .i64 (nlen (len v3)) 1) 2) 1) 1 (flat eGMsg v3)) true, .sl (len v3) (lset (flat eGMsg v3) (nadd (nidx (wsub .i64 (nlen (len v3)) 1) 2) 1) [(.lit (.int .i64 r14.1))]) (len (α := GMsg) (putAt v3 (wsub .i64 (nlen (len v3)) 1) (GMsg.mk x11.To r14.1))) (flat eGMsg (putAt v3 (wsub .i64 (nlen (len v3)) 1) (GMsg.mk x11.To r14.1))), .int (wadd .i64 v4 1) (wadd .i64 v4 1)] := ⟨(ine_t h16), rfl, h10, (lfits_flat eGMsg_len h12 1 _ (by decide)), (set_ok eGMsg_len h12 1 _ (by simp) rfl), rfl, trivial⟩
      have h0 := ih _ _ _ hF
      have hn := fun ex ts' => loop_nextC (h := hn150) (l := 0) (c := c150_0) (ts := F150_l0_0_S a1 r2 v3 v4) (ts1 := (F150_l0_0_S a1 r2 (putAt v3 (wsub .i64 (nlen (len v3)) 1) (GMsg.mk x11.To r14.1)) (wadd .i64 v4 1))) (ex := ex) (ts' := ts') (q19 (q20 (q21 pz))) (by kernel_rfl)
      cases r with
      | inl w => exact hn _ _ h0
      | inr w => exact hn _ _ h0
     obtain rfl := Option.some.inj hF
     have pz : HoldAll E H hn150 [.test (ine r14.2 0) true] := ⟨(ine_f h16), trivial⟩
     exact loop_endC (h := hn150) (l := 0) (c := c150_0) (ts := F150_l0_0_S a1 r2 v3 v4) (ts' := F150_l0_0_X0 a1 r2 r14.2) (ex := .ret) (q19 (q20 (q21 pz))) (by kernel_rfl) trivial
    refine cond_some hF (fun h17 hF => ?_) (fun _ hF => nomatch hF)
    have pz : HoldAll E H hn150 [.test (ieq x11.To x7.To) false, .test (leqm [(.lit (.int .i64 x7.To)), (.lit (.int .i64 x7.V))] 1 2) true, .test (apok (len v3) 1 16) true, .sl (nadd (len v3) 1) (lapp (flat eGMsg v3) [(.lit (.int .i64 x7.To)), (.lit (.int .i64 x7.V))]) (len (α := GMsg) (appL v3 [x7])) (flat eGMsg (appL v3 [x7])), .int (wadd .i64 v4 1) (wadd .i64 v4 1)] := ⟨h13, rfl, h17, (app_ok (enc := eGMsg) (v3 : List GMsg) [x7]), rfl, trivial⟩
    have h0 := ih _ _ _ hF
    have hn := fun ex ts' => loop_nextC (h := hn150) (l := 0) (c := c150_0) (ts := F150_l0_0_S a1 r2 v3 v4) (ts1 := (F150_l0_0_S a1 r2 (appL v3 [x7]) (wadd .i64 v4 1))) (ex := ex) (ts' := ts') (q19 (q20 pz)) (by kernel_rfl)
    cases r with
    | inl w => exact hn _ _ h0
    | inr w => exact hn _ _ h0
   refine cond_some hF (fun h18 hF => ?_) (fun _ hF => nomatch hF)
   have pz : HoldAll E H hn150 [.test (beqb (igt (nlen (len v3)) 0) true) false, .test (beqb (igt (nlen (len v3)) 0) true) false, .test (beqb (igt (nlen (len v3)) 0) true) false, .test (beqb (igt (nlen (len v3)) 0) true) false, .test (beqb (igt (nlen (len v3)) 0) true) false, .test (beqb (igt (nlen (len v3)) 0) true) false, .test (beqb (igt (nlen (len v3)) 0) true) false, .test (beqb (igt (nlen (len v3)) 0) true) false, .test (beqb (igt (nlen (len v3)) 0) true) false, .test (igt (nlen (len v3)) 0) false, .test false false, .test (leqm [(.lit (.int .i64 x7.To)), (.lit (.int .i64 x7.V))] 1 2) true, .test (apok (len v3) 1 16) true, .sl (nadd (len v3) 1) (lapp (flat eGMsg v3) [(.lit (.int .i64 x7.To)), (.lit (.int .i64 x7.V))]) (len (α := GMsg) (appL v3 [x7])) (flat eGMsg (appL v3 [x7])), .int (wadd .i64 v4 1) (wadd .i64 v4 1)] := ⟨(beqb_t (igt_eq h9)), (beqb_t (igt_eq h9)), (beqb_t (igt_eq h9)), (beqb_t (igt_eq h9)), (beqb_t (igt_eq h9)), (beqb_t (igt_eq h9)), (beqb_t (igt_eq h9)), (beqb_t (igt_eq h9)), (beqb_t (igt_eq h9)), (igt_eq h9), rfl, rfl, h18, (app_ok (enc := eGMsg) (v3 : List GMsg) [x7]), rfl, trivial⟩
   have h0 := ih _ _ _ hF
   have hn := fun ex ts' => loop_nextC (h := hn150) (l := 0) (c := c150_0) (ts := F150_l0_0_S a1 r2 v3 v4) (ts1 := (F150_l0_0_S a1 r2 (appL v3 [x7]) (wadd .i64 v4 1))) (ex := ex) (ts' := ts') (q19 pz) (by kernel_rfl)
   cases r with
   | inl w => exact hn _ _ h0
   | inr w => exact hn _ _ h0
  obtain rfl := Option.some.inj hF
  have pz : HoldAll E H hn150 [.test (ilt v4 (nlen (len r2))) false] := ⟨h5, trivial⟩
  exact loop_endC (h := hn150) (l := 0) (c := c150_0) (ts := F150_l0_0_S a1 r2 v3 v4) (ts' := F150_l0_0_X1 a1 r2 v3) (ex := (.exit 0)) pz (by kernel_rfl) trivial
def F150 (K : Nat) (a1 : Int) (a2 : List GMsg) : Option (List GMsg × Int) :=
 (F97 K a1 0 0).bind fun r3 =>
 bif (ieq r3.2 0) then
  ((F169 K a2).bind fun r4 =>
  (F150_l0_0 K a1 r4 K [] 0).bind fun y5 =>
  Sum.elim (fun w6 =>
   some ([], w6))
   (fun w7 =>
   some (w7, 0)) y5)
 else
 some ([], r3.2)
theorem F150_ok (K : Nat) (a1 : Int) (a2 : List GMsg) (r : List GMsg × Int) (hF : F150 K a1 a2 = some r) : Evt E H 150 [.one (.lit (.int .i64 a1)), .one (.sl (len a2) (flat eGMsg a2))] (F150_res r) := by
 rw [F150] at hF
 refine bind_some hF (fun r3 h4 hF => ?_)
 refine cond_some hF (fun h5 hF => ?_) (fun h5 hF => ?_)
 ·
  refine bind_some hF (fun r6 h7 hF => ?_)
  have q12 : PQ hn150 fun l => (.call 97 [.one (.lit (.int .i64 a1)), .one (.lit (.int .i64 0)), .one (.lit (.int .i64 0))] (F97_res r3) :: .test (leadsAny (Res.mk [(.one (.im (.lit (.int .i64 r3.1)))), (.one (.im (.lit (.int .i64 r3.2))))] [])) false :: .test (ine r3.2 0) false :: .call 169 [.one (.sl (len a2) (flat eGMsg a2))] (F169_res r6) :: .test (leadsAny (Res.mk [(.one (.own 130 (.sl (len r6) (flat eGMsg r6))))] [])) false :: .int (nlen (len r6)) (nlen (len r6)) :: l) := fun z => ⟨(F97_ok K a1 0 0 _ h4), (leads_ok (by simp [leadsAny, RV.leads, RC.leads, leadsT, hasSl_lit, flat_ns eGMsg_ns])), (ine_t h5), (F169_ok K a2 _ h7), (leads_ok (by simp [leadsAny, RV.leads, RC.leads, leadsT, hasSl_lit, flat_ns eGMsg_ns])), rfl, z⟩
  refine bind_some hF (fun y9 h8 hF => ?_)
  refine sum_some hF (fun w10 hx hF => ?_) (fun w11 hx hF => ?_)
  ·
   subst hx
   obtain rfl := Option.some.inj hF
   have pz : HoldAll E H hn150 [.loop 0 c150_0 (F150_l0_0_S a1 r6 [] 0) .ret (F150_l0_0_X0 a1 r6 w10)] := ⟨(F150_l0_0_ok K a1 r6 K [] 0 _ h8), trivial⟩
   exact fn_playC hn150 (r := F150_res ([], w10)) (q12 pz) (by kernel_rfl) (by kernel_rfl)
  subst hx
  obtain rfl := Option.some.inj hF
  have pz : HoldAll E H hn150 [.loop 0 c150_0 (F150_l0_0_S a1 r6 [] 0) (.exit 0) (F150_l0_0_X1 a1 r6 w11)] := ⟨(F150_l0_0_ok K a1 r6 K [] 0 _ h8), trivial⟩
  exact fn_playC hn150 (r := F150_res (w11, 0)) (q12 pz) (by kernel_rfl) (by kernel_rfl)
 obtain rfl := Option.some.inj hF
 have pz : HoldAll E H hn150 [.call 97 [.one (.lit (.int .i64 a1)), .one (.lit (.int .i64 0)), .one (.lit (.int .i64 0))] (F97_res r3), .test (leadsAny (Res.mk [(.one (.im (.lit (.int .i64 r3.1)))), (.one (.im (.lit (.int .i64 r3.2))))] [])) false, .test (ine r3.2 0) true] := ⟨(F97_ok K a1 0 0 _ h4), (leads_ok (by simp [leadsAny, RV.leads, RC.leads, leadsT, hasSl_lit])), (ine_f h5), trivial⟩
 exact fn_playC hn150 (r := F150_res ([], r3.2)) pz (by kernel_rfl) (by kernel_rfl)
theorem F173_spec (K : Nat) (y x : GMsg) : F173 K y x = some (!(leM x y)) := by
 rw [F173, leM]
 cases h1 : ilt y.To x.To
 · cases h2 : ieq y.To x.To
   · have := ilt_f.1 h1; have := ieq_f.1 h2
     rw [ilt_iff.2 (by omega : x.To < y.To)]; rfl
   · have e := ieq_iff.1 h2
     rw [ilt_f.2 (by omega : y.To ≤ x.To), ieq_iff.2 e.symm]
     simp only [cond_false, cond_true, Bool.false_or, Bool.true_and]
     congr 1
     cases h3 : ilt y.V x.V
     · rw [ile_iff.2 (by have := ilt_f.1 h3; omega)]; rfl
     · rw [ile_f.2 (by have := ilt_iff.1 h3; omega)]; rfl
 · have := ilt_iff.1 h1
   rw [ilt_f.2 (by omega : y.To ≤ x.To), ieq_f.2 (by omega : x.To ≠ y.To)]; rfl
theorem merge_ok {K : Nat} : ∀ (k : Nat) (a b c : List GMsg), a.length + b.length < k → a.length + b.length + c.length < 100000 → srtM (c ++ a) → srtM (c ++ b) →
   ∃ a' b' c', F172_173_l0_0 K k a b c = some (a', (b', c')) ∧ (c' ++ a' ++ b').Perm (c ++ a ++ b) ∧ srtM (c' ++ a' ++ b') := by
 intro k
 induction k with
 | zero => intro a b c h; omega
 | succ k ih =>
   intro a b c hk hl ha hb
   rw [F172_173_l0_0]
   cases a with
   | nil => exact ⟨[], b, c, rfl, List.Perm.refl _, by simpa using hb⟩
   | cons x a =>
     cases b with
     | nil =>
       refine ⟨x :: a, [], c, ?_, List.Perm.refl _, by simpa using ha⟩
       rw [ilt_iff.2 (show (0 : Int) < nlen (len (x :: a)) by show (0 : Int) < ((a.length + 1 : Nat) : Int); omega)]; rfl
     | cons y b =>
       simp only [List.length_cons] at hk hl
       have i1 : ilt 0 (nlen (len (x :: a))) = true := ilt_iff.2 (by show (0 : Int) < ((a.length + 1 : Nat) : Int); omega)
       have i2 : ilt 0 (nlen (len (y :: b))) = true := ilt_iff.2 (by show (0 : Int) < ((b.length + 1 : Nat) : Int); omega)
       have r1 : inr 0 (len (x :: a)) = true := decide_eq_true ⟨by omega, by show (0 : Int) < (((a.length + 1 : Nat)) : Int); omega⟩
       have r2 : inr 0 (len (y :: b)) = true := decide_eq_true ⟨by omega, by show (0 : Int) < (((b.length + 1 : Nat)) : Int); omega⟩
       have g1 : elAt (x :: a) 0 = some x := rfl
       have g2 : elAt (y :: b) 0 = some y := rfl
       have ap : apok (len c) 1 16 = true := decide_eq_true ⟨by show c.length + 1 ≤ _; omega, by show (c.length + 1) * 16 ≤ _; omega⟩
       have b1 : bnd 1 (nlen (len (x :: a))) (len (x :: a)) = true := by simp [bnd, nlen, len]; omega
       have b2 : bnd 1 (nlen (len (y :: b))) (len (y :: b)) = true := by simp [bnd, nlen, len]; omega
       have s1 : subL (x :: a) 1 (nlen (len (x :: a))) = a := by simp [subL, nlen, len]
       have s2 : subL (y :: b) 1 (nlen (len (y :: b))) = b := by simp [subL, nlen, len]
       rw [i1, i2, r1, r2, g1, g2, ap, b1, b2, s1, s2]
       simp only [cond_true, Option.bind_some, F173_spec]
       have ha' := List.pairwise_append.1 ha
       have hb' := List.pairwise_append.1 hb
       have hxa := List.pairwise_cons.1 ha'.2.1
       have hyb := List.pairwise_cons.1 hb'.2.1
       cases hxy : leM x y
       · have hyx := leM_total hxy
         obtain ⟨a', b', c', e, p, q⟩ := ih (x :: a) b (c ++ [y]) (by simp; omega) (by simp; omega)
           (by
             refine List.pairwise_append.2 ⟨List.pairwise_append.2 ⟨hb'.1, List.pairwise_singleton _ _, fun u hu w hw => ?_⟩, ha'.2.1, fun u hu w hw => ?_⟩
             · rw [List.mem_singleton.1 hw]; exact hb'.2.2 u hu y List.mem_cons_self
             · rcases List.mem_append.1 hu with hu | hu
               · exact ha'.2.2 u hu w hw
               · rw [List.mem_singleton.1 hu]
                 rcases List.mem_cons.1 hw with rfl | hw
                 · exact hyx
                 · exact leM_trans hyx (hxa.1 w hw))
           (by rw [List.append_assoc]; exact hb)
         refine ⟨a', b', c', e, p.trans ?_, q⟩
         have : (c ++ [y] ++ (x :: a) ++ b) = c ++ (y :: (x :: a)) ++ b := by simp
         rw [this, List.append_assoc, List.append_assoc]
         exact List.Perm.append_left c (List.perm_middle (l₁ := x :: a) (a := y) (l₂ := b)).symm
       · obtain ⟨a', b', c', e, p, q⟩ := ih a (y :: b) (c ++ [x]) (by simp; omega) (by simp; omega)
           (by rw [List.append_assoc]; exact ha)
           (by
             refine List.pairwise_append.2 ⟨List.pairwise_append.2 ⟨hb'.1, List.pairwise_singleton _ _, fun u hu w hw => ?_⟩, hb'.2.1, fun u hu w hw => ?_⟩
             · rw [List.mem_singleton.1 hw]; exact ha'.2.2 u hu x List.mem_cons_self
             · rcases List.mem_append.1 hu with hu | hu
               · exact hb'.2.2 u hu w hw
               · rw [List.mem_singleton.1 hu]
                 rcases List.mem_cons.1 hw with rfl | hw
                 · exact hxy
                 · exact leM_trans hxy (hyb.1 w hw))
         refine ⟨a', b', c', e, p.trans ?_, q⟩
         have : (c ++ [x] ++ a ++ (y :: b)) = c ++ (x :: a) ++ (y :: b) := by simp
         rw [this]
theorem F172_spec {K : Nat} : ∀ (d : Nat) (l : List GMsg), l.length < d → l.length < K → l.length < 10000 → F172_173 K d l = some (sortM l) := by
 intro d
 induction d with
 | zero => intro l h; omega
 | succ d ih =>
   intro l hd hK hl
   rw [F172_173]
   cases h2 : ilt (nlen (len l)) 2
   · have h2' : 2 ≤ l.length := by have := ilt_f.1 h2; simp only [nlen, len] at this; omega
     have hq : wquo .i64 (nlen (len l)) 2 = ((l.length / 2 : Nat) : Int) := by
       show IntKind.i64.wrap (((l.length : Nat) : Int).tdiv 2) = _
       rw [Int.tdiv_eq_ediv_of_nonneg (by omega), IntKind.wrap_i64]; omega
     have b1 : bnd 0 ((l.length / 2 : Nat) : Int) (len l) = true := by simp [bnd, len]; omega
     have b2 : bnd ((l.length / 2 : Nat) : Int) (nlen (len l)) (len l) = true := by simp [bnd, len, nlen]; omega
     have s1 : subL l 0 ((l.length / 2 : Nat) : Int) = l.take (l.length / 2) := by simp [subL]; omega
     have s2 : subL l ((l.length / 2 : Nat) : Int) (nlen (len l)) = l.drop (l.length / 2) := by
       simp only [subL, nlen, len, Int.toNat_natCast]
       exact List.take_of_length_le (by rw [List.length_drop]; omega)
     have l1 : (l.take (l.length / 2)).length ≤ l.length / 2 := by rw [List.length_take]; omega
     have l2 : (l.drop (l.length / 2)).length = l.length - l.length / 2 := List.length_drop
     have mk : mkok 0 (nlen (len l)) 16 = true := by simp [mkok, nlen, len]; omega
     obtain ⟨a', b', c', e, p, q⟩ := merge_ok (K := K) K (sortM (l.take (l.length / 2))) (sortM (l.drop (l.length / 2))) [] (by rw [sortM_len, sortM_len]; omega) (by rw [sortM_len, sortM_len]; simp only [List.length_nil]; omega) (by simpa using sortM_srt _) (by simpa using sortM_srt _)
     have er : repL (α := GMsg) 0 (GMsg.mk 0 0) = [] := rfl
     have pl : (c' ++ a' ++ b').Perm l := p.trans (by
       rw [List.nil_append]
       have := (sortM_perm (l.take (l.length / 2))).append (sortM_perm (l.drop (l.length / 2)))
       rwa [List.take_append_drop] at this)
     have ln := pl.length_eq
     rw [List.length_append, List.length_append] at ln
     have a1 : apok (len c') (len a') 16 = true := decide_eq_true ⟨by show c'.length + a'.length ≤ _; omega, by show (c'.length + a'.length) * 16 ≤ _; omega⟩
     have a2 : apok (len (appL c' a')) (len b') 16 = true := decide_eq_true ⟨by show (c' ++ a').length + b'.length ≤ _; rw [List.length_append]; omega, by show ((c' ++ a').length + b'.length) * 16 ≤ _; rw [List.length_append]; omega⟩
     rw [cond_false, hq, b1, b2, s1, s2, ih _ (by omega) (by omega) (by omega), ih _ (by omega) (by omega) (by omega), mk, er]
     simp only [cond_true, Option.bind_some, e, a1, a2]
     rw [sortM_eq q pl]; rfl
   · have h2' : l.length < 2 := by have := ilt_iff.1 h2; simp only [nlen, len] at this; omega
     have ap : apok 0 (len l) 16 = true := decide_eq_true ⟨by show 0 + l.length ≤ _; omega, by show (0 + l.length) * 16 ≤ _; omega⟩
     rw [cond_true, ap, cond_true]
     congr 1
     rw [sortM_eq (l := l) (r := l) ?_ (List.Perm.refl l)]; rfl
     match l, h2' with
     | [], _ => exact List.Pairwise.nil
     | [x], _ => exact List.pairwise_singleton _ _
theorem F169_spec {K : Nat} (l : List GMsg) (hK : l.length < K) (hl : l.length < 10000) : F169 K l = some (sortM l) := by
 rw [F169, F172_spec K l hK hK hl]; rfl
def foldC (p : Int) : List GMsg → GMsg → List GMsg → Int ⊕ List GMsg
 | [], cur, done => .inr (done ++ [cur])
 | x :: r, cur, done => bif ieq cur.To x.To then (bif ieq (foldS p cur.V x.V).2 0 then foldC p r (GMsg.mk cur.To (foldS p cur.V x.V).1) done else .inl (foldS p cur.V x.V).2) else foldC p r x (done ++ [cur])
def foldO (p : Int) : List GMsg → List GMsg → Int ⊕ List GMsg
 | [], done => .inr done
 | x :: r, done => foldC p r x done
def boxO : Int ⊕ List GMsg → List GMsg × Int
 | .inl e => ([], e)
 | .inr s => (s, 0)
def boxS (p : Int) (l : List GMsg) : List GMsg × Int := bif pbad p then ([], 1) else boxO (foldO p (sortM l) [])
theorem put_last {α : Type} (d : List α) (c x : α) : inr (wsub .i64 (nlen (len (d ++ [c]))) 1) (len (d ++ [c])) = true ∧ (d.length < 1000000 → elAt (d ++ [c]) (wsub .i64 (nlen (len (d ++ [c]))) 1) = some c ∧ putAt (d ++ [c]) (wsub .i64 (nlen (len (d ++ [c]))) 1) x = d ++ [x]) ∨ ¬ d.length < 1000000 := by
 by_cases h : d.length < 1000000
 · left
   have w : wsub .i64 (nlen (len (d ++ [c]))) 1 = ((d.length : Nat) : Int) := by
     show IntKind.i64.wrap (((d ++ [c]).length : Int) - 1) = _
     rw [List.length_append, IntKind.wrap_i64]; simp; omega
   rw [w]
   refine ⟨decide_eq_true ⟨by omega, by show (d.length : Int) < ((d ++ [c]).length : Int); simp; omega⟩, fun _ => ⟨by rw [elAt_nat]; simp, ?_⟩⟩
   unfold putAt
   rw [Int.toNat_natCast, List.set_append_right (h := by omega)]; simp
 · right; exact h
theorem F150_spec {K : Nat} (p : Int) (l : List GMsg) (hv : ∀ x ∈ l, i64 x.V) (hK : l.length < K) (hl : l.length < 10000) : F150 K p l = some (boxS p l) := by
 have i0 : i64 0 := by unfold i64; omega
 have hz : (foldS p 0 0).2 = bif pbad p then 1 else 0 := by
   rw [foldS]
   cases pbad p
   · have : addS 0 0 = (0, true) := rfl
     have e : ilt 0 0 = false := rfl
     rw [this, e]
     cases ieq p 5 <;> cases ieq p 4 <;> rfl
   · rfl
 rw [F150, F97_spec K p i0 i0, Option.bind_some, hz, boxS, F169_spec l hK hl]
 cases hb : pbad p
 · let step : GMsg → List GMsg → (List GMsg → Option (Int ⊕ List GMsg)) → Option (Int ⊕ List GMsg) := fun x s c =>
     bif (ilt 0 (nlen (len s))) then
       (bif (inr (wsub .i64 (nlen (len s)) 1) (len s)) then
       (elAt s (wsub .i64 (nlen (len s)) 1)).bind fun y =>
       bif (ieq y.To x.To) then
         ((F97 K p y.V x.V).bind fun r =>
         bif (ieq r.2 0) then
           (c (putAt s (wsub .i64 (nlen (len s)) 1) (GMsg.mk y.To r.1)))
         else
         some (.inl r.2))
       else
       bif (apok (len s) 1 16) then
       c (appL s [x])
       else none
       else none)
     else
     bif (apok (len s) 1 16) then
     c (appL s [x])
     else none
   have hsl : (sortM l).length = l.length := sortM_len l
   have h := scanL (l := sortM l) (L := fun k s i => F150_l0_0 K p (sortM l) k s i) step (fun s => some (.inr s)) (fun k s i _ => rfl) (by omega) (K := K) (by omega) []
   have hw : ∀ (r : List GMsg) (d : List GMsg) (c : GMsg), d.length + r.length < 100000 → i64 c.V → (∀ x ∈ r, i64 x.V) → goL step (fun s => some (.inr s)) r (d ++ [c]) = some (foldC p r c d) := by
     intro r
     induction r with
     | nil => intro d c _ _ _; rfl
     | cons x r ih =>
       intro d c hd hc hr
       simp only [List.length_cons] at hd
       have hx := hr x List.mem_cons_self
       have hr' := fun y hy => hr y (List.mem_cons_of_mem _ hy)
       rw [goL]
       show (bif (ilt 0 (nlen (len (d ++ [c])))) then
         (bif (inr (wsub .i64 (nlen (len (d ++ [c]))) 1) (len (d ++ [c]))) then
         (elAt (d ++ [c]) (wsub .i64 (nlen (len (d ++ [c]))) 1)).bind fun y =>
         bif (ieq y.To x.To) then
           ((F97 K p y.V x.V).bind fun q =>
           bif (ieq q.2 0) then
             (goL step (fun s => some (.inr s)) r (putAt (d ++ [c]) (wsub .i64 (nlen (len (d ++ [c]))) 1) (GMsg.mk y.To q.1)))
           else
           some (.inl q.2))
         else
         bif (apok (len (d ++ [c])) 1 16) then
         goL step (fun s => some (.inr s)) r (appL (d ++ [c]) [x])
         else none
         else none)
       else
       bif (apok (len (d ++ [c])) 1 16) then
       goL step (fun s => some (.inr s)) r (appL (d ++ [c]) [x])
       else none) = _
       have i1 : ilt 0 (nlen (len (d ++ [c]))) = true := ilt_iff.2 (by show (0 : Int) < ((d ++ [c]).length : Int); rw [List.length_append]; simp only [List.length_singleton]; omega)
       have ap : apok (len (d ++ [c])) 1 16 = true := decide_eq_true ⟨by show (d ++ [c]).length + 1 ≤ _; rw [List.length_append]; simp only [List.length_singleton]; omega, by show ((d ++ [c]).length + 1) * 16 ≤ _; rw [List.length_append]; simp only [List.length_singleton]; omega⟩
       rcases put_last d c (GMsg.mk c.To (foldS p c.V x.V).1) with ⟨q1, q2⟩ | q
       · obtain ⟨q2, q3⟩ := q2 (by omega)
         rw [i1, q1, q2, ap]
         simp only [cond_true, Option.bind_some, F97_spec K p hc hx, q3]
         rw [foldC]
         cases ieq c.To x.To
         · rw [cond_false, cond_false]
           exact ih (d ++ [c]) x (by rw [List.length_append]; simp only [List.length_singleton]; omega) hx hr'
         · rw [cond_true, cond_true]
           cases ieq (foldS p c.V x.V).2 0
           · rfl
           · rw [cond_true, cond_true]
             exact ih d _ (by omega) (foldS_i64 hc hx) hr'
       · omega
   have h' : F150_l0_0 K p (sortM l) K [] 0 = some (foldO p (sortM l) []) := by
     rw [show F150_l0_0 K p (sortM l) K [] 0 = _ from h]
     have hs : ∀ x ∈ sortM l, i64 x.V := fun x hx => hv x ((sortM_perm l).mem_iff.1 hx)
     generalize sortM l = m at *
     cases m with
     | nil => rfl
     | cons x r =>
       rw [goL]
       show goL step (fun s => some (.inr s)) r (appL [] [x]) = _
       simp only [List.length_cons] at hsl
       exact hw r [] x (by simp only [List.length_nil]; omega) (hs x List.mem_cons_self) (fun y hy => hs y (List.mem_cons_of_mem _ hy))
   have z0 : ieq (bif false then 1 else 0) 0 = true := rfl
   rw [z0, cond_true, Option.bind_some, h', Option.bind_some]
   cases foldO p (sortM l) [] <;> rfl
 · rfl
def atS (l : List GMsg) (v : Int) : Int × Bool := match l.find? (fun m => ieq m.To v) with
 | some m => (m.V, true)
 | none => (0, false)
def sumF : Option GMsg → Int ⊕ Unit
 | some m => .inl m.V
 | none => .inr ()
theorem at_go (l : List GMsg) (v : Int) : goL (fun (x : GMsg) (_ : Unit) c => bif ieq x.To v then some (.inl x.V) else c ()) (fun _ => some (.inr ())) l () = (some (sumF (l.find? fun m => ieq m.To v)) : Option (Int ⊕ Unit)) := by
 induction l with
 | nil => rfl
 | cons x l ih =>
   rw [goL, List.find?_cons]
   cases h : ieq x.To v
   · exact ih
   · rfl
theorem F149_spec {K : Nat} (l : List GMsg) (v : Int) (hl : l.length < 100000) (hK : l.length < K) : F149 K l v = some (atS l v) := by
 have e : F149_l0_0 K l v K 0 = _ := scanL (l := l) (L := fun k (_ : Unit) i => F149_l0_0 K l v k i) (fun x _ c => bif ieq x.To v then some (.inl x.V) else c ()) (fun _ => some (.inr ())) (fun k s i _ => rfl) (by omega) hK ()
 rw [F149, e, at_go, atS]
 cases l.find? fun m => ieq m.To v <;> rfl
theorem atS_i64 {l : List GMsg} {v : Int} (h : ∀ x ∈ l, i64 x.V) : i64 (atS l v).1 := by
 rw [atS]
 cases hq : l.find? fun m => ieq m.To v with
 | none => show i64 0; unfold i64; omega
 | some m => exact h m (List.mem_of_find?_eq_some hq)
noncomputable def hn139 : Hint := { H 139 with nt := 26, prot := 0 }
noncomputable def c139_0 : Code := loopOf E 139 0
def F139_res (r1 : List Int) : Res := ⟨[(.one (.own 3 (.sl (len r1) (flat (eInt .i64) r1))))], []⟩
def F139_l0_0 (K : Nat) (a1 : GGraph) (a2 : GJob) (a3 : Int) : Nat → List Int → Int → Option (List Int)
 | 0, _, _ => none
 | k + 1, v4, v5 =>
  bif (ilt v5 a1.N) then
   (bif (izero a2.Parts) then none else
   bif (ieq (wrem v5 a2.Parts) a3) then
    (bif (apok (len v4) 1 8) then
    F139_l0_0 K a1 a2 a3 k (appL v4 [v5]) (wadd .i64 v5 1)
    else none)
   else
   F139_l0_0 K a1 a2 a3 k v4 (wadd .i64 v5 1))
  else
  some v4
def F139_l0_0_S (a1 : GGraph) (a2 : GJob) (a3 : Int) (v4 : List Int) (v5 : Int) : TS := .on [128, 129, 192, 193, 194, 256, 257, 258, 259, 260, 448, 449, 512, 513] [(128, ⟨.one, 0, nob⟩), (129, ⟨.im, 0, (.lit (.int .i64 a3))⟩), (192, ⟨(.box 62 2), 0, nob⟩), (193, ⟨.im, 0, (.lit (.int .i64 a1.N))⟩), (194, ⟨.im, 0, (.sl (len a1.Edges) (flat eGEdge a1.Edges))⟩), (256, ⟨(.box 64 4), 0, nob⟩), (257, ⟨.im, 0, (.lit (.int .i64 a2.Prog))⟩), (258, ⟨.im, 0, (.lit (.int .i64 a2.Source))⟩), (259, ⟨.im, 0, (.lit (.int .i64 a2.Limit))⟩), (260, ⟨.im, 0, (.lit (.int .i64 a2.Parts))⟩), (448, ⟨.one, 0, nob⟩), (449, ⟨(.own 3), 0, (.sl (len v4) (flat (eInt .i64) v4))⟩), (512, ⟨.one, 0, nob⟩), (513, ⟨.im, 0, (.lit (.int .i64 v5))⟩)]
def F139_l0_0_X0 (a1 : GGraph) (a2 : GJob) (a3 : Int) (w4 : List Int) : TS := .on [448, 449] [(448, ⟨.one, 0, nob⟩), (449, ⟨(.own 3), 0, (.sl (len w4) (flat (eInt .i64) w4))⟩)]
theorem F139_l0_0_ok (K : Nat) (a1 : GGraph) (a2 : GJob) (a3 : Int) : ∀ (k : Nat) (v4 : List Int) (v5 : Int) (r : List Int), F139_l0_0 K a1 a2 a3 k v4 v5 = some r → LoopEv E H hn139 0 c139_0 (F139_l0_0_S a1 a2 a3 v4 v5) (.exit 0) (F139_l0_0_X0 a1 a2 a3 r) := by
 intro k
 induction k with
 | zero => intro v4 v5 r hF; cases hF
 | succ k ih =>
  intro v4 v5 r hF
  rw [F139_l0_0] at hF
  refine cond_some hF (fun h6 hF => ?_) (fun h6 hF => ?_)
  ·
   refine cond_some hF (fun _ hF => nomatch hF) (fun h7 hF => ?_)
   have q10 : PQ hn139 fun l => (.test (ilt v5 a1.N) true :: .test (izero a2.Parts) false :: .int (wrem v5 a2.Parts) (wrem v5 a2.Parts) :: l) := fun z => ⟨h6, h7, rfl, z⟩
   refine cond_some hF (fun h8 hF => ?_) (fun h8 hF => ?_)
   ·
    refine cond_some hF (fun h9 hF => ?_) (fun _ hF => nomatch hF)
    have pz : HoldAll E H hn139 [.test (ieq (wrem v5 a2.Parts) a3) true, .test (leqm [(.lit (.int .i64 v5))] 1 1) true, .test (apok (len v4) 1 8) true, .sl (nadd (len v4) 1) (lapp (flat (eInt .i64) v4) [(.lit (.int .i64 v5))]) (len (α := Int) (appL v4 [v5])) (flat (eInt .i64) (appL v4 [v5])), .int (wadd .i64 v5 1) (wadd .i64 v5 1)] := ⟨h8, rfl, h9, (app_ok (enc := (eInt .i64)) (v4 : List Int) [v5]), rfl, trivial⟩
    have h0 := ih _ _ _ hF
    have hn := fun ex ts' => loop_nextC (h := hn139) (l := 0) (c := c139_0) (ts := F139_l0_0_S a1 a2 a3 v4 v5) (ts1 := (F139_l0_0_S a1 a2 a3 (appL v4 [v5]) (wadd .i64 v5 1))) (ex := ex) (ts' := ts') (q10 pz) (by kernel_rfl)
    exact hn _ _ h0
   have pz : HoldAll E H hn139 [.test (ieq (wrem v5 a2.Parts) a3) false, .int (wadd .i64 v5 1) (wadd .i64 v5 1)] := ⟨h8, rfl, trivial⟩
   have h0 := ih _ _ _ hF
   have hn := fun ex ts' => loop_nextC (h := hn139) (l := 0) (c := c139_0) (ts := F139_l0_0_S a1 a2 a3 v4 v5) (ts1 := (F139_l0_0_S a1 a2 a3 v4 (wadd .i64 v5 1))) (ex := ex) (ts' := ts') (q10 pz) (by kernel_rfl)
   exact hn _ _ h0
  obtain rfl := Option.some.inj hF
  have pz : HoldAll E H hn139 [.test (ilt v5 a1.N) false] := ⟨h6, trivial⟩
  exact loop_endC (h := hn139) (l := 0) (c := c139_0) (ts := F139_l0_0_S a1 a2 a3 v4 v5) (ts' := F139_l0_0_X0 a1 a2 a3 v4) (ex := (.exit 0)) pz (by kernel_rfl) trivial
def F139 (K : Nat) (a1 : GGraph) (a2 : GJob) (a3 : Int) : Option (List Int) :=
 (F139_l0_0 K a1 a2 a3 K [] 0).bind fun w4 =>
 some w4
theorem F139_ok (K : Nat) (a1 : GGraph) (a2 : GJob) (a3 : Int) (r : List Int) (hF : F139 K a1 a2 a3 = some r) : Evt E H 139 [.agg (eGGraph a1), .agg (eGJob a2), .one (.lit (.int .i64 a3))] (F139_res r) := by
 rw [F139] at hF
 refine bind_some hF (fun w5 h4 hF => ?_)
 obtain rfl := Option.some.inj hF
 have pz : HoldAll E H hn139 [.loop 0 c139_0 (F139_l0_0_S a1 a2 a3 [] 0) (.exit 0) (F139_l0_0_X0 a1 a2 a3 w5)] := ⟨(F139_l0_0_ok K a1 a2 a3 K [] 0 _ h4), trivial⟩
 exact fn_playC hn139 (r := F139_res w5) pz (by kernel_rfl) (by kernel_rfl)
noncomputable def hn75 : Hint := { H 75 with nt := 21, prot := 0 }
def F75_res (r1 : Int) : Res := ⟨[(.one (.im (.lit (.int .i64 r1))))], []⟩
def F75 (K : Nat) (a1 : GJob) (a2 : Int) : Option (Int) :=
 bif (ilt a2 0) then
  (some (-1))
 else
 bif (ilt a1.Parts 1) then
  (some (-1))
 else
 bif (ilt 6 a1.Parts) then
  (some (-1))
 else
 bif (izero a1.Parts) then none else
 some (wrem a2 a1.Parts)
theorem F75_ok (K : Nat) (a1 : GJob) (a2 : Int) (r : Int) (hF : F75 K a1 a2 = some r) : Evt E H 75 [.agg (eGJob a1), .one (.lit (.int .i64 a2))] (F75_res r) := by
 rw [F75] at hF
 refine cond_some hF (fun h3 hF => ?_) (fun h3 hF => ?_)
 ·
  obtain rfl := Option.some.inj hF
  have pz : HoldAll E H hn75 [.test (beqb (ilt a2 0) false) false, .test (beqb (ilt a2 0) false) false, .test (beqb (ilt a2 0) false) false, .test (ilt a2 0) true, .test (beqb true false) false, .test (beqb true false) false, .test (beqb true false) false, .test true true, .test true true] := ⟨(beqb_ft h3), (beqb_ft h3), (beqb_ft h3), h3, (beqb_ft rfl), (beqb_ft rfl), (beqb_ft rfl), rfl, rfl, trivial⟩
  exact fn_playC hn75 (r := F75_res (-1)) pz (by kernel_rfl) (by kernel_rfl)
 have q7 : PQ hn75 fun l => (.test (beqb (ilt a2 0) false) true :: .test (beqb (ilt a2 0) false) true :: .test (beqb (ilt a2 0) false) true :: .test (ilt a2 0) false :: l) := fun z => ⟨(beqb_ff h3), (beqb_ff h3), (beqb_ff h3), h3, z⟩
 refine cond_some hF (fun h4 hF => ?_) (fun h4 hF => ?_)
 ·
  obtain rfl := Option.some.inj hF
  have pz : HoldAll E H hn75 [.test (beqb (ilt a1.Parts 1) false) false, .test (beqb (ilt a1.Parts 1) false) false, .test (beqb (ilt a1.Parts 1) false) false, .test (ilt a1.Parts 1) true, .test true true] := ⟨(beqb_ft h4), (beqb_ft h4), (beqb_ft h4), h4, rfl, trivial⟩
  exact fn_playC hn75 (r := F75_res (-1)) (q7 pz) (by kernel_rfl) (by kernel_rfl)
 have q8 : PQ hn75 fun l => (.test (beqb (ilt a1.Parts 1) false) true :: .test (beqb (ilt a1.Parts 1) false) true :: .test (beqb (ilt a1.Parts 1) false) true :: .test (ilt a1.Parts 1) false :: l) := fun z => ⟨(beqb_ff h4), (beqb_ff h4), (beqb_ff h4), h4, z⟩
 refine cond_some hF (fun h5 hF => ?_) (fun h5 hF => ?_)
 ·
  obtain rfl := Option.some.inj hF
  have pz : HoldAll E H hn75 [.test (igt a1.Parts 6) true] := ⟨(igt_eq h5), trivial⟩
  exact fn_playC hn75 (r := F75_res (-1)) (q7 (q8 pz)) (by kernel_rfl) (by kernel_rfl)
 refine cond_some hF (fun _ hF => nomatch hF) (fun h6 hF => ?_)
 obtain rfl := Option.some.inj hF
 have pz : HoldAll E H hn75 [.test (igt a1.Parts 6) false, .test (izero a1.Parts) false, .int (wrem a2 a1.Parts) (wrem a2 a1.Parts)] := ⟨(igt_eq h5), h6, rfl, trivial⟩
 exact fn_playC hn75 (r := F75_res (wrem a2 a1.Parts)) (q7 (q8 pz)) (by kernel_rfl) (by kernel_rfl)
noncomputable def hn138 : Hint := { H 138 with nt := 22, prot := 0 }
def F138_res (r1 : Int) : Res := ⟨[(.one (.im (.lit (.int .i64 r1))))], []⟩
def F138 (K : Nat) (a1 : Int) (a2 : Int) (a3 : Int) : Option (Int) :=
 bif (ilt a3 0) then
  (some 0)
 else
 bif (ile a2 a3) then
  (some 0)
 else
 bif (izero a2) then none else
 some (wquo .i64 (wsub .i64 (wadd .i64 (wsub .i64 a1 a3) a2) 1) a2)
theorem F138_ok (K : Nat) (a1 : Int) (a2 : Int) (a3 : Int) (r : Int) (hF : F138 K a1 a2 a3 = some r) : Evt E H 138 [.one (.lit (.int .i64 a1)), .one (.lit (.int .i64 a2)), .one (.lit (.int .i64 a3))] (F138_res r) := by
 rw [F138] at hF
 refine cond_some hF (fun h4 hF => ?_) (fun h4 hF => ?_)
 ·
  obtain rfl := Option.some.inj hF
  have pz : HoldAll E H hn138 [.test (beqb (ilt a3 0) false) false, .test (beqb (ilt a3 0) false) false, .test (beqb (ilt a3 0) false) false, .test (ilt a3 0) true, .test true true] := ⟨(beqb_ft h4), (beqb_ft h4), (beqb_ft h4), h4, rfl, trivial⟩
  exact fn_playC hn138 (r := F138_res 0) pz (by kernel_rfl) (by kernel_rfl)
 have q7 : PQ hn138 fun l => (.test (beqb (ilt a3 0) false) true :: .test (beqb (ilt a3 0) false) true :: .test (beqb (ilt a3 0) false) true :: .test (ilt a3 0) false :: l) := fun z => ⟨(beqb_ff h4), (beqb_ff h4), (beqb_ff h4), h4, z⟩
 refine cond_some hF (fun h5 hF => ?_) (fun h5 hF => ?_)
 ·
  obtain rfl := Option.some.inj hF
  have pz : HoldAll E H hn138 [.test (ige a3 a2) true] := ⟨(ige_eq h5), trivial⟩
  exact fn_playC hn138 (r := F138_res 0) (q7 pz) (by kernel_rfl) (by kernel_rfl)
 refine cond_some hF (fun _ hF => nomatch hF) (fun h6 hF => ?_)
 obtain rfl := Option.some.inj hF
 have pz : HoldAll E H hn138 [.test (ige a3 a2) false, .int (wsub .i64 a1 a3) (wsub .i64 a1 a3), .int (wadd .i64 (wsub .i64 a1 a3) a2) (wadd .i64 (wsub .i64 a1 a3) a2), .int (wsub .i64 (wadd .i64 (wsub .i64 a1 a3) a2) 1) (wsub .i64 (wadd .i64 (wsub .i64 a1 a3) a2) 1), .test (izero a2) false, .int (wquo .i64 (wsub .i64 (wadd .i64 (wsub .i64 a1 a3) a2) 1) a2) (wquo .i64 (wsub .i64 (wadd .i64 (wsub .i64 a1 a3) a2) 1) a2)] := ⟨(ige_eq h5), rfl, rfl, rfl, h6, rfl, trivial⟩
 exact fn_playC hn138 (r := F138_res (wquo .i64 (wsub .i64 (wadd .i64 (wsub .i64 a1 a3) a2) 1) a2)) (q7 pz) (by kernel_rfl) (by kernel_rfl)
noncomputable def hn77 : Hint := { H 77 with nt := 18, prot := 0 }
def F77_res (r1 : Int) : Res := ⟨[(.one (.im (.lit (.int .i64 r1))))], []⟩
def F77 (K : Nat) (a1 : GGraph) (a2 : GJob) (a3 : Int) : Option (Int) :=
 (F94 K a1 a2).bind fun r4 =>
 bif (ieq r4 0) then
  ((F138 K a1.N a2.Parts a3).bind fun r5 =>
  bif (ilt 0 r5) then
   (some r5)
  else
  some 0)
 else
 some 0
theorem F77_ok (K : Nat) (a1 : GGraph) (a2 : GJob) (a3 : Int) (r : Int) (hF : F77 K a1 a2 a3 = some r) : Evt E H 77 [.agg (eGGraph a1), .agg (eGJob a2), .one (.lit (.int .i64 a3))] (F77_res r) := by
 rw [F77] at hF
 refine bind_some hF (fun r4 h5 hF => ?_)
 refine cond_some hF (fun h6 hF => ?_) (fun h6 hF => ?_)
 ·
  refine bind_some hF (fun r7 h8 hF => ?_)
  have q10 : PQ hn77 fun l => (.call 94 [.agg (eGGraph a1), .agg (eGJob a2)] (F94_res r4) :: .test (leadsAny (Res.mk [(.one (.im (.lit (.int .i64 r4))))] [])) false :: .test (ine r4 0) false :: .call 138 [.one (.lit (.int .i64 a1.N)), .one (.lit (.int .i64 a2.Parts)), .one (.lit (.int .i64 a3))] (F138_res r7) :: .test (leadsAny (Res.mk [(.one (.im (.lit (.int .i64 r7))))] [])) false :: l) := fun z => ⟨(F94_ok K a1 a2 _ h5), (leads_ok (by simp [leadsAny, RV.leads, RC.leads, leadsT, hasSl_lit, flat_ns eGJob_ns])), (ine_t h6), (F138_ok K a1.N a2.Parts a3 _ h8), (leads_ok (by simp [leadsAny, RV.leads, RC.leads, leadsT, hasSl_lit, flat_ns eGJob_ns])), z⟩
  refine cond_some hF (fun h9 hF => ?_) (fun h9 hF => ?_)
  ·
   obtain rfl := Option.some.inj hF
   have pz : HoldAll E H hn77 [.test (igt r7 0) true] := ⟨(igt_eq h9), trivial⟩
   exact fn_playC hn77 (r := F77_res r7) (q10 pz) (by kernel_rfl) (by kernel_rfl)
  obtain rfl := Option.some.inj hF
  have pz : HoldAll E H hn77 [.test (igt r7 0) false] := ⟨(igt_eq h9), trivial⟩
  exact fn_playC hn77 (r := F77_res 0) (q10 pz) (by kernel_rfl) (by kernel_rfl)
 obtain rfl := Option.some.inj hF
 have pz : HoldAll E H hn77 [.call 94 [.agg (eGGraph a1), .agg (eGJob a2)] (F94_res r4), .test (leadsAny (Res.mk [(.one (.im (.lit (.int .i64 r4))))] [])) false, .test (ine r4 0) true] := ⟨(F94_ok K a1 a2 _ h5), (leads_ok (by simp [leadsAny, RV.leads, RC.leads, leadsT, hasSl_lit, flat_ns eGJob_ns])), (ine_f h6), trivial⟩
 exact fn_playC hn77 (r := F77_res 0) pz (by kernel_rfl) (by kernel_rfl)
theorem scanN {σ β : Type} {N : Int} {L : Nat → σ → Int → Option β} (step : Nat → σ → (σ → Option β) → Option β) (fin : σ → Option β)
   (h : ∀ k s (i : Nat), i ≤ N.toNat → L (k + 1) s i = bif ilt i N then step i s (fun s' => L k s' (wadd .i64 i 1)) else fin s) (hN : N ≤ 1000000) {K : Nat} (hK : N.toNat < K) (s : σ) :
   L K s 0 = goL step fin (List.range N.toNat) s := by
 have hw : ∀ (k : Nat) (s : σ) (i : Nat), N.toNat - i < k → i ≤ N.toNat → L k s i = goL step fin ((List.range N.toNat).drop i) s := by
   intro k
   induction k with
   | zero => intro s i h; omega
   | succ k ih =>
     intro s i hk hi
     rw [h k s i hi]
     by_cases hlt : i < N.toNat
     · have e : (List.range N.toNat).drop i = i :: (List.range N.toNat).drop (i + 1) := by
         rw [List.drop_eq_getElem_cons (by simpa using hlt)]; simp
       rw [ilt_iff.2 (by omega : (i : Int) < N), cond_true, e, goL]
       congr 1
       funext s'
       rw [wadd_nat (by omega)]
       exact ih s' (i + 1) (by omega) (by omega)
     · have e : (List.range N.toNat).drop i = [] := List.drop_eq_nil_of_le (by simp; omega)
       rw [ilt_f.2 (by omega : N ≤ (i : Int)), cond_false, e]; rfl
 have := hw K s 0 (by omega) (by omega)
 rw [List.drop_zero] at this
 exact this
def homeS (j : GJob) (v : Int) : Int := bif ilt v 0 || (ilt j.Parts 1 || ilt 6 j.Parts) then -1 else v % j.Parts
theorem wrem_emod {a b : Int} (h : 0 ≤ a) : wrem a b = a % b := by
 show Int.tmod _ _ = _
 exact Int.tmod_eq_emod_of_nonneg h
theorem F75_spec (K : Nat) (j : GJob) (v : Int) : F75 K j v = some (homeS j v) := by
 rw [F75, homeS]
 cases h0 : ilt v 0
 · cases h1 : ilt j.Parts 1
   · cases h2 : ilt 6 j.Parts
     · have v0 := ilt_f.1 h0
       have p1 := ilt_f.1 h1
       have hz : izero j.Parts = false := decide_eq_false (by omega)
       rw [hz, wrem_emod v0]; rfl
     · rfl
   · rfl
 · rfl
def vertsN (n parts : Nat) (p : Int) : List Nat := (List.range n).filter fun v => ieq ((v % parts : Nat) : Int) p
def vertsS (g : GGraph) (j : GJob) (p : Int) : List Nat := vertsN g.N.toNat j.Parts.toNat p
theorem F139_spec {K : Nat} (hK : 100 ≤ K) {g : GGraph} {j : GJob} (h1 : 1 ≤ j.Parts) (h2 : j.Parts ≤ 6) (hn : g.N ≤ 24) (p : Int) : F139 K g j p = some ((vertsS g j p).map Int.ofNat) := by
 let step : Nat → List Int → (List Int → Option (List Int)) → Option (List Int) := fun i s c =>
   bif (izero j.Parts) then none else bif (ieq (wrem (i : Int) j.Parts) p) then (bif (apok (len s) 1 8) then c (appL s [(i : Int)]) else none) else c s
 have h := scanN (N := g.N) (L := fun k s i => F139_l0_0 K g j p k s i) step (fun s => some s) (fun k s i _ => rfl) (by omega) (K := K) (by omega) []
 have hz : izero j.Parts = false := decide_eq_false (by omega)
 obtain ⟨q, hq⟩ := Int.eq_ofNat_of_zero_le (show 0 ≤ j.Parts by omega)
 have hw : ∀ (l : List Nat) (s : List Int), s.length + l.length ≤ 1000 → goL step (fun s => some s) l s = some (s ++ (l.filter fun v => ieq ((v % j.Parts.toNat : Nat) : Int) p).map Int.ofNat) := by
   intro l
   induction l with
   | nil => intro s _; simp [goL]
   | cons v l ih =>
     intro s hs
     simp only [List.length_cons] at hs
     rw [goL]
     show (bif (izero j.Parts) then none else bif (ieq (wrem (v : Int) j.Parts) p) then (bif (apok (len s) 1 8) then goL step (fun s => some s) l (appL s [(v : Int)]) else none) else goL step (fun s => some s) l s) = _
     have e : wrem (v : Int) j.Parts = ((v % j.Parts.toNat : Nat) : Int) := by rw [wrem_emod (by omega), hq]; simp
     rw [hz, cond_false, e, List.filter_cons]
     cases ieq ((v % j.Parts.toNat : Nat) : Int) p
     · rw [cond_false, ih s (by omega)]; rfl
     · have ha : apok (len s) 1 8 = true := decide_eq_true ⟨by show s.length + 1 ≤ _; omega, by show (s.length + 1) * 8 ≤ _; omega⟩
       rw [cond_true, ha, cond_true, ih _ (by simp [appL]; omega)]
       simp [appL]
 rw [hw _ _ (by simp; omega), List.nil_append] at h
 have h' : F139_l0_0 K g j p K [] 0 = _ := h
 rw [F139, h']; rfl
theorem cnt_all : ∀ parts < 7, 0 < parts → ∀ n < 25, ∀ p < parts, ((List.range n).filter fun v => v % parts == p).length = (n + parts - 1 - p) / parts := by decide +kernel
def countS (g : GGraph) (j : GJob) (p : Int) : Int := ((vertsS g j p).length : Int)
theorem vertsN_len {n parts : Nat} (h1 : 0 < parts) (h2 : parts < 7) (hn : n < 25) {p : Nat} (hp : p < parts) : (vertsN n parts (p : Int)).length = (n + parts - 1 - p) / parts := by
 rw [← cnt_all parts h2 h1 n hn p hp, vertsN]
 congr 1
 refine List.filter_congr fun v _ => ?_
 rw [Bool.eq_iff_iff, ieq_iff, beq_iff_eq]; omega
theorem vertsN_none {n parts : Nat} (h1 : 0 < parts) {p : Int} (hp : p < 0 ∨ (parts : Int) ≤ p) : vertsN n parts p = [] := by
 rw [vertsN, List.filter_eq_nil_iff]
 intro v _ hc
 have := ieq_iff.1 hc
 have := Nat.mod_lt v h1
 omega
theorem F77_spec {K : Nat} (hK : 100 ≤ K) (g : GGraph) (j : GJob) (p : Int) (hp : -9223372036854775808 ≤ p ∧ p ≤ 9223372036854775807) : F77 K g j p = some (bif ieq (jcheck g j) 0 then countS g j p else 0) := by
 rw [F77, F94_spec hK, Option.bind_some]
 cases hc : ieq (jcheck g j) 0
 · rfl
 · obtain ⟨hg, p1, p2, p3, p4, p5, p6, p7, p8⟩ := jcheck_ok hc
   obtain ⟨g1, g2, _, _⟩ := gcheck_ok hg
   rw [cond_true, cond_true, F138]
   cases h0 : ilt p 0
   · cases h1 : ile j.Parts p
     · have q0 := ilt_f.1 h0
       have q1 := ile_f.1 h1
       obtain ⟨q, rfl⟩ := Int.eq_ofNat_of_zero_le q0
       have hz : izero j.Parts = false := decide_eq_false (by omega)
       have e1 : wsub .i64 g.N (q : Int) = g.N - q := by show IntKind.i64.wrap _ = _; rw [IntKind.wrap_i64]; omega
       have e2 : wadd .i64 (g.N - q) j.Parts = g.N - q + j.Parts := by show IntKind.i64.wrap _ = _; rw [IntKind.wrap_i64]; omega
       have e3 : wsub .i64 (g.N - q + j.Parts) 1 = g.N - q + j.Parts - 1 := by show IntKind.i64.wrap _ = _; rw [IntKind.wrap_i64]; omega
       obtain ⟨n, hn⟩ := Int.eq_ofNat_of_zero_le (show 0 ≤ g.N by omega)
       obtain ⟨m, hm⟩ := Int.eq_ofNat_of_zero_le (show 0 ≤ j.Parts by omega)
       have hnum : g.N - (q : Int) + j.Parts - 1 = ((n + m - 1 - q : Nat) : Int) := by omega
       obtain ⟨d, hd⟩ : ∃ d, (n + m - 1 - q) / m = d := ⟨_, rfl⟩
       have e4 : wquo .i64 (g.N - q + j.Parts - 1) j.Parts = (d : Int) := by
         show IntKind.i64.wrap ((g.N - q + j.Parts - 1).tdiv j.Parts) = _
         rw [hnum, hm, Int.tdiv_eq_ediv_of_nonneg (by omega)]
         have hle : d ≤ n + m - 1 - q := hd ▸ Nat.div_le_self _ _
         have : (((n + m - 1 - q : Nat) : Int) / ((m : Nat) : Int)) = (d : Int) := by rw [← hd]; rfl
         rw [this, IntKind.wrap_i64]; omega
       have ecs : countS g j (q : Int) = (d : Int) := by
         unfold countS vertsS
         have a1 : g.N.toNat = n := by omega
         have a2 : j.Parts.toNat = m := by omega
         rw [a1, a2, vertsN_len (by omega) (by omega) (by omega) (by omega), hd]
       rw [cond_false, cond_false, hz, cond_false, e1, e2, e3, e4, Option.bind_some, ecs]
       cases hpos : ilt 0 (d : Int)
       · have := ilt_f.1 hpos
         have : d = 0 := by omega
         rw [this]; rfl
       · rfl
     · have q1 := ile_iff.1 h1
       have : countS g j p = 0 := by
         unfold countS vertsS
         rw [vertsN_none (by omega) (.inr (by omega))]; rfl
       rw [this]; rfl
   · have q0 := ilt_iff.1 h0
     have : countS g j p = 0 := by
       unfold countS vertsS
       rw [vertsN_none (by omega) (.inl q0)]; rfl
     rw [this]; rfl
theorem mem_verts {g : GGraph} {j : GJob} (h1 : 1 ≤ j.Parts) {p : Int} {v : Nat} : v ∈ vertsS g j p ↔ (v : Int) < g.N ∧ (v : Int) % j.Parts = p := by
 obtain ⟨m, hm⟩ := Int.eq_ofNat_of_zero_le (show 0 ≤ j.Parts by omega)
 simp only [vertsS, vertsN, List.mem_filter, List.mem_range, ieq_iff]
 have : j.Parts.toNat = m := by omega
 rw [this, hm]
 constructor
 · rintro ⟨a, b⟩; exact ⟨by omega, by rw [← b]; simp⟩
 · rintro ⟨a, b⟩; exact ⟨by omega, by rw [← b]; simp⟩
noncomputable def hn80 : Hint := { H 80 with nt := 85, prot := 0 }
noncomputable def c80_0 : Code := loopOf E 80 0
def F80_res (r1 : Bool) : Res := ⟨[(.one (.im (.lit (.bool r1))))], []⟩
def F80_l0_0 (K : Nat) (a1 : GGraph) (a2 : GJob) (a3 : GPart) : Nat → Int → Int → Option ((Unit) ⊕ (Unit))
 | 0, _, _ => none
 | k + 1, v4, v5 =>
  bif (ilt v5 (nlen (len a3.In))) then
   (bif (inr v5 (len a3.In)) then
   (elAt a3.In v5).bind fun x6 =>
   bif (ile x6.To v4) then
    (some (.inl ()))
   else
   bif (ile a1.N x6.To) then
    (some (.inl ()))
   else
   bif (izero a2.Parts) then none else
   bif (ieq (wrem x6.To a2.Parts) a3.P) then
    (F80_l0_0 K a1 a2 a3 k x6.To (wadd .i64 v5 1))
   else
   some (.inl ())
   else none)
  else
  some (.inr ())
def F80_l0_0_S (a1 : GGraph) (a2 : GJob) (a3 : GPart) (v4 : Int) (v5 : Int) : TS := .on [192, 193, 194, 256, 257, 258, 259, 260, 320, 321, 322, 323, 324, 325, 512, 513, 3456, 3520, 3521, 3584, 3585, 3648, 3649] [(192, ⟨(.box 62 2), 0, nob⟩), (193, ⟨.im, 0, (.lit (.int .i64 a1.N))⟩), (194, ⟨.im, 0, (.sl (len a1.Edges) (flat eGEdge a1.Edges))⟩), (256, ⟨(.box 64 4), 0, nob⟩), (257, ⟨.im, 0, (.lit (.int .i64 a2.Prog))⟩), (258, ⟨.im, 0, (.lit (.int .i64 a2.Source))⟩), (259, ⟨.im, 0, (.lit (.int .i64 a2.Limit))⟩), (260, ⟨.im, 0, (.lit (.int .i64 a2.Parts))⟩), (320, ⟨(.box 42 5), 0, nob⟩), (321, ⟨.im, 0, (.lit (.int .i64 a3.P))⟩), (322, ⟨.im, 0, (.lit (.int .i64 a3.Step))⟩), (323, ⟨.im, 0, (.sl (len a3.Vals) (flat (eInt .i64) a3.Vals))⟩), (324, ⟨.im, 0, (.sl (len a3.Rest) (flat eBool a3.Rest))⟩), (325, ⟨.im, 0, (.sl (len a3.In) (flat eGMsg a3.In))⟩), (512, ⟨.one, 0, nob⟩), (513, ⟨.im, 0, (.lit (.int .i64 v4))⟩), (3456, ⟨(.ad 5 0 4), 0, nob⟩), (3520, ⟨.one, 0, nob⟩), (3521, ⟨.im, 0, (.sl (len a3.In) (flat eGMsg a3.In))⟩), (3584, ⟨.one, 0, nob⟩), (3585, ⟨.im, 0, (.lit (.int .i64 (nlen (len a3.In))))⟩), (3648, ⟨.one, 0, nob⟩), (3649, ⟨.im, 0, (.lit (.int .i64 v5))⟩)]
def F80_l0_0_X0 (a1 : GGraph) (a2 : GJob) (a3 : GPart) (w4 : Unit) : TS := .on [384, 385] [(384, ⟨.one, 0, nob⟩), (385, ⟨.im, 0, (.lit (.bool false))⟩)]
def F80_l0_0_X1 (a1 : GGraph) (a2 : GJob) (a3 : GPart) (w4 : Unit) : TS := .on [] []
theorem F80_l0_0_ok (K : Nat) (a1 : GGraph) (a2 : GJob) (a3 : GPart) : ∀ (k : Nat) (v4 : Int) (v5 : Int) (r : (Unit) ⊕ (Unit)), F80_l0_0 K a1 a2 a3 k v4 v5 = some r → (Sum.elim (fun w => LoopEv E H hn80 0 c80_0 (F80_l0_0_S a1 a2 a3 v4 v5) .ret (F80_l0_0_X0 a1 a2 a3 w)) (fun w => LoopEv E H hn80 0 c80_0 (F80_l0_0_S a1 a2 a3 v4 v5) (.exit 0) (F80_l0_0_X1 a1 a2 a3 w))) r := by
 intro k
 induction k with
 | zero => intro v4 v5 r hF; cases hF
 | succ k ih =>
  intro v4 v5 r hF
  rw [F80_l0_0] at hF
  refine cond_some hF (fun h6 hF => ?_) (fun h6 hF => ?_)
  ·
   refine cond_some hF (fun h7 hF => ?_) (fun _ hF => nomatch hF)
   refine bind_some hF (fun x8 h9 hF => ?_)
   have q14 : PQ hn80 fun l => (.test (ilt v5 (nlen (len a3.In))) true :: .test (inr v5 (len a3.In)) true :: .sub (flat eGMsg a3.In) (nidx v5 2) 2 [(.lit (.int .i64 x8.To)), (.lit (.int .i64 x8.V))] :: l) := fun z => ⟨h6, h7, ⟨rfl, sub_flat0 eGMsg_len h9 2 (by decide)⟩, z⟩
   refine cond_some hF (fun h10 hF => ?_) (fun h10 hF => ?_)
   ·
    obtain rfl := Option.some.inj hF
    have pz : HoldAll E H hn80 [.test (beqb (ile x8.To v4) false) false, .test (beqb (ile x8.To v4) false) false, .test (beqb (ile x8.To v4) false) false, .test (beqb (ile x8.To v4) false) false, .test (beqb (ile x8.To v4) false) false, .test (ile x8.To v4) true, .test (beqb true false) false, .test (beqb true false) false, .test (beqb true false) false, .test (beqb true false) false, .test (beqb true false) false, .test (beqb true false) false, .test (beqb true false) false, .test (beqb true false) false, .test true true, .test true true] := ⟨(beqb_ft h10), (beqb_ft h10), (beqb_ft h10), (beqb_ft h10), (beqb_ft h10), h10, (beqb_ft rfl), (beqb_ft rfl), (beqb_ft rfl), (beqb_ft rfl), (beqb_ft rfl), (beqb_ft rfl), (beqb_ft rfl), (beqb_ft rfl), rfl, rfl, trivial⟩
    exact loop_endC (h := hn80) (l := 0) (c := c80_0) (ts := F80_l0_0_S a1 a2 a3 v4 v5) (ts' := F80_l0_0_X0 a1 a2 a3 ()) (ex := .ret) (q14 pz) (by kernel_rfl) trivial
   have q15 : PQ hn80 fun l => (.test (beqb (ile x8.To v4) false) true :: .test (beqb (ile x8.To v4) false) true :: .test (beqb (ile x8.To v4) false) true :: .test (beqb (ile x8.To v4) false) true :: .test (beqb (ile x8.To v4) false) true :: .test (ile x8.To v4) false :: l) := fun z => ⟨(beqb_ff h10), (beqb_ff h10), (beqb_ff h10), (beqb_ff h10), (beqb_ff h10), h10, z⟩
   refine cond_some hF (fun h11 hF => ?_) (fun h11 hF => ?_)
   ·
    obtain rfl := Option.some.inj hF
    have pz : HoldAll E H hn80 [.test (beqb (ige x8.To a1.N) false) false, .test (beqb (ige x8.To a1.N) false) false, .test (beqb (ige x8.To a1.N) false) false, .test (beqb (ige x8.To a1.N) false) false, .test (beqb (ige x8.To a1.N) false) false, .test (beqb (ige x8.To a1.N) false) false, .test (beqb (ige x8.To a1.N) false) false, .test (beqb (ige x8.To a1.N) false) false, .test (ige x8.To a1.N) true, .test true true] := ⟨(beqb_ft (ige_eq h11)), (beqb_ft (ige_eq h11)), (beqb_ft (ige_eq h11)), (beqb_ft (ige_eq h11)), (beqb_ft (ige_eq h11)), (beqb_ft (ige_eq h11)), (beqb_ft (ige_eq h11)), (beqb_ft (ige_eq h11)), (ige_eq h11), rfl, trivial⟩
    exact loop_endC (h := hn80) (l := 0) (c := c80_0) (ts := F80_l0_0_S a1 a2 a3 v4 v5) (ts' := F80_l0_0_X0 a1 a2 a3 ()) (ex := .ret) (q14 (q15 pz)) (by kernel_rfl) trivial
   refine cond_some hF (fun _ hF => nomatch hF) (fun h12 hF => ?_)
   have q16 : PQ hn80 fun l => (.test (beqb (ige x8.To a1.N) false) true :: .test (beqb (ige x8.To a1.N) false) true :: .test (beqb (ige x8.To a1.N) false) true :: .test (beqb (ige x8.To a1.N) false) true :: .test (beqb (ige x8.To a1.N) false) true :: .test (izero a2.Parts) false :: .int (wrem x8.To a2.Parts) (wrem x8.To a2.Parts) :: .test (beqb (ige x8.To a1.N) false) true :: .test (beqb (ige x8.To a1.N) false) true :: .test (beqb (ige x8.To a1.N) false) true :: .test (ige x8.To a1.N) false :: l) := fun z => ⟨(beqb_ff (ige_eq h11)), (beqb_ff (ige_eq h11)), (beqb_ff (ige_eq h11)), (beqb_ff (ige_eq h11)), (beqb_ff (ige_eq h11)), h12, rfl, (beqb_ff (ige_eq h11)), (beqb_ff (ige_eq h11)), (beqb_ff (ige_eq h11)), (ige_eq h11), z⟩
   refine cond_some hF (fun h13 hF => ?_) (fun h13 hF => ?_)
   ·
    have pz : HoldAll E H hn80 [.test (ine (wrem x8.To a2.Parts) a3.P) false, .int (wadd .i64 v5 1) (wadd .i64 v5 1)] := ⟨(ine_t h13), rfl, trivial⟩
    have h0 := ih _ _ _ hF
    have hn := fun ex ts' => loop_nextC (h := hn80) (l := 0) (c := c80_0) (ts := F80_l0_0_S a1 a2 a3 v4 v5) (ts1 := (F80_l0_0_S a1 a2 a3 x8.To (wadd .i64 v5 1))) (ex := ex) (ts' := ts') (q14 (q15 (q16 pz))) (by kernel_rfl)
    cases r with
    | inl w => exact hn _ _ h0
    | inr w => exact hn _ _ h0
   obtain rfl := Option.some.inj hF
   have pz : HoldAll E H hn80 [.test (ine (wrem x8.To a2.Parts) a3.P) true] := ⟨(ine_f h13), trivial⟩
   exact loop_endC (h := hn80) (l := 0) (c := c80_0) (ts := F80_l0_0_S a1 a2 a3 v4 v5) (ts' := F80_l0_0_X0 a1 a2 a3 ()) (ex := .ret) (q14 (q15 (q16 pz))) (by kernel_rfl) trivial
  obtain rfl := Option.some.inj hF
  have pz : HoldAll E H hn80 [.test (ilt v5 (nlen (len a3.In))) false] := ⟨h6, trivial⟩
  exact loop_endC (h := hn80) (l := 0) (c := c80_0) (ts := F80_l0_0_S a1 a2 a3 v4 v5) (ts' := F80_l0_0_X1 a1 a2 a3 ()) (ex := (.exit 0)) pz (by kernel_rfl) trivial
def F80 (K : Nat) (a1 : GGraph) (a2 : GJob) (a3 : GPart) : Option (Bool) :=
 (F94 K a1 a2).bind fun r4 =>
 bif (ieq r4 0) then
  (bif (ilt a3.P 0) then
   (some false)
  else
  bif (ile a2.Parts a3.P) then
   (some false)
  else
  bif (ilt a3.Step 0) then
   (some false)
  else
  bif (ilt 40 a3.Step) then
   (some false)
  else
  (F77 K a1 a2 a3.P).bind fun r5 =>
  bif (ieq (nlen (len a3.Vals)) r5) then
   (bif (ieq (nlen (len a3.Rest)) r5) then
    ((F80_l0_0 K a1 a2 a3 K (-1) 0).bind fun y6 =>
    Sum.elim (fun w7 =>
     some false)
     (fun w8 =>
     some true) y6)
   else
   some false)
  else
  some false)
 else
 some false
theorem F80_ok (K : Nat) (a1 : GGraph) (a2 : GJob) (a3 : GPart) (r : Bool) (hF : F80 K a1 a2 a3 = some r) : Evt E H 80 [.agg (eGGraph a1), .agg (eGJob a2), .agg (eGPart a3)] (F80_res r) := by
 rw [F80] at hF
 refine bind_some hF (fun r4 h5 hF => ?_)
 refine cond_some hF (fun h6 hF => ?_) (fun h6 hF => ?_)
 ·
  have q19 : PQ hn80 fun l => (.call 94 [.agg (eGGraph a1), .agg (eGJob a2)] (F94_res r4) :: .test (leadsAny (Res.mk [(.one (.im (.lit (.int .i64 r4))))] [])) false :: .test (beqb (ine r4 0) false) true :: .test (beqb (ine r4 0) false) true :: .test (beqb (ine r4 0) false) true :: .test (ine r4 0) false :: l) := fun z => ⟨(F94_ok K a1 a2 _ h5), (leads_ok (by simp [leadsAny, RV.leads, RC.leads, leadsT, hasSl_lit, flat_ns eGJob_ns])), (beqb_ff (ine_t h6)), (beqb_ff (ine_t h6)), (beqb_ff (ine_t h6)), (ine_t h6), z⟩
  refine cond_some hF (fun h7 hF => ?_) (fun h7 hF => ?_)
  ·
   obtain rfl := Option.some.inj hF
   have pz : HoldAll E H hn80 [.test (beqb (ilt a3.P 0) false) false, .test (beqb (ilt a3.P 0) false) false, .test (beqb (ilt a3.P 0) false) false, .test (beqb (ilt a3.P 0) false) false, .test (beqb (ilt a3.P 0) false) false, .test (ilt a3.P 0) true, .test (beqb true false) false, .test (beqb true false) false, .test (beqb true false) false, .test true true, .test (beqb true false) false, .test (beqb true false) false, .test (beqb true false) false, .test true true, .test true true] := ⟨(beqb_ft h7), (beqb_ft h7), (beqb_ft h7), (beqb_ft h7), (beqb_ft h7), h7, (beqb_ft rfl), (beqb_ft rfl), (beqb_ft rfl), rfl, (beqb_ft rfl), (beqb_ft rfl), (beqb_ft rfl), rfl, rfl, trivial⟩
   exact fn_playC hn80 (r := F80_res false) (q19 pz) (by kernel_rfl) (by kernel_rfl)
  have q20 : PQ hn80 fun l => (.test (beqb (ilt a3.P 0) false) true :: .test (beqb (ilt a3.P 0) false) true :: .test (beqb (ilt a3.P 0) false) true :: .test (beqb (ilt a3.P 0) false) true :: .test (beqb (ilt a3.P 0) false) true :: .test (ilt a3.P 0) false :: l) := fun z => ⟨(beqb_ff h7), (beqb_ff h7), (beqb_ff h7), (beqb_ff h7), (beqb_ff h7), h7, z⟩
  refine cond_some hF (fun h8 hF => ?_) (fun h8 hF => ?_)
  ·
   obtain rfl := Option.some.inj hF
   have pz : HoldAll E H hn80 [.test (beqb (ige a3.P a2.Parts) false) false, .test (beqb (ige a3.P a2.Parts) false) false, .test (beqb (ige a3.P a2.Parts) false) false, .test (ige a3.P a2.Parts) true, .test (beqb true false) false, .test (beqb true false) false, .test (beqb true false) false, .test true true, .test true true] := ⟨(beqb_ft (ige_eq h8)), (beqb_ft (ige_eq h8)), (beqb_ft (ige_eq h8)), (ige_eq h8), (beqb_ft rfl), (beqb_ft rfl), (beqb_ft rfl), rfl, rfl, trivial⟩
   exact fn_playC hn80 (r := F80_res false) (q19 (q20 pz)) (by kernel_rfl) (by kernel_rfl)
  have q21 : PQ hn80 fun l => (.test (beqb (ige a3.P a2.Parts) false) true :: .test (beqb (ige a3.P a2.Parts) false) true :: .test (beqb (ige a3.P a2.Parts) false) true :: .test (ige a3.P a2.Parts) false :: l) := fun z => ⟨(beqb_ff (ige_eq h8)), (beqb_ff (ige_eq h8)), (beqb_ff (ige_eq h8)), (ige_eq h8), z⟩
  refine cond_some hF (fun h9 hF => ?_) (fun h9 hF => ?_)
  ·
   obtain rfl := Option.some.inj hF
   have pz : HoldAll E H hn80 [.test (beqb (ilt a3.Step 0) false) false, .test (beqb (ilt a3.Step 0) false) false, .test (beqb (ilt a3.Step 0) false) false, .test (ilt a3.Step 0) true, .test true true] := ⟨(beqb_ft h9), (beqb_ft h9), (beqb_ft h9), h9, rfl, trivial⟩
   exact fn_playC hn80 (r := F80_res false) (q19 (q20 (q21 pz))) (by kernel_rfl) (by kernel_rfl)
  have q22 : PQ hn80 fun l => (.test (beqb (ilt a3.Step 0) false) true :: .test (beqb (ilt a3.Step 0) false) true :: .test (beqb (ilt a3.Step 0) false) true :: .test (ilt a3.Step 0) false :: l) := fun z => ⟨(beqb_ff h9), (beqb_ff h9), (beqb_ff h9), h9, z⟩
  refine cond_some hF (fun h10 hF => ?_) (fun h10 hF => ?_)
  ·
   obtain rfl := Option.some.inj hF
   have pz : HoldAll E H hn80 [.test (igt a3.Step 40) true] := ⟨(igt_eq h10), trivial⟩
   exact fn_playC hn80 (r := F80_res false) (q19 (q20 (q21 (q22 pz)))) (by kernel_rfl) (by kernel_rfl)
  refine bind_some hF (fun r11 h12 hF => ?_)
  have q23 : PQ hn80 fun l => (.test (igt a3.Step 40) false :: .call 77 [.agg (eGGraph a1), .agg (eGJob a2), .one (.lit (.int .i64 a3.P))] (F77_res r11) :: .test (leadsAny (Res.mk [(.one (.im (.lit (.int .i64 r11))))] [])) false :: .int (nlen (len a3.Vals)) (nlen (len a3.Vals)) :: l) := fun z => ⟨(igt_eq h10), (F77_ok K a1 a2 a3.P _ h12), (leads_ok (by simp [leadsAny, RV.leads, RC.leads, leadsT, hasSl_lit, flat_ns eGJob_ns])), rfl, z⟩
  refine cond_some hF (fun h13 hF => ?_) (fun h13 hF => ?_)
  ·
   have q24 : PQ hn80 fun l => (.test (beqb (ine (nlen (len a3.Vals)) r11) false) true :: .test (beqb (ine (nlen (len a3.Vals)) r11) false) true :: .test (beqb (ine (nlen (len a3.Vals)) r11) false) true :: .int (nlen (len a3.Rest)) (nlen (len a3.Rest)) :: .test (beqb (ine (nlen (len a3.Vals)) r11) false) true :: .test (beqb (ine (nlen (len a3.Vals)) r11) false) true :: .test (ine (nlen (len a3.Vals)) r11) false :: l) := fun z => ⟨(beqb_ff (ine_t h13)), (beqb_ff (ine_t h13)), (beqb_ff (ine_t h13)), rfl, (beqb_ff (ine_t h13)), (beqb_ff (ine_t h13)), (ine_t h13), z⟩
   refine cond_some hF (fun h14 hF => ?_) (fun h14 hF => ?_)
   ·
    refine bind_some hF (fun y16 h15 hF => ?_)
    refine sum_some hF (fun w17 hx hF => ?_) (fun w18 hx hF => ?_)
    ·
     subst hx
     obtain rfl := Option.some.inj hF
     have pz : HoldAll E H hn80 [.test (ine (nlen (len a3.Rest)) r11) false, .int (nlen (len a3.In)) (nlen (len a3.In)), .loop 0 c80_0 (F80_l0_0_S a1 a2 a3 (-1) 0) .ret (F80_l0_0_X0 a1 a2 a3 w17)] := ⟨(ine_t h14), rfl, (F80_l0_0_ok K a1 a2 a3 K (-1) 0 _ h15), trivial⟩
     exact fn_playC hn80 (r := F80_res false) (q19 (q20 (q21 (q22 (q23 (q24 pz)))))) (by kernel_rfl) (by kernel_rfl)
    subst hx
    obtain rfl := Option.some.inj hF
    have pz : HoldAll E H hn80 [.test (ine (nlen (len a3.Rest)) r11) false, .int (nlen (len a3.In)) (nlen (len a3.In)), .loop 0 c80_0 (F80_l0_0_S a1 a2 a3 (-1) 0) (.exit 0) (F80_l0_0_X1 a1 a2 a3 w18)] := ⟨(ine_t h14), rfl, (F80_l0_0_ok K a1 a2 a3 K (-1) 0 _ h15), trivial⟩
    exact fn_playC hn80 (r := F80_res true) (q19 (q20 (q21 (q22 (q23 (q24 pz)))))) (by kernel_rfl) (by kernel_rfl)
   obtain rfl := Option.some.inj hF
   have pz : HoldAll E H hn80 [.test (ine (nlen (len a3.Rest)) r11) true] := ⟨(ine_f h14), trivial⟩
   exact fn_playC hn80 (r := F80_res false) (q19 (q20 (q21 (q22 (q23 (q24 pz)))))) (by kernel_rfl) (by kernel_rfl)
  obtain rfl := Option.some.inj hF
  have pz : HoldAll E H hn80 [.test (beqb (ine (nlen (len a3.Vals)) r11) false) false, .test (beqb (ine (nlen (len a3.Vals)) r11) false) false, .test (beqb (ine (nlen (len a3.Vals)) r11) false) false, .test (beqb (ine (nlen (len a3.Vals)) r11) false) false, .test (beqb (ine (nlen (len a3.Vals)) r11) false) false, .test (ine (nlen (len a3.Vals)) r11) true, .test true true] := ⟨(beqb_ft (ine_f h13)), (beqb_ft (ine_f h13)), (beqb_ft (ine_f h13)), (beqb_ft (ine_f h13)), (beqb_ft (ine_f h13)), (ine_f h13), rfl, trivial⟩
  exact fn_playC hn80 (r := F80_res false) (q19 (q20 (q21 (q22 (q23 pz))))) (by kernel_rfl) (by kernel_rfl)
 obtain rfl := Option.some.inj hF
 have pz : HoldAll E H hn80 [.call 94 [.agg (eGGraph a1), .agg (eGJob a2)] (F94_res r4), .test (leadsAny (Res.mk [(.one (.im (.lit (.int .i64 r4))))] [])) false, .test (beqb (ine r4 0) false) false, .test (beqb (ine r4 0) false) false, .test (beqb (ine r4 0) false) false, .test (ine r4 0) true, .test (beqb true false) false, .test (beqb true false) false, .test (beqb true false) false, .test (beqb true false) false, .test (beqb true false) false, .test true true, .test (beqb true false) false, .test (beqb true false) false, .test (beqb true false) false, .test true true, .test (beqb true false) false, .test (beqb true false) false, .test (beqb true false) false, .test true true, .test true true] := ⟨(F94_ok K a1 a2 _ h5), (leads_ok (by simp [leadsAny, RV.leads, RC.leads, leadsT, hasSl_lit, flat_ns eGJob_ns])), (beqb_ft (ine_f h6)), (beqb_ft (ine_f h6)), (beqb_ft (ine_f h6)), (ine_f h6), (beqb_ft rfl), (beqb_ft rfl), (beqb_ft rfl), (beqb_ft rfl), (beqb_ft rfl), rfl, (beqb_ft rfl), (beqb_ft rfl), (beqb_ft rfl), rfl, (beqb_ft rfl), (beqb_ft rfl), (beqb_ft rfl), rfl, rfl, trivial⟩
 exact fn_playC hn80 (r := F80_res false) pz (by kernel_rfl) (by kernel_rfl)
noncomputable def hn81 : Hint := { H 81 with nt := 102, prot := 0 }
noncomputable def c81_0 : Code := loopOf E 81 0
noncomputable def c81_1 : Code := loopOf E 81 1
def F81_res (r1 : Bool) : Res := ⟨[(.one (.im (.lit (.bool r1))))], []⟩
def F81_l1_1 (K : Nat) (a1 : GPart) (r2 : List Int) (v3 : Int) (x4 : GMsg) : Nat → Bool → Int → Option (Bool)
 | 0, _, _ => none
 | k + 1, v5, v6 =>
  bif (ilt v6 (nlen (len r2))) then
   (bif v5 then
    (F81_l1_1 K a1 r2 v3 x4 k true (wadd .i64 v6 1))
   else
   bif (inr v6 (len r2)) then
   (elAt r2 v6).bind fun x7 =>
   F81_l1_1 K a1 r2 v3 x4 k (ieq x7 x4.To) (wadd .i64 v6 1)
   else none)
  else
  some v5
def F81_l1_1_S (a1 : GPart) (r2 : List Int) (v3 : Int) (x4 : GMsg) (v5 : Bool) (v6 : Int) : TS := .on [320, 321, 322, 323, 324, 325, 448, 449, 512, 513, 576, 577, 640, 641, 704, 705] [(320, ⟨(.box 42 5), 0, nob⟩), (321, ⟨.im, 0, (.lit (.int .i64 a1.P))⟩), (322, ⟨.im, 0, (.lit (.int .i64 a1.Step))⟩), (323, ⟨.im, 0, (.sl (len a1.Vals) (flat (eInt .i64) a1.Vals))⟩), (324, ⟨.im, 0, (.sl (len a1.Rest) (flat eBool a1.Rest))⟩), (325, ⟨.im, 0, (.sl (len a1.In) (flat eGMsg a1.In))⟩), (448, ⟨.one, 0, nob⟩), (449, ⟨(.own 3), 0, (.sl (len r2) (flat (eInt .i64) r2))⟩), (512, ⟨.one, 0, nob⟩), (513, ⟨.im, 0, (.lit (.int .i64 v3))⟩), (576, ⟨.one, 0, nob⟩), (577, ⟨.im, 0, (.lit (.int .i64 x4.To))⟩), (640, ⟨.one, 0, nob⟩), (641, ⟨.im, 0, (.lit (.bool v5))⟩), (704, ⟨.one, 0, nob⟩), (705, ⟨.im, 0, (.lit (.int .i64 v6))⟩)]
def F81_l1_1_X0 (a1 : GPart) (r2 : List Int) (v3 : Int) (x4 : GMsg) (w5 : Bool) : TS := .on [320, 321, 322, 323, 324, 325, 448, 449, 512, 513, 576, 577, 640, 641] [(320, ⟨(.box 42 5), 0, nob⟩), (321, ⟨.im, 0, (.lit (.int .i64 a1.P))⟩), (322, ⟨.im, 0, (.lit (.int .i64 a1.Step))⟩), (323, ⟨.im, 0, (.sl (len a1.Vals) (flat (eInt .i64) a1.Vals))⟩), (324, ⟨.im, 0, (.sl (len a1.Rest) (flat eBool a1.Rest))⟩), (325, ⟨.im, 0, (.sl (len a1.In) (flat eGMsg a1.In))⟩), (448, ⟨.one, 0, nob⟩), (449, ⟨(.own 3), 0, (.sl (len r2) (flat (eInt .i64) r2))⟩), (512, ⟨.one, 0, nob⟩), (513, ⟨.im, 0, (.lit (.int .i64 v3))⟩), (576, ⟨.one, 0, nob⟩), (577, ⟨.im, 0, (.lit (.int .i64 x4.To))⟩), (640, ⟨.one, 0, nob⟩), (641, ⟨.im, 0, (.lit (.bool w5))⟩)]
end Go.Proofs.Ytnjanliihnadjaa.Tm

/- What the row of WorkSeq leans on: printed functions and plain laws. Conditions: none. -/
import Derived.Test.YtnjanliihnadjaaTy
import Derived.Test.YtnjanliihnadjaaTab
import Derived.Test.YtnjanliihnadjaaKn
import Derived.Test.YtnjanliihnadjaaWf
import Derived.IntWalk
import Derived.KernelRfl
import Derived.OpenShut
set_option linter.unusedVariables false
set_option linter.unusedSimpArgs false
namespace Go.Proofs.Ytnjanliihnadjaa.Tm
open Go
abbrev PQ (h : Hint) (f : List Cond → List Cond) : Prop := ∀ {l : List Cond}, HoldAll E H h l → HoldAll E H h (f l)
abbrev HA (h : Hint) (l : List Cond) : Prop := HoldAll E H h l
abbrev tt (b : Bool) : Cond := .test b true
abbrev ff (b : Bool) : Cond := .test b false
abbrev bt : Cond := .test (beqb true false) false
abbrev bf (b : Bool) : Cond := .test (beqb b false) false
abbrev bg (b : Bool) : Cond := .test (beqb b false) true
abbrev bh (b : Bool) : Cond := .test (beqb b true) true
abbrev bk (b : Bool) : Cond := .test (beqb b true) false
abbrev nl {α : Type} (l : List α) : Int := nlen (len l)
abbrev i6 (n : Int) : T := .lit (.int .i64 n)
theorem sj {α : Type} {a b : α} (h : some a = some b) : a = b := Option.some.inj h
theorem br : beqb true false = false := rfl
theorem bA {c : Bool} (h : c = true) : beqb c false = false := beqb_ft h
theorem bB {c : Bool} (h : c = false) : beqb c false = true := beqb_ff h
theorem bC {c v : Bool} (h : c = v) : beqb c true = v := beqb_t h
theorem lk {r : Res} {v : Bool} (h : leadsAny r = v := by simp [leadsAny, RV.leads, RC.leads, leadsT, hasSl_lit, flat_ns (eInt_ns _), flat_ns eBool_ns, flat_ns eGEdge_ns, flat_ns eGJob_ns, flat_ns eGMsg_ns]) : leadsAny r = v := h
theorem fpC (h : Hint) {f : FuncId} {ads : List AD} {r : Res} {cs : List Cond} (hc : HoldAll E H h cs) (hh : hintT E H f ads = h := by kernel_rfl) (hp : (fnT E H f ads).play (ansL cs) = some (.res r, cs) := by kernel_rfl) : Evt E H f ads r := fn_playC h hc hh hp
theorem lE (h : Hint) (l : Nat) (c : Code) (ts ts' : TS) (ex : Ex) {cs : List Cond} (hc : HoldAll E H h cs) (hp : (roundF E h l c ts).play (ansL cs) = some (.code ex ts', cs) := by kernel_rfl) (hx : match ex with | .normal => False | _ => True := by trivial) : LoopEv E H h l c ts ex ts' := loop_endC hc hp (by cases ex <;> first | exact hx | trivial)
theorem lN (h : Hint) (l : Nat) (c : Code) (ts ts1 : TS) {cs : List Cond} (hc : HoldAll E H h cs) (hp : (roundF E h l c ts).play (ansL cs) = some (.code .normal ts1, cs) := by kernel_rfl) : ∀ (ex : Ex) (ts' : TS), LoopEv E H h l c ts1 ex ts' → LoopEv E H h l c ts ex ts' := fun _ _ hn => loop_nextC hc hp hn
theorem elAt_nat {α : Type} (l : List α) (i : Nat) : elAt l (i : Int) = l[i]? := by simp [elAt]
theorem wadd_ok {a b : Int} (h1 : -9223372036854775808 ≤ a + b) (h2 : a + b < 9223372036854775808) : wadd .i64 a b = a + b := by
 show IntKind.i64.wrap (a + b) = a + b
 rw [IntKind.wrap_i64]
 omega
theorem wadd_nat {i : Nat} (h : i < 4611686018427387904) : wadd .i64 (i : Int) 1 = ((i + 1 : Nat) : Int) := by
 rw [wadd_ok (by omega) (by omega)]; simp
theorem at_idx {α : Type} (l : List α) (i : Nat) :
 (∃ x, l.drop i = x :: l.drop (i + 1) ∧ ilt (i : Int) (nlen (len l)) = true ∧ inr (i : Int) (len l) = true ∧ elAt l (i : Int) = some x) ∨
 (l.drop i = [] ∧ ilt (i : Int) (nlen (len l)) = false) := by
 by_cases h : i < l.length
 · left
   refine ⟨l[i], List.drop_eq_getElem_cons h, ?_, ?_, ?_⟩
   · simp [ilt, nlen, len]; omega
   · simp [inr, len]; omega
   · rw [elAt_nat]; simp [h]
 · right
   refine ⟨List.drop_eq_nil_of_le (by omega), ?_⟩
   simp [ilt, nlen, len]; omega
def goI {α σ β : Type} (step : Nat → α → σ → (σ → Option β) → Option β) (fin : σ → Option β) : Nat → List α → σ → Option β
 | _, [], s => fin s
 | i, x :: r, s => step i x s (goI step fin (i + 1) r)
def goL {α σ β : Type} (step : α → σ → (σ → Option β) → Option β) (fin : σ → Option β) : List α → σ → Option β
 | [], s => fin s
 | x :: r, s => step x s (goL step fin r)
theorem lt_of_drop' {α : Type} {l : List α} {i : Nat} {x : α} {r : List α} (h : l.drop i = x :: r) : i < l.length := by
 rcases Nat.lt_or_ge i l.length with g | g
 · exact g
 · rw [List.drop_eq_nil_of_le g] at h; cases h
theorem scanI {α σ β : Type} {l : List α} {L : Nat → σ → Int → Option β} (step : Nat → α → σ → (σ → Option β) → Option β) (fin : σ → Option β)
 (h : ∀ k s (i : Nat), i ≤ l.length → L (k + 1) s i = bif ilt i (nlen (len l)) then (bif inr i (len l) then (elAt l i).bind fun x => step i x s (fun s' => L k s' (wadd .i64 i 1)) else none) else fin s)
 (hl : l.length < 4611686018427387904) : ∀ (k : Nat) (s : σ) (i : Nat), l.length - i < k → i ≤ l.length → L k s i = goI step fin i (l.drop i) s := by
 intro k
 induction k with
 | zero => intro s i h; omega
 | succ k ih =>
  intro s i hk hi
  rw [h k s i hi]
  rcases at_idx l i with ⟨x, e1, e2, e3, e4⟩ | ⟨e1, e2⟩
  · have hlt := lt_of_drop' e1
    rw [e1, e2, e3, e4]
    simp only [cond_true, Option.bind_some, goI]
    congr 1
    funext s'
    rw [wadd_nat (by omega)]
    exact ih s' (i + 1) (by omega) (by omega)
  · rw [e1, e2]; rfl
theorem scanL {α σ β : Type} {l : List α} {L : Nat → σ → Int → Option β} (step : α → σ → (σ → Option β) → Option β) (fin : σ → Option β)
 (h : ∀ k s (i : Nat), i ≤ l.length → L (k + 1) s i = bif ilt i (nlen (len l)) then (bif inr i (len l) then (elAt l i).bind fun x => step x s (fun s' => L k s' (wadd .i64 i 1)) else none) else fin s)
 (hl : l.length < 4611686018427387904) {K : Nat} (hK : l.length < K) (s : σ) : L K s 0 = goL step fin l s := by
 have e : ∀ (i : Nat) (r : List α) (s : σ), goI (fun _ => step) fin i r s = goL step fin r s := by
  intro i r
  induction r generalizing i with
  | nil => intro s; rfl
  | cons x r ih =>
   intro s
   simp only [goI, goL]
   congr 1
   funext s'
   exact ih (i + 1) s'
 have := scanI (fun _ => step) fin h hl K s 0 (by omega) (by omega)
 rw [e, List.drop_zero] at this
 exact this
theorem ilt_not' (a b : Int) : ilt a b = !(ile b a) := by
 unfold ilt ile
 by_cases h : a < b <;> simp [h] <;> omega
theorem ieq_refl (a : Int) : ieq a a = true := by simp [ieq]
theorem beqb_refl (a : Bool) : beqb a a = true := by cases a <;> rfl
theorem ile_iff {a b : Int} : ile a b = true ↔ a ≤ b := decide_eq_true_iff
theorem ilt_iff {a b : Int} : ilt a b = true ↔ a < b := decide_eq_true_iff
theorem ieq_iff {a b : Int} : ieq a b = true ↔ a = b := by simp [ieq]
theorem ile_f {a b : Int} : ile a b = false ↔ b < a := by simp [ile]
theorem ilt_f {a b : Int} : ilt a b = false ↔ b ≤ a := by simp [ilt]
theorem ieq_f {a b : Int} : ieq a b = false ↔ a ≠ b := by simp [ieq]
noncomputable def hn140 : Hint := { H 140 with nt := 26, prot := 0 }
noncomputable def c140_0 : Code := loopOf E 140 0
def F140_res (r1 : Bool) : Res := ⟨[(.one (.im (.lit (.bool r1))))], []⟩
def F140_l0_0 (K : Nat) (a1 : List Int) (a2 : List Int) : Nat → Int → Option ((Unit) ⊕ (Unit))
 | 0, _ => none
 | k + 1, v3 =>
  bif (ilt v3 (nlen (len a1))) then
   (bif (inr v3 (len a1)) then
   (elAt a1 v3).bind fun x4 =>
   bif (inr v3 (len a2)) then
   (elAt a2 v3).bind fun x5 =>
   bif (ieq x4 x5) then
    (F140_l0_0 K a1 a2 k (wadd .i64 v3 1))
   else
   some (.inl ())
   else none
   else none)
  else
  some (.inr ())
def F140_l0_0_S (a1 : List Int) (a2 : List Int) (v3 : Int) : TS := .on [0, 1, 64, 65, 320, 321] [(0, ⟨.one, 0, nob⟩), (1, ⟨.im, 0, (.sl (len a1) (flat (eInt .i64) a1))⟩), (64, ⟨.one, 0, nob⟩), (65, ⟨.im, 0, (.sl (len a2) (flat (eInt .i64) a2))⟩), (320, ⟨.one, 0, nob⟩), (321, ⟨.im, 0, (.lit (.int .i64 v3))⟩)]
def F140_l0_0_X0 (a1 : List Int) (a2 : List Int) (w3 : Unit) : TS := .on [256, 257] [(256, ⟨.one, 0, nob⟩), (257, ⟨.im, 0, (.lit (.bool false))⟩)]
def F140_l0_0_X1 (a1 : List Int) (a2 : List Int) (w3 : Unit) : TS := .on [] []
theorem F140_l0_0_ok (K : Nat) (a1 : List Int) (a2 : List Int) : ∀ (k : Nat) (v3 : Int) (r : (Unit) ⊕ (Unit)), F140_l0_0 K a1 a2 k v3 = some r → (Sum.elim (fun w => LoopEv E H hn140 0 c140_0 (F140_l0_0_S a1 a2 v3) .ret (F140_l0_0_X0 a1 a2 w)) (fun w => LoopEv E H hn140 0 c140_0 (F140_l0_0_S a1 a2 v3) (.exit 0) (F140_l0_0_X1 a1 a2 w))) r := by
 intro k
 induction k with
 | zero => intro v3 r hF; cases hF
 | succ k ih =>
  intro v3 r hF
  rw [F140_l0_0] at hF
  refine cond_some hF (fun h4 hF => ?_) (fun h4 hF => ?_)
  ·
   refine cond_some hF (fun h5 hF => ?_) (fun _ hF => nomatch hF)
   refine bind_some hF (fun x6 h7 hF => ?_)
   refine cond_some hF (fun h8 hF => ?_) (fun _ hF => nomatch hF)
   refine bind_some hF (fun x9 h10 hF => ?_)
   have q12 : PQ hn140 fun l => (.int (nl a1) (nl a1) :: (tt (ilt v3 (nl a1))) :: (tt (inr v3 (len a1))) :: .sub (flat (eInt .i64) a1) (nidx v3 1) 1 [(i6 x6)] :: (tt (inr v3 (len a2))) :: .sub (flat (eInt .i64) a2) (nidx v3 1) 1 [(i6 x9)] :: l) := fun z => ⟨rfl, h4, h5, ⟨rfl, sub_flat0 (eInt_len _) h7 1 (by decide)⟩, h8, ⟨rfl, sub_flat0 (eInt_len _) h10 1 (by decide)⟩, z⟩
   refine cond_some hF (fun h11 hF => ?_) (fun h11 hF => ?_)
   ·
    have pz : HA hn140 [(ff (ine x6 x9)), .int (wadd .i64 v3 1) (wadd .i64 v3 1)] := ⟨(ine_t h11), rfl, trivial⟩
    have h0 := ih _ _ hF
    have hn := lN hn140 0 c140_0 (F140_l0_0_S a1 a2 v3) (F140_l0_0_S a1 a2 (wadd .i64 v3 1)) (q12 pz)
    cases r with
    | inl w => exact hn _ _ h0
    | inr w => exact hn _ _ h0
   obtain rfl := sj hF
   have pz : HA hn140 [(tt (ine x6 x9))] := ⟨(ine_f h11), trivial⟩
   exact lE hn140 0 c140_0 (F140_l0_0_S a1 a2 v3) (F140_l0_0_X0 a1 a2 ()) .ret (q12 pz)
  obtain rfl := sj hF
  have pz : HA hn140 [.int (nl a1) (nl a1), (ff (ilt v3 (nl a1)))] := ⟨rfl, h4, trivial⟩
  exact lE hn140 0 c140_0 (F140_l0_0_S a1 a2 v3) (F140_l0_0_X1 a1 a2 ()) (.exit 0) pz
def F140 (K : Nat) (a1 : List Int) (a2 : List Int) : Option (Bool) :=
 bif (ieq (nlen (len a1)) (nlen (len a2))) then
  ((F140_l0_0 K a1 a2 K 0).bind fun y3 =>
  Sum.elim (fun w4 =>
   some false)
   (fun w5 =>
   some true) y3)
 else
 some false
theorem F140_ok (K : Nat) (a1 : List Int) (a2 : List Int) (r : Bool) (hF : F140 K a1 a2 = some r) : Evt E H 140 [.one (.sl (len a1) (flat (eInt .i64) a1)), .one (.sl (len a2) (flat (eInt .i64) a2))] (F140_res r) := by
 rw [F140] at hF
 refine cond_some hF (fun h3 hF => ?_) (fun h3 hF => ?_)
 ·
  have q8 : PQ hn140 fun l => (.int (nl a1) (nl a1) :: .int (nl a2) (nl a2) :: (ff (ine (nl a1) (nl a2))) :: l) := fun z => ⟨rfl, rfl, (ine_t h3), z⟩
  refine bind_some hF (fun y5 h4 hF => ?_)
  refine sum_some hF (fun w6 hx hF => ?_) (fun w7 hx hF => ?_)
  ·
   subst hx
   obtain rfl := sj hF
   have pz : HA hn140 [.loop 0 c140_0 (F140_l0_0_S a1 a2 0) .ret (F140_l0_0_X0 a1 a2 w6)] := ⟨(F140_l0_0_ok K a1 a2 K 0 _ h4), trivial⟩
   exact fpC hn140 (r := F140_res false) (q8 pz)
  subst hx
  obtain rfl := sj hF
  have pz : HA hn140 [.loop 0 c140_0 (F140_l0_0_S a1 a2 0) (.exit 0) (F140_l0_0_X1 a1 a2 w7)] := ⟨(F140_l0_0_ok K a1 a2 K 0 _ h4), trivial⟩
  exact fpC hn140 (r := F140_res true) (q8 pz)
 obtain rfl := sj hF
 have pz : HA hn140 [.int (nl a1) (nl a1), .int (nl a2) (nl a2), (tt (ine (nl a1) (nl a2)))] := ⟨rfl, rfl, (ine_f h3), trivial⟩
 exact fpC hn140 (r := F140_res false) pz
noncomputable def hn141 : Hint := { H 141 with nt := 26, prot := 0 }
noncomputable def c141_0 : Code := loopOf E 141 0
def F141_res (r1 : Bool) : Res := ⟨[(.one (.im (.lit (.bool r1))))], []⟩
def F141_l0_0 (K : Nat) (a1 : List Bool) (a2 : List Bool) : Nat → Int → Option ((Unit) ⊕ (Unit))
 | 0, _ => none
 | k + 1, v3 =>
  bif (ilt v3 (nlen (len a1))) then
   (bif (inr v3 (len a1)) then
   (elAt a1 v3).bind fun x4 =>
   bif (inr v3 (len a2)) then
   (elAt a2 v3).bind fun x5 =>
   bif (beqb x4 x5) then
    (F141_l0_0 K a1 a2 k (wadd .i64 v3 1))
   else
   some (.inl ())
   else none
   else none)
  else
  some (.inr ())
def F141_l0_0_S (a1 : List Bool) (a2 : List Bool) (v3 : Int) : TS := .on [0, 1, 64, 65, 320, 321] [(0, ⟨.one, 0, nob⟩), (1, ⟨.im, 0, (.sl (len a1) (flat eBool a1))⟩), (64, ⟨.one, 0, nob⟩), (65, ⟨.im, 0, (.sl (len a2) (flat eBool a2))⟩), (320, ⟨.one, 0, nob⟩), (321, ⟨.im, 0, (.lit (.int .i64 v3))⟩)]
def F141_l0_0_X0 (a1 : List Bool) (a2 : List Bool) (w3 : Unit) : TS := .on [256, 257] [(256, ⟨.one, 0, nob⟩), (257, ⟨.im, 0, (.lit (.bool false))⟩)]
def F141_l0_0_X1 (a1 : List Bool) (a2 : List Bool) (w3 : Unit) : TS := .on [] []
theorem F141_l0_0_ok (K : Nat) (a1 : List Bool) (a2 : List Bool) : ∀ (k : Nat) (v3 : Int) (r : (Unit) ⊕ (Unit)), F141_l0_0 K a1 a2 k v3 = some r → (Sum.elim (fun w => LoopEv E H hn141 0 c141_0 (F141_l0_0_S a1 a2 v3) .ret (F141_l0_0_X0 a1 a2 w)) (fun w => LoopEv E H hn141 0 c141_0 (F141_l0_0_S a1 a2 v3) (.exit 0) (F141_l0_0_X1 a1 a2 w))) r := by
 intro k
 induction k with
 | zero => intro v3 r hF; cases hF
 | succ k ih =>
  intro v3 r hF
  rw [F141_l0_0] at hF
  refine cond_some hF (fun h4 hF => ?_) (fun h4 hF => ?_)
  ·
   refine cond_some hF (fun h5 hF => ?_) (fun _ hF => nomatch hF)
   refine bind_some hF (fun x6 h7 hF => ?_)
   refine cond_some hF (fun h8 hF => ?_) (fun _ hF => nomatch hF)
   refine bind_some hF (fun x9 h10 hF => ?_)
   have q12 : PQ hn141 fun l => (.int (nl a1) (nl a1) :: (tt (ilt v3 (nl a1))) :: (tt (inr v3 (len a1))) :: .sub (flat eBool a1) (nidx v3 1) 1 [(.lit (.bool x6))] :: (tt (inr v3 (len a2))) :: .sub (flat eBool a2) (nidx v3 1) 1 [(.lit (.bool x9))] :: l) := fun z => ⟨rfl, h4, h5, ⟨rfl, sub_flat0 eBool_len h7 1 (by decide)⟩, h8, ⟨rfl, sub_flat0 eBool_len h10 1 (by decide)⟩, z⟩
   refine cond_some hF (fun h11 hF => ?_) (fun h11 hF => ?_)
   ·
    have pz : HA hn141 [(ff (bnot (beqb x6 x9))), .int (wadd .i64 v3 1) (wadd .i64 v3 1)] := ⟨(bnot_t h11), rfl, trivial⟩
    have h0 := ih _ _ hF
    have hn := lN hn141 0 c141_0 (F141_l0_0_S a1 a2 v3) (F141_l0_0_S a1 a2 (wadd .i64 v3 1)) (q12 pz)
    cases r with
    | inl w => exact hn _ _ h0
    | inr w => exact hn _ _ h0
   obtain rfl := sj hF
   have pz : HA hn141 [(tt (bnot (beqb x6 x9)))] := ⟨(bnot_f h11), trivial⟩
   exact lE hn141 0 c141_0 (F141_l0_0_S a1 a2 v3) (F141_l0_0_X0 a1 a2 ()) .ret (q12 pz)
  obtain rfl := sj hF
  have pz : HA hn141 [.int (nl a1) (nl a1), (ff (ilt v3 (nl a1)))] := ⟨rfl, h4, trivial⟩
  exact lE hn141 0 c141_0 (F141_l0_0_S a1 a2 v3) (F141_l0_0_X1 a1 a2 ()) (.exit 0) pz
def F141 (K : Nat) (a1 : List Bool) (a2 : List Bool) : Option (Bool) :=
 bif (ieq (nlen (len a1)) (nlen (len a2))) then
  ((F141_l0_0 K a1 a2 K 0).bind fun y3 =>
  Sum.elim (fun w4 =>
   some false)
   (fun w5 =>
   some true) y3)
 else
 some false
theorem F141_ok (K : Nat) (a1 : List Bool) (a2 : List Bool) (r : Bool) (hF : F141 K a1 a2 = some r) : Evt E H 141 [.one (.sl (len a1) (flat eBool a1)), .one (.sl (len a2) (flat eBool a2))] (F141_res r) := by
 rw [F141] at hF
 refine cond_some hF (fun h3 hF => ?_) (fun h3 hF => ?_)
 ·
  have q8 : PQ hn141 fun l => (.int (nl a1) (nl a1) :: .int (nl a2) (nl a2) :: (ff (ine (nl a1) (nl a2))) :: l) := fun z => ⟨rfl, rfl, (ine_t h3), z⟩
  refine bind_some hF (fun y5 h4 hF => ?_)
  refine sum_some hF (fun w6 hx hF => ?_) (fun w7 hx hF => ?_)
  ·
   subst hx
   obtain rfl := sj hF
   have pz : HA hn141 [.loop 0 c141_0 (F141_l0_0_S a1 a2 0) .ret (F141_l0_0_X0 a1 a2 w6)] := ⟨(F141_l0_0_ok K a1 a2 K 0 _ h4), trivial⟩
   exact fpC hn141 (r := F141_res false) (q8 pz)
  subst hx
  obtain rfl := sj hF
  have pz : HA hn141 [.loop 0 c141_0 (F141_l0_0_S a1 a2 0) (.exit 0) (F141_l0_0_X1 a1 a2 w7)] := ⟨(F141_l0_0_ok K a1 a2 K 0 _ h4), trivial⟩
  exact fpC hn141 (r := F141_res true) (q8 pz)
 obtain rfl := sj hF
 have pz : HA hn141 [.int (nl a1) (nl a1), .int (nl a2) (nl a2), (tt (ine (nl a1) (nl a2)))] := ⟨rfl, rfl, (ine_f h3), trivial⟩
 exact fpC hn141 (r := F141_res false) pz
noncomputable def hn89 : Hint := { H 89 with nt := 26, prot := 0 }
noncomputable def c89_0 : Code := loopOf E 89 0
def F89_res (r1 : Bool) : Res := ⟨[(.one (.im (.lit (.bool r1))))], []⟩
def F89_l0_0 (K : Nat) (a1 : List GMsg) (a2 : List GMsg) : Nat → Int → Option ((Unit) ⊕ (Unit))
 | 0, _ => none
 | k + 1, v3 =>
  bif (ilt v3 (nlen (len a1))) then
   (bif (inr v3 (len a1)) then
   (elAt a1 v3).bind fun x4 =>
   bif (inr v3 (len a2)) then
   (elAt a2 v3).bind fun x5 =>
   bif (ieq x4.To x5.To) then
    (bif (ieq x4.V x5.V) then
     (F89_l0_0 K a1 a2 k (wadd .i64 v3 1))
    else
    some (.inl ()))
   else
   some (.inl ())
   else none
   else none)
  else
  some (.inr ())
def F89_l0_0_S (a1 : List GMsg) (a2 : List GMsg) (v3 : Int) : TS := .on [0, 1, 64, 65, 320, 321] [(0, ⟨.one, 0, nob⟩), (1, ⟨.im, 0, (.sl (len a1) (flat eGMsg a1))⟩), (64, ⟨.one, 0, nob⟩), (65, ⟨.im, 0, (.sl (len a2) (flat eGMsg a2))⟩), (320, ⟨.one, 0, nob⟩), (321, ⟨.im, 0, (.lit (.int .i64 v3))⟩)]
def F89_l0_0_X0 (a1 : List GMsg) (a2 : List GMsg) (w3 : Unit) : TS := .on [256, 257] [(256, ⟨.one, 0, nob⟩), (257, ⟨.im, 0, (.lit (.bool false))⟩)]
def F89_l0_0_X1 (a1 : List GMsg) (a2 : List GMsg) (w3 : Unit) : TS := .on [] []
theorem F89_l0_0_ok (K : Nat) (a1 : List GMsg) (a2 : List GMsg) : ∀ (k : Nat) (v3 : Int) (r : (Unit) ⊕ (Unit)), F89_l0_0 K a1 a2 k v3 = some r → (Sum.elim (fun w => LoopEv E H hn89 0 c89_0 (F89_l0_0_S a1 a2 v3) .ret (F89_l0_0_X0 a1 a2 w)) (fun w => LoopEv E H hn89 0 c89_0 (F89_l0_0_S a1 a2 v3) (.exit 0) (F89_l0_0_X1 a1 a2 w))) r := by
 intro k
 induction k with
 | zero => intro v3 r hF; cases hF
 | succ k ih =>
  intro v3 r hF
  rw [F89_l0_0] at hF
  refine cond_some hF (fun h4 hF => ?_) (fun h4 hF => ?_)
  ·
   refine cond_some hF (fun h5 hF => ?_) (fun _ hF => nomatch hF)
   refine bind_some hF (fun x6 h7 hF => ?_)
   refine cond_some hF (fun h8 hF => ?_) (fun _ hF => nomatch hF)
   refine bind_some hF (fun x9 h10 hF => ?_)
   have q13 : PQ hn89 fun l => (.int (nl a1) (nl a1) :: (tt (ilt v3 (nl a1))) :: (tt (inr v3 (len a1))) :: .sub (flat eGMsg a1) (nidx v3 2) 2 [(i6 x6.To), (i6 x6.V)] :: (tt (inr v3 (len a2))) :: .sub (flat eGMsg a2) (nidx v3 2) 2 [(i6 x9.To), (i6 x9.V)] :: l) := fun z => ⟨rfl, h4, h5, ⟨rfl, sub_flat0 eGMsg_len h7 2 (by decide)⟩, h8, ⟨rfl, sub_flat0 eGMsg_len h10 2 (by decide)⟩, z⟩
   refine cond_some hF (fun h11 hF => ?_) (fun h11 hF => ?_)
   ·
    refine cond_some hF (fun h12 hF => ?_) (fun h12 hF => ?_)
    ·
     have pz : HA hn89 [(ff (bnot (band (ieq x6.To x9.To) (band (ieq x6.V x9.V) true)))), .int (wadd .i64 v3 1) (wadd .i64 v3 1)] := ⟨(bnot_t (band_tt h11 (band_tt h12 rfl))), rfl, trivial⟩
     have h0 := ih _ _ hF
     have hn := lN hn89 0 c89_0 (F89_l0_0_S a1 a2 v3) (F89_l0_0_S a1 a2 (wadd .i64 v3 1)) (q13 pz)
     cases r with
     | inl w => exact hn _ _ h0
     | inr w => exact hn _ _ h0
    obtain rfl := sj hF
    have pz : HA hn89 [(tt (bnot (band (ieq x6.To x9.To) (band (ieq x6.V x9.V) true))))] := ⟨(bnot_f (band_f2 h11 (band_f1 h12))), trivial⟩
    exact lE hn89 0 c89_0 (F89_l0_0_S a1 a2 v3) (F89_l0_0_X0 a1 a2 ()) .ret (q13 pz)
   obtain rfl := sj hF
   have pz : HA hn89 [(tt (bnot (band (ieq x6.To x9.To) (band (ieq x6.V x9.V) true))))] := ⟨(bnot_f (band_f1 h11)), trivial⟩
   exact lE hn89 0 c89_0 (F89_l0_0_S a1 a2 v3) (F89_l0_0_X0 a1 a2 ()) .ret (q13 pz)
  obtain rfl := sj hF
  have pz : HA hn89 [.int (nl a1) (nl a1), (ff (ilt v3 (nl a1)))] := ⟨rfl, h4, trivial⟩
  exact lE hn89 0 c89_0 (F89_l0_0_S a1 a2 v3) (F89_l0_0_X1 a1 a2 ()) (.exit 0) pz
def F89 (K : Nat) (a1 : List GMsg) (a2 : List GMsg) : Option (Bool) :=
 bif (ieq (nlen (len a1)) (nlen (len a2))) then
  ((F89_l0_0 K a1 a2 K 0).bind fun y3 =>
  Sum.elim (fun w4 =>
   some false)
   (fun w5 =>
   some true) y3)
 else
 some false
theorem F89_ok (K : Nat) (a1 : List GMsg) (a2 : List GMsg) (r : Bool) (hF : F89 K a1 a2 = some r) : Evt E H 89 [.one (.sl (len a1) (flat eGMsg a1)), .one (.sl (len a2) (flat eGMsg a2))] (F89_res r) := by
 rw [F89] at hF
 refine cond_some hF (fun h3 hF => ?_) (fun h3 hF => ?_)
 ·
  have q8 : PQ hn89 fun l => (.int (nl a1) (nl a1) :: .int (nl a2) (nl a2) :: (ff (ine (nl a1) (nl a2))) :: l) := fun z => ⟨rfl, rfl, (ine_t h3), z⟩
  refine bind_some hF (fun y5 h4 hF => ?_)
  refine sum_some hF (fun w6 hx hF => ?_) (fun w7 hx hF => ?_)
  ·
   subst hx
   obtain rfl := sj hF
   have pz : HA hn89 [.loop 0 c89_0 (F89_l0_0_S a1 a2 0) .ret (F89_l0_0_X0 a1 a2 w6)] := ⟨(F89_l0_0_ok K a1 a2 K 0 _ h4), trivial⟩
   exact fpC hn89 (r := F89_res false) (q8 pz)
  subst hx
  obtain rfl := sj hF
  have pz : HA hn89 [.loop 0 c89_0 (F89_l0_0_S a1 a2 0) (.exit 0) (F89_l0_0_X1 a1 a2 w7)] := ⟨(F89_l0_0_ok K a1 a2 K 0 _ h4), trivial⟩
  exact fpC hn89 (r := F89_res true) (q8 pz)
 obtain rfl := sj hF
 have pz : HA hn89 [.int (nl a1) (nl a1), .int (nl a2) (nl a2), (tt (ine (nl a1) (nl a2)))] := ⟨rfl, rfl, (ine_f h3), trivial⟩
 exact fpC hn89 (r := F89_res false) pz
noncomputable def hn87 : Hint := { H 87 with nt := 31, prot := 0 }
def F87_res (r1 : Bool) : Res := ⟨[(.one (.im (.lit (.bool r1))))], []⟩
def F87 (K : Nat) (a1 : GState) (a2 : GState) : Option (Bool) :=
 bif (ieq a1.Step a2.Step) then
  ((F140 K a1.Vals a2.Vals).bind fun r3 =>
  bif r3 then
   ((F141 K a1.Rest a2.Rest).bind fun r4 =>
   bif r4 then
    ((F89 K a1.In a2.In).bind fun r5 =>
    some r5)
   else
   some false)
  else
  some false)
 else
 some false
theorem F87_ok (K : Nat) (a1 : GState) (a2 : GState) (r : Bool) (hF : F87 K a1 a2 = some r) : Evt E H 87 [.agg (eGState a1), .agg (eGState a2)] (F87_res r) := by
 rw [F87] at hF
 refine cond_some hF (fun h3 hF => ?_) (fun h3 hF => ?_)
 ·
  refine bind_some hF (fun r4 h5 hF => ?_)
  have q12 : PQ hn87 fun l => ((bh (ieq a1.Step a2.Step)) :: (bh (ieq a1.Step a2.Step)) :: (bh (ieq a1.Step a2.Step)) :: (bh (ieq a1.Step a2.Step)) :: (bh (ieq a1.Step a2.Step)) :: .call 140 [.one (.sl (len a1.Vals) (flat (eInt .i64) a1.Vals)), .one (.sl (len a2.Vals) (flat (eInt .i64) a2.Vals))] (F140_res r4) :: (ff (leadsAny (Res.mk [(.one (.im (.lit (.bool r4))))] []))) :: (tt (ieq a1.Step a2.Step)) :: l) := fun z => ⟨(bC h3), (bC h3), (bC h3), (bC h3), (bC h3), (F140_ok K a1.Vals a2.Vals _ h5), lk, h3, z⟩
  refine cond_some hF (fun h6 hF => ?_) (fun h6 hF => ?_)
  ·
   refine bind_some hF (fun r7 h8 hF => ?_)
   have q13 : PQ hn87 fun l => ((bh r4) :: (bh r4) :: (bh r4) :: (bh r4) :: (bh r4) :: .call 141 [.one (.sl (len a1.Rest) (flat eBool a1.Rest)), .one (.sl (len a2.Rest) (flat eBool a2.Rest))] (F141_res r7) :: (ff (leadsAny (Res.mk [(.one (.im (.lit (.bool r7))))] []))) :: (tt r4) :: l) := fun z => ⟨(bC h6), (bC h6), (bC h6), (bC h6), (bC h6), (F141_ok K a1.Rest a2.Rest _ h8), lk, h6, z⟩
   refine cond_some hF (fun h9 hF => ?_) (fun h9 hF => ?_)
   ·
    refine bind_some hF (fun r10 h11 hF => ?_)
    obtain rfl := sj hF
    have pz : HA hn87 [(bh r7), (bh r7), (bh r7), (bh r7), (bh r7), .call 89 [.one (.sl (len a1.In) (flat eGMsg a1.In)), .one (.sl (len a2.In) (flat eGMsg a2.In))] (F89_res r10), (ff (leadsAny (Res.mk [(.one (.im (.lit (.bool r10))))] []))), (tt r7)] := ⟨(bC h9), (bC h9), (bC h9), (bC h9), (bC h9), (F89_ok K a1.In a2.In _ h11), lk, h9, trivial⟩
    exact fpC hn87 (r := F87_res r10) (q12 (q13 pz))
   obtain rfl := sj hF
   have pz : HA hn87 [(bk r7), (bk r7), (bk r7), (bk r7), (bk r7), (ff r7)] := ⟨(bC h9), (bC h9), (bC h9), (bC h9), (bC h9), h9, trivial⟩
   exact fpC hn87 (r := F87_res false) (q12 (q13 pz))
  obtain rfl := sj hF
  have pz : HA hn87 [(bk r4), (bk r4), (bk r4), (bk r4), (bk r4), (ff r4), (bk false), (bk false), (bk false), (bk false), (bk false), (ff false)] := ⟨(bC h6), (bC h6), (bC h6), (bC h6), (bC h6), h6, (bC rfl), (bC rfl), (bC rfl), (bC rfl), (bC rfl), rfl, trivial⟩
  exact fpC hn87 (r := F87_res false) (q12 pz)
 obtain rfl := sj hF
 have pz : HA hn87 [(bk (ieq a1.Step a2.Step)), (bk (ieq a1.Step a2.Step)), (bk (ieq a1.Step a2.Step)), (bk (ieq a1.Step a2.Step)), (bk (ieq a1.Step a2.Step)), (ff (ieq a1.Step a2.Step)), (bk false), (bk false), (bk false), (bk false), (bk false), (ff false), (bk false), (bk false), (bk false), (bk false), (bk false), (ff false)] := ⟨(bC h3), (bC h3), (bC h3), (bC h3), (bC h3), h3, (bC rfl), (bC rfl), (bC rfl), (bC rfl), (bC rfl), rfl, (bC rfl), (bC rfl), (bC rfl), (bC rfl), (bC rfl), rfl, trivial⟩
 exact fpC hn87 (r := F87_res false) pz
theorem self_go {α : Type} {l : List α} (eq : α → α → Option (Unit ⊕ Unit) → Option (Unit ⊕ Unit)) (he : ∀ x ∈ l, ∀ c, eq x x c = c) : ∀ (r : List α) (i : Nat), l.drop i = r →
 goI (fun i x (_ : Unit) c => bif inr (i : Int) (len l) then (elAt l (i : Int)).bind fun y => eq x y (c ()) else none) (fun _ => some (.inr ())) i r () = some (.inr ()) := by
 intro r
 induction r with
 | nil => intro i _; rfl
 | cons x r ih =>
  intro i hr
  have hi := lt_of_drop' hr
  have hd := List.drop_eq_getElem_cons hi
  rw [hr] at hd
  injection hd with a b
  have e1 : inr (i : Int) (len l) = true := decide_eq_true ⟨by omega, by show (i : Int) < (l.length : Int); omega⟩
  have e2 : elAt l (i : Int) = some x := by rw [elAt_nat, a]; simp [hi]
  rw [goI, e1, e2, cond_true, Option.bind_some, he x (by rw [a]; exact List.getElem_mem hi)]
  exact ih (i + 1) b.symm
theorem same140 {K : Nat} (l : List Int) (hl : l.length < 1000000) (hK : l.length < K) : F140 K l l = some true := by
 have h := scanI (l := l) (L := fun k (_ : Unit) i => F140_l0_0 K l l k i) (fun i x (_ : Unit) c => bif inr (i : Int) (len l) then (elAt l (i : Int)).bind fun y => bif ieq x y then c () else some (.inl ()) else none) (fun _ => some (.inr ())) (fun k st i hi => rfl) (by omega) K () 0 (by omega) (by omega)
 have g := self_go (l := l) (fun x y c => bif ieq x y then c else some (.inl ())) (fun x _ c => by rw [ieq_refl]; rfl) l 0 rfl
 have h' : F140_l0_0 K l l K 0 = some (.inr ()) := h.trans g
 rw [F140, ieq_refl, h']; rfl
theorem same141 {K : Nat} (l : List Bool) (hl : l.length < 1000000) (hK : l.length < K) : F141 K l l = some true := by
 have h := scanI (l := l) (L := fun k (_ : Unit) i => F141_l0_0 K l l k i) (fun i x (_ : Unit) c => bif inr (i : Int) (len l) then (elAt l (i : Int)).bind fun y => bif beqb x y then c () else some (.inl ()) else none) (fun _ => some (.inr ())) (fun k st i hi => rfl) (by omega) K () 0 (by omega) (by omega)
 have g := self_go (l := l) (fun x y c => bif beqb x y then c else some (.inl ())) (fun x _ c => by rw [beqb_refl]; rfl) l 0 rfl
 have h' : F141_l0_0 K l l K 0 = some (.inr ()) := h.trans g
 rw [F141, ieq_refl, h']; rfl
theorem same89 {K : Nat} (l : List GMsg) (hl : l.length < 1000000) (hK : l.length < K) : F89 K l l = some true := by
 have h := scanI (l := l) (L := fun k (_ : Unit) i => F89_l0_0 K l l k i) (fun i x (_ : Unit) c => bif inr (i : Int) (len l) then (elAt l (i : Int)).bind fun y => bif ieq x.To y.To then (bif ieq x.V y.V then c () else some (.inl ())) else some (.inl ()) else none) (fun _ => some (.inr ())) (fun k st i hi => rfl) (by omega) K () 0 (by omega) (by omega)
 have g := self_go (l := l) (fun x y c => bif ieq x.To y.To then (bif ieq x.V y.V then c else some (.inl ())) else some (.inl ())) (fun x _ c => by rw [ieq_refl, ieq_refl]; rfl) l 0 rfl
 have h' : F89_l0_0 K l l K 0 = some (.inr ()) := h.trans g
 rw [F89, ieq_refl, h']; rfl
theorem sorted_ext {α : Type} {lt : α → α → Prop} (asym : ∀ a b, lt a b → ¬ lt b a) : ∀ {l l' : List α}, l.Pairwise lt → l'.Pairwise lt → (∀ x, x ∈ l ↔ x ∈ l') → l = l'
 | [], [], _, _, _ => rfl
 | [], b :: l', _, _, h => absurd ((h b).2 List.mem_cons_self) (by simp)
 | a :: l, [], _, _, h => absurd ((h a).1 List.mem_cons_self) (by simp)
 | a :: l, b :: l', h1, h2, h => by
  obtain ⟨p1, p2⟩ := List.pairwise_cons.1 h1
  obtain ⟨q1, q2⟩ := List.pairwise_cons.1 h2
  have hab : a = b := by
   rcases List.mem_cons.1 ((h a).1 List.mem_cons_self) with e | e
   · exact e
   · rcases List.mem_cons.1 ((h b).2 List.mem_cons_self) with e' | e'
     · exact e'.symm
     · exact absurd (p1 b e') (asym _ _ (q1 a e))
  subst hab
  congr 1
  refine sorted_ext asym p2 q2 fun x => ⟨fun hx => ?_, fun hx => ?_⟩
  · rcases List.mem_cons.1 ((h x).1 (List.mem_cons_of_mem _ hx)) with e | e
    · subst e; exact absurd (p1 x hx) (fun q => asym _ _ q q)
    · exact e
  · rcases List.mem_cons.1 ((h x).2 (List.mem_cons_of_mem _ hx)) with e | e
    · subst e; exact absurd (q1 x hx) (fun q => asym _ _ q q)
    · exact e
def leM (a b : GMsg) : Bool := ilt a.To b.To || (ieq a.To b.To && ile a.V b.V)
theorem leM_iff {a b : GMsg} : leM a b = true ↔ a.To < b.To ∨ a.To = b.To ∧ a.V ≤ b.V := by simp [leM, ilt, ieq, ile]
theorem leM_f {a b : GMsg} : leM a b = false ↔ ¬ (a.To < b.To ∨ a.To = b.To ∧ a.V ≤ b.V) := by rw [← leM_iff]; simp
theorem leM_trans {a b c : GMsg} (h : leM a b = true) (g : leM b c = true) : leM a c = true := by rw [leM_iff] at *; omega
theorem leM_anti {a b : GMsg} (h : leM a b = true) (g : leM b a = true) : a = b := by
 rw [leM_iff] at h g
 cases a; cases b
 simp only [GMsg.mk.injEq]
 dsimp only at h g
 omega
theorem leM_total {a b : GMsg} (h : leM a b = false) : leM b a = true := by rw [leM_f] at h; rw [leM_iff]; omega
def srtM (l : List GMsg) : Prop := l.Pairwise fun a b => leM a b = true
theorem srtM_eq {l l' : List GMsg} (h : srtM l) (h' : srtM l') (hp : l.Perm l') : l = l' :=
 List.Perm.eq_of_pairwise (fun a b _ _ h1 h2 => leM_anti h1 h2) h h' hp
def bubR : List GMsg → GMsg → List GMsg → List GMsg
 | [], x, Q => x :: Q
 | y :: R, x, Q => bif leM y x then (y :: R).reverse ++ x :: Q else bubR R x (y :: Q)
def sortM (l : List GMsg) : List GMsg := l.foldl (fun acc x => bubR acc.reverse x []) []
theorem bubR_perm (x : GMsg) : ∀ (R Q : List GMsg), (bubR R x Q).Perm (R.reverse ++ x :: Q)
 | [], Q => List.Perm.refl _
 | y :: R, Q => by
  rw [bubR]
  cases leM y x
  · refine (bubR_perm x R (y :: Q)).trans ?_
    rw [List.reverse_cons, List.append_assoc]
    exact List.Perm.append_left _ (List.Perm.swap y x Q)
  · exact List.Perm.refl _
theorem bubR_srt (x : GMsg) : ∀ (R Q : List GMsg), srtM (R.reverse ++ Q) → (∀ q ∈ Q, leM x q = true) → srtM (bubR R x Q)
 | [], Q, h, hx => List.pairwise_cons.2 ⟨hx, h⟩
 | y :: R, Q, h, hx => by
  rw [bubR]
  cases hy : leM y x
  · refine bubR_srt x R (y :: Q) ?_ fun q hq => ?_
    · rw [List.reverse_cons, List.append_assoc] at h; exact h
    · rcases List.mem_cons.1 hq with e | e
      · subst e; exact leM_total hy
      · exact hx q e
  · obtain ⟨h1, h2, h3⟩ := List.pairwise_append.1 h
    refine List.pairwise_append.2 ⟨h1, List.pairwise_cons.2 ⟨hx, h2⟩, fun a ha b hb => ?_⟩
    have hay : a = y ∨ leM a y = true := by
     rw [List.reverse_cons] at ha h1
     obtain ⟨_, _, h6⟩ := List.pairwise_append.1 h1
     rcases List.mem_append.1 ha with e | e
     · exact .inr (h6 a e y (by simp))
     · exact .inl (List.mem_singleton.1 e)
    rcases List.mem_cons.1 hb with e | e
    · subst e
      rcases hay with e | e
      · subst e; exact hy
      · exact leM_trans e hy
    · exact h3 a ha b e
theorem sort_go : ∀ (l acc : List GMsg), srtM acc → srtM (l.foldl (fun acc x => bubR acc.reverse x []) acc) ∧ (l.foldl (fun acc x => bubR acc.reverse x []) acc).Perm (acc ++ l)
 | [], acc, h => ⟨h, by simp⟩
 | x :: l, acc, h => by
  have h1 : srtM (bubR acc.reverse x []) := bubR_srt x acc.reverse [] (by simpa using h) (fun q hq => (nomatch hq))
  have h2 : (bubR acc.reverse x []).Perm (acc ++ [x]) := by simpa using bubR_perm x acc.reverse []
  obtain ⟨a, b⟩ := sort_go l _ h1
  refine ⟨a, b.trans ?_⟩
  have := h2.append_right l
  simpa using this
theorem sortM_srt (l : List GMsg) : srtM (sortM l) := (sort_go l [] List.Pairwise.nil).1
theorem sortM_perm (l : List GMsg) : (sortM l).Perm l := by
 have := (sort_go l [] List.Pairwise.nil).2
 rwa [List.nil_append] at this
theorem sortM_len (l : List GMsg) : (sortM l).length = l.length := (sortM_perm l).length_eq
theorem sortM_eq {l r : List GMsg} (h : srtM r) (hp : r.Perm l) : sortM l = r := srtM_eq (sortM_srt l) h ((sortM_perm l).trans hp.symm)
theorem sortM_congr {l l' : List GMsg} (hp : l.Perm l') : sortM l = sortM l' := sortM_eq (sortM_srt l') ((sortM_perm l').trans hp.symm)
noncomputable def hn65 : Hint := { H 65 with nt := 99, prot := 0 }
noncomputable def c65_0 : Code := loopOf E 65 0
def F65_res (r74 : Int) : Res := ⟨[(.one (.im (.lit (.int .i64 r74))))], []⟩
def F65_l0_0 (K : Nat) (a21 : GGraph) : Nat → Int → Option ((Int) ⊕ (Unit))
 | 0, _ => none
 | k + 1, v35 =>
  bif (ilt v35 (nlen (len a21.Edges))) then
   (bif (inr v35 (len a21.Edges)) then
   (elAt a21.Edges v35).bind fun x38 =>
   bif (ilt x38.From 0) then
    (some (.inl 4))
   else
   bif (ilt x38.To 0) then
    (some (.inl 4))
   else
   bif (ile a21.N x38.From) then
    (some (.inl 4))
   else
   bif (ile a21.N x38.To) then
    (some (.inl 4))
   else
   bif (ilt x38.W 0) then
    (some (.inl 1))
   else
   bif (ilt 4611686018427387904 x38.W) then
    (some (.inl 1))
   else
   bif (ilt 0 v35) then
    (bif (inr (wsub .i64 v35 1) (len a21.Edges)) then
    (elAt a21.Edges (wsub .i64 v35 1)).bind fun x48 =>
    bif (ieq x48.From x38.From) then
     (bif (ieq x48.To x38.To) then
      (some (.inl 5))
     else
     bif (ilt x38.From x48.From) then
      (some (.inl 6))
     else
     bif (ilt x38.To x48.To) then
      (some (.inl 6))
     else
     F65_l0_0 K a21 k (wadd .i64 v35 1))
    else
    bif (ilt x38.From x48.From) then
     (some (.inl 6))
    else
    F65_l0_0 K a21 k (wadd .i64 v35 1)
    else none)
   else
   F65_l0_0 K a21 k (wadd .i64 v35 1)
   else none)
  else
  some (.inr ())
def F65_l0_0_S (a21 : GGraph) (v35 : Int) : TS := .on [64, 65, 66, 192, 193] [(64, ⟨(.box 62 2), 0, nob⟩), (65, ⟨.im, 0, (.lit (.int .i64 a21.N))⟩), (66, ⟨.im, 0, (.sl (len a21.Edges) (flat eGEdge a21.Edges))⟩), (192, ⟨.one, 0, nob⟩), (193, ⟨.im, 0, (.lit (.int .i64 v35))⟩)]
def F65_l0_0_X0 (a21 : GGraph) (w55 : Int) : TS := .on [128, 129] [(128, ⟨.one, 0, nob⟩), (129, ⟨.im, 0, (.lit (.int .i64 w55))⟩)]
def F65_l0_0_X1 (a21 : GGraph) (w57 : Unit) : TS := .on [] []
theorem F65_l0_0_ok (K : Nat) (a21 : GGraph) : ∀ (k : Nat) (v35 : Int) (r : (Int) ⊕ (Unit)), F65_l0_0 K a21 k v35 = some r → (Sum.elim (fun w => LoopEv E H hn65 0 c65_0 (F65_l0_0_S a21 v35) .ret (F65_l0_0_X0 a21 w)) (fun w => LoopEv E H hn65 0 c65_0 (F65_l0_0_S a21 v35) (.exit 0) (F65_l0_0_X1 a21 w))) r := by
 intro k
 induction k with
 | zero => intro v35 r hF; cases hF
 | succ k ih =>
  intro v35 r hF
  rw [F65_l0_0] at hF
  refine cond_some hF (fun h36 hF => ?_) (fun h36 hF => ?_)
  ·
   refine cond_some hF (fun h37 hF => ?_) (fun _ hF => nomatch hF)
   refine bind_some hF (fun x38 h39 hF => ?_)
   have pq58 : PQ hn65 fun l => (.int (nl a21.Edges) (nl a21.Edges) :: (tt (ilt v35 (nl a21.Edges))) :: (tt (inr v35 (len a21.Edges))) :: .sub (flat eGEdge a21.Edges) (nidx v35 3) 3 [(i6 x38.From), (i6 x38.To), (i6 x38.W)] :: l) := fun z => ⟨rfl, h36, h37, ⟨rfl, sub_flat0 eGEdge_len h39 3 (by decide)⟩, z⟩
   refine cond_some hF (fun h40 hF => ?_) (fun h40 hF => ?_)
   ·
    obtain rfl := sj hF
    have pz : HA hn65 [(bf (ilt x38.From 0)), (bf (ilt x38.From 0)), (bf (ilt x38.From 0)), (tt (ilt x38.From 0)), bt, bt, bt, bt, bt, (tt true), bt, bt, bt, bt, bt, (tt true), (tt true)] := ⟨(bA h40), (bA h40), (bA h40), h40, br, br, br, br, br, rfl, br, br, br, br, br, rfl, rfl, trivial⟩
    exact lE hn65 0 c65_0 (F65_l0_0_S a21 v35) (F65_l0_0_X0 a21 4) .ret (pq58 pz)
   have pq59 : PQ hn65 fun l => ((bg (ilt x38.From 0)) :: (bg (ilt x38.From 0)) :: (bg (ilt x38.From 0)) :: (ff (ilt x38.From 0)) :: l) := fun z => ⟨(bB h40), (bB h40), (bB h40), h40, z⟩
   refine cond_some hF (fun h41 hF => ?_) (fun h41 hF => ?_)
   ·
    obtain rfl := sj hF
    have pz : HA hn65 [(bf (ilt x38.To 0)), (bf (ilt x38.To 0)), (bf (ilt x38.To 0)), (bf (ilt x38.To 0)), (bf (ilt x38.To 0)), (tt (ilt x38.To 0)), bt, bt, bt, bt, bt, (tt true), (tt true)] := ⟨(bA h41), (bA h41), (bA h41), (bA h41), (bA h41), h41, br, br, br, br, br, rfl, rfl, trivial⟩
    exact lE hn65 0 c65_0 (F65_l0_0_S a21 v35) (F65_l0_0_X0 a21 4) .ret (pq58 (pq59 pz))
   have pq60 : PQ hn65 fun l => ((bg (ilt x38.To 0)) :: (bg (ilt x38.To 0)) :: (bg (ilt x38.To 0)) :: (bg (ilt x38.To 0)) :: (bg (ilt x38.To 0)) :: (ff (ilt x38.To 0)) :: l) := fun z => ⟨(bB h41), (bB h41), (bB h41), (bB h41), (bB h41), h41, z⟩
   refine cond_some hF (fun h42 hF => ?_) (fun h42 hF => ?_)
   ·
    obtain rfl := sj hF
    have pz : HA hn65 [(bf (ige x38.From a21.N)), (bf (ige x38.From a21.N)), (bf (ige x38.From a21.N)), (bf (ige x38.From a21.N)), (bf (ige x38.From a21.N)), (tt (ige x38.From a21.N)), (tt true)] := ⟨(bA (ige_eq h42)), (bA (ige_eq h42)), (bA (ige_eq h42)), (bA (ige_eq h42)), (bA (ige_eq h42)), (ige_eq h42), rfl, trivial⟩
    exact lE hn65 0 c65_0 (F65_l0_0_S a21 v35) (F65_l0_0_X0 a21 4) .ret (pq58 (pq59 (pq60 pz)))
   have pq61 : PQ hn65 fun l => ((bg (ige x38.From a21.N)) :: (bg (ige x38.From a21.N)) :: (bg (ige x38.From a21.N)) :: (bg (ige x38.From a21.N)) :: (bg (ige x38.From a21.N)) :: (ff (ige x38.From a21.N)) :: l) := fun z => ⟨(bB (ige_eq h42)), (bB (ige_eq h42)), (bB (ige_eq h42)), (bB (ige_eq h42)), (bB (ige_eq h42)), (ige_eq h42), z⟩
   refine cond_some hF (fun h43 hF => ?_) (fun h43 hF => ?_)
   ·
    obtain rfl := sj hF
    have pz : HA hn65 [(tt (ige x38.To a21.N))] := ⟨(ige_eq h43), trivial⟩
    exact lE hn65 0 c65_0 (F65_l0_0_S a21 v35) (F65_l0_0_X0 a21 4) .ret (pq58 (pq59 (pq60 (pq61 pz))))
   refine cond_some hF (fun h44 hF => ?_) (fun h44 hF => ?_)
   ·
    obtain rfl := sj hF
    have pz : HA hn65 [(ff (ige x38.To a21.N)), (bf (ilt x38.W 0)), (bf (ilt x38.W 0)), (bf (ilt x38.W 0)), (tt (ilt x38.W 0)), (tt true)] := ⟨(ige_eq h43), (bA h44), (bA h44), (bA h44), h44, rfl, trivial⟩
    exact lE hn65 0 c65_0 (F65_l0_0_S a21 v35) (F65_l0_0_X0 a21 1) .ret (pq58 (pq59 (pq60 (pq61 pz))))
   have pq62 : PQ hn65 fun l => ((ff (ige x38.To a21.N)) :: (bg (ilt x38.W 0)) :: (bg (ilt x38.W 0)) :: (bg (ilt x38.W 0)) :: (ff (ilt x38.W 0)) :: l) := fun z => ⟨(ige_eq h43), (bB h44), (bB h44), (bB h44), h44, z⟩
   refine cond_some hF (fun h45 hF => ?_) (fun h45 hF => ?_)
   ·
    obtain rfl := sj hF
    have pz : HA hn65 [(tt (igt x38.W 4611686018427387904))] := ⟨(igt_eq h45), trivial⟩
    exact lE hn65 0 c65_0 (F65_l0_0_S a21 v35) (F65_l0_0_X0 a21 1) .ret (pq58 (pq59 (pq60 (pq61 (pq62 pz)))))
   refine cond_some hF (fun h46 hF => ?_) (fun h46 hF => ?_)
   ·
    refine cond_some hF (fun h47 hF => ?_) (fun _ hF => nomatch hF)
    refine bind_some hF (fun x48 h49 hF => ?_)
    have pq63 : PQ hn65 fun l => ((ff (igt x38.W 4611686018427387904)) :: (tt (igt v35 0)) :: .int (wsub .i64 v35 1) (wsub .i64 v35 1) :: (tt (inr (wsub .i64 v35 1) (len a21.Edges))) :: .sub (flat eGEdge a21.Edges) (nidx (wsub .i64 v35 1) 3) 3 [(i6 x48.From), (i6 x48.To), (i6 x48.W)] :: l) := fun z => ⟨(igt_eq h45), (igt_eq h46), rfl, h47, ⟨rfl, sub_flat0 eGEdge_len h49 3 (by decide)⟩, z⟩
    refine cond_some hF (fun h50 hF => ?_) (fun h50 hF => ?_)
    ·
     have pq64 : PQ hn65 fun l => ((bh (ieq x48.From x38.From)) :: (bh (ieq x48.From x38.From)) :: (bh (ieq x48.From x38.From)) :: (bh (ieq x48.From x38.From)) :: (bh (ieq x48.From x38.From)) :: (tt (ieq x48.From x38.From)) :: l) := fun z => ⟨(bC h50), (bC h50), (bC h50), (bC h50), (bC h50), h50, z⟩
     refine cond_some hF (fun h51 hF => ?_) (fun h51 hF => ?_)
     ·
      obtain rfl := sj hF
      have pz : HA hn65 [(tt (ieq x48.To x38.To))] := ⟨h51, trivial⟩
      exact lE hn65 0 c65_0 (F65_l0_0_S a21 v35) (F65_l0_0_X0 a21 5) .ret (pq58 (pq59 (pq60 (pq61 (pq62 (pq63 (pq64 pz)))))))
     refine cond_some hF (fun h52 hF => ?_) (fun h52 hF => ?_)
     ·
      obtain rfl := sj hF
      have pz : HA hn65 [(ff (ieq x48.To x38.To)), (bf (igt x48.From x38.From)), (bf (igt x48.From x38.From)), (bf (igt x48.From x38.From)), (bf (igt x48.From x38.From)), (bf (igt x48.From x38.From)), (bf (igt x48.From x38.From)), (bf (igt x48.From x38.From)), (tt (igt x48.From x38.From)), (tt true)] := ⟨h51, (bA (igt_eq h52)), (bA (igt_eq h52)), (bA (igt_eq h52)), (bA (igt_eq h52)), (bA (igt_eq h52)), (bA (igt_eq h52)), (bA (igt_eq h52)), (igt_eq h52), rfl, trivial⟩
      exact lE hn65 0 c65_0 (F65_l0_0_S a21 v35) (F65_l0_0_X0 a21 6) .ret (pq58 (pq59 (pq60 (pq61 (pq62 (pq63 (pq64 pz)))))))
     have pq65 : PQ hn65 fun l => ((ff (ieq x48.To x38.To)) :: (bg (igt x48.From x38.From)) :: (bg (igt x48.From x38.From)) :: (bg (igt x48.From x38.From)) :: (bg (igt x48.From x38.From)) :: (bg (igt x48.From x38.From)) :: (bg (igt x48.From x38.From)) :: (bh (ieq x48.From x38.From)) :: (bh (ieq x48.From x38.From)) :: (bh (ieq x48.From x38.From)) :: (bh (ieq x48.From x38.From)) :: (bh (ieq x48.From x38.From)) :: (bg (igt x48.From x38.From)) :: (tt (ieq x48.From x38.From)) :: (ff (igt x48.From x38.From)) :: l) := fun z => ⟨h51, (bB (igt_eq h52)), (bB (igt_eq h52)), (bB (igt_eq h52)), (bB (igt_eq h52)), (bB (igt_eq h52)), (bB (igt_eq h52)), (bC h50), (bC h50), (bC h50), (bC h50), (bC h50), (bB (igt_eq h52)), h50, (igt_eq h52), z⟩
     refine cond_some hF (fun h53 hF => ?_) (fun h53 hF => ?_)
     ·
      obtain rfl := sj hF
      have pz : HA hn65 [(tt (igt x48.To x38.To))] := ⟨(igt_eq h53), trivial⟩
      exact lE hn65 0 c65_0 (F65_l0_0_S a21 v35) (F65_l0_0_X0 a21 6) .ret (pq58 (pq59 (pq60 (pq61 (pq62 (pq63 (pq64 (pq65 pz))))))))
     have pz : HA hn65 [(ff (igt x48.To x38.To)), .int (wadd .i64 v35 1) (wadd .i64 v35 1)] := ⟨(igt_eq h53), rfl, trivial⟩
     have h0 := ih _ _ hF
     have hn := lN hn65 0 c65_0 (F65_l0_0_S a21 v35) (F65_l0_0_S a21 (wadd .i64 v35 1)) (pq58 (pq59 (pq60 (pq61 (pq62 (pq63 (pq64 (pq65 pz))))))))
     cases r with
     | inl w => exact hn _ _ h0
     | inr w => exact hn _ _ h0
    have pq66 : PQ hn65 fun l => ((bk (ieq x48.From x38.From)) :: (bk (ieq x48.From x38.From)) :: (bk (ieq x48.From x38.From)) :: (bk (ieq x48.From x38.From)) :: (bk (ieq x48.From x38.From)) :: (ff (ieq x48.From x38.From)) :: (ff false) :: l) := fun z => ⟨(bC h50), (bC h50), (bC h50), (bC h50), (bC h50), h50, rfl, z⟩
    refine cond_some hF (fun h54 hF => ?_) (fun h54 hF => ?_)
    ·
     obtain rfl := sj hF
     have pz : HA hn65 [(bf (igt x48.From x38.From)), (bf (igt x48.From x38.From)), (bf (igt x48.From x38.From)), (bf (igt x48.From x38.From)), (bf (igt x48.From x38.From)), (bf (igt x48.From x38.From)), (bf (igt x48.From x38.From)), (tt (igt x48.From x38.From)), (tt true)] := ⟨(bA (igt_eq h54)), (bA (igt_eq h54)), (bA (igt_eq h54)), (bA (igt_eq h54)), (bA (igt_eq h54)), (bA (igt_eq h54)), (bA (igt_eq h54)), (igt_eq h54), rfl, trivial⟩
     exact lE hn65 0 c65_0 (F65_l0_0_S a21 v35) (F65_l0_0_X0 a21 6) .ret (pq58 (pq59 (pq60 (pq61 (pq62 (pq63 (pq66 pz)))))))
    have pz : HA hn65 [(bg (igt x48.From x38.From)), (bg (igt x48.From x38.From)), (bg (igt x48.From x38.From)), (bg (igt x48.From x38.From)), (bg (igt x48.From x38.From)), (bg (igt x48.From x38.From)), (bk (ieq x48.From x38.From)), (bk (ieq x48.From x38.From)), (bk (ieq x48.From x38.From)), (bk (ieq x48.From x38.From)), (bk (ieq x48.From x38.From)), (bg (igt x48.From x38.From)), (ff (ieq x48.From x38.From)), (ff (igt x48.From x38.From)), (ff false), .int (wadd .i64 v35 1) (wadd .i64 v35 1)] := ⟨(bB (igt_eq h54)), (bB (igt_eq h54)), (bB (igt_eq h54)), (bB (igt_eq h54)), (bB (igt_eq h54)), (bB (igt_eq h54)), (bC h50), (bC h50), (bC h50), (bC h50), (bC h50), (bB (igt_eq h54)), h50, (igt_eq h54), rfl, rfl, trivial⟩
    have h0 := ih _ _ hF
    have hn := lN hn65 0 c65_0 (F65_l0_0_S a21 v35) (F65_l0_0_S a21 (wadd .i64 v35 1)) (pq58 (pq59 (pq60 (pq61 (pq62 (pq63 (pq66 pz)))))))
    cases r with
    | inl w => exact hn _ _ h0
    | inr w => exact hn _ _ h0
   have pz : HA hn65 [(ff (igt x38.W 4611686018427387904)), (ff (igt v35 0)), .int (wadd .i64 v35 1) (wadd .i64 v35 1)] := ⟨(igt_eq h45), (igt_eq h46), rfl, trivial⟩
   have h0 := ih _ _ hF
   have hn := lN hn65 0 c65_0 (F65_l0_0_S a21 v35) (F65_l0_0_S a21 (wadd .i64 v35 1)) (pq58 (pq59 (pq60 (pq61 (pq62 pz)))))
   cases r with
   | inl w => exact hn _ _ h0
   | inr w => exact hn _ _ h0
  obtain rfl := sj hF
  have pz : HA hn65 [.int (nl a21.Edges) (nl a21.Edges), (ff (ilt v35 (nl a21.Edges)))] := ⟨rfl, h36, trivial⟩
  exact lE hn65 0 c65_0 (F65_l0_0_S a21 v35) (F65_l0_0_X1 a21 ()) (.exit 0) pz
def F65 (K : Nat) (a21 : GGraph) : Option (Int) :=
 bif (ilt a21.N 1) then
  (some 1)
 else
 bif (ilt 24 a21.N) then
  (some 1)
 else
 bif (ilt 80 (nlen (len a21.Edges))) then
  (some 3)
 else
 (F65_l0_0 K a21 K 0).bind fun y68 =>
 Sum.elim (fun w69 =>
  some w69)
  (fun w71 =>
  some 0) y68
theorem F65_ok (K : Nat) (a21 : GGraph) (r : Int) (hF : F65 K a21 = some r) : Evt E H 65 [.agg (eGGraph a21)] (F65_res r) := by
 rw [F65] at hF
 refine cond_some hF (fun h22 hF => ?_) (fun h22 hF => ?_)
 ·
  obtain rfl := sj hF
  have pz : HA hn65 [(bf (ilt a21.N 1)), (bf (ilt a21.N 1)), (bf (ilt a21.N 1)), (tt (ilt a21.N 1)), (tt true)] := ⟨(bA h22), (bA h22), (bA h22), h22, rfl, trivial⟩
  exact fpC hn65 (r := F65_res 1) pz
 have pq72 : PQ hn65 fun l => ((bg (ilt a21.N 1)) :: (bg (ilt a21.N 1)) :: (bg (ilt a21.N 1)) :: (ff (ilt a21.N 1)) :: l) := fun z => ⟨(bB h22), (bB h22), (bB h22), h22, z⟩
 refine cond_some hF (fun h23 hF => ?_) (fun h23 hF => ?_)
 ·
  obtain rfl := sj hF
  have pz : HA hn65 [(tt (igt a21.N 24))] := ⟨(igt_eq h23), trivial⟩
  exact fpC hn65 (r := F65_res 1) (pq72 pz)
 refine cond_some hF (fun h24 hF => ?_) (fun h24 hF => ?_)
 ·
  obtain rfl := sj hF
  have pz : HA hn65 [(ff (igt a21.N 24)), .int (nl a21.Edges) (nl a21.Edges), (tt (igt (nl a21.Edges) 80))] := ⟨(igt_eq h23), rfl, (igt_eq h24), trivial⟩
  exact fpC hn65 (r := F65_res 3) (pq72 pz)
 have pq73 : PQ hn65 fun l => ((ff (igt a21.N 24)) :: .int (nl a21.Edges) (nl a21.Edges) :: (ff (igt (nl a21.Edges) 80)) :: l) := fun z => ⟨(igt_eq h23), rfl, (igt_eq h24), z⟩
 refine bind_some hF (fun y68 h67 hF => ?_)
 refine sum_some hF (fun w69 hx hF => ?_) (fun w71 hx hF => ?_)
 ·
  subst hx
  obtain rfl := sj hF
  have pz : HA hn65 [.loop 0 c65_0 (F65_l0_0_S a21 0) .ret (F65_l0_0_X0 a21 w69)] := ⟨(F65_l0_0_ok K a21 K 0 _ h67), trivial⟩
  exact fpC hn65 (r := F65_res w69) (pq72 (pq73 pz))
 subst hx
 obtain rfl := sj hF
 have pz : HA hn65 [.loop 0 c65_0 (F65_l0_0_S a21 0) (.exit 0) (F65_l0_0_X1 a21 w71)] := ⟨(F65_l0_0_ok K a21 K 0 _ h67), trivial⟩
 exact fpC hn65 (r := F65_res 0) (pq72 (pq73 pz))
noncomputable def hn132 : Hint := { H 132 with nt := 35, prot := 0 }
def F132_res (r1 : Int) : Res := ⟨[(.one (.im (.lit (.int .i64 r1))))], []⟩
def F132 (K : Nat) (a1 : GEdge) (a2 : Int) : Option (Int) :=
 bif (ilt a1.From 0) then
  (some 4)
 else
 bif (ile a2 a1.From) then
  (some 4)
 else
 bif (ilt a1.To 0) then
  (some 4)
 else
 bif (ile a2 a1.To) then
  (some 4)
 else
 bif (ilt a1.W 0) then
  (some 1)
 else
 bif (ilt 4611686018427387904 a1.W) then
  (some 1)
 else
 some 0
theorem F132_ok (K : Nat) (a1 : GEdge) (a2 : Int) (r : Int) (hF : F132 K a1 a2 = some r) : Evt E H 132 [.agg (eGEdge a1), .one (.lit (.int .i64 a2))] (F132_res r) := by
 rw [F132] at hF
 refine cond_some hF (fun h3 hF => ?_) (fun h3 hF => ?_)
 ·
  obtain rfl := sj hF
  have pz : HA hn132 [(bf (ilt a1.From 0)), (bf (ilt a1.From 0)), (bf (ilt a1.From 0)), (bf (ilt a1.From 0)), (tt (ilt a1.From 0)), bt, bt, bt, (tt true), bt, bt, bt, bt, (tt true), (tt true)] := ⟨(bA h3), (bA h3), (bA h3), (bA h3), h3, br, br, br, rfl, br, br, br, br, rfl, rfl, trivial⟩
  exact fpC hn132 (r := F132_res 4) pz
 have q9 : PQ hn132 fun l => ((bg (ilt a1.From 0)) :: (bg (ilt a1.From 0)) :: (bg (ilt a1.From 0)) :: (bg (ilt a1.From 0)) :: (ff (ilt a1.From 0)) :: l) := fun z => ⟨(bB h3), (bB h3), (bB h3), (bB h3), h3, z⟩
 refine cond_some hF (fun h4 hF => ?_) (fun h4 hF => ?_)
 ·
  obtain rfl := sj hF
  have pz : HA hn132 [(bf (ige a1.From a2)), (bf (ige a1.From a2)), (bf (ige a1.From a2)), (tt (ige a1.From a2)), bt, bt, bt, bt, (tt true), (tt true)] := ⟨(bA (ige_eq h4)), (bA (ige_eq h4)), (bA (ige_eq h4)), (ige_eq h4), br, br, br, br, rfl, rfl, trivial⟩
  exact fpC hn132 (r := F132_res 4) (q9 pz)
 have q10 : PQ hn132 fun l => ((bg (ige a1.From a2)) :: (bg (ige a1.From a2)) :: (bg (ige a1.From a2)) :: (ff (ige a1.From a2)) :: l) := fun z => ⟨(bB (ige_eq h4)), (bB (ige_eq h4)), (bB (ige_eq h4)), (ige_eq h4), z⟩
 refine cond_some hF (fun h5 hF => ?_) (fun h5 hF => ?_)
 ·
  obtain rfl := sj hF
  have pz : HA hn132 [(bf (ilt a1.To 0)), (bf (ilt a1.To 0)), (bf (ilt a1.To 0)), (bf (ilt a1.To 0)), (tt (ilt a1.To 0)), (tt true)] := ⟨(bA h5), (bA h5), (bA h5), (bA h5), h5, rfl, trivial⟩
  exact fpC hn132 (r := F132_res 4) (q9 (q10 pz))
 have q11 : PQ hn132 fun l => ((bg (ilt a1.To 0)) :: (bg (ilt a1.To 0)) :: (bg (ilt a1.To 0)) :: (bg (ilt a1.To 0)) :: (ff (ilt a1.To 0)) :: l) := fun z => ⟨(bB h5), (bB h5), (bB h5), (bB h5), h5, z⟩
 refine cond_some hF (fun h6 hF => ?_) (fun h6 hF => ?_)
 ·
  obtain rfl := sj hF
  have pz : HA hn132 [(tt (ige a1.To a2))] := ⟨(ige_eq h6), trivial⟩
  exact fpC hn132 (r := F132_res 4) (q9 (q10 (q11 pz)))
 refine cond_some hF (fun h7 hF => ?_) (fun h7 hF => ?_)
 ·
  obtain rfl := sj hF
  have pz : HA hn132 [(ff (ige a1.To a2)), (bf (ilt a1.W 0)), (bf (ilt a1.W 0)), (bf (ilt a1.W 0)), (tt (ilt a1.W 0)), (tt true)] := ⟨(ige_eq h6), (bA h7), (bA h7), (bA h7), h7, rfl, trivial⟩
  exact fpC hn132 (r := F132_res 1) (q9 (q10 (q11 pz)))
 have q12 : PQ hn132 fun l => ((ff (ige a1.To a2)) :: (bg (ilt a1.W 0)) :: (bg (ilt a1.W 0)) :: (bg (ilt a1.W 0)) :: (ff (ilt a1.W 0)) :: l) := fun z => ⟨(ige_eq h6), (bB h7), (bB h7), (bB h7), h7, z⟩
 refine cond_some hF (fun h8 hF => ?_) (fun h8 hF => ?_)
 ·
  obtain rfl := sj hF
  have pz : HA hn132 [(tt (igt a1.W 4611686018427387904))] := ⟨(igt_eq h8), trivial⟩
  exact fpC hn132 (r := F132_res 1) (q9 (q10 (q11 (q12 pz))))
 obtain rfl := sj hF
 have pz : HA hn132 [(ff (igt a1.W 4611686018427387904))] := ⟨(igt_eq h8), trivial⟩
 exact fpC hn132 (r := F132_res 0) (q9 (q10 (q11 (q12 pz))))
noncomputable def hn133 : Hint := { H 133 with nt := 20, prot := 0 }
def F133_res (r1 : Int) : Res := ⟨[(.one (.im (.lit (.int .i64 r1))))], []⟩
def F133 (K : Nat) (a1 : GEdge) (a2 : GEdge) : Option (Int) :=
 bif (ieq a1.From a2.From) then
  (some (wsub .i64 a1.To a2.To))
 else
 some (wsub .i64 a1.From a2.From)
theorem F133_ok (K : Nat) (a1 : GEdge) (a2 : GEdge) (r : Int) (hF : F133 K a1 a2 = some r) : Evt E H 133 [.agg (eGEdge a1), .agg (eGEdge a2)] (F133_res r) := by
 rw [F133] at hF
 refine cond_some hF (fun h3 hF => ?_) (fun h3 hF => ?_)
 ·
  obtain rfl := sj hF
  have pz : HA hn133 [(ff (ine a1.From a2.From)), .int (wsub .i64 a1.To a2.To) (wsub .i64 a1.To a2.To)] := ⟨(ine_t h3), rfl, trivial⟩
  exact fpC hn133 (r := F133_res (wsub .i64 a1.To a2.To)) pz
 obtain rfl := sj hF
 have pz : HA hn133 [(tt (ine a1.From a2.From)), .int (wsub .i64 a1.From a2.From) (wsub .i64 a1.From a2.From)] := ⟨(ine_f h3), rfl, trivial⟩
 exact fpC hn133 (r := F133_res (wsub .i64 a1.From a2.From)) pz
noncomputable def hn64 : Hint := { H 64 with nt := 51, prot := 0 }
noncomputable def c64_0 : Code := loopOf E 64 0
def F64_res (r1 : Int) : Res := ⟨[(.one (.im (.lit (.int .i64 r1))))], []⟩
def F64_l0_0 (K : Nat) (a1 : GGraph) : Nat → Int → Option ((Int) ⊕ (Unit))
 | 0, _ => none
 | k + 1, v2 =>
  bif (ilt v2 (nlen (len a1.Edges))) then
   (bif (inr v2 (len a1.Edges)) then
   (elAt a1.Edges v2).bind fun x3 =>
   (F132 K x3 a1.N).bind fun r4 =>
   bif (ieq r4 0) then
    (bif (ieq v2 0) then
     (F64_l0_0 K a1 k (wadd .i64 v2 1))
    else
    bif (inr (wsub .i64 v2 1) (len a1.Edges)) then
    (elAt a1.Edges (wsub .i64 v2 1)).bind fun x5 =>
    (F133 K x5 x3).bind fun r6 =>
    bif (ieq r6 0) then
     (some (.inl 5))
    else
    bif (ilt 0 r6) then
     (some (.inl 6))
    else
    F64_l0_0 K a1 k (wadd .i64 v2 1)
    else none)
   else
   some (.inl r4)
   else none)
  else
  some (.inr ())
def F64_l0_0_S (a1 : GGraph) (v2 : Int) : TS := .on [64, 65, 66, 1216, 1280, 1281, 1344, 1345, 1408, 1409] [(64, ⟨(.box 62 2), 0, nob⟩), (65, ⟨.im, 0, (.lit (.int .i64 a1.N))⟩), (66, ⟨.im, 0, (.sl (len a1.Edges) (flat eGEdge a1.Edges))⟩), (1216, ⟨(.ad 1 0 1), 0, nob⟩), (1280, ⟨.one, 0, nob⟩), (1281, ⟨.im, 0, (.sl (len a1.Edges) (flat eGEdge a1.Edges))⟩), (1344, ⟨.one, 0, nob⟩), (1345, ⟨.im, 0, (.lit (.int .i64 (nlen (len a1.Edges))))⟩), (1408, ⟨.one, 0, nob⟩), (1409, ⟨.im, 0, (.lit (.int .i64 v2))⟩)]
def F64_l0_0_X0 (a1 : GGraph) (w2 : Int) : TS := .on [128, 129] [(128, ⟨.one, 0, nob⟩), (129, ⟨.im, 0, (.lit (.int .i64 w2))⟩)]
def F64_l0_0_X1 (a1 : GGraph) (w2 : Unit) : TS := .on [] []
theorem F64_l0_0_ok (K : Nat) (a1 : GGraph) : ∀ (k : Nat) (v2 : Int) (r : (Int) ⊕ (Unit)), F64_l0_0 K a1 k v2 = some r → (Sum.elim (fun w => LoopEv E H hn64 0 c64_0 (F64_l0_0_S a1 v2) .ret (F64_l0_0_X0 a1 w)) (fun w => LoopEv E H hn64 0 c64_0 (F64_l0_0_S a1 v2) (.exit 0) (F64_l0_0_X1 a1 w))) r := by
 intro k
 induction k with
 | zero => intro v2 r hF; cases hF
 | succ k ih =>
  intro v2 r hF
  rw [F64_l0_0] at hF
  refine cond_some hF (fun h3 hF => ?_) (fun h3 hF => ?_)
  ·
   refine cond_some hF (fun h4 hF => ?_) (fun _ hF => nomatch hF)
   refine bind_some hF (fun x5 h6 hF => ?_)
   refine bind_some hF (fun r7 h8 hF => ?_)
   have q18 : PQ hn64 fun l => ((tt (ilt v2 (nl a1.Edges))) :: (tt (inr v2 (len a1.Edges))) :: .sub (flat eGEdge a1.Edges) (nidx v2 3) 3 [(i6 x5.From), (i6 x5.To), (i6 x5.W)] :: .call 132 [.agg (eGEdge x5), .one (i6 a1.N)] (F132_res r7) :: (ff (leadsAny (Res.mk [(.one (.im (i6 r7)))] []))) :: l) := fun z => ⟨h3, h4, ⟨rfl, sub_flat0 eGEdge_len h6 3 (by decide)⟩, (F132_ok K x5 a1.N _ h8), lk, z⟩
   refine cond_some hF (fun h9 hF => ?_) (fun h9 hF => ?_)
   ·
    refine cond_some hF (fun h10 hF => ?_) (fun h10 hF => ?_)
    ·
     have pz : HA hn64 [(ff (ine r7 0)), (tt (ieq v2 0)), .int (wadd .i64 v2 1) (wadd .i64 v2 1)] := ⟨(ine_t h9), h10, rfl, trivial⟩
     have h0 := ih _ _ hF
     have hn := lN hn64 0 c64_0 (F64_l0_0_S a1 v2) (F64_l0_0_S a1 (wadd .i64 v2 1)) (q18 pz)
     cases r with
     | inl w => exact hn _ _ h0
     | inr w => exact hn _ _ h0
    refine cond_some hF (fun h11 hF => ?_) (fun _ hF => nomatch hF)
    refine bind_some hF (fun x12 h13 hF => ?_)
    refine bind_some hF (fun r14 h15 hF => ?_)
    have q19 : PQ hn64 fun l => ((ff (ine r7 0)) :: (ff (ieq v2 0)) :: .int (wsub .i64 v2 1) (wsub .i64 v2 1) :: (tt (inr (wsub .i64 v2 1) (len a1.Edges))) :: .sub (flat eGEdge a1.Edges) (nidx (wsub .i64 v2 1) 3) 3 [(i6 x12.From), (i6 x12.To), (i6 x12.W)] :: .call 133 [.agg (eGEdge x12), .agg (eGEdge x5)] (F133_res r14) :: (ff (leadsAny (Res.mk [(.one (.im (i6 r14)))] []))) :: l) := fun z => ⟨(ine_t h9), h10, rfl, h11, ⟨rfl, sub_flat0 eGEdge_len h13 3 (by decide)⟩, (F133_ok K x12 x5 _ h15), lk, z⟩
    refine cond_some hF (fun h16 hF => ?_) (fun h16 hF => ?_)
    ·
     obtain rfl := sj hF
     have pz : HA hn64 [(tt (ieq r14 0))] := ⟨h16, trivial⟩
     exact lE hn64 0 c64_0 (F64_l0_0_S a1 v2) (F64_l0_0_X0 a1 5) .ret (q18 (q19 pz))
    refine cond_some hF (fun h17 hF => ?_) (fun h17 hF => ?_)
    ·
     obtain rfl := sj hF
     have pz : HA hn64 [(ff (ieq r14 0)), (tt (igt r14 0))] := ⟨h16, (igt_eq h17), trivial⟩
     exact lE hn64 0 c64_0 (F64_l0_0_S a1 v2) (F64_l0_0_X0 a1 6) .ret (q18 (q19 pz))
    have pz : HA hn64 [(ff (ieq r14 0)), (ff (igt r14 0)), .int (wadd .i64 v2 1) (wadd .i64 v2 1)] := ⟨h16, (igt_eq h17), rfl, trivial⟩
    have h0 := ih _ _ hF
    have hn := lN hn64 0 c64_0 (F64_l0_0_S a1 v2) (F64_l0_0_S a1 (wadd .i64 v2 1)) (q18 (q19 pz))
    cases r with
    | inl w => exact hn _ _ h0
    | inr w => exact hn _ _ h0
   obtain rfl := sj hF
   have pz : HA hn64 [(tt (ine r7 0))] := ⟨(ine_f h9), trivial⟩
   exact lE hn64 0 c64_0 (F64_l0_0_S a1 v2) (F64_l0_0_X0 a1 r7) .ret (q18 pz)
  obtain rfl := sj hF
  have pz : HA hn64 [(ff (ilt v2 (nl a1.Edges)))] := ⟨h3, trivial⟩
  exact lE hn64 0 c64_0 (F64_l0_0_S a1 v2) (F64_l0_0_X1 a1 ()) (.exit 0) pz
def F64 (K : Nat) (a1 : GGraph) : Option (Int) :=
 bif (ilt a1.N 1) then
  (some 1)
 else
 bif (ilt 24 a1.N) then
  (some 1)
 else
 bif (ilt 80 (nlen (len a1.Edges))) then
  (some 3)
 else
 (F64_l0_0 K a1 K 0).bind fun y2 =>
 Sum.elim (fun w3 =>
  some w3)
  (fun w4 =>
  some 0) y2
theorem F64_ok (K : Nat) (a1 : GGraph) (r : Int) (hF : F64 K a1 = some r) : Evt E H 64 [.agg (eGGraph a1)] (F64_res r) := by
 rw [F64] at hF
 refine cond_some hF (fun h2 hF => ?_) (fun h2 hF => ?_)
 ·
  obtain rfl := sj hF
  have pz : HA hn64 [(bf (ilt a1.N 1)), (bf (ilt a1.N 1)), (bf (ilt a1.N 1)), (tt (ilt a1.N 1)), (tt true)] := ⟨(bA h2), (bA h2), (bA h2), h2, rfl, trivial⟩
  exact fpC hn64 (r := F64_res 1) pz
 have q9 : PQ hn64 fun l => ((bg (ilt a1.N 1)) :: (bg (ilt a1.N 1)) :: (bg (ilt a1.N 1)) :: (ff (ilt a1.N 1)) :: l) := fun z => ⟨(bB h2), (bB h2), (bB h2), h2, z⟩
 refine cond_some hF (fun h3 hF => ?_) (fun h3 hF => ?_)
 ·
  obtain rfl := sj hF
  have pz : HA hn64 [(tt (igt a1.N 24))] := ⟨(igt_eq h3), trivial⟩
  exact fpC hn64 (r := F64_res 1) (q9 pz)
 refine cond_some hF (fun h4 hF => ?_) (fun h4 hF => ?_)
 ·
  obtain rfl := sj hF
  have pz : HA hn64 [(ff (igt a1.N 24)), .int (nl a1.Edges) (nl a1.Edges), (tt (igt (nl a1.Edges) 80))] := ⟨(igt_eq h3), rfl, (igt_eq h4), trivial⟩
  exact fpC hn64 (r := F64_res 3) (q9 pz)
 have q10 : PQ hn64 fun l => ((ff (igt a1.N 24)) :: .int (nl a1.Edges) (nl a1.Edges) :: (ff (igt (nl a1.Edges) 80)) :: .int (nl a1.Edges) (nl a1.Edges) :: l) := fun z => ⟨(igt_eq h3), rfl, (igt_eq h4), rfl, z⟩
 refine bind_some hF (fun y6 h5 hF => ?_)
 refine sum_some hF (fun w7 hx hF => ?_) (fun w8 hx hF => ?_)
 ·
  subst hx
  obtain rfl := sj hF
  have pz : HA hn64 [.loop 0 c64_0 (F64_l0_0_S a1 0) .ret (F64_l0_0_X0 a1 w7)] := ⟨(F64_l0_0_ok K a1 K 0 _ h5), trivial⟩
  exact fpC hn64 (r := F64_res w7) (q9 (q10 pz))
 subst hx
 obtain rfl := sj hF
 have pz : HA hn64 [.loop 0 c64_0 (F64_l0_0_S a1 0) (.exit 0) (F64_l0_0_X1 a1 w8)] := ⟨(F64_l0_0_ok K a1 K 0 _ h5), trivial⟩
 exact fpC hn64 (r := F64_res 0) (q9 (q10 pz))
def badE (n : Int) (e : GEdge) : Int :=
 bif ilt e.From 0 || ile n e.From || ilt e.To 0 || ile n e.To then 4 else bif ilt e.W 0 || ilt 4611686018427387904 e.W then 1 else 0
def ordE (d e : GEdge) : Int := bif ieq d.From e.From && ieq d.To e.To then 5 else bif ilt e.From d.From || (ieq d.From e.From && ilt e.To d.To) then 6 else 0
def gchk (n : Int) : Option GEdge → List GEdge → Int
 | _, [] => 0
 | prev, e :: r => bif ieq (badE n e) 0 then (match prev with
  | none => gchk n (some e) r
  | some d => bif ieq (ordE d e) 0 then gchk n (some e) r else ordE d e) else badE n e
def gcheck (g : GGraph) : Int := bif ilt g.N 1 || ilt 24 g.N then 1 else bif ilt 80 (nlen (len g.Edges)) then 3 else gchk g.N none g.Edges
def prevOf {α : Type} (l : List α) : Nat → Option α
 | 0 => none
 | i + 1 => l[i]?
theorem wsub_one {i : Nat} (h0 : 0 < i) (h : i < 4611686018427387904) : wsub .i64 (i : Int) 1 = ((i - 1 : Nat) : Int) := by
 show IntKind.i64.wrap ((i : Int) - 1) = _
 rw [IntKind.wrap_i64]; omega
theorem prev_at {α : Type} {l : List α} {i : Nat} (h0 : 0 < i) (hi : i < l.length) (hl : l.length < 4611686018427387904) :
 ∃ d, prevOf l i = some d ∧ wsub .i64 (i : Int) 1 = ((i - 1 : Nat) : Int) ∧ inr ((i - 1 : Nat) : Int) (len l) = true ∧ elAt l ((i - 1 : Nat) : Int) = some d := by
 obtain ⟨j, rfl⟩ : ∃ j, i = j + 1 := ⟨i - 1, by omega⟩
 refine ⟨l[j], by simp [prevOf], wsub_one h0 (by omega), decide_eq_true ⟨by omega, by show ((j + 1 - 1 : Nat) : Int) < (l.length : Int); omega⟩, ?_⟩
 rw [elAt_nat]
 simp
theorem prev_next {α : Type} {l : List α} {i : Nat} {x : α} {r : List α} (h : l.drop i = x :: r) : prevOf l (i + 1) = some x ∧ l.drop (i + 1) = r ∧ i < l.length := by
 have hi := lt_of_drop' h
 have := List.drop_eq_getElem_cons hi
 rw [h] at this
 injection this with a b
 exact ⟨by simp [prevOf, hi, a], b.symm, hi⟩
def sumI (v : Int) : Int ⊕ Unit := bif ieq v 0 then .inr () else .inl v
theorem F132_spec (K : Nat) (e : GEdge) (n : Int) : F132 K e n = some (badE n e) := by
 rw [F132, badE]
 cases ilt e.From 0 <;> cases ile n e.From <;> cases ilt e.To 0 <;> cases ile n e.To <;> cases ilt e.W 0 <;> cases ilt 4611686018427387904 e.W <;> rfl
theorem badE_ok {n : Int} {e : GEdge} (h : ieq (badE n e) 0 = true) : 0 ≤ e.From ∧ e.From < n ∧ 0 ≤ e.To ∧ e.To < n ∧ 0 ≤ e.W ∧ e.W ≤ 4611686018427387904 := by
 rw [badE] at h
 cases h1 : ilt e.From 0 || ile n e.From || ilt e.To 0 || ile n e.To
 · cases h2 : ilt e.W 0 || ilt 4611686018427387904 e.W
   · simp only [Bool.or_eq_false_iff, ilt_f, ile_f] at h1 h2
     omega
   · rw [h1, h2] at h; cases h
 · rw [h1] at h; cases h
theorem F133_spec (K : Nat) {n : Int} {d e : GEdge} (hn : n ≤ 24) (hd : ieq (badE n d) 0 = true) (he : ieq (badE n e) 0 = true) :
 F133 K d e = some (bif ieq d.From e.From then d.To - e.To else d.From - e.From) := by
 have h1 := badE_ok hd
 have h2 := badE_ok he
 rw [F133]
 have e1 : wsub .i64 d.To e.To = d.To - e.To := by show IntKind.i64.wrap _ = _; rw [IntKind.wrap_i64]; omega
 have e2 : wsub .i64 d.From e.From = d.From - e.From := by show IntKind.i64.wrap _ = _; rw [IntKind.wrap_i64]; omega
 rw [e1, e2]
 cases ieq d.From e.From <;> rfl
theorem F64_loop {K : Nat} (hK : 100 ≤ K) (g : GGraph) (hl : g.Edges.length ≤ 80) (hn : g.N ≤ 24) : F64_l0_0 K g K 0 = some (sumI (gchk g.N none g.Edges)) := by
 let step : Nat → GEdge → Unit → (Unit → Option (Int ⊕ Unit)) → Option (Int ⊕ Unit) := fun i x _ c =>
  (F132 K x g.N).bind fun r => bif (ieq r 0) then (bif (ieq (i : Int) 0) then c () else bif (inr (wsub .i64 (i : Int) 1) (len g.Edges)) then
   (elAt g.Edges (wsub .i64 (i : Int) 1)).bind fun d => (F133 K d x).bind fun r => bif (ieq r 0) then (some (.inl 5)) else bif (ilt 0 r) then (some (.inl 6)) else c ()
   else none) else some (.inl r)
 let fin : Unit → Option (Int ⊕ Unit) := fun _ => some (.inr ())
 have h := scanI (l := g.Edges) (L := fun k (_ : Unit) i => F64_l0_0 K g k i) step fin (fun k st i hi => rfl) (by omega) K () 0 (by omega) (by omega)
 have hw : ∀ (r : List GEdge) (i : Nat), g.Edges.drop i = r → (∀ d, prevOf g.Edges i = some d → ieq (badE g.N d) 0 = true) → (i = 0 ∨ i ≤ g.Edges.length) → goI step fin i r () = some (sumI (gchk g.N (prevOf g.Edges i) r)) := by
  intro r
  induction r with
  | nil => intro i _ _ _; rfl
  | cons x r ih =>
   intro i hr hp _
   obtain ⟨n1, n2, hi⟩ := prev_next hr
   rw [goI]
   show ((F132 K x g.N).bind fun r' => bif (ieq r' 0) then (bif (ieq (i : Int) 0) then goI step fin (i + 1) r () else bif (inr (wsub .i64 (i : Int) 1) (len g.Edges)) then
    (elAt g.Edges (wsub .i64 (i : Int) 1)).bind fun d => (F133 K d x).bind fun r' => bif (ieq r' 0) then (some (.inl 5)) else bif (ilt 0 r') then (some (.inl 6)) else goI step fin (i + 1) r ()
    else none) else some (.inl r')) = _
   rw [F132_spec, Option.bind_some]
   cases hb : ieq (badE g.N x) 0
   · have hne : badE g.N x ≠ 0 := ieq_f.1 hb
     cases prevOf g.Edges i <;> simp only [gchk, hb, cond_false, sumI]
   · have nx : goI step fin (i + 1) r () = some (sumI (gchk g.N (some x) r)) := by
      have := ih (i + 1) n2 (fun d hd => by rw [n1] at hd; cases hd; exact hb) (.inr (by omega))
      rw [n1] at this; exact this
     rw [cond_true, nx]
     cases i with
     | zero =>
      have : ieq ((0 : Nat) : Int) 0 = true := rfl
      rw [this, cond_true]
      show _ = some (sumI (gchk g.N none (x :: r)))
      rw [gchk, hb]; rfl
     | succ j =>
      obtain ⟨d, p1, p2, p3, p4⟩ := prev_at (l := g.Edges) (i := j + 1) (by omega) hi (by omega)
      have hd := hp d p1
      have : ieq ((j + 1 : Nat) : Int) 0 = false := ieq_f.2 (by omega)
      rw [this, cond_false, p2, p3, cond_true, p4, Option.bind_some, F133_spec K hn hd hb, Option.bind_some, p1, gchk, hb, cond_true]
      have b1 := badE_ok hd
      have b2 := badE_ok hb
      by_cases q1 : d.From = x.From
      · have i1 : ieq d.From x.From = true := ieq_iff.2 q1
        rw [i1, cond_true]
        by_cases q2 : d.To = x.To
        · have o5 : ordE d x = 5 := by simp [ordE, ieq_iff.2 q1, ieq_iff.2 q2]
          have : ieq (d.To - x.To) 0 = true := ieq_iff.2 (by omega)
          rw [this, cond_true, o5]; rfl
        · have : ieq (d.To - x.To) 0 = false := ieq_f.2 (by omega)
          rw [this, cond_false]
          have j2 : ieq d.To x.To = false := ieq_f.2 q2
          by_cases q3 : x.To < d.To
          · have o6 : ordE d x = 6 := by simp [ordE, i1, j2, ilt_iff.2 q3]
            have : ilt 0 (d.To - x.To) = true := ilt_iff.2 (by omega)
            rw [this, cond_true, o6]; rfl
          · have o0 : ordE d x = 0 := by simp [ordE, i1, j2, ilt_f.2 (show d.To ≤ x.To by omega), ilt_f.2 (show d.From ≤ x.From by omega)]
            have : ilt 0 (d.To - x.To) = false := ilt_f.2 (by omega)
            rw [this, cond_false, o0]; rfl
      · have i1 : ieq d.From x.From = false := ieq_f.2 q1
        rw [i1, cond_false]
        have : ieq (d.From - x.From) 0 = false := ieq_f.2 (by omega)
        rw [this, cond_false]
        by_cases q3 : x.From < d.From
        · have o6 : ordE d x = 6 := by simp [ordE, i1, ilt_iff.2 q3]
          have : ilt 0 (d.From - x.From) = true := ilt_iff.2 (by omega)
          rw [this, cond_true, o6]; rfl
        · have o0 : ordE d x = 0 := by simp [ordE, i1, ilt_f.2 (show d.From ≤ x.From by omega)]
          have : ilt 0 (d.From - x.From) = false := ilt_f.2 (by omega)
          rw [this, cond_false, o0]; rfl
 have := hw g.Edges 0 rfl (fun d hd => by cases hd) (.inl rfl)
 rw [List.drop_zero, this] at h
 exact h
theorem sumI_elim (v : Int) : (some (sumI v)).bind (fun y => Sum.elim (fun w => some w) (fun w => some 0) y) = some v := by
 unfold sumI
 cases h : ieq v 0
 · rfl
 · have : v = 0 := ieq_iff.1 h
   subst this; rfl
theorem F64_spec {K : Nat} (hK : 100 ≤ K) (g : GGraph) : F64 K g = some (gcheck g) := by
 rw [F64, gcheck]
 cases ilt g.N 1
 · cases h2 : ilt 24 g.N
   · cases h3 : ilt 80 (nlen (len g.Edges))
     · have hl : g.Edges.length ≤ 80 := by have := ilt_f.1 h3; simp only [nlen, len] at this; omega
       have hn := ilt_f.1 h2
       rw [F64_loop hK g hl hn]
       exact sumI_elim _
     · rfl
   · rfl
 · rfl
theorem F65_loop {K : Nat} (hK : 100 ≤ K) (g : GGraph) (hl : g.Edges.length ≤ 80) : F65_l0_0 K g K 0 = some (sumI (gchk g.N none g.Edges)) := by
 let chk : Nat → GEdge → Option (Int ⊕ Unit) → Option (Int ⊕ Unit) := fun i x c =>
  bif (ilt 0 (i : Int)) then
   (bif (inr (wsub .i64 (i : Int) 1) (len g.Edges)) then
   (elAt g.Edges (wsub .i64 (i : Int) 1)).bind fun d =>
   bif (ieq d.From x.From) then
    (bif (ieq d.To x.To) then (some (.inl 5)) else bif (ilt x.From d.From) then (some (.inl 6)) else bif (ilt x.To d.To) then (some (.inl 6)) else c)
   else bif (ilt x.From d.From) then (some (.inl 6)) else c
   else none)
  else c
 let step : Nat → GEdge → Unit → (Unit → Option (Int ⊕ Unit)) → Option (Int ⊕ Unit) := fun i x _ c =>
  bif (ilt x.From 0) then (some (.inl 4)) else bif (ilt x.To 0) then (some (.inl 4)) else bif (ile g.N x.From) then (some (.inl 4)) else bif (ile g.N x.To) then (some (.inl 4)) else
  bif (ilt x.W 0) then (some (.inl 1)) else bif (ilt 4611686018427387904 x.W) then (some (.inl 1)) else chk i x (c ())
 let fin : Unit → Option (Int ⊕ Unit) := fun _ => some (.inr ())
 have h := scanI (l := g.Edges) (L := fun k (_ : Unit) i => F65_l0_0 K g k i) step fin (fun k st i hi => rfl) (by omega) K () 0 (by omega) (by omega)
 have hstep : ∀ i x c, step i x () c = bif ieq (badE g.N x) 0 then chk i x (c ()) else some (.inl (badE g.N x)) := by
  intro i x c
  show (bif (ilt x.From 0) then (some (.inl 4)) else bif (ilt x.To 0) then (some (.inl 4)) else bif (ile g.N x.From) then (some (.inl 4)) else bif (ile g.N x.To) then (some (.inl 4)) else
   bif (ilt x.W 0) then (some (.inl 1)) else bif (ilt 4611686018427387904 x.W) then (some (.inl 1)) else chk i x (c ())) = _
  rw [badE]
  cases ilt x.From 0 <;> cases ile g.N x.From <;> cases ilt x.To 0 <;> cases ile g.N x.To <;> cases ilt x.W 0 <;> cases ilt 4611686018427387904 x.W <;> rfl
 have hw : ∀ (r : List GEdge) (i : Nat), g.Edges.drop i = r → goI step fin i r () = some (sumI (gchk g.N (prevOf g.Edges i) r)) := by
  intro r
  induction r with
  | nil => intro i _; rfl
  | cons x r ih =>
   intro i hr
   obtain ⟨n1, n2, hi⟩ := prev_next hr
   rw [goI, hstep]
   cases hb : ieq (badE g.N x) 0
   · have hne : badE g.N x ≠ 0 := ieq_f.1 hb
     cases prevOf g.Edges i <;> simp only [gchk, hb, cond_false, sumI]
   · have nx := ih (i + 1) n2
     rw [n1] at nx
     rw [cond_true, nx]
     cases i with
     | zero =>
      show some (sumI (gchk g.N (some x) r)) = some (sumI (gchk g.N none (x :: r)))
      rw [gchk, hb]; rfl
     | succ j =>
      obtain ⟨d, p1, p2, p3, p4⟩ := prev_at (l := g.Edges) (i := j + 1) (by omega) hi (by omega)
      have : ilt 0 ((j + 1 : Nat) : Int) = true := ilt_iff.2 (by omega)
      show (bif (ilt 0 ((j + 1 : Nat) : Int)) then
       (bif (inr (wsub .i64 ((j + 1 : Nat) : Int) 1) (len g.Edges)) then
       (elAt g.Edges (wsub .i64 ((j + 1 : Nat) : Int) 1)).bind fun d =>
       bif (ieq d.From x.From) then
        (bif (ieq d.To x.To) then (some (.inl 5)) else bif (ilt x.From d.From) then (some (.inl 6)) else bif (ilt x.To d.To) then (some (.inl 6)) else some (sumI (gchk g.N (some x) r)))
       else bif (ilt x.From d.From) then (some (.inl 6)) else some (sumI (gchk g.N (some x) r))
       else none)
      else some (sumI (gchk g.N (some x) r))) = _
      rw [this, cond_true, p2, p3, cond_true, p4, Option.bind_some, p1, gchk, hb, cond_true, ordE]
      cases hf : ieq d.From x.From
      · cases ilt x.From d.From <;> rfl
      · have : ilt x.From d.From = false := ilt_f.2 (by have := ieq_iff.1 hf; omega)
        rw [this]
        cases ieq d.To x.To <;> cases ilt x.To d.To <;> rfl
 have := hw g.Edges 0 rfl
 rw [List.drop_zero, this] at h
 exact h
theorem F65_spec {K : Nat} (hK : 100 ≤ K) (g : GGraph) : F65 K g = some (gcheck g) := by
 rw [F65, gcheck]
 cases ilt g.N 1
 · cases h2 : ilt 24 g.N
   · cases h3 : ilt 80 (nlen (len g.Edges))
     · have hl : g.Edges.length ≤ 80 := by have := ilt_f.1 h3; simp only [nlen, len] at this; omega
       rw [F65_loop hK g hl]
       exact sumI_elim _
     · rfl
   · rfl
 · rfl
theorem gcheck_ok {g : GGraph} (h : ieq (gcheck g) 0 = true) : 1 ≤ g.N ∧ g.N ≤ 24 ∧ g.Edges.length ≤ 80 ∧ gchk g.N none g.Edges = 0 := by
 rw [gcheck] at h
 cases h1 : ilt g.N 1 || ilt 24 g.N
 · rw [h1, cond_false] at h
   cases h2 : ilt 80 (nlen (len g.Edges))
   · rw [h2, cond_false] at h
     simp only [Bool.or_eq_false_iff, ilt_f] at h1
     have := ilt_f.1 h2
     simp only [nlen, len] at this
     exact ⟨by omega, by omega, by omega, ieq_iff.1 h⟩
   · rw [h2] at h; cases h
 · rw [h1] at h; cases h
theorem gchk_mem {n : Int} : ∀ {l : List GEdge} {p : Option GEdge}, gchk n p l = 0 → ∀ e ∈ l, ieq (badE n e) 0 = true
 | [], _, _, e, h => by cases h
 | x :: l, p, h, e, he => by
  unfold gchk at h
  cases hb : ieq (badE n x) 0
  · rw [hb, cond_false] at h; rw [h] at hb; cases hb
  · rw [hb, cond_true] at h
    rcases List.mem_cons.1 he with q | q
    · subst q; exact hb
    · cases p with
      | none => exact gchk_mem h e q
      | some d =>
       dsimp only at h
       cases ho : ieq (ordE d x) 0
       · rw [ho, cond_false] at h; rw [h] at ho; cases ho
       · rw [ho, cond_true] at h; exact gchk_mem h e q
noncomputable def hn59 : Hint := { H 59 with nt := 51, prot := 0 }
def F59_res (r94 : Int) : Res := ⟨[(.one (.im (.lit (.int .i64 r94))))], []⟩
def F59 (K : Nat) (a19 : GGraph) (a20 : GJob) : Option (Int) :=
 (F65 K a19).bind fun r75 =>
 bif (ieq r75 0) then
  (bif (ilt a20.Prog 1) then
   (some 1)
  else
  bif (ilt 5 a20.Prog) then
   (some 1)
  else
  bif (ilt a20.Source 0) then
   (some 1)
  else
  bif (ile a19.N a20.Source) then
   (some 1)
  else
  bif (ilt a20.Limit 0) then
   (some 1)
  else
  bif (ilt 40 a20.Limit) then
   (some 1)
  else
  bif (ilt a20.Parts 1) then
   (some 1)
  else
  bif (ilt 6 a20.Parts) then
   (some 1)
  else
  some 0)
 else
 some r75
theorem F59_ok (K : Nat) (a19 : GGraph) (a20 : GJob) (r : Int) (hF : F59 K a19 a20 = some r) : Evt E H 59 [.agg (eGGraph a19), .agg (eGJob a20)] (F59_res r) := by
 rw [F59] at hF
 refine bind_some hF (fun r75 h76 hF => ?_)
 refine cond_some hF (fun h77 hF => ?_) (fun h77 hF => ?_)
 ·
  have pq86 : PQ hn59 fun l => (.call 65 [.agg (eGGraph a19)] (F65_res r75) :: (ff (leadsAny (Res.mk [(.one (.im (i6 r75)))] []))) :: (ff (ine r75 0)) :: l) := fun z => ⟨(F65_ok K a19 _ h76), lk, (ine_t h77), z⟩
  refine cond_some hF (fun h78 hF => ?_) (fun h78 hF => ?_)
  ·
   obtain rfl := sj hF
   have pz : HA hn59 [(bf (ilt a20.Prog 1)), (bf (ilt a20.Prog 1)), (bf (ilt a20.Prog 1)), (tt (ilt a20.Prog 1)), bt, bt, bt, (tt true), bt, bt, bt, bt, bt, (tt true), bt, bt, bt, (tt true), bt, bt, bt, (tt true), bt, bt, bt, (tt true), bt, bt, bt, (tt true), (tt true)] := ⟨(bA h78), (bA h78), (bA h78), h78, br, br, br, rfl, br, br, br, br, br, rfl, br, br, br, rfl, br, br, br, rfl, br, br, br, rfl, br, br, br, rfl, rfl, trivial⟩
   exact fpC hn59 (r := F59_res 1) (pq86 pz)
  have pq87 : PQ hn59 fun l => ((bg (ilt a20.Prog 1)) :: (bg (ilt a20.Prog 1)) :: (bg (ilt a20.Prog 1)) :: (ff (ilt a20.Prog 1)) :: l) := fun z => ⟨(bB h78), (bB h78), (bB h78), h78, z⟩
  refine cond_some hF (fun h79 hF => ?_) (fun h79 hF => ?_)
  ·
   obtain rfl := sj hF
   have pz : HA hn59 [(bf (igt a20.Prog 5)), (bf (igt a20.Prog 5)), (bf (igt a20.Prog 5)), (tt (igt a20.Prog 5)), bt, bt, bt, bt, bt, (tt true), bt, bt, bt, (tt true), bt, bt, bt, (tt true), bt, bt, bt, (tt true), bt, bt, bt, (tt true), (tt true)] := ⟨(bA (igt_eq h79)), (bA (igt_eq h79)), (bA (igt_eq h79)), (igt_eq h79), br, br, br, br, br, rfl, br, br, br, rfl, br, br, br, rfl, br, br, br, rfl, br, br, br, rfl, rfl, trivial⟩
   exact fpC hn59 (r := F59_res 1) (pq86 (pq87 pz))
  have pq88 : PQ hn59 fun l => ((bg (igt a20.Prog 5)) :: (bg (igt a20.Prog 5)) :: (bg (igt a20.Prog 5)) :: (ff (igt a20.Prog 5)) :: l) := fun z => ⟨(bB (igt_eq h79)), (bB (igt_eq h79)), (bB (igt_eq h79)), (igt_eq h79), z⟩
  refine cond_some hF (fun h80 hF => ?_) (fun h80 hF => ?_)
  ·
   obtain rfl := sj hF
   have pz : HA hn59 [(bf (ilt a20.Source 0)), (bf (ilt a20.Source 0)), (bf (ilt a20.Source 0)), (bf (ilt a20.Source 0)), (bf (ilt a20.Source 0)), (tt (ilt a20.Source 0)), bt, bt, bt, (tt true), bt, bt, bt, (tt true), bt, bt, bt, (tt true), bt, bt, bt, (tt true), (tt true)] := ⟨(bA h80), (bA h80), (bA h80), (bA h80), (bA h80), h80, br, br, br, rfl, br, br, br, rfl, br, br, br, rfl, br, br, br, rfl, rfl, trivial⟩
   exact fpC hn59 (r := F59_res 1) (pq86 (pq87 (pq88 pz)))
  have pq89 : PQ hn59 fun l => ((bg (ilt a20.Source 0)) :: (bg (ilt a20.Source 0)) :: (bg (ilt a20.Source 0)) :: (bg (ilt a20.Source 0)) :: (bg (ilt a20.Source 0)) :: (ff (ilt a20.Source 0)) :: l) := fun z => ⟨(bB h80), (bB h80), (bB h80), (bB h80), (bB h80), h80, z⟩
  refine cond_some hF (fun h81 hF => ?_) (fun h81 hF => ?_)
  ·
   obtain rfl := sj hF
   have pz : HA hn59 [(bf (ige a20.Source a19.N)), (bf (ige a20.Source a19.N)), (bf (ige a20.Source a19.N)), (tt (ige a20.Source a19.N)), bt, bt, bt, (tt true), bt, bt, bt, (tt true), bt, bt, bt, (tt true), (tt true)] := ⟨(bA (ige_eq h81)), (bA (ige_eq h81)), (bA (ige_eq h81)), (ige_eq h81), br, br, br, rfl, br, br, br, rfl, br, br, br, rfl, rfl, trivial⟩
   exact fpC hn59 (r := F59_res 1) (pq86 (pq87 (pq88 (pq89 pz))))
  have pq90 : PQ hn59 fun l => ((bg (ige a20.Source a19.N)) :: (bg (ige a20.Source a19.N)) :: (bg (ige a20.Source a19.N)) :: (ff (ige a20.Source a19.N)) :: l) := fun z => ⟨(bB (ige_eq h81)), (bB (ige_eq h81)), (bB (ige_eq h81)), (ige_eq h81), z⟩
  refine cond_some hF (fun h82 hF => ?_) (fun h82 hF => ?_)
  ·
   obtain rfl := sj hF
   have pz : HA hn59 [(bf (ilt a20.Limit 0)), (bf (ilt a20.Limit 0)), (bf (ilt a20.Limit 0)), (tt (ilt a20.Limit 0)), bt, bt, bt, (tt true), bt, bt, bt, (tt true), (tt true)] := ⟨(bA h82), (bA h82), (bA h82), h82, br, br, br, rfl, br, br, br, rfl, rfl, trivial⟩
   exact fpC hn59 (r := F59_res 1) (pq86 (pq87 (pq88 (pq89 (pq90 pz)))))
  have pq91 : PQ hn59 fun l => ((bg (ilt a20.Limit 0)) :: (bg (ilt a20.Limit 0)) :: (bg (ilt a20.Limit 0)) :: (ff (ilt a20.Limit 0)) :: l) := fun z => ⟨(bB h82), (bB h82), (bB h82), h82, z⟩
  refine cond_some hF (fun h83 hF => ?_) (fun h83 hF => ?_)
  ·
   obtain rfl := sj hF
   have pz : HA hn59 [(bf (igt a20.Limit 40)), (bf (igt a20.Limit 40)), (bf (igt a20.Limit 40)), (tt (igt a20.Limit 40)), bt, bt, bt, (tt true), (tt true)] := ⟨(bA (igt_eq h83)), (bA (igt_eq h83)), (bA (igt_eq h83)), (igt_eq h83), br, br, br, rfl, rfl, trivial⟩
   exact fpC hn59 (r := F59_res 1) (pq86 (pq87 (pq88 (pq89 (pq90 (pq91 pz))))))
  have pq92 : PQ hn59 fun l => ((bg (igt a20.Limit 40)) :: (bg (igt a20.Limit 40)) :: (bg (igt a20.Limit 40)) :: (ff (igt a20.Limit 40)) :: l) := fun z => ⟨(bB (igt_eq h83)), (bB (igt_eq h83)), (bB (igt_eq h83)), (igt_eq h83), z⟩
  refine cond_some hF (fun h84 hF => ?_) (fun h84 hF => ?_)
  ·
   obtain rfl := sj hF
   have pz : HA hn59 [(bf (ilt a20.Parts 1)), (bf (ilt a20.Parts 1)), (bf (ilt a20.Parts 1)), (tt (ilt a20.Parts 1)), (tt true)] := ⟨(bA h84), (bA h84), (bA h84), h84, rfl, trivial⟩
   exact fpC hn59 (r := F59_res 1) (pq86 (pq87 (pq88 (pq89 (pq90 (pq91 (pq92 pz)))))))
  have pq93 : PQ hn59 fun l => ((bg (ilt a20.Parts 1)) :: (bg (ilt a20.Parts 1)) :: (bg (ilt a20.Parts 1)) :: (ff (ilt a20.Parts 1)) :: l) := fun z => ⟨(bB h84), (bB h84), (bB h84), h84, z⟩
  refine cond_some hF (fun h85 hF => ?_) (fun h85 hF => ?_)
  ·
   obtain rfl := sj hF
   have pz : HA hn59 [(tt (igt a20.Parts 6))] := ⟨(igt_eq h85), trivial⟩
   exact fpC hn59 (r := F59_res 1) (pq86 (pq87 (pq88 (pq89 (pq90 (pq91 (pq92 (pq93 pz))))))))
  obtain rfl := sj hF
  have pz : HA hn59 [(ff (igt a20.Parts 6))] := ⟨(igt_eq h85), trivial⟩
  exact fpC hn59 (r := F59_res 0) (pq86 (pq87 (pq88 (pq89 (pq90 (pq91 (pq92 (pq93 pz))))))))
 obtain rfl := sj hF
 have pz : HA hn59 [.call 65 [.agg (eGGraph a19)] (F65_res r75), (ff (leadsAny (Res.mk [(.one (.im (i6 r75)))] []))), (tt (ine r75 0))] := ⟨(F65_ok K a19 _ h76), lk, (ine_f h77), trivial⟩
 exact fpC hn59 (r := F59_res r75) pz
noncomputable def hn143 : Hint := { H 143 with nt := 21, prot := 0 }
def F143_res (r1 : Grule × Bool) : Res := ⟨[(.agg [(.im (.lit r1.1.start_)), (.im (.lit r1.1.better_)), (.im (.lit (.bool r1.1.only_))), (.im (.lit r1.1.send_))]), (.one (.im (.lit (.bool r1.2))))], []⟩
def F143_res0 (r1 : Grule × Bool) : Res := ⟨[(.agg [(.im (.lit (fnV 158))), (.im (.lit (fnV 159))), (.im (.lit (.bool r1.1.only_))), (.im (.lit (fnV 160)))]), (.one (.im (.lit (.bool r1.2))))], []⟩
def F143_res1 (r1 : Grule × Bool) : Res := ⟨[(.agg [(.im (.lit (fnV 158))), (.im (.lit (fnV 159))), (.im (.lit (.bool r1.1.only_))), (.im (.lit (fnV 161)))]), (.one (.im (.lit (.bool r1.2))))], []⟩
def F143_res2 (r1 : Grule × Bool) : Res := ⟨[(.agg [(.im (.lit (fnV 162))), (.im (.lit (fnV 159))), (.im (.lit (.bool r1.1.only_))), (.im (.lit (fnV 163)))]), (.one (.im (.lit (.bool r1.2))))], []⟩
def F143_res3 (r1 : Grule × Bool) : Res := ⟨[(.agg [(.im (.lit (fnV 164))), (.im (.lit (fnV 165))), (.im (.lit (.bool r1.1.only_))), (.im (.lit (fnV 163)))]), (.one (.im (.lit (.bool r1.2))))], []⟩
def F143_res4 (r1 : Grule × Bool) : Res := ⟨[(.agg [(.im (.lit (fnV 166))), (.im (.lit .nilFunc)), (.im (.lit (.bool r1.1.only_))), (.im (.lit (fnV 163)))]), (.one (.im (.lit (.bool r1.2))))], []⟩
def F143_res5 (r1 : Grule × Bool) : Res := ⟨[(.agg [(.im (.lit .nilFunc)), (.im (.lit .nilFunc)), (.im (.lit (.bool r1.1.only_))), (.im (.lit .nilFunc))]), (.one (.im (.lit (.bool r1.2))))], []⟩
def F143 (K : Nat) (a1 : Int) : Option (Grule × Bool) :=
 bif (ieq a1 1) then
  (some ((Grule.mk (fnV 158) (fnV 159) true (fnV 160)), true))
 else
 bif (ieq a1 3) then
  (some ((Grule.mk (fnV 158) (fnV 159) true (fnV 161)), true))
 else
 bif (ieq a1 2) then
  (some ((Grule.mk (fnV 162) (fnV 159) false (fnV 163)), true))
 else
 bif (ieq a1 4) then
  (some ((Grule.mk (fnV 164) (fnV 165) false (fnV 163)), true))
 else
 bif (ieq a1 5) then
  (some ((Grule.mk (fnV 166) .nilFunc false (fnV 163)), true))
 else
 some ((Grule.mk .nilFunc .nilFunc false .nilFunc), false)
theorem F143_ok (K : Nat) (a1 : Int) (r : Grule × Bool) (hF : F143 K a1 = some r) : Evt E H 143 [.one (.lit (.int .i64 a1))] (F143_res r) := by
 rw [F143] at hF
 refine cond_some hF (fun h2 hF => ?_) (fun h2 hF => ?_)
 ·
  obtain rfl := sj hF
  have pz : HA hn143 [(tt (ieq a1 1))] := ⟨h2, trivial⟩
  exact fpC hn143 (r := F143_res ((Grule.mk (fnV 158) (fnV 159) true (fnV 160)), true)) pz
 refine cond_some hF (fun h3 hF => ?_) (fun h3 hF => ?_)
 ·
  obtain rfl := sj hF
  have pz : HA hn143 [(ff (ieq a1 1)), (tt (ieq a1 3))] := ⟨h2, h3, trivial⟩
  exact fpC hn143 (r := F143_res ((Grule.mk (fnV 158) (fnV 159) true (fnV 161)), true)) pz
 refine cond_some hF (fun h4 hF => ?_) (fun h4 hF => ?_)
 ·
  obtain rfl := sj hF
  have pz : HA hn143 [(ff (ieq a1 1)), (ff (ieq a1 3)), (tt (ieq a1 2))] := ⟨h2, h3, h4, trivial⟩
  exact fpC hn143 (r := F143_res ((Grule.mk (fnV 162) (fnV 159) false (fnV 163)), true)) pz
 have q7 : PQ hn143 fun l => ((ff (ieq a1 1)) :: (ff (ieq a1 3)) :: (ff (ieq a1 2)) :: l) := fun z => ⟨h2, h3, h4, z⟩
 refine cond_some hF (fun h5 hF => ?_) (fun h5 hF => ?_)
 ·
  obtain rfl := sj hF
  have pz : HA hn143 [(tt (ieq a1 4))] := ⟨h5, trivial⟩
  exact fpC hn143 (r := F143_res ((Grule.mk (fnV 164) (fnV 165) false (fnV 163)), true)) (q7 pz)
 refine cond_some hF (fun h6 hF => ?_) (fun h6 hF => ?_)
 ·
  obtain rfl := sj hF
  have pz : HA hn143 [(ff (ieq a1 4)), (tt (ieq a1 5))] := ⟨h5, h6, trivial⟩
  exact fpC hn143 (r := F143_res ((Grule.mk (fnV 166) .nilFunc false (fnV 163)), true)) (q7 pz)
 obtain rfl := sj hF
 have pz : HA hn143 [(ff (ieq a1 4)), (ff (ieq a1 5))] := ⟨h5, h6, trivial⟩
 exact fpC hn143 (r := F143_res ((Grule.mk .nilFunc .nilFunc false .nilFunc), false)) (q7 pz)
theorem F143_ok0 {ads : List AD} (r3 : Grule × Bool) (e : areFns [r3.1.start_, r3.1.better_, r3.1.send_] [158, 159, 160] = true) (h : Evt E H 143 ads (F143_res r3)) : Evt E H 143 ads (F143_res0 r3) := by
 obtain ⟨q0, e⟩ := areFns_cons e
 obtain ⟨q1, e⟩ := areFns_cons e
 obtain ⟨q2, e⟩ := areFns_cons e
 unfold F143_res at h
 rw [q0, q1, q2] at h
 exact h
theorem F143_ok1 {ads : List AD} (r3 : Grule × Bool) (e : areFns [r3.1.start_, r3.1.better_, r3.1.send_] [158, 159, 161] = true) (h : Evt E H 143 ads (F143_res r3)) : Evt E H 143 ads (F143_res1 r3) := by
 obtain ⟨q0, e⟩ := areFns_cons e
 obtain ⟨q1, e⟩ := areFns_cons e
 obtain ⟨q2, e⟩ := areFns_cons e
 unfold F143_res at h
 rw [q0, q1, q2] at h
 exact h
theorem F143_ok2 {ads : List AD} (r3 : Grule × Bool) (e : areFns [r3.1.start_, r3.1.better_, r3.1.send_] [162, 159, 163] = true) (h : Evt E H 143 ads (F143_res r3)) : Evt E H 143 ads (F143_res2 r3) := by
 obtain ⟨q0, e⟩ := areFns_cons e
 obtain ⟨q1, e⟩ := areFns_cons e
 obtain ⟨q2, e⟩ := areFns_cons e
 unfold F143_res at h
 rw [q0, q1, q2] at h
 exact h
theorem F143_ok3 {ads : List AD} (r3 : Grule × Bool) (e : areFns [r3.1.start_, r3.1.better_, r3.1.send_] [164, 165, 163] = true) (h : Evt E H 143 ads (F143_res r3)) : Evt E H 143 ads (F143_res3 r3) := by
 obtain ⟨q0, e⟩ := areFns_cons e
 obtain ⟨q1, e⟩ := areFns_cons e
 obtain ⟨q2, e⟩ := areFns_cons e
 unfold F143_res at h
 rw [q0, q1, q2] at h
 exact h
theorem F143_ok4 {ads : List AD} (r3 : Grule × Bool) (e : areFns [r3.1.start_, r3.1.better_, r3.1.send_] [166, 0, 163] = true) (h : Evt E H 143 ads (F143_res r3)) : Evt E H 143 ads (F143_res4 r3) := by
 obtain ⟨q0, e⟩ := areFns_cons e
 obtain ⟨q1, e⟩ := areFns_cons e
 obtain ⟨q2, e⟩ := areFns_cons e
 unfold F143_res at h
 rw [q0, q1, q2] at h
 exact h
theorem F143_ok5 {ads : List AD} (r3 : Grule × Bool) (e : areFns [r3.1.start_, r3.1.better_, r3.1.send_] [0, 0, 0] = true) (h : Evt E H 143 ads (F143_res r3)) : Evt E H 143 ads (F143_res5 r3) := by
 obtain ⟨q0, e⟩ := areFns_cons e
 obtain ⟨q1, e⟩ := areFns_cons e
 obtain ⟨q2, e⟩ := areFns_cons e
 unfold F143_res at h
 rw [q0, q1, q2] at h
 exact h
noncomputable def hn94 : Hint := { H 94 with nt := 53, prot := 0 }
def F94_res (r1 : Int) : Res := ⟨[(.one (.im (.lit (.int .i64 r1))))], []⟩
def F94 (K : Nat) (a1 : GGraph) (a2 : GJob) : Option (Int) :=
 (F64 K a1).bind fun r3 =>
 bif (ieq r3 0) then
  ((F143 K a2.Prog).bind fun r4 =>
  bif (areFns [r4.1.start_, r4.1.better_, r4.1.send_] [158, 159, 160]) then
   (bif r4.2 then
    (bif (ilt a2.Source 0) then
     (some 1)
    else
    bif (ile a1.N a2.Source) then
     (some 1)
    else
    bif (ilt a2.Limit 0) then
     (some 1)
    else
    bif (ilt 40 a2.Limit) then
     (some 1)
    else
    bif (ilt a2.Parts 1) then
     (some 1)
    else
    bif (ilt 6 a2.Parts) then
     (some 1)
    else
    some 0)
   else
   some 1)
  else
  bif (areFns [r4.1.start_, r4.1.better_, r4.1.send_] [158, 159, 161]) then
   (bif r4.2 then
    (bif (ilt a2.Source 0) then
     (some 1)
    else
    bif (ile a1.N a2.Source) then
     (some 1)
    else
    bif (ilt a2.Limit 0) then
     (some 1)
    else
    bif (ilt 40 a2.Limit) then
     (some 1)
    else
    bif (ilt a2.Parts 1) then
     (some 1)
    else
    bif (ilt 6 a2.Parts) then
     (some 1)
    else
    some 0)
   else
   some 1)
  else
  bif (areFns [r4.1.start_, r4.1.better_, r4.1.send_] [162, 159, 163]) then
   (bif r4.2 then
    (bif (ilt a2.Source 0) then
     (some 1)
    else
    bif (ile a1.N a2.Source) then
     (some 1)
    else
    bif (ilt a2.Limit 0) then
     (some 1)
    else
    bif (ilt 40 a2.Limit) then
     (some 1)
    else
    bif (ilt a2.Parts 1) then
     (some 1)
    else
    bif (ilt 6 a2.Parts) then
     (some 1)
    else
    some 0)
   else
   some 1)
  else
  bif (areFns [r4.1.start_, r4.1.better_, r4.1.send_] [164, 165, 163]) then
   (bif r4.2 then
    (bif (ilt a2.Source 0) then
     (some 1)
    else
    bif (ile a1.N a2.Source) then
     (some 1)
    else
    bif (ilt a2.Limit 0) then
     (some 1)
    else
    bif (ilt 40 a2.Limit) then
     (some 1)
    else
    bif (ilt a2.Parts 1) then
     (some 1)
    else
    bif (ilt 6 a2.Parts) then
     (some 1)
    else
    some 0)
   else
   some 1)
  else
  bif (areFns [r4.1.start_, r4.1.better_, r4.1.send_] [166, 0, 163]) then
   (bif r4.2 then
    (bif (ilt a2.Source 0) then
     (some 1)
    else
    bif (ile a1.N a2.Source) then
     (some 1)
    else
    bif (ilt a2.Limit 0) then
     (some 1)
    else
    bif (ilt 40 a2.Limit) then
     (some 1)
    else
    bif (ilt a2.Parts 1) then
     (some 1)
    else
    bif (ilt 6 a2.Parts) then
     (some 1)
    else
    some 0)
   else
   some 1)
  else
  bif (areFns [r4.1.start_, r4.1.better_, r4.1.send_] [0, 0, 0]) then
  bif r4.2 then
   (bif (ilt a2.Source 0) then
    (some 1)
   else
   bif (ile a1.N a2.Source) then
    (some 1)
   else
   bif (ilt a2.Limit 0) then
    (some 1)
   else
   bif (ilt 40 a2.Limit) then
    (some 1)
   else
   bif (ilt a2.Parts 1) then
    (some 1)
   else
   bif (ilt 6 a2.Parts) then
    (some 1)
   else
   some 0)
  else
  some 1
  else none)
 else
 some r3
theorem F94_ok (K : Nat) (a1 : GGraph) (a2 : GJob) (r : Int) (hF : F94 K a1 a2 = some r) : Evt E H 94 [.agg (eGGraph a1), .agg (eGJob a2)] (F94_res r) := by
 rw [F94] at hF
 refine bind_some hF (fun r3 h4 hF => ?_)
 refine cond_some hF (fun h5 hF => ?_) (fun h5 hF => ?_)
 ·
  refine bind_some hF (fun r6 h7 hF => ?_)
  have q56 : PQ hn94 fun l => (.call 64 [.agg (eGGraph a1)] (F64_res r3) :: (ff (leadsAny (Res.mk [(.one (.im (i6 r3)))] []))) :: (ff (ine r3 0)) :: l) := fun z => ⟨(F64_ok K a1 _ h4), lk, (ine_t h5), z⟩
  refine cond_some hF (fun h8 hF => ?_) (fun h8 hF => ?_)
  ·
   refine cond_some hF (fun h9 hF => ?_) (fun h9 hF => ?_)
   ·
    have q57 : PQ hn94 fun l => (.call 143 [.one (i6 a2.Prog)] (F143_res0 r6) :: (ff (leadsAny (Res.mk [(.agg [(.im (.lit (fnV 158))), (.im (.lit (fnV 159))), (.im (.lit (.bool r6.1.only_))), (.im (.lit (fnV 160)))]), (.one (.im (.lit (.bool r6.2))))] []))) :: (bg (bnot r6.2)) :: (bg (bnot r6.2)) :: (bg (bnot r6.2)) :: (ff (bnot r6.2)) :: l) := fun z => ⟨(F143_ok0 _ h8 (F143_ok K a2.Prog _ h7)), lk, (bB (bnot_t h9)), (bB (bnot_t h9)), (bB (bnot_t h9)), (bnot_t h9), z⟩
    refine cond_some hF (fun h10 hF => ?_) (fun h10 hF => ?_)
    ·
     obtain rfl := sj hF
     have pz : HA hn94 [(bf (ilt a2.Source 0)), (bf (ilt a2.Source 0)), (bf (ilt a2.Source 0)), (bf (ilt a2.Source 0)), (bf (ilt a2.Source 0)), (tt (ilt a2.Source 0)), bt, bt, bt, (tt true), bt, bt, bt, (tt true), bt, bt, bt, (tt true), bt, bt, bt, (tt true), (tt true)] := ⟨(bA h10), (bA h10), (bA h10), (bA h10), (bA h10), h10, br, br, br, rfl, br, br, br, rfl, br, br, br, rfl, br, br, br, rfl, rfl, trivial⟩
     exact fpC hn94 (r := F94_res 1) (q56 (q57 pz))
    have q58 : PQ hn94 fun l => ((bg (ilt a2.Source 0)) :: (bg (ilt a2.Source 0)) :: (bg (ilt a2.Source 0)) :: (bg (ilt a2.Source 0)) :: (bg (ilt a2.Source 0)) :: (ff (ilt a2.Source 0)) :: l) := fun z => ⟨(bB h10), (bB h10), (bB h10), (bB h10), (bB h10), h10, z⟩
    refine cond_some hF (fun h11 hF => ?_) (fun h11 hF => ?_)
    ·
     obtain rfl := sj hF
     have pz : HA hn94 [(bf (ige a2.Source a1.N)), (bf (ige a2.Source a1.N)), (bf (ige a2.Source a1.N)), (tt (ige a2.Source a1.N)), bt, bt, bt, (tt true), bt, bt, bt, (tt true), bt, bt, bt, (tt true), (tt true)] := ⟨(bA (ige_eq h11)), (bA (ige_eq h11)), (bA (ige_eq h11)), (ige_eq h11), br, br, br, rfl, br, br, br, rfl, br, br, br, rfl, rfl, trivial⟩
     exact fpC hn94 (r := F94_res 1) (q56 (q57 (q58 pz)))
    have q59 : PQ hn94 fun l => ((bg (ige a2.Source a1.N)) :: (bg (ige a2.Source a1.N)) :: (bg (ige a2.Source a1.N)) :: (ff (ige a2.Source a1.N)) :: l) := fun z => ⟨(bB (ige_eq h11)), (bB (ige_eq h11)), (bB (ige_eq h11)), (ige_eq h11), z⟩
    refine cond_some hF (fun h12 hF => ?_) (fun h12 hF => ?_)
    ·
     obtain rfl := sj hF
     have pz : HA hn94 [(bf (ilt a2.Limit 0)), (bf (ilt a2.Limit 0)), (bf (ilt a2.Limit 0)), (tt (ilt a2.Limit 0)), bt, bt, bt, (tt true), bt, bt, bt, (tt true), (tt true)] := ⟨(bA h12), (bA h12), (bA h12), h12, br, br, br, rfl, br, br, br, rfl, rfl, trivial⟩
     exact fpC hn94 (r := F94_res 1) (q56 (q57 (q58 (q59 pz))))
    have q60 : PQ hn94 fun l => ((bg (ilt a2.Limit 0)) :: (bg (ilt a2.Limit 0)) :: (bg (ilt a2.Limit 0)) :: (ff (ilt a2.Limit 0)) :: l) := fun z => ⟨(bB h12), (bB h12), (bB h12), h12, z⟩
    refine cond_some hF (fun h13 hF => ?_) (fun h13 hF => ?_)
    ·
     obtain rfl := sj hF
     have pz : HA hn94 [(bf (igt a2.Limit 40)), (bf (igt a2.Limit 40)), (bf (igt a2.Limit 40)), (tt (igt a2.Limit 40)), bt, bt, bt, (tt true), (tt true)] := ⟨(bA (igt_eq h13)), (bA (igt_eq h13)), (bA (igt_eq h13)), (igt_eq h13), br, br, br, rfl, rfl, trivial⟩
     exact fpC hn94 (r := F94_res 1) (q56 (q57 (q58 (q59 (q60 pz)))))
    have q61 : PQ hn94 fun l => ((bg (igt a2.Limit 40)) :: (bg (igt a2.Limit 40)) :: (bg (igt a2.Limit 40)) :: (ff (igt a2.Limit 40)) :: l) := fun z => ⟨(bB (igt_eq h13)), (bB (igt_eq h13)), (bB (igt_eq h13)), (igt_eq h13), z⟩
    refine cond_some hF (fun h14 hF => ?_) (fun h14 hF => ?_)
    ·
     obtain rfl := sj hF
     have pz : HA hn94 [(bf (ilt a2.Parts 1)), (bf (ilt a2.Parts 1)), (bf (ilt a2.Parts 1)), (tt (ilt a2.Parts 1)), (tt true)] := ⟨(bA h14), (bA h14), (bA h14), h14, rfl, trivial⟩
     exact fpC hn94 (r := F94_res 1) (q56 (q57 (q58 (q59 (q60 (q61 pz))))))
    have q62 : PQ hn94 fun l => ((bg (ilt a2.Parts 1)) :: (bg (ilt a2.Parts 1)) :: (bg (ilt a2.Parts 1)) :: (ff (ilt a2.Parts 1)) :: l) := fun z => ⟨(bB h14), (bB h14), (bB h14), h14, z⟩
    refine cond_some hF (fun h15 hF => ?_) (fun h15 hF => ?_)
    ·
     obtain rfl := sj hF
     have pz : HA hn94 [(tt (igt a2.Parts 6))] := ⟨(igt_eq h15), trivial⟩
     exact fpC hn94 (r := F94_res 1) (q56 (q57 (q58 (q59 (q60 (q61 (q62 pz)))))))
    obtain rfl := sj hF
    have pz : HA hn94 [(ff (igt a2.Parts 6))] := ⟨(igt_eq h15), trivial⟩
    exact fpC hn94 (r := F94_res 0) (q56 (q57 (q58 (q59 (q60 (q61 (q62 pz)))))))
   obtain rfl := sj hF
   have pz : HA hn94 [.call 143 [.one (i6 a2.Prog)] (F143_res0 r6), (ff (leadsAny (Res.mk [(.agg [(.im (.lit (fnV 158))), (.im (.lit (fnV 159))), (.im (.lit (.bool r6.1.only_))), (.im (.lit (fnV 160)))]), (.one (.im (.lit (.bool r6.2))))] []))), (bf (bnot r6.2)), (bf (bnot r6.2)), (bf (bnot r6.2)), (tt (bnot r6.2)), bt, bt, bt, bt, bt, (tt true), bt, bt, bt, (tt true), bt, bt, bt, (tt true), bt, bt, bt, (tt true), bt, bt, bt, (tt true), (tt true)] := ⟨(F143_ok0 _ h8 (F143_ok K a2.Prog _ h7)), lk, (bA (bnot_f h9)), (bA (bnot_f h9)), (bA (bnot_f h9)), (bnot_f h9), br, br, br, br, br, rfl, br, br, br, rfl, br, br, br, rfl, br, br, br, rfl, br, br, br, rfl, rfl, trivial⟩
   exact fpC hn94 (r := F94_res 1) (q56 pz)
  refine cond_some hF (fun h16 hF => ?_) (fun h16 hF => ?_)
  ·
   refine cond_some hF (fun h17 hF => ?_) (fun h17 hF => ?_)
   ·
    have q63 : PQ hn94 fun l => (.call 143 [.one (i6 a2.Prog)] (F143_res1 r6) :: (ff (leadsAny (Res.mk [(.agg [(.im (.lit (fnV 158))), (.im (.lit (fnV 159))), (.im (.lit (.bool r6.1.only_))), (.im (.lit (fnV 161)))]), (.one (.im (.lit (.bool r6.2))))] []))) :: (bg (bnot r6.2)) :: (bg (bnot r6.2)) :: (bg (bnot r6.2)) :: (ff (bnot r6.2)) :: l) := fun z => ⟨(F143_ok1 _ h16 (F143_ok K a2.Prog _ h7)), lk, (bB (bnot_t h17)), (bB (bnot_t h17)), (bB (bnot_t h17)), (bnot_t h17), z⟩
    refine cond_some hF (fun h18 hF => ?_) (fun h18 hF => ?_)
    ·
     obtain rfl := sj hF
     have pz : HA hn94 [(bf (ilt a2.Source 0)), (bf (ilt a2.Source 0)), (bf (ilt a2.Source 0)), (bf (ilt a2.Source 0)), (bf (ilt a2.Source 0)), (tt (ilt a2.Source 0)), bt, bt, bt, (tt true), bt, bt, bt, (tt true), bt, bt, bt, (tt true), bt, bt, bt, (tt true), (tt true)] := ⟨(bA h18), (bA h18), (bA h18), (bA h18), (bA h18), h18, br, br, br, rfl, br, br, br, rfl, br, br, br, rfl, br, br, br, rfl, rfl, trivial⟩
     exact fpC hn94 (r := F94_res 1) (q56 (q63 pz))
    have q64 : PQ hn94 fun l => ((bg (ilt a2.Source 0)) :: (bg (ilt a2.Source 0)) :: (bg (ilt a2.Source 0)) :: (bg (ilt a2.Source 0)) :: (bg (ilt a2.Source 0)) :: (ff (ilt a2.Source 0)) :: l) := fun z => ⟨(bB h18), (bB h18), (bB h18), (bB h18), (bB h18), h18, z⟩
    refine cond_some hF (fun h19 hF => ?_) (fun h19 hF => ?_)
    ·
     obtain rfl := sj hF
     have pz : HA hn94 [(bf (ige a2.Source a1.N)), (bf (ige a2.Source a1.N)), (bf (ige a2.Source a1.N)), (tt (ige a2.Source a1.N)), bt, bt, bt, (tt true), bt, bt, bt, (tt true), bt, bt, bt, (tt true), (tt true)] := ⟨(bA (ige_eq h19)), (bA (ige_eq h19)), (bA (ige_eq h19)), (ige_eq h19), br, br, br, rfl, br, br, br, rfl, br, br, br, rfl, rfl, trivial⟩
     exact fpC hn94 (r := F94_res 1) (q56 (q63 (q64 pz)))
    have q65 : PQ hn94 fun l => ((bg (ige a2.Source a1.N)) :: (bg (ige a2.Source a1.N)) :: (bg (ige a2.Source a1.N)) :: (ff (ige a2.Source a1.N)) :: l) := fun z => ⟨(bB (ige_eq h19)), (bB (ige_eq h19)), (bB (ige_eq h19)), (ige_eq h19), z⟩
    refine cond_some hF (fun h20 hF => ?_) (fun h20 hF => ?_)
    ·
     obtain rfl := sj hF
     have pz : HA hn94 [(bf (ilt a2.Limit 0)), (bf (ilt a2.Limit 0)), (bf (ilt a2.Limit 0)), (tt (ilt a2.Limit 0)), bt, bt, bt, (tt true), bt, bt, bt, (tt true), (tt true)] := ⟨(bA h20), (bA h20), (bA h20), h20, br, br, br, rfl, br, br, br, rfl, rfl, trivial⟩
     exact fpC hn94 (r := F94_res 1) (q56 (q63 (q64 (q65 pz))))
    have q66 : PQ hn94 fun l => ((bg (ilt a2.Limit 0)) :: (bg (ilt a2.Limit 0)) :: (bg (ilt a2.Limit 0)) :: (ff (ilt a2.Limit 0)) :: l) := fun z => ⟨(bB h20), (bB h20), (bB h20), h20, z⟩
    refine cond_some hF (fun h21 hF => ?_) (fun h21 hF => ?_)
    ·
     obtain rfl := sj hF
     have pz : HA hn94 [(bf (igt a2.Limit 40)), (bf (igt a2.Limit 40)), (bf (igt a2.Limit 40)), (tt (igt a2.Limit 40)), bt, bt, bt, (tt true), (tt true)] := ⟨(bA (igt_eq h21)), (bA (igt_eq h21)), (bA (igt_eq h21)), (igt_eq h21), br, br, br, rfl, rfl, trivial⟩
     exact fpC hn94 (r := F94_res 1) (q56 (q63 (q64 (q65 (q66 pz)))))
    have q67 : PQ hn94 fun l => ((bg (igt a2.Limit 40)) :: (bg (igt a2.Limit 40)) :: (bg (igt a2.Limit 40)) :: (ff (igt a2.Limit 40)) :: l) := fun z => ⟨(bB (igt_eq h21)), (bB (igt_eq h21)), (bB (igt_eq h21)), (igt_eq h21), z⟩
    refine cond_some hF (fun h22 hF => ?_) (fun h22 hF => ?_)
    ·
     obtain rfl := sj hF
     have pz : HA hn94 [(bf (ilt a2.Parts 1)), (bf (ilt a2.Parts 1)), (bf (ilt a2.Parts 1)), (tt (ilt a2.Parts 1)), (tt true)] := ⟨(bA h22), (bA h22), (bA h22), h22, rfl, trivial⟩
     exact fpC hn94 (r := F94_res 1) (q56 (q63 (q64 (q65 (q66 (q67 pz))))))
    have q68 : PQ hn94 fun l => ((bg (ilt a2.Parts 1)) :: (bg (ilt a2.Parts 1)) :: (bg (ilt a2.Parts 1)) :: (ff (ilt a2.Parts 1)) :: l) := fun z => ⟨(bB h22), (bB h22), (bB h22), h22, z⟩
    refine cond_some hF (fun h23 hF => ?_) (fun h23 hF => ?_)
    ·
     obtain rfl := sj hF
     have pz : HA hn94 [(tt (igt a2.Parts 6))] := ⟨(igt_eq h23), trivial⟩
     exact fpC hn94 (r := F94_res 1) (q56 (q63 (q64 (q65 (q66 (q67 (q68 pz)))))))
    obtain rfl := sj hF
    have pz : HA hn94 [(ff (igt a2.Parts 6))] := ⟨(igt_eq h23), trivial⟩
    exact fpC hn94 (r := F94_res 0) (q56 (q63 (q64 (q65 (q66 (q67 (q68 pz)))))))
   obtain rfl := sj hF
   have pz : HA hn94 [.call 143 [.one (i6 a2.Prog)] (F143_res1 r6), (ff (leadsAny (Res.mk [(.agg [(.im (.lit (fnV 158))), (.im (.lit (fnV 159))), (.im (.lit (.bool r6.1.only_))), (.im (.lit (fnV 161)))]), (.one (.im (.lit (.bool r6.2))))] []))), (bf (bnot r6.2)), (bf (bnot r6.2)), (bf (bnot r6.2)), (tt (bnot r6.2)), bt, bt, bt, bt, bt, (tt true), bt, bt, bt, (tt true), bt, bt, bt, (tt true), bt, bt, bt, (tt true), bt, bt, bt, (tt true), (tt true)] := ⟨(F143_ok1 _ h16 (F143_ok K a2.Prog _ h7)), lk, (bA (bnot_f h17)), (bA (bnot_f h17)), (bA (bnot_f h17)), (bnot_f h17), br, br, br, br, br, rfl, br, br, br, rfl, br, br, br, rfl, br, br, br, rfl, br, br, br, rfl, rfl, trivial⟩
   exact fpC hn94 (r := F94_res 1) (q56 pz)
  refine cond_some hF (fun h24 hF => ?_) (fun h24 hF => ?_)
  ·
   refine cond_some hF (fun h25 hF => ?_) (fun h25 hF => ?_)
   ·
    have q69 : PQ hn94 fun l => (.call 143 [.one (i6 a2.Prog)] (F143_res2 r6) :: (ff (leadsAny (Res.mk [(.agg [(.im (.lit (fnV 162))), (.im (.lit (fnV 159))), (.im (.lit (.bool r6.1.only_))), (.im (.lit (fnV 163)))]), (.one (.im (.lit (.bool r6.2))))] []))) :: (bg (bnot r6.2)) :: (bg (bnot r6.2)) :: (bg (bnot r6.2)) :: (ff (bnot r6.2)) :: l) := fun z => ⟨(F143_ok2 _ h24 (F143_ok K a2.Prog _ h7)), lk, (bB (bnot_t h25)), (bB (bnot_t h25)), (bB (bnot_t h25)), (bnot_t h25), z⟩
    refine cond_some hF (fun h26 hF => ?_) (fun h26 hF => ?_)
    ·
     obtain rfl := sj hF
     have pz : HA hn94 [(bf (ilt a2.Source 0)), (bf (ilt a2.Source 0)), (bf (ilt a2.Source 0)), (bf (ilt a2.Source 0)), (bf (ilt a2.Source 0)), (tt (ilt a2.Source 0)), bt, bt, bt, (tt true), bt, bt, bt, (tt true), bt, bt, bt, (tt true), bt, bt, bt, (tt true), (tt true)] := ⟨(bA h26), (bA h26), (bA h26), (bA h26), (bA h26), h26, br, br, br, rfl, br, br, br, rfl, br, br, br, rfl, br, br, br, rfl, rfl, trivial⟩
     exact fpC hn94 (r := F94_res 1) (q56 (q69 pz))
    have q70 : PQ hn94 fun l => ((bg (ilt a2.Source 0)) :: (bg (ilt a2.Source 0)) :: (bg (ilt a2.Source 0)) :: (bg (ilt a2.Source 0)) :: (bg (ilt a2.Source 0)) :: (ff (ilt a2.Source 0)) :: l) := fun z => ⟨(bB h26), (bB h26), (bB h26), (bB h26), (bB h26), h26, z⟩
    refine cond_some hF (fun h27 hF => ?_) (fun h27 hF => ?_)
    ·
     obtain rfl := sj hF
     have pz : HA hn94 [(bf (ige a2.Source a1.N)), (bf (ige a2.Source a1.N)), (bf (ige a2.Source a1.N)), (tt (ige a2.Source a1.N)), bt, bt, bt, (tt true), bt, bt, bt, (tt true), bt, bt, bt, (tt true), (tt true)] := ⟨(bA (ige_eq h27)), (bA (ige_eq h27)), (bA (ige_eq h27)), (ige_eq h27), br, br, br, rfl, br, br, br, rfl, br, br, br, rfl, rfl, trivial⟩
     exact fpC hn94 (r := F94_res 1) (q56 (q69 (q70 pz)))
    have q71 : PQ hn94 fun l => ((bg (ige a2.Source a1.N)) :: (bg (ige a2.Source a1.N)) :: (bg (ige a2.Source a1.N)) :: (ff (ige a2.Source a1.N)) :: l) := fun z => ⟨(bB (ige_eq h27)), (bB (ige_eq h27)), (bB (ige_eq h27)), (ige_eq h27), z⟩
    refine cond_some hF (fun h28 hF => ?_) (fun h28 hF => ?_)
    ·
     obtain rfl := sj hF
     have pz : HA hn94 [(bf (ilt a2.Limit 0)), (bf (ilt a2.Limit 0)), (bf (ilt a2.Limit 0)), (tt (ilt a2.Limit 0)), bt, bt, bt, (tt true), bt, bt, bt, (tt true), (tt true)] := ⟨(bA h28), (bA h28), (bA h28), h28, br, br, br, rfl, br, br, br, rfl, rfl, trivial⟩
     exact fpC hn94 (r := F94_res 1) (q56 (q69 (q70 (q71 pz))))
    have q72 : PQ hn94 fun l => ((bg (ilt a2.Limit 0)) :: (bg (ilt a2.Limit 0)) :: (bg (ilt a2.Limit 0)) :: (ff (ilt a2.Limit 0)) :: l) := fun z => ⟨(bB h28), (bB h28), (bB h28), h28, z⟩
    refine cond_some hF (fun h29 hF => ?_) (fun h29 hF => ?_)
    ·
     obtain rfl := sj hF
     have pz : HA hn94 [(bf (igt a2.Limit 40)), (bf (igt a2.Limit 40)), (bf (igt a2.Limit 40)), (tt (igt a2.Limit 40)), bt, bt, bt, (tt true), (tt true)] := ⟨(bA (igt_eq h29)), (bA (igt_eq h29)), (bA (igt_eq h29)), (igt_eq h29), br, br, br, rfl, rfl, trivial⟩
     exact fpC hn94 (r := F94_res 1) (q56 (q69 (q70 (q71 (q72 pz)))))
    have q73 : PQ hn94 fun l => ((bg (igt a2.Limit 40)) :: (bg (igt a2.Limit 40)) :: (bg (igt a2.Limit 40)) :: (ff (igt a2.Limit 40)) :: l) := fun z => ⟨(bB (igt_eq h29)), (bB (igt_eq h29)), (bB (igt_eq h29)), (igt_eq h29), z⟩
    refine cond_some hF (fun h30 hF => ?_) (fun h30 hF => ?_)
    ·
     obtain rfl := sj hF
     have pz : HA hn94 [(bf (ilt a2.Parts 1)), (bf (ilt a2.Parts 1)), (bf (ilt a2.Parts 1)), (tt (ilt a2.Parts 1)), (tt true)] := ⟨(bA h30), (bA h30), (bA h30), h30, rfl, trivial⟩
     exact fpC hn94 (r := F94_res 1) (q56 (q69 (q70 (q71 (q72 (q73 pz))))))
    have q74 : PQ hn94 fun l => ((bg (ilt a2.Parts 1)) :: (bg (ilt a2.Parts 1)) :: (bg (ilt a2.Parts 1)) :: (ff (ilt a2.Parts 1)) :: l) := fun z => ⟨(bB h30), (bB h30), (bB h30), h30, z⟩
    refine cond_some hF (fun h31 hF => ?_) (fun h31 hF => ?_)
    ·
     obtain rfl := sj hF
     have pz : HA hn94 [(tt (igt a2.Parts 6))] := ⟨(igt_eq h31), trivial⟩
     exact fpC hn94 (r := F94_res 1) (q56 (q69 (q70 (q71 (q72 (q73 (q74 pz)))))))
    obtain rfl := sj hF
    have pz : HA hn94 [(ff (igt a2.Parts 6))] := ⟨(igt_eq h31), trivial⟩
    exact fpC hn94 (r := F94_res 0) (q56 (q69 (q70 (q71 (q72 (q73 (q74 pz)))))))
   obtain rfl := sj hF
   have pz : HA hn94 [.call 143 [.one (i6 a2.Prog)] (F143_res2 r6), (ff (leadsAny (Res.mk [(.agg [(.im (.lit (fnV 162))), (.im (.lit (fnV 159))), (.im (.lit (.bool r6.1.only_))), (.im (.lit (fnV 163)))]), (.one (.im (.lit (.bool r6.2))))] []))), (bf (bnot r6.2)), (bf (bnot r6.2)), (bf (bnot r6.2)), (tt (bnot r6.2)), bt, bt, bt, bt, bt, (tt true), bt, bt, bt, (tt true), bt, bt, bt, (tt true), bt, bt, bt, (tt true), bt, bt, bt, (tt true), (tt true)] := ⟨(F143_ok2 _ h24 (F143_ok K a2.Prog _ h7)), lk, (bA (bnot_f h25)), (bA (bnot_f h25)), (bA (bnot_f h25)), (bnot_f h25), br, br, br, br, br, rfl, br, br, br, rfl, br, br, br, rfl, br, br, br, rfl, br, br, br, rfl, rfl, trivial⟩
   exact fpC hn94 (r := F94_res 1) (q56 pz)
  refine cond_some hF (fun h32 hF => ?_) (fun h32 hF => ?_)
  ·
   refine cond_some hF (fun h33 hF => ?_) (fun h33 hF => ?_)
   ·
    have q75 : PQ hn94 fun l => (.call 143 [.one (i6 a2.Prog)] (F143_res3 r6) :: (ff (leadsAny (Res.mk [(.agg [(.im (.lit (fnV 164))), (.im (.lit (fnV 165))), (.im (.lit (.bool r6.1.only_))), (.im (.lit (fnV 163)))]), (.one (.im (.lit (.bool r6.2))))] []))) :: (bg (bnot r6.2)) :: (bg (bnot r6.2)) :: (bg (bnot r6.2)) :: (ff (bnot r6.2)) :: l) := fun z => ⟨(F143_ok3 _ h32 (F143_ok K a2.Prog _ h7)), lk, (bB (bnot_t h33)), (bB (bnot_t h33)), (bB (bnot_t h33)), (bnot_t h33), z⟩
    refine cond_some hF (fun h34 hF => ?_) (fun h34 hF => ?_)
    ·
     obtain rfl := sj hF
     have pz : HA hn94 [(bf (ilt a2.Source 0)), (bf (ilt a2.Source 0)), (bf (ilt a2.Source 0)), (bf (ilt a2.Source 0)), (bf (ilt a2.Source 0)), (tt (ilt a2.Source 0)), bt, bt, bt, (tt true), bt, bt, bt, (tt true), bt, bt, bt, (tt true), bt, bt, bt, (tt true), (tt true)] := ⟨(bA h34), (bA h34), (bA h34), (bA h34), (bA h34), h34, br, br, br, rfl, br, br, br, rfl, br, br, br, rfl, br, br, br, rfl, rfl, trivial⟩
     exact fpC hn94 (r := F94_res 1) (q56 (q75 pz))
    have q76 : PQ hn94 fun l => ((bg (ilt a2.Source 0)) :: (bg (ilt a2.Source 0)) :: (bg (ilt a2.Source 0)) :: (bg (ilt a2.Source 0)) :: (bg (ilt a2.Source 0)) :: (ff (ilt a2.Source 0)) :: l) := fun z => ⟨(bB h34), (bB h34), (bB h34), (bB h34), (bB h34), h34, z⟩
    refine cond_some hF (fun h35 hF => ?_) (fun h35 hF => ?_)
    ·
     obtain rfl := sj hF
     have pz : HA hn94 [(bf (ige a2.Source a1.N)), (bf (ige a2.Source a1.N)), (bf (ige a2.Source a1.N)), (tt (ige a2.Source a1.N)), bt, bt, bt, (tt true), bt, bt, bt, (tt true), bt, bt, bt, (tt true), (tt true)] := ⟨(bA (ige_eq h35)), (bA (ige_eq h35)), (bA (ige_eq h35)), (ige_eq h35), br, br, br, rfl, br, br, br, rfl, br, br, br, rfl, rfl, trivial⟩
     exact fpC hn94 (r := F94_res 1) (q56 (q75 (q76 pz)))
    have q77 : PQ hn94 fun l => ((bg (ige a2.Source a1.N)) :: (bg (ige a2.Source a1.N)) :: (bg (ige a2.Source a1.N)) :: (ff (ige a2.Source a1.N)) :: l) := fun z => ⟨(bB (ige_eq h35)), (bB (ige_eq h35)), (bB (ige_eq h35)), (ige_eq h35), z⟩
    refine cond_some hF (fun h36 hF => ?_) (fun h36 hF => ?_)
    ·
     obtain rfl := sj hF
     have pz : HA hn94 [(bf (ilt a2.Limit 0)), (bf (ilt a2.Limit 0)), (bf (ilt a2.Limit 0)), (tt (ilt a2.Limit 0)), bt, bt, bt, (tt true), bt, bt, bt, (tt true), (tt true)] := ⟨(bA h36), (bA h36), (bA h36), h36, br, br, br, rfl, br, br, br, rfl, rfl, trivial⟩
     exact fpC hn94 (r := F94_res 1) (q56 (q75 (q76 (q77 pz))))
    have q78 : PQ hn94 fun l => ((bg (ilt a2.Limit 0)) :: (bg (ilt a2.Limit 0)) :: (bg (ilt a2.Limit 0)) :: (ff (ilt a2.Limit 0)) :: l) := fun z => ⟨(bB h36), (bB h36), (bB h36), h36, z⟩
    refine cond_some hF (fun h37 hF => ?_) (fun h37 hF => ?_)
    ·
     obtain rfl := sj hF
     have pz : HA hn94 [(bf (igt a2.Limit 40)), (bf (igt a2.Limit 40)), (bf (igt a2.Limit 40)), (tt (igt a2.Limit 40)), bt, bt, bt, (tt true), (tt true)] := ⟨(bA (igt_eq h37)), (bA (igt_eq h37)), (bA (igt_eq h37)), (igt_eq h37), br, br, br, rfl, rfl, trivial⟩
     exact fpC hn94 (r := F94_res 1) (q56 (q75 (q76 (q77 (q78 pz)))))
    have q79 : PQ hn94 fun l => ((bg (igt a2.Limit 40)) :: (bg (igt a2.Limit 40)) :: (bg (igt a2.Limit 40)) :: (ff (igt a2.Limit 40)) :: l) := fun z => ⟨(bB (igt_eq h37)), (bB (igt_eq h37)), (bB (igt_eq h37)), (igt_eq h37), z⟩
    refine cond_some hF (fun h38 hF => ?_) (fun h38 hF => ?_)
    ·
     obtain rfl := sj hF
     have pz : HA hn94 [(bf (ilt a2.Parts 1)), (bf (ilt a2.Parts 1)), (bf (ilt a2.Parts 1)), (tt (ilt a2.Parts 1)), (tt true)] := ⟨(bA h38), (bA h38), (bA h38), h38, rfl, trivial⟩
     exact fpC hn94 (r := F94_res 1) (q56 (q75 (q76 (q77 (q78 (q79 pz))))))
    have q80 : PQ hn94 fun l => ((bg (ilt a2.Parts 1)) :: (bg (ilt a2.Parts 1)) :: (bg (ilt a2.Parts 1)) :: (ff (ilt a2.Parts 1)) :: l) := fun z => ⟨(bB h38), (bB h38), (bB h38), h38, z⟩
    refine cond_some hF (fun h39 hF => ?_) (fun h39 hF => ?_)
    ·
     obtain rfl := sj hF
     have pz : HA hn94 [(tt (igt a2.Parts 6))] := ⟨(igt_eq h39), trivial⟩
     exact fpC hn94 (r := F94_res 1) (q56 (q75 (q76 (q77 (q78 (q79 (q80 pz)))))))
    obtain rfl := sj hF
    have pz : HA hn94 [(ff (igt a2.Parts 6))] := ⟨(igt_eq h39), trivial⟩
    exact fpC hn94 (r := F94_res 0) (q56 (q75 (q76 (q77 (q78 (q79 (q80 pz)))))))
   obtain rfl := sj hF
   have pz : HA hn94 [.call 143 [.one (i6 a2.Prog)] (F143_res3 r6), (ff (leadsAny (Res.mk [(.agg [(.im (.lit (fnV 164))), (.im (.lit (fnV 165))), (.im (.lit (.bool r6.1.only_))), (.im (.lit (fnV 163)))]), (.one (.im (.lit (.bool r6.2))))] []))), (bf (bnot r6.2)), (bf (bnot r6.2)), (bf (bnot r6.2)), (tt (bnot r6.2)), bt, bt, bt, bt, bt, (tt true), bt, bt, bt, (tt true), bt, bt, bt, (tt true), bt, bt, bt, (tt true), bt, bt, bt, (tt true), (tt true)] := ⟨(F143_ok3 _ h32 (F143_ok K a2.Prog _ h7)), lk, (bA (bnot_f h33)), (bA (bnot_f h33)), (bA (bnot_f h33)), (bnot_f h33), br, br, br, br, br, rfl, br, br, br, rfl, br, br, br, rfl, br, br, br, rfl, br, br, br, rfl, rfl, trivial⟩
   exact fpC hn94 (r := F94_res 1) (q56 pz)
  refine cond_some hF (fun h40 hF => ?_) (fun h40 hF => ?_)
  ·
   refine cond_some hF (fun h41 hF => ?_) (fun h41 hF => ?_)
   ·
    have q81 : PQ hn94 fun l => (.call 143 [.one (i6 a2.Prog)] (F143_res4 r6) :: (ff (leadsAny (Res.mk [(.agg [(.im (.lit (fnV 166))), (.im (.lit .nilFunc)), (.im (.lit (.bool r6.1.only_))), (.im (.lit (fnV 163)))]), (.one (.im (.lit (.bool r6.2))))] []))) :: (bg (bnot r6.2)) :: (bg (bnot r6.2)) :: (bg (bnot r6.2)) :: (ff (bnot r6.2)) :: l) := fun z => ⟨(F143_ok4 _ h40 (F143_ok K a2.Prog _ h7)), lk, (bB (bnot_t h41)), (bB (bnot_t h41)), (bB (bnot_t h41)), (bnot_t h41), z⟩
    refine cond_some hF (fun h42 hF => ?_) (fun h42 hF => ?_)
    ·
     obtain rfl := sj hF
     have pz : HA hn94 [(bf (ilt a2.Source 0)), (bf (ilt a2.Source 0)), (bf (ilt a2.Source 0)), (bf (ilt a2.Source 0)), (bf (ilt a2.Source 0)), (tt (ilt a2.Source 0)), bt, bt, bt, (tt true), bt, bt, bt, (tt true), bt, bt, bt, (tt true), bt, bt, bt, (tt true), (tt true)] := ⟨(bA h42), (bA h42), (bA h42), (bA h42), (bA h42), h42, br, br, br, rfl, br, br, br, rfl, br, br, br, rfl, br, br, br, rfl, rfl, trivial⟩
     exact fpC hn94 (r := F94_res 1) (q56 (q81 pz))
    have q82 : PQ hn94 fun l => ((bg (ilt a2.Source 0)) :: (bg (ilt a2.Source 0)) :: (bg (ilt a2.Source 0)) :: (bg (ilt a2.Source 0)) :: (bg (ilt a2.Source 0)) :: (ff (ilt a2.Source 0)) :: l) := fun z => ⟨(bB h42), (bB h42), (bB h42), (bB h42), (bB h42), h42, z⟩
    refine cond_some hF (fun h43 hF => ?_) (fun h43 hF => ?_)
    ·
     obtain rfl := sj hF
     have pz : HA hn94 [(bf (ige a2.Source a1.N)), (bf (ige a2.Source a1.N)), (bf (ige a2.Source a1.N)), (tt (ige a2.Source a1.N)), bt, bt, bt, (tt true), bt, bt, bt, (tt true), bt, bt, bt, (tt true), (tt true)] := ⟨(bA (ige_eq h43)), (bA (ige_eq h43)), (bA (ige_eq h43)), (ige_eq h43), br, br, br, rfl, br, br, br, rfl, br, br, br, rfl, rfl, trivial⟩
     exact fpC hn94 (r := F94_res 1) (q56 (q81 (q82 pz)))
    have q83 : PQ hn94 fun l => ((bg (ige a2.Source a1.N)) :: (bg (ige a2.Source a1.N)) :: (bg (ige a2.Source a1.N)) :: (ff (ige a2.Source a1.N)) :: l) := fun z => ⟨(bB (ige_eq h43)), (bB (ige_eq h43)), (bB (ige_eq h43)), (ige_eq h43), z⟩
    refine cond_some hF (fun h44 hF => ?_) (fun h44 hF => ?_)
    ·
     obtain rfl := sj hF
     have pz : HA hn94 [(bf (ilt a2.Limit 0)), (bf (ilt a2.Limit 0)), (bf (ilt a2.Limit 0)), (tt (ilt a2.Limit 0)), bt, bt, bt, (tt true), bt, bt, bt, (tt true), (tt true)] := ⟨(bA h44), (bA h44), (bA h44), h44, br, br, br, rfl, br, br, br, rfl, rfl, trivial⟩
     exact fpC hn94 (r := F94_res 1) (q56 (q81 (q82 (q83 pz))))
    have q84 : PQ hn94 fun l => ((bg (ilt a2.Limit 0)) :: (bg (ilt a2.Limit 0)) :: (bg (ilt a2.Limit 0)) :: (ff (ilt a2.Limit 0)) :: l) := fun z => ⟨(bB h44), (bB h44), (bB h44), h44, z⟩
    refine cond_some hF (fun h45 hF => ?_) (fun h45 hF => ?_)
    ·
     obtain rfl := sj hF
     have pz : HA hn94 [(bf (igt a2.Limit 40)), (bf (igt a2.Limit 40)), (bf (igt a2.Limit 40)), (tt (igt a2.Limit 40)), bt, bt, bt, (tt true), (tt true)] := ⟨(bA (igt_eq h45)), (bA (igt_eq h45)), (bA (igt_eq h45)), (igt_eq h45), br, br, br, rfl, rfl, trivial⟩
     exact fpC hn94 (r := F94_res 1) (q56 (q81 (q82 (q83 (q84 pz)))))
    have q85 : PQ hn94 fun l => ((bg (igt a2.Limit 40)) :: (bg (igt a2.Limit 40)) :: (bg (igt a2.Limit 40)) :: (ff (igt a2.Limit 40)) :: l) := fun z => ⟨(bB (igt_eq h45)), (bB (igt_eq h45)), (bB (igt_eq h45)), (igt_eq h45), z⟩
    refine cond_some hF (fun h46 hF => ?_) (fun h46 hF => ?_)
    ·
     obtain rfl := sj hF
     have pz : HA hn94 [(bf (ilt a2.Parts 1)), (bf (ilt a2.Parts 1)), (bf (ilt a2.Parts 1)), (tt (ilt a2.Parts 1)), (tt true)] := ⟨(bA h46), (bA h46), (bA h46), h46, rfl, trivial⟩
     exact fpC hn94 (r := F94_res 1) (q56 (q81 (q82 (q83 (q84 (q85 pz))))))
    have q86 : PQ hn94 fun l => ((bg (ilt a2.Parts 1)) :: (bg (ilt a2.Parts 1)) :: (bg (ilt a2.Parts 1)) :: (ff (ilt a2.Parts 1)) :: l) := fun z => ⟨(bB h46), (bB h46), (bB h46), h46, z⟩
    refine cond_some hF (fun h47 hF => ?_) (fun h47 hF => ?_)
    ·
     obtain rfl := sj hF
     have pz : HA hn94 [(tt (igt a2.Parts 6))] := ⟨(igt_eq h47), trivial⟩
     exact fpC hn94 (r := F94_res 1) (q56 (q81 (q82 (q83 (q84 (q85 (q86 pz)))))))
    obtain rfl := sj hF
    have pz : HA hn94 [(ff (igt a2.Parts 6))] := ⟨(igt_eq h47), trivial⟩
    exact fpC hn94 (r := F94_res 0) (q56 (q81 (q82 (q83 (q84 (q85 (q86 pz)))))))
   obtain rfl := sj hF
   have pz : HA hn94 [.call 143 [.one (i6 a2.Prog)] (F143_res4 r6), (ff (leadsAny (Res.mk [(.agg [(.im (.lit (fnV 166))), (.im (.lit .nilFunc)), (.im (.lit (.bool r6.1.only_))), (.im (.lit (fnV 163)))]), (.one (.im (.lit (.bool r6.2))))] []))), (bf (bnot r6.2)), (bf (bnot r6.2)), (bf (bnot r6.2)), (tt (bnot r6.2)), bt, bt, bt, bt, bt, (tt true), bt, bt, bt, (tt true), bt, bt, bt, (tt true), bt, bt, bt, (tt true), bt, bt, bt, (tt true), (tt true)] := ⟨(F143_ok4 _ h40 (F143_ok K a2.Prog _ h7)), lk, (bA (bnot_f h41)), (bA (bnot_f h41)), (bA (bnot_f h41)), (bnot_f h41), br, br, br, br, br, rfl, br, br, br, rfl, br, br, br, rfl, br, br, br, rfl, br, br, br, rfl, rfl, trivial⟩
   exact fpC hn94 (r := F94_res 1) (q56 pz)
  refine cond_some hF (fun h48 hF => ?_) (fun _ hF => nomatch hF)
  refine cond_some hF (fun h49 hF => ?_) (fun h49 hF => ?_)
  ·
   have q87 : PQ hn94 fun l => (.call 143 [.one (i6 a2.Prog)] (F143_res5 r6) :: (ff (leadsAny (Res.mk [(.agg [(.im (.lit .nilFunc)), (.im (.lit .nilFunc)), (.im (.lit (.bool r6.1.only_))), (.im (.lit .nilFunc))]), (.one (.im (.lit (.bool r6.2))))] []))) :: (bg (bnot r6.2)) :: (bg (bnot r6.2)) :: (bg (bnot r6.2)) :: (ff (bnot r6.2)) :: l) := fun z => ⟨(F143_ok5 _ h48 (F143_ok K a2.Prog _ h7)), lk, (bB (bnot_t h49)), (bB (bnot_t h49)), (bB (bnot_t h49)), (bnot_t h49), z⟩
   refine cond_some hF (fun h50 hF => ?_) (fun h50 hF => ?_)
   ·
    obtain rfl := sj hF
    have pz : HA hn94 [(bf (ilt a2.Source 0)), (bf (ilt a2.Source 0)), (bf (ilt a2.Source 0)), (bf (ilt a2.Source 0)), (bf (ilt a2.Source 0)), (tt (ilt a2.Source 0)), bt, bt, bt, (tt true), bt, bt, bt, (tt true), bt, bt, bt, (tt true), bt, bt, bt, (tt true), (tt true)] := ⟨(bA h50), (bA h50), (bA h50), (bA h50), (bA h50), h50, br, br, br, rfl, br, br, br, rfl, br, br, br, rfl, br, br, br, rfl, rfl, trivial⟩
    exact fpC hn94 (r := F94_res 1) (q56 (q87 pz))
   have q88 : PQ hn94 fun l => ((bg (ilt a2.Source 0)) :: (bg (ilt a2.Source 0)) :: (bg (ilt a2.Source 0)) :: (bg (ilt a2.Source 0)) :: (bg (ilt a2.Source 0)) :: (ff (ilt a2.Source 0)) :: l) := fun z => ⟨(bB h50), (bB h50), (bB h50), (bB h50), (bB h50), h50, z⟩
   refine cond_some hF (fun h51 hF => ?_) (fun h51 hF => ?_)
   ·
    obtain rfl := sj hF
    have pz : HA hn94 [(bf (ige a2.Source a1.N)), (bf (ige a2.Source a1.N)), (bf (ige a2.Source a1.N)), (tt (ige a2.Source a1.N)), bt, bt, bt, (tt true), bt, bt, bt, (tt true), bt, bt, bt, (tt true), (tt true)] := ⟨(bA (ige_eq h51)), (bA (ige_eq h51)), (bA (ige_eq h51)), (ige_eq h51), br, br, br, rfl, br, br, br, rfl, br, br, br, rfl, rfl, trivial⟩
    exact fpC hn94 (r := F94_res 1) (q56 (q87 (q88 pz)))
   have q89 : PQ hn94 fun l => ((bg (ige a2.Source a1.N)) :: (bg (ige a2.Source a1.N)) :: (bg (ige a2.Source a1.N)) :: (ff (ige a2.Source a1.N)) :: l) := fun z => ⟨(bB (ige_eq h51)), (bB (ige_eq h51)), (bB (ige_eq h51)), (ige_eq h51), z⟩
   refine cond_some hF (fun h52 hF => ?_) (fun h52 hF => ?_)
   ·
    obtain rfl := sj hF
    have pz : HA hn94 [(bf (ilt a2.Limit 0)), (bf (ilt a2.Limit 0)), (bf (ilt a2.Limit 0)), (tt (ilt a2.Limit 0)), bt, bt, bt, (tt true), bt, bt, bt, (tt true), (tt true)] := ⟨(bA h52), (bA h52), (bA h52), h52, br, br, br, rfl, br, br, br, rfl, rfl, trivial⟩
    exact fpC hn94 (r := F94_res 1) (q56 (q87 (q88 (q89 pz))))
   have q90 : PQ hn94 fun l => ((bg (ilt a2.Limit 0)) :: (bg (ilt a2.Limit 0)) :: (bg (ilt a2.Limit 0)) :: (ff (ilt a2.Limit 0)) :: l) := fun z => ⟨(bB h52), (bB h52), (bB h52), h52, z⟩
   refine cond_some hF (fun h53 hF => ?_) (fun h53 hF => ?_)
   ·
    obtain rfl := sj hF
    have pz : HA hn94 [(bf (igt a2.Limit 40)), (bf (igt a2.Limit 40)), (bf (igt a2.Limit 40)), (tt (igt a2.Limit 40)), bt, bt, bt, (tt true), (tt true)] := ⟨(bA (igt_eq h53)), (bA (igt_eq h53)), (bA (igt_eq h53)), (igt_eq h53), br, br, br, rfl, rfl, trivial⟩
    exact fpC hn94 (r := F94_res 1) (q56 (q87 (q88 (q89 (q90 pz)))))
   have q91 : PQ hn94 fun l => ((bg (igt a2.Limit 40)) :: (bg (igt a2.Limit 40)) :: (bg (igt a2.Limit 40)) :: (ff (igt a2.Limit 40)) :: l) := fun z => ⟨(bB (igt_eq h53)), (bB (igt_eq h53)), (bB (igt_eq h53)), (igt_eq h53), z⟩
   refine cond_some hF (fun h54 hF => ?_) (fun h54 hF => ?_)
   ·
    obtain rfl := sj hF
    have pz : HA hn94 [(bf (ilt a2.Parts 1)), (bf (ilt a2.Parts 1)), (bf (ilt a2.Parts 1)), (tt (ilt a2.Parts 1)), (tt true)] := ⟨(bA h54), (bA h54), (bA h54), h54, rfl, trivial⟩
    exact fpC hn94 (r := F94_res 1) (q56 (q87 (q88 (q89 (q90 (q91 pz))))))
   have q92 : PQ hn94 fun l => ((bg (ilt a2.Parts 1)) :: (bg (ilt a2.Parts 1)) :: (bg (ilt a2.Parts 1)) :: (ff (ilt a2.Parts 1)) :: l) := fun z => ⟨(bB h54), (bB h54), (bB h54), h54, z⟩
   refine cond_some hF (fun h55 hF => ?_) (fun h55 hF => ?_)
   ·
    obtain rfl := sj hF
    have pz : HA hn94 [(tt (igt a2.Parts 6))] := ⟨(igt_eq h55), trivial⟩
    exact fpC hn94 (r := F94_res 1) (q56 (q87 (q88 (q89 (q90 (q91 (q92 pz)))))))
   obtain rfl := sj hF
   have pz : HA hn94 [(ff (igt a2.Parts 6))] := ⟨(igt_eq h55), trivial⟩
   exact fpC hn94 (r := F94_res 0) (q56 (q87 (q88 (q89 (q90 (q91 (q92 pz)))))))
  obtain rfl := sj hF
  have pz : HA hn94 [.call 143 [.one (i6 a2.Prog)] (F143_res5 r6), (ff (leadsAny (Res.mk [(.agg [(.im (.lit .nilFunc)), (.im (.lit .nilFunc)), (.im (.lit (.bool r6.1.only_))), (.im (.lit .nilFunc))]), (.one (.im (.lit (.bool r6.2))))] []))), (bf (bnot r6.2)), (bf (bnot r6.2)), (bf (bnot r6.2)), (tt (bnot r6.2)), bt, bt, bt, bt, bt, (tt true), bt, bt, bt, (tt true), bt, bt, bt, (tt true), bt, bt, bt, (tt true), bt, bt, bt, (tt true), (tt true)] := ⟨(F143_ok5 _ h48 (F143_ok K a2.Prog _ h7)), lk, (bA (bnot_f h49)), (bA (bnot_f h49)), (bA (bnot_f h49)), (bnot_f h49), br, br, br, br, br, rfl, br, br, br, rfl, br, br, br, rfl, br, br, br, rfl, br, br, br, rfl, rfl, trivial⟩
  exact fpC hn94 (r := F94_res 1) (q56 pz)
 obtain rfl := sj hF
 have pz : HA hn94 [.call 64 [.agg (eGGraph a1)] (F64_res r3), (ff (leadsAny (Res.mk [(.one (.im (i6 r3)))] []))), (tt (ine r3 0))] := ⟨(F64_ok K a1 _ h4), lk, (ine_f h5), trivial⟩
 exact fpC hn94 (r := F94_res r3) pz
theorem af_1_1 : areFns [(fnV 158), (fnV 159), (fnV 160)] [158, 159, 160] = true := rfl
theorem af_1_3 : areFns [(fnV 158), (fnV 159), (fnV 160)] [158, 159, 161] = false := rfl
theorem af_1_2 : areFns [(fnV 158), (fnV 159), (fnV 160)] [162, 159, 163] = false := rfl
theorem af_1_4 : areFns [(fnV 158), (fnV 159), (fnV 160)] [164, 165, 163] = false := rfl
theorem af_1_5 : areFns [(fnV 158), (fnV 159), (fnV 160)] [166, 0, 163] = false := rfl
theorem af_1_0 : areFns [(fnV 158), (fnV 159), (fnV 160)] [0, 0, 0] = false := rfl
theorem af_3_1 : areFns [(fnV 158), (fnV 159), (fnV 161)] [158, 159, 160] = false := rfl
theorem af_3_3 : areFns [(fnV 158), (fnV 159), (fnV 161)] [158, 159, 161] = true := rfl
theorem af_3_2 : areFns [(fnV 158), (fnV 159), (fnV 161)] [162, 159, 163] = false := rfl
theorem af_3_4 : areFns [(fnV 158), (fnV 159), (fnV 161)] [164, 165, 163] = false := rfl
theorem af_3_5 : areFns [(fnV 158), (fnV 159), (fnV 161)] [166, 0, 163] = false := rfl
theorem af_3_0 : areFns [(fnV 158), (fnV 159), (fnV 161)] [0, 0, 0] = false := rfl
theorem af_2_1 : areFns [(fnV 162), (fnV 159), (fnV 163)] [158, 159, 160] = false := rfl
theorem af_2_3 : areFns [(fnV 162), (fnV 159), (fnV 163)] [158, 159, 161] = false := rfl
theorem af_2_2 : areFns [(fnV 162), (fnV 159), (fnV 163)] [162, 159, 163] = true := rfl
theorem af_2_4 : areFns [(fnV 162), (fnV 159), (fnV 163)] [164, 165, 163] = false := rfl
theorem af_2_5 : areFns [(fnV 162), (fnV 159), (fnV 163)] [166, 0, 163] = false := rfl
theorem af_2_0 : areFns [(fnV 162), (fnV 159), (fnV 163)] [0, 0, 0] = false := rfl
theorem af_4_1 : areFns [(fnV 164), (fnV 165), (fnV 163)] [158, 159, 160] = false := rfl
theorem af_4_3 : areFns [(fnV 164), (fnV 165), (fnV 163)] [158, 159, 161] = false := rfl
theorem af_4_2 : areFns [(fnV 164), (fnV 165), (fnV 163)] [162, 159, 163] = false := rfl
theorem af_4_4 : areFns [(fnV 164), (fnV 165), (fnV 163)] [164, 165, 163] = true := rfl
theorem af_4_5 : areFns [(fnV 164), (fnV 165), (fnV 163)] [166, 0, 163] = false := rfl
theorem af_4_0 : areFns [(fnV 164), (fnV 165), (fnV 163)] [0, 0, 0] = false := rfl
theorem af_5_1 : areFns [(fnV 166), .nilFunc, (fnV 163)] [158, 159, 160] = false := rfl
theorem af_5_3 : areFns [(fnV 166), .nilFunc, (fnV 163)] [158, 159, 161] = false := rfl
theorem af_5_2 : areFns [(fnV 166), .nilFunc, (fnV 163)] [162, 159, 163] = false := rfl
theorem af_5_4 : areFns [(fnV 166), .nilFunc, (fnV 163)] [164, 165, 163] = false := rfl
theorem af_5_5 : areFns [(fnV 166), .nilFunc, (fnV 163)] [166, 0, 163] = true := rfl
theorem af_5_0 : areFns [(fnV 166), .nilFunc, (fnV 163)] [0, 0, 0] = false := rfl
theorem af_0_1 : areFns [.nilFunc, .nilFunc, .nilFunc] [158, 159, 160] = false := rfl
theorem af_0_3 : areFns [.nilFunc, .nilFunc, .nilFunc] [158, 159, 161] = false := rfl
theorem af_0_2 : areFns [.nilFunc, .nilFunc, .nilFunc] [162, 159, 163] = false := rfl
theorem af_0_4 : areFns [.nilFunc, .nilFunc, .nilFunc] [164, 165, 163] = false := rfl
theorem af_0_5 : areFns [.nilFunc, .nilFunc, .nilFunc] [166, 0, 163] = false := rfl
theorem af_0_0 : areFns [.nilFunc, .nilFunc, .nilFunc] [0, 0, 0] = true := rfl
theorem F143_1 (K : Nat) : F143 K 1 = some (Grule.mk (fnV 158) (fnV 159) true (fnV 160), true) := rfl
theorem F143_2 (K : Nat) : F143 K 2 = some (Grule.mk (fnV 162) (fnV 159) false (fnV 163), true) := rfl
theorem F143_3 (K : Nat) : F143 K 3 = some (Grule.mk (fnV 158) (fnV 159) true (fnV 161), true) := rfl
theorem F143_4 (K : Nat) : F143 K 4 = some (Grule.mk (fnV 164) (fnV 165) false (fnV 163), true) := rfl
theorem F143_5 (K : Nat) : F143 K 5 = some (Grule.mk (fnV 166) .nilFunc false (fnV 163), true) := rfl
theorem F143_0 (K : Nat) {p : Int} (h : p < 1 ∨ 5 < p) : F143 K p = some (Grule.mk .nilFunc .nilFunc false .nilFunc, false) := by
 rw [F143, ieq_f.2 (by omega : p ≠ 1), ieq_f.2 (by omega : p ≠ 3), ieq_f.2 (by omega : p ≠ 2), ieq_f.2 (by omega : p ≠ 4), ieq_f.2 (by omega : p ≠ 5)]; rfl
theorem prog_cases (p : Int) : p = 1 ∨ p = 2 ∨ p = 3 ∨ p = 4 ∨ p = 5 ∨ (p < 1 ∨ 5 < p) := by omega
def jbad (n : Int) (j : GJob) : Bool := ilt j.Source 0 || (ile n j.Source || (ilt j.Limit 0 || (ilt 40 j.Limit || (ilt j.Parts 1 || ilt 6 j.Parts))))
def pbad (p : Int) : Bool := ilt p 1 || ilt 5 p
def jcheck (g : GGraph) (j : GJob) : Int := bif ieq (gcheck g) 0 then (bif pbad j.Prog || jbad g.N j then 1 else 0) else gcheck g
theorem jtail (n : Int) (j : GJob) : (bif (ilt j.Source 0) then (some 1) else bif (ile n j.Source) then (some 1) else bif (ilt j.Limit 0) then (some 1) else bif (ilt 40 j.Limit) then (some 1) else bif (ilt j.Parts 1) then (some 1) else bif (ilt 6 j.Parts) then (some 1) else some 0) = some (bif jbad n j then 1 else 0 : Int) := by
 unfold jbad
 cases ilt j.Source 0 <;> cases ile n j.Source <;> cases ilt j.Limit 0 <;> cases ilt 40 j.Limit <;> cases ilt j.Parts 1 <;> cases ilt 6 j.Parts <;> rfl
theorem F59_spec {K : Nat} (hK : 100 ≤ K) (g : GGraph) (j : GJob) : F59 K g j = some (jcheck g j) := by
 rw [F59, F65_spec hK, Option.bind_some, jcheck]
 cases ieq (gcheck g) 0
 · rfl
 · rw [cond_true, cond_true, jtail, pbad]
   cases ilt j.Prog 1 <;> cases ilt 5 j.Prog <;> rfl
theorem F94_spec {K : Nat} (hK : 100 ≤ K) (g : GGraph) (j : GJob) : F94 K g j = some (jcheck g j) := by
 rw [F94, F64_spec hK, Option.bind_some, jcheck]
 cases ieq (gcheck g) 0
 · rfl
 · rw [cond_true, cond_true]
   rcases prog_cases j.Prog with h | h | h | h | h | h
   · have hb : pbad j.Prog = false := by rw [h]; rfl
     rw [hb, Bool.false_or, h, F143_1]
     simp only [Option.bind_some, cond_true, cond_false, af_1_1, af_1_3, af_1_2, af_1_4, af_1_5, af_1_0, af_3_1, af_3_3, af_3_2, af_3_4, af_3_5, af_3_0, af_2_1, af_2_3, af_2_2, af_2_4, af_2_5, af_2_0, af_4_1, af_4_3, af_4_2, af_4_4, af_4_5, af_4_0, af_5_1, af_5_3, af_5_2, af_5_4, af_5_5, af_5_0, af_0_1, af_0_3, af_0_2, af_0_4, af_0_5, af_0_0, jtail]
   · have hb : pbad j.Prog = false := by rw [h]; rfl
     rw [hb, Bool.false_or, h, F143_2]
     simp only [Option.bind_some, cond_true, cond_false, af_1_1, af_1_3, af_1_2, af_1_4, af_1_5, af_1_0, af_3_1, af_3_3, af_3_2, af_3_4, af_3_5, af_3_0, af_2_1, af_2_3, af_2_2, af_2_4, af_2_5, af_2_0, af_4_1, af_4_3, af_4_2, af_4_4, af_4_5, af_4_0, af_5_1, af_5_3, af_5_2, af_5_4, af_5_5, af_5_0, af_0_1, af_0_3, af_0_2, af_0_4, af_0_5, af_0_0, jtail]
   · have hb : pbad j.Prog = false := by rw [h]; rfl
     rw [hb, Bool.false_or, h, F143_3]
     simp only [Option.bind_some, cond_true, cond_false, af_1_1, af_1_3, af_1_2, af_1_4, af_1_5, af_1_0, af_3_1, af_3_3, af_3_2, af_3_4, af_3_5, af_3_0, af_2_1, af_2_3, af_2_2, af_2_4, af_2_5, af_2_0, af_4_1, af_4_3, af_4_2, af_4_4, af_4_5, af_4_0, af_5_1, af_5_3, af_5_2, af_5_4, af_5_5, af_5_0, af_0_1, af_0_3, af_0_2, af_0_4, af_0_5, af_0_0, jtail]
   · have hb : pbad j.Prog = false := by rw [h]; rfl
     rw [hb, Bool.false_or, h, F143_4]
     simp only [Option.bind_some, cond_true, cond_false, af_1_1, af_1_3, af_1_2, af_1_4, af_1_5, af_1_0, af_3_1, af_3_3, af_3_2, af_3_4, af_3_5, af_3_0, af_2_1, af_2_3, af_2_2, af_2_4, af_2_5, af_2_0, af_4_1, af_4_3, af_4_2, af_4_4, af_4_5, af_4_0, af_5_1, af_5_3, af_5_2, af_5_4, af_5_5, af_5_0, af_0_1, af_0_3, af_0_2, af_0_4, af_0_5, af_0_0, jtail]
   · have hb : pbad j.Prog = false := by rw [h]; rfl
     rw [hb, Bool.false_or, h, F143_5]
     simp only [Option.bind_some, cond_true, cond_false, af_1_1, af_1_3, af_1_2, af_1_4, af_1_5, af_1_0, af_3_1, af_3_3, af_3_2, af_3_4, af_3_5, af_3_0, af_2_1, af_2_3, af_2_2, af_2_4, af_2_5, af_2_0, af_4_1, af_4_3, af_4_2, af_4_4, af_4_5, af_4_0, af_5_1, af_5_3, af_5_2, af_5_4, af_5_5, af_5_0, af_0_1, af_0_3, af_0_2, af_0_4, af_0_5, af_0_0, jtail]
   · have hb : pbad j.Prog = true := by
      unfold pbad
      rcases h with h | h
      · rw [ilt_iff.2 h]; rfl
      · rw [ilt_iff.2 h, Bool.or_true]
     rw [hb, Bool.true_or, F143_0 K h]
     simp only [Option.bind_some, cond_true, cond_false, af_1_1, af_1_3, af_1_2, af_1_4, af_1_5, af_1_0, af_3_1, af_3_3, af_3_2, af_3_4, af_3_5, af_3_0, af_2_1, af_2_3, af_2_2, af_2_4, af_2_5, af_2_0, af_4_1, af_4_3, af_4_2, af_4_4, af_4_5, af_4_0, af_5_1, af_5_3, af_5_2, af_5_4, af_5_5, af_5_0, af_0_1, af_0_3, af_0_2, af_0_4, af_0_5, af_0_0]
theorem jcheck_ok {g : GGraph} {j : GJob} (h : ieq (jcheck g j) 0 = true) : ieq (gcheck g) 0 = true ∧ 1 ≤ j.Prog ∧ j.Prog ≤ 5 ∧ 0 ≤ j.Source ∧ j.Source < g.N ∧ 0 ≤ j.Limit ∧ j.Limit ≤ 40 ∧ 1 ≤ j.Parts ∧ j.Parts ≤ 6 := by
 rw [jcheck] at h
 cases hg : ieq (gcheck g) 0
 · rw [hg, cond_false] at h; rw [h] at hg; cases hg
 · rw [hg, cond_true] at h
   cases hb : pbad j.Prog || jbad g.N j
   · simp only [pbad, jbad, Bool.or_eq_false_iff, ilt_f, ile_f] at hb
     obtain ⟨⟨h1, h2⟩, h3, h4, h5, h6, h7, h8⟩ := hb
     exact ⟨rfl, h1, h2, h3, h4, h5, h6, h7, h8⟩
   · rw [hb] at h; cases h
noncomputable def hn159 : Hint := { H 159 with nt := 8, prot := 0 }
def F159_res (r1 : Bool) : Res := ⟨[(.one (.im (.lit (.bool r1))))], []⟩
def F159 (K : Nat) (a1 : Int) (a2 : Int) : Option (Bool) :=
 some (ilt a1 a2)
theorem F159_ok (K : Nat) (a1 : Int) (a2 : Int) (r : Bool) (hF : F159 K a1 a2 = some r) : Evt E H 159 [.one (.lit (.int .i64 a1)), .one (.lit (.int .i64 a2))] (F159_res r) := by
 rw [F159] at hF
 obtain rfl := sj hF
 have pz : HA hn159 [] := trivial
 exact fpC hn159 (r := F159_res (ilt a1 a2)) pz
noncomputable def hn165 : Hint := { H 165 with nt := 8, prot := 0 }
def F165_res (r1 : Bool) : Res := ⟨[(.one (.im (.lit (.bool r1))))], []⟩
def F165 (K : Nat) (a1 : Int) (a2 : Int) : Option (Bool) :=
 some (igt a1 a2)
theorem F165_ok (K : Nat) (a1 : Int) (a2 : Int) (r : Bool) (hF : F165 K a1 a2 = some r) : Evt E H 165 [.one (.lit (.int .i64 a1)), .one (.lit (.int .i64 a2))] (F165_res r) := by
 rw [F165] at hF
 obtain rfl := sj hF
 have pz : HA hn165 [] := trivial
 exact fpC hn165 (r := F165_res (igt a1 a2)) pz
noncomputable def hn144 : Hint := { H 144 with nt := 23, prot := 0 }
def F144_res (r1 : Int × Bool) : Res := ⟨[(.one (.im (.lit (.int .i64 r1.1)))), (.one (.im (.lit (.bool r1.2))))], []⟩
def F144 (K : Nat) (a1 : Int) (a2 : Int) : Option (Int × Bool) :=
 bif (beqb (ige a1 0) (ige a2 0)) then
  (bif (beqb (ige (wadd .i64 a1 a2) 0) (ige a1 0)) then
   (some ((wadd .i64 a1 a2), true))
  else
  some (0, false))
 else
 some ((wadd .i64 a1 a2), true)
theorem F144_ok (K : Nat) (a1 : Int) (a2 : Int) (r : Int × Bool) (hF : F144 K a1 a2 = some r) : Evt E H 144 [.one (.lit (.int .i64 a1)), .one (.lit (.int .i64 a2))] (F144_res r) := by
 rw [F144] at hF
 refine cond_some hF (fun h3 hF => ?_) (fun h3 hF => ?_)
 ·
  have q5 : PQ hn144 fun l => (.int (wadd .i64 a1 a2) (wadd .i64 a1 a2) :: (bh (beqb (ige a1 0) (ige a2 0))) :: (bh (beqb (ige a1 0) (ige a2 0))) :: (bh (beqb (ige a1 0) (ige a2 0))) :: (bh (beqb (ige a1 0) (ige a2 0))) :: (bh (beqb (ige a1 0) (ige a2 0))) :: (tt (beqb (ige a1 0) (ige a2 0))) :: l) := fun z => ⟨rfl, (bC h3), (bC h3), (bC h3), (bC h3), (bC h3), h3, z⟩
  refine cond_some hF (fun h4 hF => ?_) (fun h4 hF => ?_)
  ·
   obtain rfl := sj hF
   have pz : HA hn144 [(ff (bnot (beqb (ige (wadd .i64 a1 a2) 0) (ige a1 0))))] := ⟨(bnot_t h4), trivial⟩
   exact fpC hn144 (r := F144_res ((wadd .i64 a1 a2), true)) (q5 pz)
  obtain rfl := sj hF
  have pz : HA hn144 [(tt (bnot (beqb (ige (wadd .i64 a1 a2) 0) (ige a1 0))))] := ⟨(bnot_f h4), trivial⟩
  exact fpC hn144 (r := F144_res (0, false)) (q5 pz)
 obtain rfl := sj hF
 have pz : HA hn144 [.int (wadd .i64 a1 a2) (wadd .i64 a1 a2), (bk (beqb (ige a1 0) (ige a2 0))), (bk (beqb (ige a1 0) (ige a2 0))), (bk (beqb (ige a1 0) (ige a2 0))), (bk (beqb (ige a1 0) (ige a2 0))), (bk (beqb (ige a1 0) (ige a2 0))), (ff (beqb (ige a1 0) (ige a2 0))), (ff false)] := ⟨rfl, (bC h3), (bC h3), (bC h3), (bC h3), (bC h3), h3, rfl, trivial⟩
 exact fpC hn144 (r := F144_res ((wadd .i64 a1 a2), true)) pz
noncomputable def hn97 : Hint := { H 97 with nt := 41, prot := 0 }
def F97_res (r1 : Int × Int) : Res := ⟨[(.one (.im (.lit (.int .i64 r1.1)))), (.one (.im (.lit (.int .i64 r1.2))))], []⟩
def F97 (K : Nat) (a1 : Int) (a2 : Int) (a3 : Int) : Option (Int × Int) :=
 (F143 K a1).bind fun r4 =>
 bif (areFns [r4.1.start_, r4.1.better_, r4.1.send_] [158, 159, 160]) then
  (bif r4.2 then
   ((F159 K a3 a2).bind fun r5 =>
   bif r5 then
    (some (a3, 0))
   else
   some (a2, 0))
  else
  some (0, 1))
 else
 bif (areFns [r4.1.start_, r4.1.better_, r4.1.send_] [158, 159, 161]) then
  (bif r4.2 then
   ((F159 K a3 a2).bind fun r6 =>
   bif r6 then
    (some (a3, 0))
   else
   some (a2, 0))
  else
  some (0, 1))
 else
 bif (areFns [r4.1.start_, r4.1.better_, r4.1.send_] [162, 159, 163]) then
  (bif r4.2 then
   ((F159 K a3 a2).bind fun r7 =>
   bif r7 then
    (some (a3, 0))
   else
   some (a2, 0))
  else
  some (0, 1))
 else
 bif (areFns [r4.1.start_, r4.1.better_, r4.1.send_] [164, 165, 163]) then
  (bif r4.2 then
   ((F165 K a3 a2).bind fun r8 =>
   bif r8 then
    (some (a3, 0))
   else
   some (a2, 0))
  else
  some (0, 1))
 else
 bif (areFns [r4.1.start_, r4.1.better_, r4.1.send_] [166, 0, 163]) then
  (bif r4.2 then
   ((F144 K a2 a3).bind fun r9 =>
   bif r9.2 then
    (some (r9.1, 0))
   else
   some (0, 8))
  else
  some (0, 1))
 else
 bif (areFns [r4.1.start_, r4.1.better_, r4.1.send_] [0, 0, 0]) then
 bif r4.2 then
  ((F144 K a2 a3).bind fun r10 =>
  bif r10.2 then
   (some (r10.1, 0))
  else
  some (0, 8))
 else
 some (0, 1)
 else none
theorem F97_ok (K : Nat) (a1 : Int) (a2 : Int) (a3 : Int) (r : Int × Int) (hF : F97 K a1 a2 a3 = some r) : Evt E H 97 [.one (.lit (.int .i64 a1)), .one (.lit (.int .i64 a2)), .one (.lit (.int .i64 a3))] (F97_res r) := by
 rw [F97] at hF
 refine bind_some hF (fun r4 h5 hF => ?_)
 refine cond_some hF (fun h6 hF => ?_) (fun h6 hF => ?_)
 ·
  refine cond_some hF (fun h7 hF => ?_) (fun h7 hF => ?_)
  ·
   refine bind_some hF (fun r8 h9 hF => ?_)
   have q36 : PQ hn97 fun l => (.call 143 [.one (i6 a1)] (F143_res0 r4) :: (ff (leadsAny (Res.mk [(.agg [(.im (.lit (fnV 158))), (.im (.lit (fnV 159))), (.im (.lit (.bool r4.1.only_))), (.im (.lit (fnV 160)))]), (.one (.im (.lit (.bool r4.2))))] []))) :: (ff (bnot r4.2)) :: (ff false) :: .call 159 [.one (i6 a3), .one (i6 a2)] (F159_res r8) :: (ff (leadsAny (Res.mk [(.one (.im (.lit (.bool r8))))] []))) :: l) := fun z => ⟨(F143_ok0 _ h6 (F143_ok K a1 _ h5)), lk, (bnot_t h7), rfl, (F159_ok K a3 a2 _ h9), lk, z⟩
   refine cond_some hF (fun h10 hF => ?_) (fun h10 hF => ?_)
   ·
    obtain rfl := sj hF
    have pz : HA hn97 [(tt r8)] := ⟨h10, trivial⟩
    exact fpC hn97 (r := F97_res (a3, 0)) (q36 pz)
   obtain rfl := sj hF
   have pz : HA hn97 [(ff r8)] := ⟨h10, trivial⟩
   exact fpC hn97 (r := F97_res (a2, 0)) (q36 pz)
  obtain rfl := sj hF
  have pz : HA hn97 [.call 143 [.one (i6 a1)] (F143_res0 r4), (ff (leadsAny (Res.mk [(.agg [(.im (.lit (fnV 158))), (.im (.lit (fnV 159))), (.im (.lit (.bool r4.1.only_))), (.im (.lit (fnV 160)))]), (.one (.im (.lit (.bool r4.2))))] []))), (tt (bnot r4.2))] := ⟨(F143_ok0 _ h6 (F143_ok K a1 _ h5)), lk, (bnot_f h7), trivial⟩
  exact fpC hn97 (r := F97_res (0, 1)) pz
 refine cond_some hF (fun h11 hF => ?_) (fun h11 hF => ?_)
 ·
  refine cond_some hF (fun h12 hF => ?_) (fun h12 hF => ?_)
  ·
   refine bind_some hF (fun r13 h14 hF => ?_)
   have q37 : PQ hn97 fun l => (.call 143 [.one (i6 a1)] (F143_res1 r4) :: (ff (leadsAny (Res.mk [(.agg [(.im (.lit (fnV 158))), (.im (.lit (fnV 159))), (.im (.lit (.bool r4.1.only_))), (.im (.lit (fnV 161)))]), (.one (.im (.lit (.bool r4.2))))] []))) :: (ff (bnot r4.2)) :: (ff false) :: .call 159 [.one (i6 a3), .one (i6 a2)] (F159_res r13) :: (ff (leadsAny (Res.mk [(.one (.im (.lit (.bool r13))))] []))) :: l) := fun z => ⟨(F143_ok1 _ h11 (F143_ok K a1 _ h5)), lk, (bnot_t h12), rfl, (F159_ok K a3 a2 _ h14), lk, z⟩
   refine cond_some hF (fun h15 hF => ?_) (fun h15 hF => ?_)
   ·
    obtain rfl := sj hF
    have pz : HA hn97 [(tt r13)] := ⟨h15, trivial⟩
    exact fpC hn97 (r := F97_res (a3, 0)) (q37 pz)
   obtain rfl := sj hF
   have pz : HA hn97 [(ff r13)] := ⟨h15, trivial⟩
   exact fpC hn97 (r := F97_res (a2, 0)) (q37 pz)
  obtain rfl := sj hF
  have pz : HA hn97 [.call 143 [.one (i6 a1)] (F143_res1 r4), (ff (leadsAny (Res.mk [(.agg [(.im (.lit (fnV 158))), (.im (.lit (fnV 159))), (.im (.lit (.bool r4.1.only_))), (.im (.lit (fnV 161)))]), (.one (.im (.lit (.bool r4.2))))] []))), (tt (bnot r4.2))] := ⟨(F143_ok1 _ h11 (F143_ok K a1 _ h5)), lk, (bnot_f h12), trivial⟩
  exact fpC hn97 (r := F97_res (0, 1)) pz
 refine cond_some hF (fun h16 hF => ?_) (fun h16 hF => ?_)
 ·
  refine cond_some hF (fun h17 hF => ?_) (fun h17 hF => ?_)
  ·
   refine bind_some hF (fun r18 h19 hF => ?_)
   have q38 : PQ hn97 fun l => (.call 143 [.one (i6 a1)] (F143_res2 r4) :: (ff (leadsAny (Res.mk [(.agg [(.im (.lit (fnV 162))), (.im (.lit (fnV 159))), (.im (.lit (.bool r4.1.only_))), (.im (.lit (fnV 163)))]), (.one (.im (.lit (.bool r4.2))))] []))) :: (ff (bnot r4.2)) :: (ff false) :: .call 159 [.one (i6 a3), .one (i6 a2)] (F159_res r18) :: (ff (leadsAny (Res.mk [(.one (.im (.lit (.bool r18))))] []))) :: l) := fun z => ⟨(F143_ok2 _ h16 (F143_ok K a1 _ h5)), lk, (bnot_t h17), rfl, (F159_ok K a3 a2 _ h19), lk, z⟩
   refine cond_some hF (fun h20 hF => ?_) (fun h20 hF => ?_)
   ·
    obtain rfl := sj hF
    have pz : HA hn97 [(tt r18)] := ⟨h20, trivial⟩
    exact fpC hn97 (r := F97_res (a3, 0)) (q38 pz)
   obtain rfl := sj hF
   have pz : HA hn97 [(ff r18)] := ⟨h20, trivial⟩
   exact fpC hn97 (r := F97_res (a2, 0)) (q38 pz)
  obtain rfl := sj hF
  have pz : HA hn97 [.call 143 [.one (i6 a1)] (F143_res2 r4), (ff (leadsAny (Res.mk [(.agg [(.im (.lit (fnV 162))), (.im (.lit (fnV 159))), (.im (.lit (.bool r4.1.only_))), (.im (.lit (fnV 163)))]), (.one (.im (.lit (.bool r4.2))))] []))), (tt (bnot r4.2))] := ⟨(F143_ok2 _ h16 (F143_ok K a1 _ h5)), lk, (bnot_f h17), trivial⟩
  exact fpC hn97 (r := F97_res (0, 1)) pz
 refine cond_some hF (fun h21 hF => ?_) (fun h21 hF => ?_)
 ·
  refine cond_some hF (fun h22 hF => ?_) (fun h22 hF => ?_)
  ·
   refine bind_some hF (fun r23 h24 hF => ?_)
   have q39 : PQ hn97 fun l => (.call 143 [.one (i6 a1)] (F143_res3 r4) :: (ff (leadsAny (Res.mk [(.agg [(.im (.lit (fnV 164))), (.im (.lit (fnV 165))), (.im (.lit (.bool r4.1.only_))), (.im (.lit (fnV 163)))]), (.one (.im (.lit (.bool r4.2))))] []))) :: (ff (bnot r4.2)) :: (ff false) :: .call 165 [.one (i6 a3), .one (i6 a2)] (F165_res r23) :: (ff (leadsAny (Res.mk [(.one (.im (.lit (.bool r23))))] []))) :: l) := fun z => ⟨(F143_ok3 _ h21 (F143_ok K a1 _ h5)), lk, (bnot_t h22), rfl, (F165_ok K a3 a2 _ h24), lk, z⟩
   refine cond_some hF (fun h25 hF => ?_) (fun h25 hF => ?_)
   ·
    obtain rfl := sj hF
    have pz : HA hn97 [(tt r23)] := ⟨h25, trivial⟩
    exact fpC hn97 (r := F97_res (a3, 0)) (q39 pz)
   obtain rfl := sj hF
   have pz : HA hn97 [(ff r23)] := ⟨h25, trivial⟩
   exact fpC hn97 (r := F97_res (a2, 0)) (q39 pz)
  obtain rfl := sj hF
  have pz : HA hn97 [.call 143 [.one (i6 a1)] (F143_res3 r4), (ff (leadsAny (Res.mk [(.agg [(.im (.lit (fnV 164))), (.im (.lit (fnV 165))), (.im (.lit (.bool r4.1.only_))), (.im (.lit (fnV 163)))]), (.one (.im (.lit (.bool r4.2))))] []))), (tt (bnot r4.2))] := ⟨(F143_ok3 _ h21 (F143_ok K a1 _ h5)), lk, (bnot_f h22), trivial⟩
  exact fpC hn97 (r := F97_res (0, 1)) pz
 refine cond_some hF (fun h26 hF => ?_) (fun h26 hF => ?_)
 ·
  refine cond_some hF (fun h27 hF => ?_) (fun h27 hF => ?_)
  ·
   refine bind_some hF (fun r28 h29 hF => ?_)
   have q40 : PQ hn97 fun l => (.call 143 [.one (i6 a1)] (F143_res4 r4) :: (ff (leadsAny (Res.mk [(.agg [(.im (.lit (fnV 166))), (.im (.lit .nilFunc)), (.im (.lit (.bool r4.1.only_))), (.im (.lit (fnV 163)))]), (.one (.im (.lit (.bool r4.2))))] []))) :: (ff (bnot r4.2)) :: (tt true) :: .call 144 [.one (i6 a2), .one (i6 a3)] (F144_res r28) :: (ff (leadsAny (Res.mk [(.one (.im (i6 r28.1))), (.one (.im (.lit (.bool r28.2))))] []))) :: l) := fun z => ⟨(F143_ok4 _ h26 (F143_ok K a1 _ h5)), lk, (bnot_t h27), rfl, (F144_ok K a2 a3 _ h29), lk, z⟩
   refine cond_some hF (fun h30 hF => ?_) (fun h30 hF => ?_)
   ·
    obtain rfl := sj hF
    have pz : HA hn97 [(ff (bnot r28.2))] := ⟨(bnot_t h30), trivial⟩
    exact fpC hn97 (r := F97_res (r28.1, 0)) (q40 pz)
   obtain rfl := sj hF
   have pz : HA hn97 [(tt (bnot r28.2))] := ⟨(bnot_f h30), trivial⟩
   exact fpC hn97 (r := F97_res (0, 8)) (q40 pz)
  obtain rfl := sj hF
  have pz : HA hn97 [.call 143 [.one (i6 a1)] (F143_res4 r4), (ff (leadsAny (Res.mk [(.agg [(.im (.lit (fnV 166))), (.im (.lit .nilFunc)), (.im (.lit (.bool r4.1.only_))), (.im (.lit (fnV 163)))]), (.one (.im (.lit (.bool r4.2))))] []))), (tt (bnot r4.2))] := ⟨(F143_ok4 _ h26 (F143_ok K a1 _ h5)), lk, (bnot_f h27), trivial⟩
  exact fpC hn97 (r := F97_res (0, 1)) pz
 refine cond_some hF (fun h31 hF => ?_) (fun _ hF => nomatch hF)
 refine cond_some hF (fun h32 hF => ?_) (fun h32 hF => ?_)
 ·
  refine bind_some hF (fun r33 h34 hF => ?_)
  have q41 : PQ hn97 fun l => (.call 143 [.one (i6 a1)] (F143_res5 r4) :: (ff (leadsAny (Res.mk [(.agg [(.im (.lit .nilFunc)), (.im (.lit .nilFunc)), (.im (.lit (.bool r4.1.only_))), (.im (.lit .nilFunc))]), (.one (.im (.lit (.bool r4.2))))] []))) :: (ff (bnot r4.2)) :: (tt true) :: .call 144 [.one (i6 a2), .one (i6 a3)] (F144_res r33) :: (ff (leadsAny (Res.mk [(.one (.im (i6 r33.1))), (.one (.im (.lit (.bool r33.2))))] []))) :: l) := fun z => ⟨(F143_ok5 _ h31 (F143_ok K a1 _ h5)), lk, (bnot_t h32), rfl, (F144_ok K a2 a3 _ h34), lk, z⟩
  refine cond_some hF (fun h35 hF => ?_) (fun h35 hF => ?_)
  ·
   obtain rfl := sj hF
   have pz : HA hn97 [(ff (bnot r33.2))] := ⟨(bnot_t h35), trivial⟩
   exact fpC hn97 (r := F97_res (r33.1, 0)) (q41 pz)
  obtain rfl := sj hF
  have pz : HA hn97 [(tt (bnot r33.2))] := ⟨(bnot_f h35), trivial⟩
  exact fpC hn97 (r := F97_res (0, 8)) (q41 pz)
 obtain rfl := sj hF
 have pz : HA hn97 [.call 143 [.one (i6 a1)] (F143_res5 r4), (ff (leadsAny (Res.mk [(.agg [(.im (.lit .nilFunc)), (.im (.lit .nilFunc)), (.im (.lit (.bool r4.1.only_))), (.im (.lit .nilFunc))]), (.one (.im (.lit (.bool r4.2))))] []))), (tt (bnot r4.2))] := ⟨(F143_ok5 _ h31 (F143_ok K a1 _ h5)), lk, (bnot_f h32), trivial⟩
 exact fpC hn97 (r := F97_res (0, 1)) pz
def F145 (K : Nat) (a1 : Int) (a2 : Int) : Option (Int × Bool) :=
 bif (ilt 0 a2) then
  (bif (ilt (wsub .i64 9223372036854775807 a2) a1) then
   (some (0, false))
  else
  bif (ilt a2 0) then
   (bif (ilt a1 (wsub .i64 (-9223372036854775808) a2)) then
    (some (0, false))
   else
   some ((wadd .i64 a1 a2), true))
  else
  some ((wadd .i64 a1 a2), true))
 else
 bif (ilt a2 0) then
  (bif (ilt a1 (wsub .i64 (-9223372036854775808) a2)) then
   (some (0, false))
  else
  some ((wadd .i64 a1 a2), true))
 else
 some ((wadd .i64 a1 a2), true)
def i64 (n : Int) : Prop := -9223372036854775808 ≤ n ∧ n ≤ 9223372036854775807
theorem i64_wf {n : Int} (h : (Lit.int .i64 n).wf = true) : i64 n := bounds_i64 h
theorem wmul_ok {a b : Int} (h : i64 (a * b)) : wmul .i64 a b = a * b := by
 show IntKind.i64.wrap (a * b) = _
 rw [IntKind.wrap_i64]; unfold i64 at h; omega
theorem wadd_i64 {a b : Int} (h : i64 (a + b)) : wadd .i64 a b = a + b := by
 show IntKind.i64.wrap (a + b) = _
 rw [IntKind.wrap_i64]; unfold i64 at h; omega
def fitsB (n : Int) : Bool := decide (-9223372036854775808 ≤ n) && decide (n ≤ 9223372036854775807)
theorem fitsB_iff {n : Int} : fitsB n = true ↔ i64 n := by simp [fitsB, i64]
theorem fitsB_f {n : Int} : fitsB n = false ↔ n < -9223372036854775808 ∨ 9223372036854775807 < n := by
 cases h : fitsB n
 · have : ¬ i64 n := fun q => by rw [fitsB_iff.2 q] at h; cases h
   unfold i64 at this
   simp only [true_iff]; omega
 · have := fitsB_iff.1 h
   unfold i64 at this
   simp only [Bool.true_eq_false, false_iff]; omega
def addS (a b : Int) : Int × Bool := bif fitsB (a + b) then (a + b, true) else (0, false)
theorem F145_spec (K : Nat) {a b : Int} (ha : i64 a) (hb : i64 b) : F145 K a b = some (addS a b) := by
 unfold i64 at ha hb
 rw [F145, addS]
 cases h1 : ilt 0 b
 · have b1 := ilt_f.1 h1
   cases h2 : ilt b 0
   · have b2 := ilt_f.1 h2
     have : b = 0 := by omega
     rw [fitsB_iff.2 (by unfold i64; omega), wadd_i64 (by unfold i64; omega)]; rfl
   · have b2 := ilt_iff.1 h2
     have ew : wsub .i64 (-9223372036854775808) b = -9223372036854775808 - b := by
      show IntKind.i64.wrap _ = _
      rw [IntKind.wrap_i64]; omega
     rw [cond_false, cond_true, ew]
     cases h3 : ilt a (-9223372036854775808 - b)
     · have := ilt_f.1 h3
       rw [fitsB_iff.2 (by unfold i64; omega), wadd_i64 (by unfold i64; omega)]; rfl
     · have := ilt_iff.1 h3
       rw [fitsB_f.2 (by omega)]; rfl
 · have b1 := ilt_iff.1 h1
   have ew : wsub .i64 9223372036854775807 b = 9223372036854775807 - b := by
    show IntKind.i64.wrap _ = _
    rw [IntKind.wrap_i64]; omega
   rw [cond_true, ew, ilt_f.2 (by omega : (0 : Int) ≤ b), cond_false]
   cases h3 : ilt (9223372036854775807 - b) a
   · have := ilt_f.1 h3
     rw [fitsB_iff.2 (by unfold i64; omega), wadd_i64 (by unfold i64; omega)]; rfl
   · have := ilt_iff.1 h3
     rw [fitsB_f.2 (by omega)]; rfl
theorem F144_spec (K : Nat) {a b : Int} (ha : i64 a) (hb : i64 b) : F144 K a b = some (addS a b) := by
 unfold i64 at ha hb
 have ew : wadd .i64 a b = bif fitsB (a + b) then a + b else bif ilt (a + b) 0 then a + b + 18446744073709551616 else a + b - 18446744073709551616 := by
  show IntKind.i64.wrap (a + b) = _
  rw [IntKind.wrap_i64]
  cases h : fitsB (a + b)
  · have := fitsB_f.1 h
    cases h2 : ilt (a + b) 0
    · have := ilt_f.1 h2; simp only [cond_false]; omega
    · have := ilt_iff.1 h2; simp only [cond_false, cond_true]; omega
  · have := fitsB_iff.1 h; unfold i64 at this; simp only [cond_true]; omega
 have eg : ∀ x : Int, ige x 0 = !(ilt x 0) := fun x => by
  unfold ige ilt
  by_cases h : x < 0 <;> simp [h] <;> omega
 rw [F144, addS, eg, eg, eg, ew]
 cases h : fitsB (a + b)
 · have h' := fitsB_f.1 h
   rcases h' with h' | h'
   · rw [ilt_iff.2 (by omega : a < 0), ilt_iff.2 (by omega : b < 0), ilt_iff.2 (by omega : a + b < 0)]
     simp only [cond_false, cond_true]
     rw [ilt_f.2 (by omega : 0 ≤ a + b + 18446744073709551616)]; rfl
   · rw [ilt_f.2 (by omega : 0 ≤ a), ilt_f.2 (by omega : 0 ≤ b), ilt_f.2 (by omega : 0 ≤ a + b)]
     simp only [cond_false, cond_true]
     rw [ilt_iff.2 (by omega : a + b - 18446744073709551616 < 0)]; rfl
 · simp only [cond_true]
   cases h1 : ilt a 0 <;> cases h2 : ilt b 0
   · rw [ilt_f.2 (by have := ilt_f.1 h1; have := ilt_f.1 h2; omega : 0 ≤ a + b)]; rfl
   · rfl
   · rfl
   · rw [ilt_iff.2 (by have := ilt_iff.1 h1; have := ilt_iff.1 h2; omega : a + b < 0)]; rfl
def foldS (p a b : Int) : Int × Int := bif pbad p then (0, 1) else bif ieq p 5 then (bif (addS a b).2 then ((addS a b).1, 0) else (0, 8)) else bif ieq p 4 then (bif ilt a b then (b, 0) else (a, 0)) else bif ilt b a then (b, 0) else (a, 0)
theorem F97_spec (K : Nat) (p : Int) {a b : Int} (ha : i64 a) (hb : i64 b) : F97 K p a b = some (foldS p a b) := by
 rw [F97]
 rcases prog_cases p with q | q | q | q | q | q
 · subst q
   have e5 : ieq 1 5 = false := rfl
   have e4 : ieq 1 4 = false := rfl
   have eb : pbad 1 = false := rfl
   rw [F143_1, foldS, e5, e4, eb]
   simp only [Option.bind_some, cond_true, cond_false, af_1_1, af_1_3, af_1_2, af_1_4, af_1_5, af_1_0, af_3_1, af_3_3, af_3_2, af_3_4, af_3_5, af_3_0, af_2_1, af_2_3, af_2_2, af_2_4, af_2_5, af_2_0, af_4_1, af_4_3, af_4_2, af_4_4, af_4_5, af_4_0, af_5_1, af_5_3, af_5_2, af_5_4, af_5_5, af_5_0, af_0_1, af_0_3, af_0_2, af_0_4, af_0_5, af_0_0, F159]
   cases ilt b a <;> rfl
 · subst q
   have e5 : ieq 2 5 = false := rfl
   have e4 : ieq 2 4 = false := rfl
   have eb : pbad 2 = false := rfl
   rw [F143_2, foldS, e5, e4, eb]
   simp only [Option.bind_some, cond_true, cond_false, af_1_1, af_1_3, af_1_2, af_1_4, af_1_5, af_1_0, af_3_1, af_3_3, af_3_2, af_3_4, af_3_5, af_3_0, af_2_1, af_2_3, af_2_2, af_2_4, af_2_5, af_2_0, af_4_1, af_4_3, af_4_2, af_4_4, af_4_5, af_4_0, af_5_1, af_5_3, af_5_2, af_5_4, af_5_5, af_5_0, af_0_1, af_0_3, af_0_2, af_0_4, af_0_5, af_0_0, F159]
   cases ilt b a <;> rfl
 · subst q
   have e5 : ieq 3 5 = false := rfl
   have e4 : ieq 3 4 = false := rfl
   have eb : pbad 3 = false := rfl
   rw [F143_3, foldS, e5, e4, eb]
   simp only [Option.bind_some, cond_true, cond_false, af_1_1, af_1_3, af_1_2, af_1_4, af_1_5, af_1_0, af_3_1, af_3_3, af_3_2, af_3_4, af_3_5, af_3_0, af_2_1, af_2_3, af_2_2, af_2_4, af_2_5, af_2_0, af_4_1, af_4_3, af_4_2, af_4_4, af_4_5, af_4_0, af_5_1, af_5_3, af_5_2, af_5_4, af_5_5, af_5_0, af_0_1, af_0_3, af_0_2, af_0_4, af_0_5, af_0_0, F159]
   cases ilt b a <;> rfl
 · subst q
   have e5 : ieq 4 5 = false := rfl
   have e4 : ieq 4 4 = true := rfl
   have eb : pbad 4 = false := rfl
   rw [F143_4, foldS, e5, e4, eb]
   simp only [Option.bind_some, cond_true, cond_false, af_1_1, af_1_3, af_1_2, af_1_4, af_1_5, af_1_0, af_3_1, af_3_3, af_3_2, af_3_4, af_3_5, af_3_0, af_2_1, af_2_3, af_2_2, af_2_4, af_2_5, af_2_0, af_4_1, af_4_3, af_4_2, af_4_4, af_4_5, af_4_0, af_5_1, af_5_3, af_5_2, af_5_4, af_5_5, af_5_0, af_0_1, af_0_3, af_0_2, af_0_4, af_0_5, af_0_0, F165, igt]
   have : decide (b > a) = ilt a b := rfl
   rw [this]
   cases ilt a b <;> rfl
 · subst q
   have e5 : ieq 5 5 = true := rfl
   have e4 : ieq 5 4 = false := rfl
   have eb : pbad 5 = false := rfl
   rw [F143_5, foldS, e5, e4, eb]
   simp only [Option.bind_some, cond_true, cond_false, af_1_1, af_1_3, af_1_2, af_1_4, af_1_5, af_1_0, af_3_1, af_3_3, af_3_2, af_3_4, af_3_5, af_3_0, af_2_1, af_2_3, af_2_2, af_2_4, af_2_5, af_2_0, af_4_1, af_4_3, af_4_2, af_4_4, af_4_5, af_4_0, af_5_1, af_5_3, af_5_2, af_5_4, af_5_5, af_5_0, af_0_1, af_0_3, af_0_2, af_0_4, af_0_5, af_0_0, F144_spec K ha hb]
   cases (addS a b).2 <;> rfl
 · have eb : pbad p = true := by
    unfold pbad
    rcases q with q | q
    · rw [ilt_iff.2 q]; rfl
    · rw [ilt_iff.2 q, Bool.or_true]
   rw [F143_0 K q, foldS, eb]
   simp only [Option.bind_some, cond_true, cond_false, af_1_1, af_1_3, af_1_2, af_1_4, af_1_5, af_1_0, af_3_1, af_3_3, af_3_2, af_3_4, af_3_5, af_3_0, af_2_1, af_2_3, af_2_2, af_2_4, af_2_5, af_2_0, af_4_1, af_4_3, af_4_2, af_4_4, af_4_5, af_4_0, af_5_1, af_5_3, af_5_2, af_5_4, af_5_5, af_5_0, af_0_1, af_0_3, af_0_2, af_0_4, af_0_5, af_0_0]
theorem foldS_i64 {p a b : Int} (ha : i64 a) (hb : i64 b) : i64 (foldS p a b).1 := by
 have h0 : i64 0 := by unfold i64; omega
 rw [foldS]
 cases pbad p
 · cases ieq p 5
   · cases ieq p 4
     · simp only [cond_false]
       cases ilt b a
       · exact ha
       · exact hb
     · simp only [cond_false, cond_true]
       cases ilt a b
       · exact ha
       · exact hb
   · simp only [cond_false, cond_true]
     unfold addS
     cases h : fitsB (a + b)
     · exact h0
     · exact fitsB_iff.1 h
 · exact h0
theorem foldS_comm (p a b : Int) : foldS p a b = foldS p b a := by
 rw [foldS, foldS, addS, addS, Int.add_comm b a]
 cases pbad p
 · cases ieq p 5
   · simp only [cond_false]
     cases h1 : ilt a b <;> cases h2 : ilt b a
     · have := ilt_f.1 h1; have := ilt_f.1 h2
       have : a = b := by omega
       subst this; rfl
     · cases ieq p 4 <;> rfl
     · cases ieq p 4 <;> rfl
     · have := ilt_iff.1 h1; have := ilt_iff.1 h2; omega
   · rfl
 · rfl
theorem foldS_assoc {p a b c : Int} (h1 : (foldS p a b).2 = 0) (h2 : (foldS p (foldS p a b).1 c).2 = 0) (h3 : (foldS p b c).2 = 0) : foldS p a (foldS p b c).1 = foldS p (foldS p a b).1 c := by
 cases hb : pbad p
 · cases h5 : ieq p 5
   · cases h4 : ieq p 4
     · have e : ∀ x y, foldS p x y = bif ilt y x then (y, 0) else (x, 0) := fun x y => by rw [foldS, hb, h5, h4]; rfl
       rw [e a b, e b c]
       cases q1 : ilt b a <;> cases q2 : ilt c b <;> simp only [cond_true, cond_false, e]
       · have := ilt_f.1 q1; have := ilt_f.1 q2
         rw [q1, ilt_f.2 (by omega : a ≤ c)]; rfl
       · rw [q1, q2]; rfl
       · have := ilt_iff.1 q1; have := ilt_iff.1 q2
         rw [q2, ilt_iff.2 (by omega : c < a)]; rfl
     · have e : ∀ x y, foldS p x y = bif ilt x y then (y, 0) else (x, 0) := fun x y => by rw [foldS, hb, h5, h4]; rfl
       rw [e a b, e b c]
       cases q1 : ilt a b <;> cases q2 : ilt b c <;> simp only [cond_true, cond_false, e]
       · have := ilt_f.1 q1; have := ilt_f.1 q2
         rw [q1, ilt_f.2 (by omega : c ≤ a)]; rfl
       · rw [q1, q2]; rfl
       · have := ilt_iff.1 q1; have := ilt_iff.1 q2
         rw [q2, ilt_iff.2 (by omega : a < c)]; rfl
   · have e : ∀ x y, foldS p x y = bif fitsB (x + y) then (x + y, 0) else (0, 8) := fun x y => by
      rw [foldS, hb, h5, addS]
      cases fitsB (x + y) <;> rfl
     rw [e a b] at h1 h2 ⊢
     rw [e b c] at h3 ⊢
     cases q1 : fitsB (a + b)
     · rw [q1] at h1; cases h1
     · cases q2 : fitsB (b + c)
       · rw [q2] at h3; cases h3
       · rw [q1] at h2
         simp only [cond_true, e] at h2 ⊢
         have : a + b + c = a + (b + c) := by omega
         rw [this]
 · rw [foldS, hb] at h1; cases h1
noncomputable def hn149 : Hint := { H 149 with nt := 21, prot := 0 }
noncomputable def c149_0 : Code := loopOf E 149 0
def F149_res (r1 : Int × Bool) : Res := ⟨[(.one (.im (.lit (.int .i64 r1.1)))), (.one (.im (.lit (.bool r1.2))))], []⟩
def F149_l0_0 (K : Nat) (a1 : List GMsg) (a2 : Int) : Nat → Int → Option ((Int) ⊕ (Unit))
 | 0, _ => none
 | k + 1, v3 =>
  bif (ilt v3 (nlen (len a1))) then
   (bif (inr v3 (len a1)) then
   (elAt a1 v3).bind fun x4 =>
   bif (ieq x4.To a2) then
    (some (.inl x4.V))
   else
   F149_l0_0 K a1 a2 k (wadd .i64 v3 1)
   else none)
  else
  some (.inr ())
def F149_l0_0_S (a1 : List GMsg) (a2 : Int) (v3 : Int) : TS := .on [0, 1, 64, 65, 512, 513, 576, 577, 640, 641] [(0, ⟨.one, 0, nob⟩), (1, ⟨.im, 0, (.sl (len a1) (flat eGMsg a1))⟩), (64, ⟨.one, 0, nob⟩), (65, ⟨.im, 0, (.lit (.int .i64 a2))⟩), (512, ⟨.one, 0, nob⟩), (513, ⟨.im, 0, (.sl (len a1) (flat eGMsg a1))⟩), (576, ⟨.one, 0, nob⟩), (577, ⟨.im, 0, (.lit (.int .i64 (nlen (len a1))))⟩), (640, ⟨.one, 0, nob⟩), (641, ⟨.im, 0, (.lit (.int .i64 v3))⟩)]
def F149_l0_0_X0 (a1 : List GMsg) (a2 : Int) (w3 : Int) : TS := .on [256, 257, 320, 321] [(256, ⟨.one, 0, nob⟩), (257, ⟨.im, 0, (.lit (.int .i64 w3))⟩), (320, ⟨.one, 0, nob⟩), (321, ⟨.im, 0, (.lit (.bool true))⟩)]
def F149_l0_0_X1 (a1 : List GMsg) (a2 : Int) (w3 : Unit) : TS := .on [] []
theorem F149_l0_0_ok (K : Nat) (a1 : List GMsg) (a2 : Int) : ∀ (k : Nat) (v3 : Int) (r : (Int) ⊕ (Unit)), F149_l0_0 K a1 a2 k v3 = some r → (Sum.elim (fun w => LoopEv E H hn149 0 c149_0 (F149_l0_0_S a1 a2 v3) .ret (F149_l0_0_X0 a1 a2 w)) (fun w => LoopEv E H hn149 0 c149_0 (F149_l0_0_S a1 a2 v3) (.exit 0) (F149_l0_0_X1 a1 a2 w))) r := by
 intro k
 induction k with
 | zero => intro v3 r hF; cases hF
 | succ k ih =>
  intro v3 r hF
  rw [F149_l0_0] at hF
  refine cond_some hF (fun h4 hF => ?_) (fun h4 hF => ?_)
  ·
   refine cond_some hF (fun h5 hF => ?_) (fun _ hF => nomatch hF)
   refine bind_some hF (fun x6 h7 hF => ?_)
   have q9 : PQ hn149 fun l => ((tt (ilt v3 (nl a1))) :: (tt (inr v3 (len a1))) :: .sub (flat eGMsg a1) (nidx v3 2) 2 [(i6 x6.To), (i6 x6.V)] :: l) := fun z => ⟨h4, h5, ⟨rfl, sub_flat0 eGMsg_len h7 2 (by decide)⟩, z⟩
   refine cond_some hF (fun h8 hF => ?_) (fun h8 hF => ?_)
   ·
    obtain rfl := sj hF
    have pz : HA hn149 [(tt (ieq x6.To a2))] := ⟨h8, trivial⟩
    exact lE hn149 0 c149_0 (F149_l0_0_S a1 a2 v3) (F149_l0_0_X0 a1 a2 x6.V) .ret (q9 pz)
   have pz : HA hn149 [(ff (ieq x6.To a2)), .int (wadd .i64 v3 1) (wadd .i64 v3 1)] := ⟨h8, rfl, trivial⟩
   have h0 := ih _ _ hF
   have hn := lN hn149 0 c149_0 (F149_l0_0_S a1 a2 v3) (F149_l0_0_S a1 a2 (wadd .i64 v3 1)) (q9 pz)
   cases r with
   | inl w => exact hn _ _ h0
   | inr w => exact hn _ _ h0
  obtain rfl := sj hF
  have pz : HA hn149 [(ff (ilt v3 (nl a1)))] := ⟨h4, trivial⟩
  exact lE hn149 0 c149_0 (F149_l0_0_S a1 a2 v3) (F149_l0_0_X1 a1 a2 ()) (.exit 0) pz
def F149 (K : Nat) (a1 : List GMsg) (a2 : Int) : Option (Int × Bool) :=
 (F149_l0_0 K a1 a2 K 0).bind fun y3 =>
 Sum.elim (fun w4 =>
  some (w4, true))
  (fun w5 =>
  some (0, false)) y3
theorem F149_ok (K : Nat) (a1 : List GMsg) (a2 : Int) (r : Int × Bool) (hF : F149 K a1 a2 = some r) : Evt E H 149 [.one (.sl (len a1) (flat eGMsg a1)), .one (.lit (.int .i64 a2))] (F149_res r) := by
 rw [F149] at hF
 refine bind_some hF (fun y4 h3 hF => ?_)
 refine sum_some hF (fun w5 hx hF => ?_) (fun w6 hx hF => ?_)
 ·
  subst hx
  obtain rfl := sj hF
  have pz : HA hn149 [.int (nl a1) (nl a1), .loop 0 c149_0 (F149_l0_0_S a1 a2 0) .ret (F149_l0_0_X0 a1 a2 w5)] := ⟨rfl, (F149_l0_0_ok K a1 a2 K 0 _ h3), trivial⟩
  exact fpC hn149 (r := F149_res (w5, true)) pz
 subst hx
 obtain rfl := sj hF
 have pz : HA hn149 [.int (nl a1) (nl a1), .loop 0 c149_0 (F149_l0_0_S a1 a2 0) (.exit 0) (F149_l0_0_X1 a1 a2 w6)] := ⟨rfl, (F149_l0_0_ok K a1 a2 K 0 _ h3), trivial⟩
 exact fpC hn149 (r := F149_res (0, false)) pz
noncomputable def hn173 : Hint := { H 173 with nt := 24, prot := 0 }
def F173_res (r1 : Bool) : Res := ⟨[(.one (.im (.lit (.bool r1))))], []⟩
def F173 (K : Nat) (a1 : GMsg) (a2 : GMsg) : Option (Bool) :=
 bif (ilt a1.To a2.To) then
  (some true)
 else
 bif (ieq a1.To a2.To) then
  (some (ilt a1.V a2.V))
 else
 some false
theorem F173_ok (K : Nat) (a1 : GMsg) (a2 : GMsg) (r : Bool) (hF : F173 K a1 a2 = some r) : Evt E H 173 [.agg (eGMsg a1), .agg (eGMsg a2)] (F173_res r) := by
 rw [F173] at hF
 refine cond_some hF (fun h3 hF => ?_) (fun h3 hF => ?_)
 ·
  obtain rfl := sj hF
  have pz : HA hn173 [(bf (ilt a1.To a2.To)), (bf (ilt a1.To a2.To)), (bf (ilt a1.To a2.To)), (bf (ilt a1.To a2.To)), (bf (ilt a1.To a2.To)), (bf (ilt a1.To a2.To)), (bf (ilt a1.To a2.To)), (tt (ilt a1.To a2.To))] := ⟨(bA h3), (bA h3), (bA h3), (bA h3), (bA h3), (bA h3), (bA h3), h3, trivial⟩
  exact fpC hn173 (r := F173_res true) pz
 have q5 : PQ hn173 fun l => ((bg (ilt a1.To a2.To)) :: (bg (ilt a1.To a2.To)) :: (bg (ilt a1.To a2.To)) :: (bg (ilt a1.To a2.To)) :: (bg (ilt a1.To a2.To)) :: (bg (ilt a1.To a2.To)) :: l) := fun z => ⟨(bB h3), (bB h3), (bB h3), (bB h3), (bB h3), (bB h3), z⟩
 refine cond_some hF (fun h4 hF => ?_) (fun h4 hF => ?_)
 ·
  obtain rfl := sj hF
  have pz : HA hn173 [(bh (ieq a1.To a2.To)), (bh (ieq a1.To a2.To)), (bh (ieq a1.To a2.To)), (bh (ieq a1.To a2.To)), (bh (ieq a1.To a2.To)), (bg (ilt a1.To a2.To)), (tt (ieq a1.To a2.To)), (ff (ilt a1.To a2.To))] := ⟨(bC h4), (bC h4), (bC h4), (bC h4), (bC h4), (bB h3), h4, h3, trivial⟩
  exact fpC hn173 (r := F173_res (ilt a1.V a2.V)) (q5 pz)
 obtain rfl := sj hF
 have pz : HA hn173 [(bk (ieq a1.To a2.To)), (bk (ieq a1.To a2.To)), (bk (ieq a1.To a2.To)), (bk (ieq a1.To a2.To)), (bk (ieq a1.To a2.To)), (bg (ilt a1.To a2.To)), (ff (ieq a1.To a2.To)), (ff (ilt a1.To a2.To))] := ⟨(bC h4), (bC h4), (bC h4), (bC h4), (bC h4), (bB h3), h4, h3, trivial⟩
 exact fpC hn173 (r := F173_res false) (q5 pz)
noncomputable def hn172_173 : Hint := { H 172 with nt := 68, prot := 0 }
noncomputable def c172_173_0 : Code := loopOf E 172 0
def F172_173_res (r1 : List GMsg) : Res := ⟨[(.one (.own 130 (.sl (len r1) (flat eGMsg r1))))], []⟩
def F172_173_l0_0 (K : Nat)  : Nat → List GMsg → List GMsg → List GMsg → Option (List GMsg × List GMsg × List GMsg)
 | 0, _, _, _ => none
 | k + 1, v1, v2, v3 =>
  bif (ilt 0 (nlen (len v1))) then
   (bif (ilt 0 (nlen (len v2))) then
    (bif (inr 0 (len v2)) then
    (elAt v2 0).bind fun x4 =>
    bif (inr 0 (len v1)) then
    (elAt v1 0).bind fun x5 =>
    (F173 K x4 x5).bind fun r6 =>
    bif r6 then
     (bif (apok (len v3) 1 16) then
     bif (bnd 1 (nlen (len v2)) (len v2)) then
     F172_173_l0_0 K  k v1 (subL v2 1 (nlen (len v2))) (appL v3 [x4])
     else none
     else none)
    else
    bif (apok (len v3) 1 16) then
    bif (bnd 1 (nlen (len v1)) (len v1)) then
    F172_173_l0_0 K  k (subL v1 1 (nlen (len v1))) v2 (appL v3 [x5])
    else none
    else none
    else none
    else none)
   else
   some (v1, (v2, v3)))
  else
  some (v1, (v2, v3))
def F172_173_l0_0_S  (v1 : List GMsg) (v2 : List GMsg) (v3 : List GMsg) : TS := .on [64, 65, 384, 385, 448, 449, 512, 513] [(64, ⟨.one, 0, nob⟩), (65, ⟨.im, 0, (.lit (fnV 173))⟩), (384, ⟨.one, 0, nob⟩), (385, ⟨.im, 0, (.sl (len v1) (flat eGMsg v1))⟩), (448, ⟨.one, 0, nob⟩), (449, ⟨.im, 0, (.sl (len v2) (flat eGMsg v2))⟩), (512, ⟨.one, 0, nob⟩), (513, ⟨(.own 130), 0, (.sl (len v3) (flat eGMsg v3))⟩)]
def F172_173_l0_0_X0  (w1 : List GMsg × List GMsg × List GMsg) : TS := .on [384, 385, 448, 449, 512, 513] [(384, ⟨.one, 0, nob⟩), (385, ⟨.im, 0, (.sl (len w1.1) (flat eGMsg w1.1))⟩), (448, ⟨.one, 0, nob⟩), (449, ⟨.im, 0, (.sl (len w1.2.1) (flat eGMsg w1.2.1))⟩), (512, ⟨.one, 0, nob⟩), (513, ⟨(.own 130), 0, (.sl (len w1.2.2) (flat eGMsg w1.2.2))⟩)]
theorem F172_173_l0_0_ok (K : Nat)  : ∀ (k : Nat) (v1 : List GMsg) (v2 : List GMsg) (v3 : List GMsg) (r : List GMsg × List GMsg × List GMsg), F172_173_l0_0 K  k v1 v2 v3 = some r → LoopEv E H hn172_173 0 c172_173_0 (F172_173_l0_0_S  v1 v2 v3) (.exit 0) (F172_173_l0_0_X0  r) := by
 intro k
 induction k with
 | zero => intro v1 v2 v3 r hF; cases hF
 | succ k ih =>
  intro v1 v2 v3 r hF
  rw [F172_173_l0_0] at hF
  refine cond_some hF (fun h4 hF => ?_) (fun h4 hF => ?_)
  ·
   have q19 : ∀ {l : List Cond}, HoldAll E H hn172_173 l → HoldAll E H hn172_173 (.int (nl v1) (nl v1) :: (bh (igt (nl v1) 0)) :: (bh (igt (nl v1) 0)) :: .int (nl v2) (nl v2) :: (bh (igt (nl v1) 0)) :: (tt (igt (nl v1) 0)) :: l) := fun z => ⟨rfl, (bC (igt_eq h4)), (bC (igt_eq h4)), rfl, (bC (igt_eq h4)), (igt_eq h4), z⟩
   refine cond_some hF (fun h5 hF => ?_) (fun h5 hF => ?_)
   ·
    refine cond_some hF (fun h6 hF => ?_) (fun _ hF => nomatch hF)
    refine bind_some hF (fun x7 h8 hF => ?_)
    refine cond_some hF (fun h9 hF => ?_) (fun _ hF => nomatch hF)
    refine bind_some hF (fun x10 h11 hF => ?_)
    refine bind_some hF (fun r12 h13 hF => ?_)
    have q20 : ∀ {l : List Cond}, HoldAll E H hn172_173 l → HoldAll E H hn172_173 ((tt (igt (nl v2) 0)) :: (tt (inr 0 (len v2))) :: .sub (flat eGMsg v2) (nidx 0 2) 2 [(i6 x7.To), (i6 x7.V)] :: (tt (inr 0 (len v1))) :: .sub (flat eGMsg v1) (nidx 0 2) 2 [(i6 x10.To), (i6 x10.V)] :: .call 173 [.agg (eGMsg x7), .agg (eGMsg x10)] (F173_res r12) :: (ff (leadsAny (Res.mk [(.one (.im (.lit (.bool r12))))] []))) :: l) := fun z => ⟨(igt_eq h5), h6, ⟨rfl, sub_flat0 eGMsg_len h8 2 (by decide)⟩, h9, ⟨rfl, sub_flat0 eGMsg_len h11 2 (by decide)⟩, (F173_ok K x7 x10 _ h13), lk, z⟩
    refine cond_some hF (fun h14 hF => ?_) (fun h14 hF => ?_)
    ·
     refine cond_some hF (fun h15 hF => ?_) (fun _ hF => nomatch hF)
     refine cond_some hF (fun h16 hF => ?_) (fun _ hF => nomatch hF)
     have pz : HA hn172_173 [(tt r12), (tt (inr 0 (len v2))), .sub (flat eGMsg v2) (nidx 0 2) 2 [(i6 x7.To), (i6 x7.V)], (tt (leqm [(i6 x7.To), (i6 x7.V)] 1 2)), (tt (apok (len v3) 1 16)), .sl (nadd (len v3) 1) (lapp (flat eGMsg v3) [(i6 x7.To), (i6 x7.V)]) (len (α := GMsg) (appL v3 [x7])) (flat eGMsg (appL v3 [x7])), (tt (bnd 1 (nl v2) (len v2))), .sl (nsub 1 (nl v2)) (lsub (flat eGMsg v2) 1 (nl v2) 2) (len (α := GMsg) (subL v2 1 (nl v2))) (flat eGMsg (subL v2 1 (nl v2)))] := ⟨h14, h6, ⟨rfl, sub_flat0 eGMsg_len h8 2 (by decide)⟩, rfl, h15, (app_ok (enc := eGMsg) (v3 : List GMsg) [x7]), h16, (sub_ok eGMsg_len h16), trivial⟩
     have h0 := ih _ _ _ _ hF
     have hn := lN hn172_173 0 c172_173_0 (F172_173_l0_0_S  v1 v2 v3) (F172_173_l0_0_S  v1 (subL v2 1 (nlen (len v2))) (appL v3 [x7])) (q19 (q20 pz))
     exact hn _ _ h0
    refine cond_some hF (fun h17 hF => ?_) (fun _ hF => nomatch hF)
    refine cond_some hF (fun h18 hF => ?_) (fun _ hF => nomatch hF)
    have pz : HA hn172_173 [(ff r12), (tt (inr 0 (len v1))), .sub (flat eGMsg v1) (nidx 0 2) 2 [(i6 x10.To), (i6 x10.V)], (tt (leqm [(i6 x10.To), (i6 x10.V)] 1 2)), (tt (apok (len v3) 1 16)), .sl (nadd (len v3) 1) (lapp (flat eGMsg v3) [(i6 x10.To), (i6 x10.V)]) (len (α := GMsg) (appL v3 [x10])) (flat eGMsg (appL v3 [x10])), (tt (bnd 1 (nl v1) (len v1))), .sl (nsub 1 (nl v1)) (lsub (flat eGMsg v1) 1 (nl v1) 2) (len (α := GMsg) (subL v1 1 (nl v1))) (flat eGMsg (subL v1 1 (nl v1)))] := ⟨h14, h9, ⟨rfl, sub_flat0 eGMsg_len h11 2 (by decide)⟩, rfl, h17, (app_ok (enc := eGMsg) (v3 : List GMsg) [x10]), h18, (sub_ok eGMsg_len h18), trivial⟩
    have h0 := ih _ _ _ _ hF
    have hn := lN hn172_173 0 c172_173_0 (F172_173_l0_0_S  v1 v2 v3) (F172_173_l0_0_S  (subL v1 1 (nlen (len v1))) v2 (appL v3 [x10])) (q19 (q20 pz))
    exact hn _ _ h0
   obtain rfl := sj hF
   have pz : HA hn172_173 [(ff (igt (nl v2) 0))] := ⟨(igt_eq h5), trivial⟩
   exact lE hn172_173 0 c172_173_0 (F172_173_l0_0_S  v1 v2 v3) (F172_173_l0_0_X0  (v1, (v2, v3))) (.exit 0) (q19 pz)
  obtain rfl := sj hF
  have pz : HA hn172_173 [.int (nl v1) (nl v1), (bk (igt (nl v1) 0)), (bk (igt (nl v1) 0)), (bk (igt (nl v1) 0)), (ff (igt (nl v1) 0)), (ff false)] := ⟨rfl, (bC (igt_eq h4)), (bC (igt_eq h4)), (bC (igt_eq h4)), (igt_eq h4), rfl, trivial⟩
  exact lE hn172_173 0 c172_173_0 (F172_173_l0_0_S  v1 v2 v3) (F172_173_l0_0_X0  (v1, (v2, v3))) (.exit 0) pz
def F172_173 (K : Nat) : Nat → List GMsg → Option (List GMsg)
 | 0, _ => none
 | d + 1, a1 =>
 bif (ilt (nlen (len a1)) 2) then
  (bif (apok 0 (len a1) 16) then
  some (appL [] a1)
  else none)
 else
 bif (bnd 0 (wquo .i64 (nlen (len a1)) 2) (len a1)) then
 (F172_173 K d (subL a1 0 (wquo .i64 (nlen (len a1)) 2))).bind fun r2 =>
 bif (bnd (wquo .i64 (nlen (len a1)) 2) (nlen (len a1)) (len a1)) then
 (F172_173 K d (subL a1 (wquo .i64 (nlen (len a1)) 2) (nlen (len a1)))).bind fun r3 =>
 bif (mkok 0 (nlen (len a1)) 16) then
 (F172_173_l0_0 K  K r2 r3 (repL (α := GMsg) 0 (GMsg.mk 0 0))).bind fun w4 =>
 bif (apok (len w4.2.2) (len w4.1) 16) then
 bif (apok (len (α := GMsg) (appL w4.2.2 w4.1)) (len w4.2.1) 16) then
 some (appL (appL w4.2.2 w4.1) w4.2.1)
 else none
 else none
 else none
 else none
 else none
theorem F172_173_ok (K : Nat) : ∀ (d : Nat) (a1 : List GMsg) (r : List GMsg), F172_173 K d a1 = some r → Evt E H 172 [.one (.sl (len a1) (flat eGMsg a1)), .one (.lit (fnV 173))] (F172_173_res r) := by
 intro d
 induction d with
 | zero => intro a1 r hF; cases hF
 | succ d ih =>
  intro a1 r hF
  rw [F172_173] at hF
  refine cond_some hF (fun h2 hF => ?_) (fun h2 hF => ?_)
  ·
   refine cond_some hF (fun h3 hF => ?_) (fun _ hF => nomatch hF)
   obtain rfl := sj hF
   have pz : HA hn172_173 [.int (nl a1) (nl a1), (tt (ilt (nl a1) 2)), (tt (leqm (flat eGMsg a1) (len a1) 2)), (tt (apok 0 (len a1) 16)), .sl (nadd 0 (len a1)) (lapp [] (flat eGMsg a1)) (len (α := GMsg) (appL [] a1)) (flat eGMsg (appL [] a1))] := ⟨rfl, h2, (leqm_flat eGMsg_len _), h3, (app_ok (enc := eGMsg) ([] : List GMsg) a1), trivial⟩
   exact fpC hn172_173 (r := F172_173_res (appL [] a1)) pz
  refine cond_some hF (fun h4 hF => ?_) (fun _ hF => nomatch hF)
  refine bind_some hF (fun r5 h6 hF => ?_)
  refine cond_some hF (fun h7 hF => ?_) (fun _ hF => nomatch hF)
  refine bind_some hF (fun r8 h9 hF => ?_)
  refine cond_some hF (fun h10 hF => ?_) (fun _ hF => nomatch hF)
  refine bind_some hF (fun w12 h11 hF => ?_)
  refine cond_some hF (fun h13 hF => ?_) (fun _ hF => nomatch hF)
  refine cond_some hF (fun h14 hF => ?_) (fun _ hF => nomatch hF)
  obtain rfl := sj hF
  have pz : HA hn172_173 [.int (nl a1) (nl a1), (ff (ilt (nl a1) 2)), .int (nl a1) (nl a1), (ff (izero 2)), .int (wquo .i64 (nl a1) 2) (wquo .i64 (nl a1) 2), (tt (bnd 0 (wquo .i64 (nl a1) 2) (len a1))), .sl (nsub 0 (wquo .i64 (nl a1) 2)) (lsub (flat eGMsg a1) 0 (wquo .i64 (nl a1) 2) 2) (len (α := GMsg) (subL a1 0 (wquo .i64 (nl a1) 2))) (flat eGMsg (subL a1 0 (wquo .i64 (nl a1) 2))), .call 172 [.one (.sl (len (α := GMsg) (subL a1 0 (wquo .i64 (nl a1) 2))) (flat eGMsg (subL a1 0 (wquo .i64 (nl a1) 2)))), .one (.lit (fnV 173))] (F172_173_res r5), (ff (leadsAny (Res.mk [(.one (.own 130 (.sl (len r5) (flat eGMsg r5))))] []))), (tt (bnd (wquo .i64 (nl a1) 2) (nl a1) (len a1))), .sl (nsub (wquo .i64 (nl a1) 2) (nl a1)) (lsub (flat eGMsg a1) (wquo .i64 (nl a1) 2) (nl a1) 2) (len (α := GMsg) (subL a1 (wquo .i64 (nl a1) 2) (nl a1))) (flat eGMsg (subL a1 (wquo .i64 (nl a1) 2) (nl a1))), .call 172 [.one (.sl (len (α := GMsg) (subL a1 (wquo .i64 (nl a1) 2) (nl a1))) (flat eGMsg (subL a1 (wquo .i64 (nl a1) 2) (nl a1)))), .one (.lit (fnV 173))] (F172_173_res r8), (ff (leadsAny (Res.mk [(.one (.own 130 (.sl (len r8) (flat eGMsg r8))))] []))), .int (nl a1) (nl a1), (tt (mkok 0 (nl a1) 16)), .sl (nint 0) (lrep 0 [(i6 0), (i6 0)]) (len (α := GMsg) (repL (α := GMsg) 0 (GMsg.mk 0 0))) (flat eGMsg (repL (α := GMsg) 0 (GMsg.mk 0 0))), .loop 0 c172_173_0 (F172_173_l0_0_S  r5 r8 (repL (α := GMsg) 0 (GMsg.mk 0 0))) (.exit 0) (F172_173_l0_0_X0  w12), (tt (leqm (flat eGMsg w12.1) (len w12.1) 2)), (tt (apok (len w12.2.2) (len w12.1) 16)), .sl (nadd (len w12.2.2) (len w12.1)) (lapp (flat eGMsg w12.2.2) (flat eGMsg w12.1)) (len (α := GMsg) (appL w12.2.2 w12.1)) (flat eGMsg (appL w12.2.2 w12.1)), (tt (leqm (flat eGMsg w12.2.1) (len w12.2.1) 2)), (tt (apok (len (α := GMsg) (appL w12.2.2 w12.1)) (len w12.2.1) 16)), .sl (nadd (len (α := GMsg) (appL w12.2.2 w12.1)) (len w12.2.1)) (lapp (flat eGMsg (appL w12.2.2 w12.1)) (flat eGMsg w12.2.1)) (len (α := GMsg) (appL (appL w12.2.2 w12.1) w12.2.1)) (flat eGMsg (appL (appL w12.2.2 w12.1) w12.2.1))] := ⟨rfl, h2, rfl, (by first | exact rfl | (unfold Cond.Holds; decide)), rfl, h4, (sub_ok eGMsg_len h4), (ih (subL a1 0 (wquo .i64 (nl a1) 2)) _ h6), lk, h7, (sub_ok eGMsg_len h7), (ih (subL a1 (wquo .i64 (nl a1) 2) (nl a1)) _ h9), lk, rfl, h10, (rep_okC (enc := eGMsg) (n := 0) (x := (GMsg.mk 0 0)) rfl), (F172_173_l0_0_ok K  K r5 r8 (repL (α := GMsg) 0 (GMsg.mk 0 0)) _ h11), (leqm_flat eGMsg_len _), h13, (app_ok (enc := eGMsg) (w12.2.2 : List GMsg) w12.1), (leqm_flat eGMsg_len _), h14, (app_ok (enc := eGMsg) ((appL w12.2.2 w12.1) : List GMsg) w12.2.1), trivial⟩
  exact fpC hn172_173 (r := F172_173_res (appL (appL w12.2.2 w12.1) w12.2.1)) pz
noncomputable def hn169 : Hint := { H 169 with nt := 5, prot := 0 }
def F169_res (r1 : List GMsg) : Res := ⟨[(.one (.own 130 (.sl (len r1) (flat eGMsg r1))))], []⟩
def F169 (K : Nat) (a1 : List GMsg) : Option (List GMsg) :=
 (F172_173 K K a1).bind fun r2 =>
 some r2
theorem F169_ok (K : Nat) (a1 : List GMsg) (r : List GMsg) (hF : F169 K a1 = some r) : Evt E H 169 [.one (.sl (len a1) (flat eGMsg a1))] (F169_res r) := by
 rw [F169] at hF
 refine bind_some hF (fun r2 h3 hF => ?_)
 obtain rfl := sj hF
 have pz : HA hn169 [.call 172 [.one (.sl (len a1) (flat eGMsg a1)), .one (.lit (fnV 173))] (F172_173_res r2), (ff (leadsAny (Res.mk [(.one (.own 130 (.sl (len r2) (flat eGMsg r2))))] [])))] := ⟨(F172_173_ok K K a1 _ h3), lk, trivial⟩
 exact fpC hn169 (r := F169_res r2) pz
noncomputable def hn150 : Hint := { H 150 with nt := 72, prot := 0 }
noncomputable def c150_0 : Code := loopOf E 150 0
def F150_res (r1 : List GMsg × Int) : Res := ⟨[(.one (.own 130 (.sl (len r1.1) (flat eGMsg r1.1)))), (.one (.im (.lit (.int .i64 r1.2))))], []⟩
def F150_l0_0 (K : Nat) (a1 : Int) (r2 : List GMsg) : Nat → List GMsg → Int → Option ((Int) ⊕ (List GMsg))
 | 0, _, _ => none
 | k + 1, v3, v4 =>
  bif (ilt v4 (nlen (len r2))) then
   (bif (inr v4 (len r2)) then
   (elAt r2 v4).bind fun x5 =>
   bif (ilt 0 (nlen (len v3))) then
    (bif (inr (wsub .i64 (nlen (len v3)) 1) (len v3)) then
    (elAt v3 (wsub .i64 (nlen (len v3)) 1)).bind fun x6 =>
    bif (ieq x6.To x5.To) then
     ((F97 K a1 x6.V x5.V).bind fun r7 =>
     bif (ieq r7.2 0) then
      (F150_l0_0 K a1 r2 k (putAt v3 (wsub .i64 (nlen (len v3)) 1) (GMsg.mk x6.To r7.1)) (wadd .i64 v4 1))
     else
     some (.inl r7.2))
    else
    bif (apok (len v3) 1 16) then
    F150_l0_0 K a1 r2 k (appL v3 [x5]) (wadd .i64 v4 1)
    else none
    else none)
   else
   bif (apok (len v3) 1 16) then
   F150_l0_0 K a1 r2 k (appL v3 [x5]) (wadd .i64 v4 1)
   else none
   else none)
  else
  some (.inr v3)
def F150_l0_0_S (a1 : Int) (r2 : List GMsg) (v3 : List GMsg) (v4 : Int) : TS := .on [0, 1, 512, 513, 1472, 1473, 1536, 1537, 1600, 1601] [(0, ⟨.one, 0, nob⟩), (1, ⟨.im, 0, (.lit (.int .i64 a1))⟩), (512, ⟨.one, 0, nob⟩), (513, ⟨(.own 130), 0, (.sl (len v3) (flat eGMsg v3))⟩), (1472, ⟨.one, 0, nob⟩), (1473, ⟨(.own 130), 0, (.sl (len r2) (flat eGMsg r2))⟩), (1536, ⟨.one, 0, nob⟩), (1537, ⟨.im, 0, (.lit (.int .i64 (nlen (len r2))))⟩), (1600, ⟨.one, 0, nob⟩), (1601, ⟨.im, 0, (.lit (.int .i64 v4))⟩)]
def F150_l0_0_X0 (a1 : Int) (r2 : List GMsg) (w3 : Int) : TS := .on [256, 257, 320, 321] [(256, ⟨.one, 0, nob⟩), (257, ⟨(.own 130), 0, (.sl 0 [])⟩), (320, ⟨.one, 0, nob⟩), (321, ⟨.im, 0, (.lit (.int .i64 w3))⟩)]
def F150_l0_0_X1 (a1 : Int) (r2 : List GMsg) (w3 : List GMsg) : TS := .on [512, 513] [(512, ⟨.one, 0, nob⟩), (513, ⟨(.own 130), 0, (.sl (len w3) (flat eGMsg w3))⟩)]
theorem F150_l0_0_ok (K : Nat) (a1 : Int) (r2 : List GMsg) : ∀ (k : Nat) (v3 : List GMsg) (v4 : Int) (r : (Int) ⊕ (List GMsg)), F150_l0_0 K a1 r2 k v3 v4 = some r → (Sum.elim (fun w => LoopEv E H hn150 0 c150_0 (F150_l0_0_S a1 r2 v3 v4) .ret (F150_l0_0_X0 a1 r2 w)) (fun w => LoopEv E H hn150 0 c150_0 (F150_l0_0_S a1 r2 v3 v4) (.exit 0) (F150_l0_0_X1 a1 r2 w))) r := by
 intro k
 induction k with
 | zero => intro v3 v4 r hF; cases hF
 | succ k ih =>
  intro v3 v4 r hF
  rw [F150_l0_0] at hF
  refine cond_some hF (fun h5 hF => ?_) (fun h5 hF => ?_)
  ·
   refine cond_some hF (fun h6 hF => ?_) (fun _ hF => nomatch hF)
   refine bind_some hF (fun x7 h8 hF => ?_)
   have q19 : PQ hn150 fun l => ((tt (ilt v4 (nl r2))) :: (tt (inr v4 (len r2))) :: .sub (flat eGMsg r2) (nidx v4 2) 2 [(i6 x7.To), (i6 x7.V)] :: .int (nl v3) (nl v3) :: l) := fun z => ⟨h5, h6, ⟨rfl, sub_flat0 eGMsg_len h8 2 (by decide)⟩, rfl, z⟩
   refine cond_some hF (fun h9 hF => ?_) (fun h9 hF => ?_)
   ·
    refine cond_some hF (fun h10 hF => ?_) (fun _ hF => nomatch hF)
    refine bind_some hF (fun x11 h12 hF => ?_)
    have q20 : PQ hn150 fun l => ((bh (igt (nl v3) 0)) :: (bh (igt (nl v3) 0)) :: (bh (igt (nl v3) 0)) :: .int (wsub .i64 (nl v3) 1) (wsub .i64 (nl v3) 1) :: (bh (igt (nl v3) 0)) :: (tt (inr (wsub .i64 (nl v3) 1) (len v3))) :: (bh (igt (nl v3) 0)) :: (bh (igt (nl v3) 0)) :: .sub (flat eGMsg v3) (nadd (nidx (wsub .i64 (nl v3) 1) 2) 0) 1 [(i6 x11.To)] :: (bh (igt (nl v3) 0)) :: (bh (igt (nl v3) 0)) :: (bh (igt (nl v3) 0)) :: (tt (igt (nl v3) 0)) :: l) := fun z => ⟨(bC (igt_eq h9)), (bC (igt_eq h9)), (bC (igt_eq h9)), rfl, (bC (igt_eq h9)), h10, (bC (igt_eq h9)), (bC (igt_eq h9)), ⟨rfl, sub_flat eGMsg_len h12 0 1 (by decide)⟩, (bC (igt_eq h9)), (bC (igt_eq h9)), (bC (igt_eq h9)), (igt_eq h9), z⟩
    refine cond_some hF (fun h13 hF => ?_) (fun h13 hF => ?_)
    ·
     refine bind_some hF (fun r14 h15 hF => ?_)
     have q21 : PQ hn150 fun l => ((tt (ieq x11.To x7.To)) :: .int (wsub .i64 (nl v3) 1) (wsub .i64 (nl v3) 1) :: (tt (inr (wsub .i64 (nl v3) 1) (len v3))) :: .sub (flat eGMsg v3) (nadd (nidx (wsub .i64 (nl v3) 1) 2) 1) 1 [(i6 x11.V)] :: .call 97 [.one (i6 a1), .one (i6 x11.V), .one (i6 x7.V)] (F97_res r14) :: (ff (leadsAny (Res.mk [(.one (.im (i6 r14.1))), (.one (.im (i6 r14.2)))] []))) :: l) := fun z => ⟨h13, rfl, h10, ⟨rfl, sub_flat eGMsg_len h12 1 1 (by decide)⟩, (F97_ok K a1 x11.V x7.V _ h15), lk, z⟩
     refine cond_some hF (fun h16 hF => ?_) (fun h16 hF => ?_)
     ·
      have pz : HA hn150 [(ff (ine r14.2 0)), .int (wsub .i64 (nl v3) 1) (wsub .i64 (nl v3) 1), (tt (inr (wsub .i64 (nl v3) 1) (len v3))), (tt (lfits (nadd (nidx (wsub .i64 (nl v3) 1) 2) 1) 1 (flat eGMsg v3))), .sl (len v3) (lset (flat eGMsg v3) (nadd (nidx (wsub .i64 (nl v3) 1) 2) 1) [(i6 r14.1)]) (len (α := GMsg) (putAt v3 (wsub .i64 (nl v3) 1) (GMsg.mk x11.To r14.1))) (flat eGMsg (putAt v3 (wsub .i64 (nl v3) 1) (GMsg.mk x11.To r14.1))), .int (wadd .i64 v4 1) (wadd .i64 v4 1)] := ⟨(ine_t h16), rfl, h10, (lfits_flat eGMsg_len h12 1 _ (by decide)), (set_ok eGMsg_len h12 1 _ (by simp) rfl), rfl, trivial⟩
      have h0 := ih _ _ _ hF
      have hn := lN hn150 0 c150_0 (F150_l0_0_S a1 r2 v3 v4) (F150_l0_0_S a1 r2 (putAt v3 (wsub .i64 (nlen (len v3)) 1) (GMsg.mk x11.To r14.1)) (wadd .i64 v4 1)) (q19 (q20 (q21 pz)))
      cases r with
      | inl w => exact hn _ _ h0
      | inr w => exact hn _ _ h0
     obtain rfl := sj hF
     have pz : HA hn150 [(tt (ine r14.2 0))] := ⟨(ine_f h16), trivial⟩
     exact lE hn150 0 c150_0 (F150_l0_0_S a1 r2 v3 v4) (F150_l0_0_X0 a1 r2 r14.2) .ret (q19 (q20 (q21 pz)))
    refine cond_some hF (fun h17 hF => ?_) (fun _ hF => nomatch hF)
    have pz : HA hn150 [(ff (ieq x11.To x7.To)), (tt (leqm [(i6 x7.To), (i6 x7.V)] 1 2)), (tt (apok (len v3) 1 16)), .sl (nadd (len v3) 1) (lapp (flat eGMsg v3) [(i6 x7.To), (i6 x7.V)]) (len (α := GMsg) (appL v3 [x7])) (flat eGMsg (appL v3 [x7])), .int (wadd .i64 v4 1) (wadd .i64 v4 1)] := ⟨h13, rfl, h17, (app_ok (enc := eGMsg) (v3 : List GMsg) [x7]), rfl, trivial⟩
    have h0 := ih _ _ _ hF
    have hn := lN hn150 0 c150_0 (F150_l0_0_S a1 r2 v3 v4) (F150_l0_0_S a1 r2 (appL v3 [x7]) (wadd .i64 v4 1)) (q19 (q20 pz))
    cases r with
    | inl w => exact hn _ _ h0
    | inr w => exact hn _ _ h0
   refine cond_some hF (fun h18 hF => ?_) (fun _ hF => nomatch hF)
   have pz : HA hn150 [(bk (igt (nl v3) 0)), (bk (igt (nl v3) 0)), (bk (igt (nl v3) 0)), (bk (igt (nl v3) 0)), (bk (igt (nl v3) 0)), (bk (igt (nl v3) 0)), (bk (igt (nl v3) 0)), (bk (igt (nl v3) 0)), (bk (igt (nl v3) 0)), (ff (igt (nl v3) 0)), (ff false), (tt (leqm [(i6 x7.To), (i6 x7.V)] 1 2)), (tt (apok (len v3) 1 16)), .sl (nadd (len v3) 1) (lapp (flat eGMsg v3) [(i6 x7.To), (i6 x7.V)]) (len (α := GMsg) (appL v3 [x7])) (flat eGMsg (appL v3 [x7])), .int (wadd .i64 v4 1) (wadd .i64 v4 1)] := ⟨(bC (igt_eq h9)), (bC (igt_eq h9)), (bC (igt_eq h9)), (bC (igt_eq h9)), (bC (igt_eq h9)), (bC (igt_eq h9)), (bC (igt_eq h9)), (bC (igt_eq h9)), (bC (igt_eq h9)), (igt_eq h9), rfl, rfl, h18, (app_ok (enc := eGMsg) (v3 : List GMsg) [x7]), rfl, trivial⟩
   have h0 := ih _ _ _ hF
   have hn := lN hn150 0 c150_0 (F150_l0_0_S a1 r2 v3 v4) (F150_l0_0_S a1 r2 (appL v3 [x7]) (wadd .i64 v4 1)) (q19 pz)
   cases r with
   | inl w => exact hn _ _ h0
   | inr w => exact hn _ _ h0
  obtain rfl := sj hF
  have pz : HA hn150 [(ff (ilt v4 (nl r2)))] := ⟨h5, trivial⟩
  exact lE hn150 0 c150_0 (F150_l0_0_S a1 r2 v3 v4) (F150_l0_0_X1 a1 r2 v3) (.exit 0) pz
def F150 (K : Nat) (a1 : Int) (a2 : List GMsg) : Option (List GMsg × Int) :=
 (F97 K a1 0 0).bind fun r3 =>
 bif (ieq r3.2 0) then
  ((F169 K a2).bind fun r4 =>
  (F150_l0_0 K a1 r4 K [] 0).bind fun y5 =>
  Sum.elim (fun w6 =>
   some ([], w6))
   (fun w7 =>
   some (w7, 0)) y5)
 else
 some ([], r3.2)
theorem F150_ok (K : Nat) (a1 : Int) (a2 : List GMsg) (r : List GMsg × Int) (hF : F150 K a1 a2 = some r) : Evt E H 150 [.one (.lit (.int .i64 a1)), .one (.sl (len a2) (flat eGMsg a2))] (F150_res r) := by
 rw [F150] at hF
 refine bind_some hF (fun r3 h4 hF => ?_)
 refine cond_some hF (fun h5 hF => ?_) (fun h5 hF => ?_)
 ·
  refine bind_some hF (fun r6 h7 hF => ?_)
  have q12 : PQ hn150 fun l => (.call 97 [.one (i6 a1), .one (i6 0), .one (i6 0)] (F97_res r3) :: (ff (leadsAny (Res.mk [(.one (.im (i6 r3.1))), (.one (.im (i6 r3.2)))] []))) :: (ff (ine r3.2 0)) :: .call 169 [.one (.sl (len a2) (flat eGMsg a2))] (F169_res r6) :: (ff (leadsAny (Res.mk [(.one (.own 130 (.sl (len r6) (flat eGMsg r6))))] []))) :: .int (nl r6) (nl r6) :: l) := fun z => ⟨(F97_ok K a1 0 0 _ h4), lk, (ine_t h5), (F169_ok K a2 _ h7), lk, rfl, z⟩
  refine bind_some hF (fun y9 h8 hF => ?_)
  refine sum_some hF (fun w10 hx hF => ?_) (fun w11 hx hF => ?_)
  ·
   subst hx
   obtain rfl := sj hF
   have pz : HA hn150 [.loop 0 c150_0 (F150_l0_0_S a1 r6 [] 0) .ret (F150_l0_0_X0 a1 r6 w10)] := ⟨(F150_l0_0_ok K a1 r6 K [] 0 _ h8), trivial⟩
   exact fpC hn150 (r := F150_res ([], w10)) (q12 pz)
  subst hx
  obtain rfl := sj hF
  have pz : HA hn150 [.loop 0 c150_0 (F150_l0_0_S a1 r6 [] 0) (.exit 0) (F150_l0_0_X1 a1 r6 w11)] := ⟨(F150_l0_0_ok K a1 r6 K [] 0 _ h8), trivial⟩
  exact fpC hn150 (r := F150_res (w11, 0)) (q12 pz)
 obtain rfl := sj hF
 have pz : HA hn150 [.call 97 [.one (i6 a1), .one (i6 0), .one (i6 0)] (F97_res r3), (ff (leadsAny (Res.mk [(.one (.im (i6 r3.1))), (.one (.im (i6 r3.2)))] []))), (tt (ine r3.2 0))] := ⟨(F97_ok K a1 0 0 _ h4), lk, (ine_f h5), trivial⟩
 exact fpC hn150 (r := F150_res ([], r3.2)) pz
noncomputable def hn154 : Hint := { H 154 with nt := 18, prot := 0 }
noncomputable def c154_0 : Code := loopOf E 154 0
def F154_res (r1 : List GMsg) : Res := ⟨[(.one (.own 130 (.sl (len r1) (flat eGMsg r1))))], []⟩
def F154_l0_0 (K : Nat) (a1 : List (List GMsg)) : Nat → List GMsg → Int → Option (List GMsg)
 | 0, _, _ => none
 | k + 1, v2, v3 =>
  bif (ilt v3 (nlen (len a1))) then
   (bif (inr v3 (len a1)) then
   (elAt a1 v3).bind fun x4 =>
   bif (apok (len v2) (len x4) 16) then
   F154_l0_0 K a1 k (appL v2 x4) (wadd .i64 v3 1)
   else none
   else none)
  else
  some v2
def F154_l0_0_S (a1 : List (List GMsg)) (v2 : List GMsg) (v3 : Int) : TS := .on [0, 1, 192, 193, 384, 385, 448, 449, 512, 513] [(0, ⟨.one, 0, nob⟩), (1, ⟨.im, 0, (.sl (len a1) (flat (eSl eGMsg) a1))⟩), (192, ⟨.one, 0, nob⟩), (193, ⟨(.own 130), 0, (.sl (len v2) (flat eGMsg v2))⟩), (384, ⟨.one, 0, nob⟩), (385, ⟨.im, 0, (.sl (len a1) (flat (eSl eGMsg) a1))⟩), (448, ⟨.one, 0, nob⟩), (449, ⟨.im, 0, (.lit (.int .i64 (nlen (len a1))))⟩), (512, ⟨.one, 0, nob⟩), (513, ⟨.im, 0, (.lit (.int .i64 v3))⟩)]
def F154_l0_0_X0 (a1 : List (List GMsg)) (w2 : List GMsg) : TS := .on [192, 193] [(192, ⟨.one, 0, nob⟩), (193, ⟨(.own 130), 0, (.sl (len w2) (flat eGMsg w2))⟩)]
theorem F154_l0_0_ok (K : Nat) (a1 : List (List GMsg)) : ∀ (k : Nat) (v2 : List GMsg) (v3 : Int) (r : List GMsg), F154_l0_0 K a1 k v2 v3 = some r → LoopEv E H hn154 0 c154_0 (F154_l0_0_S a1 v2 v3) (.exit 0) (F154_l0_0_X0 a1 r) := by
 intro k
 induction k with
 | zero => intro v2 v3 r hF; cases hF
 | succ k ih =>
  intro v2 v3 r hF
  rw [F154_l0_0] at hF
  refine cond_some hF (fun h4 hF => ?_) (fun h4 hF => ?_)
  ·
   refine cond_some hF (fun h5 hF => ?_) (fun _ hF => nomatch hF)
   refine bind_some hF (fun x6 h7 hF => ?_)
   refine cond_some hF (fun h8 hF => ?_) (fun _ hF => nomatch hF)
   have pz : HA hn154 [(tt (ilt v3 (nl a1))), (tt (inr v3 (len a1))), .sub (flat (eSl eGMsg) a1) (nidx v3 1) 1 [(.sl (len x6) (flat eGMsg x6))], (tt (leqm (flat eGMsg x6) (len x6) 2)), (tt (apok (len v2) (len x6) 16)), .sl (nadd (len v2) (len x6)) (lapp (flat eGMsg v2) (flat eGMsg x6)) (len (α := GMsg) (appL v2 x6)) (flat eGMsg (appL v2 x6)), .int (wadd .i64 v3 1) (wadd .i64 v3 1)] := ⟨h4, h5, ⟨rfl, sub_flat0 (eSl_len _) h7 1 (by decide)⟩, (leqm_flat eGMsg_len _), h8, (app_ok (enc := eGMsg) (v2 : List GMsg) x6), rfl, trivial⟩
   have h0 := ih _ _ _ hF
   have hn := lN hn154 0 c154_0 (F154_l0_0_S a1 v2 v3) (F154_l0_0_S a1 (appL v2 x6) (wadd .i64 v3 1)) pz
   exact hn _ _ h0
  obtain rfl := sj hF
  have pz : HA hn154 [(ff (ilt v3 (nl a1)))] := ⟨h4, trivial⟩
  exact lE hn154 0 c154_0 (F154_l0_0_S a1 v2 v3) (F154_l0_0_X0 a1 v2) (.exit 0) pz
def F154 (K : Nat) (a1 : List (List GMsg)) : Option (List GMsg) :=
 (F154_l0_0 K a1 K [] 0).bind fun w2 =>
 (F169 K w2).bind fun r3 =>
 some r3
theorem F154_ok (K : Nat) (a1 : List (List GMsg)) (r : List GMsg) (hF : F154 K a1 = some r) : Evt E H 154 [.one (.sl (len a1) (flat (eSl eGMsg) a1))] (F154_res r) := by
 rw [F154] at hF
 refine bind_some hF (fun w3 h2 hF => ?_)
 refine bind_some hF (fun r4 h5 hF => ?_)
 obtain rfl := sj hF
 have pz : HA hn154 [.int (nl a1) (nl a1), .loop 0 c154_0 (F154_l0_0_S a1 [] 0) (.exit 0) (F154_l0_0_X0 a1 w3), .call 169 [.one (.sl (len w3) (flat eGMsg w3))] (F169_res r4), (ff (leadsAny (Res.mk [(.one (.own 130 (.sl (len r4) (flat eGMsg r4))))] [])))] := ⟨rfl, (F154_l0_0_ok K a1 K [] 0 _ h2), (F169_ok K w3 _ h5), lk, trivial⟩
 exact fpC hn154 (r := F154_res r4) pz
theorem F173_spec (K : Nat) (y x : GMsg) : F173 K y x = some (!(leM x y)) := by
 rw [F173, leM]
 cases h1 : ilt y.To x.To
 · cases h2 : ieq y.To x.To
   · have := ilt_f.1 h1; have := ieq_f.1 h2
     rw [ilt_iff.2 (by omega : x.To < y.To)]; rfl
   · have e := ieq_iff.1 h2
     rw [ilt_f.2 (by omega : y.To ≤ x.To), ieq_iff.2 e.symm]
     simp only [cond_false, cond_true, Bool.false_or, Bool.true_and]
     congr 1
     cases h3 : ilt y.V x.V
     · rw [ile_iff.2 (by have := ilt_f.1 h3; omega)]; rfl
     · rw [ile_f.2 (by have := ilt_iff.1 h3; omega)]; rfl
 · have := ilt_iff.1 h1
   rw [ilt_f.2 (by omega : y.To ≤ x.To), ieq_f.2 (by omega : x.To ≠ y.To)]; rfl
theorem merge_ok {K : Nat} : ∀ (k : Nat) (a b c : List GMsg), a.length + b.length < k → a.length + b.length + c.length < 100000 → srtM (c ++ a) → srtM (c ++ b) →
 ∃ a' b' c', F172_173_l0_0 K k a b c = some (a', (b', c')) ∧ (c' ++ a' ++ b').Perm (c ++ a ++ b) ∧ srtM (c' ++ a' ++ b') := by
 intro k
 induction k with
 | zero => intro a b c h; omega
 | succ k ih =>
  intro a b c hk hl ha hb
  rw [F172_173_l0_0]
  cases a with
  | nil => exact ⟨[], b, c, rfl, List.Perm.refl _, by simpa using hb⟩
  | cons x a =>
   cases b with
   | nil =>
    refine ⟨x :: a, [], c, ?_, List.Perm.refl _, by simpa using ha⟩
    rw [ilt_iff.2 (show (0 : Int) < nlen (len (x :: a)) by show (0 : Int) < ((a.length + 1 : Nat) : Int); omega)]; rfl
   | cons y b =>
    simp only [List.length_cons] at hk hl
    have i1 : ilt 0 (nlen (len (x :: a))) = true := ilt_iff.2 (by show (0 : Int) < ((a.length + 1 : Nat) : Int); omega)
    have i2 : ilt 0 (nlen (len (y :: b))) = true := ilt_iff.2 (by show (0 : Int) < ((b.length + 1 : Nat) : Int); omega)
    have r1 : inr 0 (len (x :: a)) = true := decide_eq_true ⟨by omega, by show (0 : Int) < (((a.length + 1 : Nat)) : Int); omega⟩
    have r2 : inr 0 (len (y :: b)) = true := decide_eq_true ⟨by omega, by show (0 : Int) < (((b.length + 1 : Nat)) : Int); omega⟩
    have g1 : elAt (x :: a) 0 = some x := rfl
    have g2 : elAt (y :: b) 0 = some y := rfl
    have ap : apok (len c) 1 16 = true := decide_eq_true ⟨by show c.length + 1 ≤ _; omega, by show (c.length + 1) * 16 ≤ _; omega⟩
    have b1 : bnd 1 (nlen (len (x :: a))) (len (x :: a)) = true := by simp [bnd, nlen, len]; omega
    have b2 : bnd 1 (nlen (len (y :: b))) (len (y :: b)) = true := by simp [bnd, nlen, len]; omega
    have s1 : subL (x :: a) 1 (nlen (len (x :: a))) = a := by simp [subL, nlen, len]
    have s2 : subL (y :: b) 1 (nlen (len (y :: b))) = b := by simp [subL, nlen, len]
    rw [i1, i2, r1, r2, g1, g2, ap, b1, b2, s1, s2]
    simp only [cond_true, Option.bind_some, F173_spec]
    have ha' := List.pairwise_append.1 ha
    have hb' := List.pairwise_append.1 hb
    have hxa := List.pairwise_cons.1 ha'.2.1
    have hyb := List.pairwise_cons.1 hb'.2.1
    cases hxy : leM x y
    · have hyx := leM_total hxy
      obtain ⟨a', b', c', e, p, q⟩ := ih (x :: a) b (c ++ [y]) (by simp; omega) (by simp; omega)
       (by
        refine List.pairwise_append.2 ⟨List.pairwise_append.2 ⟨hb'.1, List.pairwise_singleton _ _, fun u hu w hw => ?_⟩, ha'.2.1, fun u hu w hw => ?_⟩
        · rw [List.mem_singleton.1 hw]; exact hb'.2.2 u hu y List.mem_cons_self
        · rcases List.mem_append.1 hu with hu | hu
          · exact ha'.2.2 u hu w hw
          · rw [List.mem_singleton.1 hu]
            rcases List.mem_cons.1 hw with rfl | hw
            · exact hyx
            · exact leM_trans hyx (hxa.1 w hw))
       (by rw [List.append_assoc]; exact hb)
      refine ⟨a', b', c', e, p.trans ?_, q⟩
      have : (c ++ [y] ++ (x :: a) ++ b) = c ++ (y :: (x :: a)) ++ b := by simp
      rw [this, List.append_assoc, List.append_assoc]
      exact List.Perm.append_left c (List.perm_middle (l₁ := x :: a) (a := y) (l₂ := b)).symm
    · obtain ⟨a', b', c', e, p, q⟩ := ih a (y :: b) (c ++ [x]) (by simp; omega) (by simp; omega)
       (by rw [List.append_assoc]; exact ha)
       (by
        refine List.pairwise_append.2 ⟨List.pairwise_append.2 ⟨hb'.1, List.pairwise_singleton _ _, fun u hu w hw => ?_⟩, hb'.2.1, fun u hu w hw => ?_⟩
        · rw [List.mem_singleton.1 hw]; exact ha'.2.2 u hu x List.mem_cons_self
        · rcases List.mem_append.1 hu with hu | hu
          · exact hb'.2.2 u hu w hw
          · rw [List.mem_singleton.1 hu]
            rcases List.mem_cons.1 hw with rfl | hw
            · exact hxy
            · exact leM_trans hxy (hyb.1 w hw))
      refine ⟨a', b', c', e, p.trans ?_, q⟩
      have : (c ++ [x] ++ a ++ (y :: b)) = c ++ (x :: a) ++ (y :: b) := by simp
      rw [this]
theorem F172_spec {K : Nat} : ∀ (d : Nat) (l : List GMsg), l.length < d → l.length < K → l.length < 10000 → F172_173 K d l = some (sortM l) := by
 intro d
 induction d with
 | zero => intro l h; omega
 | succ d ih =>
  intro l hd hK hl
  rw [F172_173]
  cases h2 : ilt (nlen (len l)) 2
  · have h2' : 2 ≤ l.length := by have := ilt_f.1 h2; simp only [nlen, len] at this; omega
    have hq : wquo .i64 (nlen (len l)) 2 = ((l.length / 2 : Nat) : Int) := by
     show IntKind.i64.wrap (((l.length : Nat) : Int).tdiv 2) = _
     rw [Int.tdiv_eq_ediv_of_nonneg (by omega), IntKind.wrap_i64]; omega
    have b1 : bnd 0 ((l.length / 2 : Nat) : Int) (len l) = true := by simp [bnd, len]; omega
    have b2 : bnd ((l.length / 2 : Nat) : Int) (nlen (len l)) (len l) = true := by simp [bnd, len, nlen]; omega
    have s1 : subL l 0 ((l.length / 2 : Nat) : Int) = l.take (l.length / 2) := by simp [subL]; omega
    have s2 : subL l ((l.length / 2 : Nat) : Int) (nlen (len l)) = l.drop (l.length / 2) := by
     simp only [subL, nlen, len, Int.toNat_natCast]
     exact List.take_of_length_le (by rw [List.length_drop]; omega)
    have l1 : (l.take (l.length / 2)).length ≤ l.length / 2 := by rw [List.length_take]; omega
    have l2 : (l.drop (l.length / 2)).length = l.length - l.length / 2 := List.length_drop
    have mk : mkok 0 (nlen (len l)) 16 = true := by simp [mkok, nlen, len]; omega
    obtain ⟨a', b', c', e, p, q⟩ := merge_ok (K := K) K (sortM (l.take (l.length / 2))) (sortM (l.drop (l.length / 2))) [] (by rw [sortM_len, sortM_len]; omega) (by rw [sortM_len, sortM_len]; simp only [List.length_nil]; omega) (by simpa using sortM_srt _) (by simpa using sortM_srt _)
    have er : repL (α := GMsg) 0 (GMsg.mk 0 0) = [] := rfl
    have pl : (c' ++ a' ++ b').Perm l := p.trans (by
     rw [List.nil_append]
     have := (sortM_perm (l.take (l.length / 2))).append (sortM_perm (l.drop (l.length / 2)))
     rwa [List.take_append_drop] at this)
    have ln := pl.length_eq
    rw [List.length_append, List.length_append] at ln
    have a1 : apok (len c') (len a') 16 = true := decide_eq_true ⟨by show c'.length + a'.length ≤ _; omega, by show (c'.length + a'.length) * 16 ≤ _; omega⟩
    have a2 : apok (len (appL c' a')) (len b') 16 = true := decide_eq_true ⟨by show (c' ++ a').length + b'.length ≤ _; rw [List.length_append]; omega, by show ((c' ++ a').length + b'.length) * 16 ≤ _; rw [List.length_append]; omega⟩
    rw [cond_false, hq, b1, b2, s1, s2, ih _ (by omega) (by omega) (by omega), ih _ (by omega) (by omega) (by omega), mk, er]
    simp only [cond_true, Option.bind_some, e, a1, a2]
    rw [sortM_eq q pl]; rfl
  · have h2' : l.length < 2 := by have := ilt_iff.1 h2; simp only [nlen, len] at this; omega
    have ap : apok 0 (len l) 16 = true := decide_eq_true ⟨by show 0 + l.length ≤ _; omega, by show (0 + l.length) * 16 ≤ _; omega⟩
    rw [cond_true, ap, cond_true]
    congr 1
    rw [sortM_eq (l := l) (r := l) ?_ (List.Perm.refl l)]; rfl
    match l, h2' with
    | [], _ => exact List.Pairwise.nil
    | [x], _ => exact List.pairwise_singleton _ _
theorem F169_spec {K : Nat} (l : List GMsg) (hK : l.length < K) (hl : l.length < 10000) : F169 K l = some (sortM l) := by
 rw [F169, F172_spec K l hK hK hl]; rfl
def foldC (p : Int) : List GMsg → GMsg → List GMsg → Int ⊕ List GMsg
 | [], cur, done => .inr (done ++ [cur])
 | x :: r, cur, done => bif ieq cur.To x.To then (bif ieq (foldS p cur.V x.V).2 0 then foldC p r (GMsg.mk cur.To (foldS p cur.V x.V).1) done else .inl (foldS p cur.V x.V).2) else foldC p r x (done ++ [cur])
def foldO (p : Int) : List GMsg → List GMsg → Int ⊕ List GMsg
 | [], done => .inr done
 | x :: r, done => foldC p r x done
def boxO : Int ⊕ List GMsg → List GMsg × Int
 | .inl e => ([], e)
 | .inr s => (s, 0)
def boxS (p : Int) (l : List GMsg) : List GMsg × Int := bif pbad p then ([], 1) else boxO (foldO p (sortM l) [])
theorem put_last {α : Type} (d : List α) (c x : α) : inr (wsub .i64 (nlen (len (d ++ [c]))) 1) (len (d ++ [c])) = true ∧ (d.length < 1000000 → elAt (d ++ [c]) (wsub .i64 (nlen (len (d ++ [c]))) 1) = some c ∧ putAt (d ++ [c]) (wsub .i64 (nlen (len (d ++ [c]))) 1) x = d ++ [x]) ∨ ¬ d.length < 1000000 := by
 by_cases h : d.length < 1000000
 · left
   have w : wsub .i64 (nlen (len (d ++ [c]))) 1 = ((d.length : Nat) : Int) := by
    show IntKind.i64.wrap (((d ++ [c]).length : Int) - 1) = _
    rw [List.length_append, IntKind.wrap_i64]; simp; omega
   rw [w]
   refine ⟨decide_eq_true ⟨by omega, by show (d.length : Int) < ((d ++ [c]).length : Int); simp; omega⟩, fun _ => ⟨by rw [elAt_nat]; simp, ?_⟩⟩
   unfold putAt
   rw [Int.toNat_natCast, List.set_append_right (h := by omega)]; simp
 · right; exact h
theorem F150_spec {K : Nat} (p : Int) (l : List GMsg) (hv : ∀ x ∈ l, i64 x.V) (hK : l.length < K) (hl : l.length < 10000) : F150 K p l = some (boxS p l) := by
 have i0 : i64 0 := by unfold i64; omega
 have hz : (foldS p 0 0).2 = bif pbad p then 1 else 0 := by
  rw [foldS]
  cases pbad p
  · have : addS 0 0 = (0, true) := rfl
    have e : ilt 0 0 = false := rfl
    rw [this, e]
    cases ieq p 5 <;> cases ieq p 4 <;> rfl
  · rfl
 rw [F150, F97_spec K p i0 i0, Option.bind_some, hz, boxS, F169_spec l hK hl]
 cases hb : pbad p
 · let step : GMsg → List GMsg → (List GMsg → Option (Int ⊕ List GMsg)) → Option (Int ⊕ List GMsg) := fun x s c =>
    bif (ilt 0 (nlen (len s))) then
     (bif (inr (wsub .i64 (nlen (len s)) 1) (len s)) then
     (elAt s (wsub .i64 (nlen (len s)) 1)).bind fun y =>
     bif (ieq y.To x.To) then
      ((F97 K p y.V x.V).bind fun r =>
      bif (ieq r.2 0) then
       (c (putAt s (wsub .i64 (nlen (len s)) 1) (GMsg.mk y.To r.1)))
      else
      some (.inl r.2))
     else
     bif (apok (len s) 1 16) then
     c (appL s [x])
     else none
     else none)
    else
    bif (apok (len s) 1 16) then
    c (appL s [x])
    else none
   have hsl : (sortM l).length = l.length := sortM_len l
   have h := scanL (l := sortM l) (L := fun k s i => F150_l0_0 K p (sortM l) k s i) step (fun s => some (.inr s)) (fun k s i _ => rfl) (by omega) (K := K) (by omega) []
   have hw : ∀ (r : List GMsg) (d : List GMsg) (c : GMsg), d.length + r.length < 100000 → i64 c.V → (∀ x ∈ r, i64 x.V) → goL step (fun s => some (.inr s)) r (d ++ [c]) = some (foldC p r c d) := by
    intro r
    induction r with
    | nil => intro d c _ _ _; rfl
    | cons x r ih =>
     intro d c hd hc hr
     simp only [List.length_cons] at hd
     have hx := hr x List.mem_cons_self
     have hr' := fun y hy => hr y (List.mem_cons_of_mem _ hy)
     rw [goL]
     show (bif (ilt 0 (nlen (len (d ++ [c])))) then
      (bif (inr (wsub .i64 (nlen (len (d ++ [c]))) 1) (len (d ++ [c]))) then
      (elAt (d ++ [c]) (wsub .i64 (nlen (len (d ++ [c]))) 1)).bind fun y =>
      bif (ieq y.To x.To) then
       ((F97 K p y.V x.V).bind fun q =>
       bif (ieq q.2 0) then
        (goL step (fun s => some (.inr s)) r (putAt (d ++ [c]) (wsub .i64 (nlen (len (d ++ [c]))) 1) (GMsg.mk y.To q.1)))
       else
       some (.inl q.2))
      else
      bif (apok (len (d ++ [c])) 1 16) then
      goL step (fun s => some (.inr s)) r (appL (d ++ [c]) [x])
      else none
      else none)
     else
     bif (apok (len (d ++ [c])) 1 16) then
     goL step (fun s => some (.inr s)) r (appL (d ++ [c]) [x])
     else none) = _
     have i1 : ilt 0 (nlen (len (d ++ [c]))) = true := ilt_iff.2 (by show (0 : Int) < ((d ++ [c]).length : Int); rw [List.length_append]; simp only [List.length_singleton]; omega)
     have ap : apok (len (d ++ [c])) 1 16 = true := decide_eq_true ⟨by show (d ++ [c]).length + 1 ≤ _; rw [List.length_append]; simp only [List.length_singleton]; omega, by show ((d ++ [c]).length + 1) * 16 ≤ _; rw [List.length_append]; simp only [List.length_singleton]; omega⟩
     rcases put_last d c (GMsg.mk c.To (foldS p c.V x.V).1) with ⟨q1, q2⟩ | q
     · obtain ⟨q2, q3⟩ := q2 (by omega)
       rw [i1, q1, q2, ap]
       simp only [cond_true, Option.bind_some, F97_spec K p hc hx, q3]
       rw [foldC]
       cases ieq c.To x.To
       · rw [cond_false, cond_false]
         exact ih (d ++ [c]) x (by rw [List.length_append]; simp only [List.length_singleton]; omega) hx hr'
       · rw [cond_true, cond_true]
         cases ieq (foldS p c.V x.V).2 0
         · rfl
         · rw [cond_true, cond_true]
           exact ih d _ (by omega) (foldS_i64 hc hx) hr'
     · omega
   have h' : F150_l0_0 K p (sortM l) K [] 0 = some (foldO p (sortM l) []) := by
    rw [show F150_l0_0 K p (sortM l) K [] 0 = _ from h]
    have hs : ∀ x ∈ sortM l, i64 x.V := fun x hx => hv x ((sortM_perm l).mem_iff.1 hx)
    generalize sortM l = m at *
    cases m with
    | nil => rfl
    | cons x r =>
     rw [goL]
     show goL step (fun s => some (.inr s)) r (appL [] [x]) = _
     simp only [List.length_cons] at hsl
     exact hw r [] x (by simp only [List.length_nil]; omega) (hs x List.mem_cons_self) (fun y hy => hs y (List.mem_cons_of_mem _ hy))
   have z0 : ieq (bif false then 1 else 0) 0 = true := rfl
   rw [z0, cond_true, Option.bind_some, h', Option.bind_some]
   cases foldO p (sortM l) [] <;> rfl
 · rfl
def atS (l : List GMsg) (v : Int) : Int × Bool := match l.find? (fun m => ieq m.To v) with
 | some m => (m.V, true)
 | none => (0, false)
def sumF : Option GMsg → Int ⊕ Unit
 | some m => .inl m.V
 | none => .inr ()
theorem at_go (l : List GMsg) (v : Int) : goL (fun (x : GMsg) (_ : Unit) c => bif ieq x.To v then some (.inl x.V) else c ()) (fun _ => some (.inr ())) l () = (some (sumF (l.find? fun m => ieq m.To v)) : Option (Int ⊕ Unit)) := by
 induction l with
 | nil => rfl
 | cons x l ih =>
  rw [goL, List.find?_cons]
  cases h : ieq x.To v
  · exact ih
  · rfl
theorem F149_spec {K : Nat} (l : List GMsg) (v : Int) (hl : l.length < 100000) (hK : l.length < K) : F149 K l v = some (atS l v) := by
 have e : F149_l0_0 K l v K 0 = _ := scanL (l := l) (L := fun k (_ : Unit) i => F149_l0_0 K l v k i) (fun x _ c => bif ieq x.To v then some (.inl x.V) else c ()) (fun _ => some (.inr ())) (fun k s i _ => rfl) (by omega) hK ()
 rw [F149, e, at_go, atS]
 cases l.find? fun m => ieq m.To v <;> rfl
theorem atS_i64 {l : List GMsg} {v : Int} (h : ∀ x ∈ l, i64 x.V) : i64 (atS l v).1 := by
 rw [atS]
 cases hq : l.find? fun m => ieq m.To v with
 | none => show i64 0; unfold i64; omega
 | some m => exact h m (List.mem_of_find?_eq_some hq)
noncomputable def hn68 : Hint := { H 68 with nt := 28, prot := 0 }
noncomputable def c68_0 : Code := loopOf E 68 0
def F68_res (r1 : List GEdge) : Res := ⟨[(.one (.own 89 (.sl (len r1) (flat eGEdge r1))))], []⟩
def F68_l0_0 (K : Nat) (a1 : GGraph) (a2 : Int) : Nat → List GEdge → Int → Option (List GEdge)
 | 0, _, _ => none
 | k + 1, v3, v4 =>
  bif (ilt v4 (nlen (len a1.Edges))) then
   (bif (inr v4 (len a1.Edges)) then
   (elAt a1.Edges v4).bind fun x5 =>
   bif (ieq x5.From a2) then
    (bif (apok (len v3) 1 24) then
    F68_l0_0 K a1 a2 k (appL v3 [x5]) (wadd .i64 v4 1)
    else none)
   else
   F68_l0_0 K a1 a2 k v3 (wadd .i64 v4 1)
   else none)
  else
  some v3
def F68_l0_0_S (a1 : GGraph) (a2 : Int) (v3 : List GEdge) (v4 : Int) : TS := .on [64, 65, 128, 129, 130, 320, 321, 704, 768, 769, 832, 833, 896, 897] [(64, ⟨.one, 0, nob⟩), (65, ⟨.im, 0, (.lit (.int .i64 a2))⟩), (128, ⟨(.box 62 2), 0, nob⟩), (129, ⟨.im, 0, (.lit (.int .i64 a1.N))⟩), (130, ⟨.im, 0, (.sl (len a1.Edges) (flat eGEdge a1.Edges))⟩), (320, ⟨.one, 0, nob⟩), (321, ⟨(.own 89), 0, (.sl (len v3) (flat eGEdge v3))⟩), (704, ⟨(.ad 2 0 1), 0, nob⟩), (768, ⟨.one, 0, nob⟩), (769, ⟨.im, 0, (.sl (len a1.Edges) (flat eGEdge a1.Edges))⟩), (832, ⟨.one, 0, nob⟩), (833, ⟨.im, 0, (.lit (.int .i64 (nlen (len a1.Edges))))⟩), (896, ⟨.one, 0, nob⟩), (897, ⟨.im, 0, (.lit (.int .i64 v4))⟩)]
def F68_l0_0_X0 (a1 : GGraph) (a2 : Int) (w3 : List GEdge) : TS := .on [320, 321] [(320, ⟨.one, 0, nob⟩), (321, ⟨(.own 89), 0, (.sl (len w3) (flat eGEdge w3))⟩)]
theorem F68_l0_0_ok (K : Nat) (a1 : GGraph) (a2 : Int) : ∀ (k : Nat) (v3 : List GEdge) (v4 : Int) (r : List GEdge), F68_l0_0 K a1 a2 k v3 v4 = some r → LoopEv E H hn68 0 c68_0 (F68_l0_0_S a1 a2 v3 v4) (.exit 0) (F68_l0_0_X0 a1 a2 r) := by
 intro k
 induction k with
 | zero => intro v3 v4 r hF; cases hF
 | succ k ih =>
  intro v3 v4 r hF
  rw [F68_l0_0] at hF
  refine cond_some hF (fun h5 hF => ?_) (fun h5 hF => ?_)
  ·
   refine cond_some hF (fun h6 hF => ?_) (fun _ hF => nomatch hF)
   refine bind_some hF (fun x7 h8 hF => ?_)
   have q11 : PQ hn68 fun l => ((tt (ilt v4 (nl a1.Edges))) :: (tt (inr v4 (len a1.Edges))) :: .sub (flat eGEdge a1.Edges) (nidx v4 3) 3 [(i6 x7.From), (i6 x7.To), (i6 x7.W)] :: l) := fun z => ⟨h5, h6, ⟨rfl, sub_flat0 eGEdge_len h8 3 (by decide)⟩, z⟩
   refine cond_some hF (fun h9 hF => ?_) (fun h9 hF => ?_)
   ·
    refine cond_some hF (fun h10 hF => ?_) (fun _ hF => nomatch hF)
    have pz : HA hn68 [(tt (ieq x7.From a2)), (tt (leqm [(i6 x7.From), (i6 x7.To), (i6 x7.W)] 1 3)), (tt (apok (len v3) 1 24)), .sl (nadd (len v3) 1) (lapp (flat eGEdge v3) [(i6 x7.From), (i6 x7.To), (i6 x7.W)]) (len (α := GEdge) (appL v3 [x7])) (flat eGEdge (appL v3 [x7])), .int (wadd .i64 v4 1) (wadd .i64 v4 1)] := ⟨h9, rfl, h10, (app_ok (enc := eGEdge) (v3 : List GEdge) [x7]), rfl, trivial⟩
    have h0 := ih _ _ _ hF
    have hn := lN hn68 0 c68_0 (F68_l0_0_S a1 a2 v3 v4) (F68_l0_0_S a1 a2 (appL v3 [x7]) (wadd .i64 v4 1)) (q11 pz)
    exact hn _ _ h0
   have pz : HA hn68 [(ff (ieq x7.From a2)), .int (wadd .i64 v4 1) (wadd .i64 v4 1)] := ⟨h9, rfl, trivial⟩
   have h0 := ih _ _ _ hF
   have hn := lN hn68 0 c68_0 (F68_l0_0_S a1 a2 v3 v4) (F68_l0_0_S a1 a2 v3 (wadd .i64 v4 1)) (q11 pz)
   exact hn _ _ h0
  obtain rfl := sj hF
  have pz : HA hn68 [(ff (ilt v4 (nl a1.Edges)))] := ⟨h5, trivial⟩
  exact lE hn68 0 c68_0 (F68_l0_0_S a1 a2 v3 v4) (F68_l0_0_X0 a1 a2 v3) (.exit 0) pz
def F68 (K : Nat) (a1 : GGraph) (a2 : Int) : Option (List GEdge) :=
 (F64 K a1).bind fun r3 =>
 bif (ieq r3 0) then
  ((F68_l0_0 K a1 a2 K [] 0).bind fun w4 =>
  some w4)
 else
 some []
theorem F68_ok (K : Nat) (a1 : GGraph) (a2 : Int) (r : List GEdge) (hF : F68 K a1 a2 = some r) : Evt E H 68 [.agg (eGGraph a1), .one (.lit (.int .i64 a2))] (F68_res r) := by
 rw [F68] at hF
 refine bind_some hF (fun r3 h4 hF => ?_)
 refine cond_some hF (fun h5 hF => ?_) (fun h5 hF => ?_)
 ·
  refine bind_some hF (fun w7 h6 hF => ?_)
  obtain rfl := sj hF
  have pz : HA hn68 [.call 64 [.agg (eGGraph a1)] (F64_res r3), (ff (leadsAny (Res.mk [(.one (.im (i6 r3)))] []))), (ff (ine r3 0)), .int (nl a1.Edges) (nl a1.Edges), .loop 0 c68_0 (F68_l0_0_S a1 a2 [] 0) (.exit 0) (F68_l0_0_X0 a1 a2 w7)] := ⟨(F64_ok K a1 _ h4), lk, (ine_t h5), rfl, (F68_l0_0_ok K a1 a2 K [] 0 _ h6), trivial⟩
  exact fpC hn68 (r := F68_res w7) pz
 obtain rfl := sj hF
 have pz : HA hn68 [.call 64 [.agg (eGGraph a1)] (F64_res r3), (ff (leadsAny (Res.mk [(.one (.im (i6 r3)))] []))), (tt (ine r3 0))] := ⟨(F64_ok K a1 _ h4), lk, (ine_f h5), trivial⟩
 exact fpC hn68 (r := F68_res []) pz
noncomputable def hn160 : Hint := { H 160 with nt := 12, prot := 0 }
def F160_res (r1 : Int × Bool) : Res := ⟨[(.one (.im (.lit (.int .i64 r1.1)))), (.one (.im (.lit (.bool r1.2))))], []⟩
def F160 (K : Nat) (a1 : Int) (a2 : GEdge) : Option (Int × Bool) :=
 (F144 K a1 a2.W).bind fun r3 =>
 some (r3.1, r3.2)
theorem F160_ok (K : Nat) (a1 : Int) (a2 : GEdge) (r : Int × Bool) (hF : F160 K a1 a2 = some r) : Evt E H 160 [.one (.lit (.int .i64 a1)), .agg (eGEdge a2)] (F160_res r) := by
 rw [F160] at hF
 refine bind_some hF (fun r3 h4 hF => ?_)
 obtain rfl := sj hF
 have pz : HA hn160 [.call 144 [.one (i6 a1), .one (i6 a2.W)] (F144_res r3), (ff (leadsAny (Res.mk [(.one (.im (i6 r3.1))), (.one (.im (.lit (.bool r3.2))))] [])))] := ⟨(F144_ok K a1 a2.W _ h4), lk, trivial⟩
 exact fpC hn160 (r := F160_res (r3.1, r3.2)) pz
noncomputable def hn161 : Hint := { H 161 with nt := 10, prot := 0 }
def F161_res (r1 : Int × Bool) : Res := ⟨[(.one (.im (.lit (.int .i64 r1.1)))), (.one (.im (.lit (.bool r1.2))))], []⟩
def F161 (K : Nat) (a1 : Int) (a2 : GEdge) : Option (Int × Bool) :=
 (F144 K a1 1).bind fun r3 =>
 some (r3.1, r3.2)
theorem F161_ok (K : Nat) (a1 : Int) (a2 : GEdge) (r : Int × Bool) (hF : F161 K a1 a2 = some r) : Evt E H 161 [.one (.lit (.int .i64 a1)), .agg (eGEdge a2)] (F161_res r) := by
 rw [F161] at hF
 refine bind_some hF (fun r3 h4 hF => ?_)
 obtain rfl := sj hF
 have pz : HA hn161 [.call 144 [.one (i6 a1), .one (i6 1)] (F144_res r3), (ff (leadsAny (Res.mk [(.one (.im (i6 r3.1))), (.one (.im (.lit (.bool r3.2))))] [])))] := ⟨(F144_ok K a1 1 _ h4), lk, trivial⟩
 exact fpC hn161 (r := F161_res (r3.1, r3.2)) pz
noncomputable def hn163 : Hint := { H 163 with nt := 7, prot := 0 }
def F163_res (r1 : Int × Bool) : Res := ⟨[(.one (.im (.lit (.int .i64 r1.1)))), (.one (.im (.lit (.bool r1.2))))], []⟩
def F163 (K : Nat) (a1 : Int) (a2 : GEdge) : Option (Int × Bool) :=
 some (a1, true)
theorem F163_ok (K : Nat) (a1 : Int) (a2 : GEdge) (r : Int × Bool) (hF : F163 K a1 a2 = some r) : Evt E H 163 [.one (.lit (.int .i64 a1)), .agg (eGEdge a2)] (F163_res r) := by
 rw [F163] at hF
 obtain rfl := sj hF
 have pz : HA hn163 [] := trivial
 exact fpC hn163 (r := F163_res (a1, true)) pz
noncomputable def hn175 : Hint := { H 175 with nt := 12, prot := 0 }
def F175_res (r1 : Int) : Res := ⟨[(.one (.im (.lit (.int .u64 r1))))], []⟩
def F175 (K : Nat) (a1 : Int) : Option (Int) :=
 bif (ilt a1 0) then
  (some (wadd .u64 (wconv .u64 (wneg .i64 (wadd .i64 a1 1))) 1))
 else
 some (wconv .u64 a1)
theorem F175_ok (K : Nat) (a1 : Int) (r : Int) (hF : F175 K a1 = some r) : Evt E H 175 [.one (.lit (.int .i64 a1))] (F175_res r) := by
 rw [F175] at hF
 refine cond_some hF (fun h2 hF => ?_) (fun h2 hF => ?_)
 ·
  obtain rfl := sj hF
  have pz : HA hn175 [(tt (ilt a1 0)), .int (wadd .i64 a1 1) (wadd .i64 a1 1), .int (wneg .i64 (wadd .i64 a1 1)) (wneg .i64 (wadd .i64 a1 1)), .int (wconv .u64 (wneg .i64 (wadd .i64 a1 1))) (wconv .u64 (wneg .i64 (wadd .i64 a1 1))), .int (wadd .u64 (wconv .u64 (wneg .i64 (wadd .i64 a1 1))) 1) (wadd .u64 (wconv .u64 (wneg .i64 (wadd .i64 a1 1))) 1)] := ⟨h2, rfl, rfl, rfl, rfl, trivial⟩
  exact fpC hn175 (r := F175_res (wadd .u64 (wconv .u64 (wneg .i64 (wadd .i64 a1 1))) 1)) pz
 obtain rfl := sj hF
 have pz : HA hn175 [(ff (ilt a1 0)), .int (wconv .u64 a1) (wconv .u64 a1)] := ⟨h2, rfl, trivial⟩
 exact fpC hn175 (r := F175_res (wconv .u64 a1)) pz
noncomputable def hn174 : Hint := { H 174 with nt := 60, prot := 0 }
def F174_res (r2 : GA199) : Res := ⟨[(.agg [(.im (.lit (.int .u64 r2.x0))), (.im (.lit (.int .u64 r2.x1)))])], []⟩
def F174 (K : Nat) (a1 : Int) (a2 : Int) : Option (GA199) :=
 some (GA199.mk (wadd .u64 (wadd .u64 (wadd .u64 (wmul .u64 (wquo .u64 a1 4294967296) (wquo .u64 a2 4294967296)) (wquo .u64 (wmul .u64 (wquo .u64 a1 4294967296) (wrem a2 4294967296)) 4294967296)) (wquo .u64 (wmul .u64 (wrem a1 4294967296) (wquo .u64 a2 4294967296)) 4294967296)) (wquo .u64 (wadd .u64 (wadd .u64 (wquo .u64 (wmul .u64 (wrem a1 4294967296) (wrem a2 4294967296)) 4294967296) (wrem (wmul .u64 (wquo .u64 a1 4294967296) (wrem a2 4294967296)) 4294967296)) (wrem (wmul .u64 (wrem a1 4294967296) (wquo .u64 a2 4294967296)) 4294967296)) 4294967296)) (wadd .u64 (wmul .u64 (wrem (wadd .u64 (wadd .u64 (wquo .u64 (wmul .u64 (wrem a1 4294967296) (wrem a2 4294967296)) 4294967296) (wrem (wmul .u64 (wquo .u64 a1 4294967296) (wrem a2 4294967296)) 4294967296)) (wrem (wmul .u64 (wrem a1 4294967296) (wquo .u64 a2 4294967296)) 4294967296)) 4294967296) 4294967296) (wrem (wmul .u64 (wrem a1 4294967296) (wrem a2 4294967296)) 4294967296)))
theorem F174_ok (K : Nat) (a1 : Int) (a2 : Int) (r : GA199) (hF : F174 K a1 a2 = some r) : Evt E H 174 [.one (.lit (.int .u64 a1)), .one (.lit (.int .u64 a2))] (F174_res r) := by
 rw [F174] at hF
 obtain rfl := sj hF
 have pz : HA hn174 [(ff (izero 4294967296)), .int (wquo .u64 a1 4294967296) (wquo .u64 a1 4294967296), (ff (izero 4294967296)), .int (wquo .u64 a2 4294967296) (wquo .u64 a2 4294967296), .int (wmul .u64 (wquo .u64 a1 4294967296) (wquo .u64 a2 4294967296)) (wmul .u64 (wquo .u64 a1 4294967296) (wquo .u64 a2 4294967296)), (ff (izero 4294967296)), .int (wquo .u64 a1 4294967296) (wquo .u64 a1 4294967296), (ff (izero 4294967296)), .int (wrem a2 4294967296) (wrem a2 4294967296), .int (wmul .u64 (wquo .u64 a1 4294967296) (wrem a2 4294967296)) (wmul .u64 (wquo .u64 a1 4294967296) (wrem a2 4294967296)), (ff (izero 4294967296)), .int (wrem a1 4294967296) (wrem a1 4294967296), (ff (izero 4294967296)), .int (wquo .u64 a2 4294967296) (wquo .u64 a2 4294967296), .int (wmul .u64 (wrem a1 4294967296) (wquo .u64 a2 4294967296)) (wmul .u64 (wrem a1 4294967296) (wquo .u64 a2 4294967296)), (ff (izero 4294967296)), .int (wrem a1 4294967296) (wrem a1 4294967296), (ff (izero 4294967296)), .int (wrem a2 4294967296) (wrem a2 4294967296), .int (wmul .u64 (wrem a1 4294967296) (wrem a2 4294967296)) (wmul .u64 (wrem a1 4294967296) (wrem a2 4294967296)), (ff (ieq 3 0)), (ff (ieq 3 1)), (ff (ieq 3 2)), (tt (ieq 3 3)), (ff (izero 4294967296)), .int (wquo .u64 (wmul .u64 (wrem a1 4294967296) (wrem a2 4294967296)) 4294967296) (wquo .u64 (wmul .u64 (wrem a1 4294967296) (wrem a2 4294967296)) 4294967296), (ff (ieq 1 0)), (tt (ieq 1 1)), (ff (izero 4294967296)), .int (wrem (wmul .u64 (wquo .u64 a1 4294967296) (wrem a2 4294967296)) 4294967296) (wrem (wmul .u64 (wquo .u64 a1 4294967296) (wrem a2 4294967296)) 4294967296), .int (wadd .u64 (wquo .u64 (wmul .u64 (wrem a1 4294967296) (wrem a2 4294967296)) 4294967296) (wrem (wmul .u64 (wquo .u64 a1 4294967296) (wrem a2 4294967296)) 4294967296)) (wadd .u64 (wquo .u64 (wmul .u64 (wrem a1 4294967296) (wrem a2 4294967296)) 4294967296) (wrem (wmul .u64 (wquo .u64 a1 4294967296) (wrem a2 4294967296)) 4294967296)), (ff (ieq 2 0)), (ff (ieq 2 1)), (tt (ieq 2 2)), (ff (izero 4294967296)), .int (wrem (wmul .u64 (wrem a1 4294967296) (wquo .u64 a2 4294967296)) 4294967296) (wrem (wmul .u64 (wrem a1 4294967296) (wquo .u64 a2 4294967296)) 4294967296), .int (wadd .u64 (wadd .u64 (wquo .u64 (wmul .u64 (wrem a1 4294967296) (wrem a2 4294967296)) 4294967296) (wrem (wmul .u64 (wquo .u64 a1 4294967296) (wrem a2 4294967296)) 4294967296)) (wrem (wmul .u64 (wrem a1 4294967296) (wquo .u64 a2 4294967296)) 4294967296)) (wadd .u64 (wadd .u64 (wquo .u64 (wmul .u64 (wrem a1 4294967296) (wrem a2 4294967296)) 4294967296) (wrem (wmul .u64 (wquo .u64 a1 4294967296) (wrem a2 4294967296)) 4294967296)) (wrem (wmul .u64 (wrem a1 4294967296) (wquo .u64 a2 4294967296)) 4294967296)), (tt (ieq 0 0)), (ff (ieq 1 0)), (tt (ieq 1 1)), (ff (izero 4294967296)), .int (wquo .u64 (wmul .u64 (wquo .u64 a1 4294967296) (wrem a2 4294967296)) 4294967296) (wquo .u64 (wmul .u64 (wquo .u64 a1 4294967296) (wrem a2 4294967296)) 4294967296), .int (wadd .u64 (wmul .u64 (wquo .u64 a1 4294967296) (wquo .u64 a2 4294967296)) (wquo .u64 (wmul .u64 (wquo .u64 a1 4294967296) (wrem a2 4294967296)) 4294967296)) (wadd .u64 (wmul .u64 (wquo .u64 a1 4294967296) (wquo .u64 a2 4294967296)) (wquo .u64 (wmul .u64 (wquo .u64 a1 4294967296) (wrem a2 4294967296)) 4294967296)), (ff (ieq 2 0)), (ff (ieq 2 1)), (tt (ieq 2 2)), (ff (izero 4294967296)), .int (wquo .u64 (wmul .u64 (wrem a1 4294967296) (wquo .u64 a2 4294967296)) 4294967296) (wquo .u64 (wmul .u64 (wrem a1 4294967296) (wquo .u64 a2 4294967296)) 4294967296), .int (wadd .u64 (wadd .u64 (wmul .u64 (wquo .u64 a1 4294967296) (wquo .u64 a2 4294967296)) (wquo .u64 (wmul .u64 (wquo .u64 a1 4294967296) (wrem a2 4294967296)) 4294967296)) (wquo .u64 (wmul .u64 (wrem a1 4294967296) (wquo .u64 a2 4294967296)) 4294967296)) (wadd .u64 (wadd .u64 (wmul .u64 (wquo .u64 a1 4294967296) (wquo .u64 a2 4294967296)) (wquo .u64 (wmul .u64 (wquo .u64 a1 4294967296) (wrem a2 4294967296)) 4294967296)) (wquo .u64 (wmul .u64 (wrem a1 4294967296) (wquo .u64 a2 4294967296)) 4294967296)), (ff (izero 4294967296)), .int (wquo .u64 (wadd .u64 (wadd .u64 (wquo .u64 (wmul .u64 (wrem a1 4294967296) (wrem a2 4294967296)) 4294967296) (wrem (wmul .u64 (wquo .u64 a1 4294967296) (wrem a2 4294967296)) 4294967296)) (wrem (wmul .u64 (wrem a1 4294967296) (wquo .u64 a2 4294967296)) 4294967296)) 4294967296) (wquo .u64 (wadd .u64 (wadd .u64 (wquo .u64 (wmul .u64 (wrem a1 4294967296) (wrem a2 4294967296)) 4294967296) (wrem (wmul .u64 (wquo .u64 a1 4294967296) (wrem a2 4294967296)) 4294967296)) (wrem (wmul .u64 (wrem a1 4294967296) (wquo .u64 a2 4294967296)) 4294967296)) 4294967296), .int (wadd .u64 (wadd .u64 (wadd .u64 (wmul .u64 (wquo .u64 a1 4294967296) (wquo .u64 a2 4294967296)) (wquo .u64 (wmul .u64 (wquo .u64 a1 4294967296) (wrem a2 4294967296)) 4294967296)) (wquo .u64 (wmul .u64 (wrem a1 4294967296) (wquo .u64 a2 4294967296)) 4294967296)) (wquo .u64 (wadd .u64 (wadd .u64 (wquo .u64 (wmul .u64 (wrem a1 4294967296) (wrem a2 4294967296)) 4294967296) (wrem (wmul .u64 (wquo .u64 a1 4294967296) (wrem a2 4294967296)) 4294967296)) (wrem (wmul .u64 (wrem a1 4294967296) (wquo .u64 a2 4294967296)) 4294967296)) 4294967296)) (wadd .u64 (wadd .u64 (wadd .u64 (wmul .u64 (wquo .u64 a1 4294967296) (wquo .u64 a2 4294967296)) (wquo .u64 (wmul .u64 (wquo .u64 a1 4294967296) (wrem a2 4294967296)) 4294967296)) (wquo .u64 (wmul .u64 (wrem a1 4294967296) (wquo .u64 a2 4294967296)) 4294967296)) (wquo .u64 (wadd .u64 (wadd .u64 (wquo .u64 (wmul .u64 (wrem a1 4294967296) (wrem a2 4294967296)) 4294967296) (wrem (wmul .u64 (wquo .u64 a1 4294967296) (wrem a2 4294967296)) 4294967296)) (wrem (wmul .u64 (wrem a1 4294967296) (wquo .u64 a2 4294967296)) 4294967296)) 4294967296)), (ff (izero 4294967296)), .int (wrem (wadd .u64 (wadd .u64 (wquo .u64 (wmul .u64 (wrem a1 4294967296) (wrem a2 4294967296)) 4294967296) (wrem (wmul .u64 (wquo .u64 a1 4294967296) (wrem a2 4294967296)) 4294967296)) (wrem (wmul .u64 (wrem a1 4294967296) (wquo .u64 a2 4294967296)) 4294967296)) 4294967296) (wrem (wadd .u64 (wadd .u64 (wquo .u64 (wmul .u64 (wrem a1 4294967296) (wrem a2 4294967296)) 4294967296) (wrem (wmul .u64 (wquo .u64 a1 4294967296) (wrem a2 4294967296)) 4294967296)) (wrem (wmul .u64 (wrem a1 4294967296) (wquo .u64 a2 4294967296)) 4294967296)) 4294967296), .int (wmul .u64 (wrem (wadd .u64 (wadd .u64 (wquo .u64 (wmul .u64 (wrem a1 4294967296) (wrem a2 4294967296)) 4294967296) (wrem (wmul .u64 (wquo .u64 a1 4294967296) (wrem a2 4294967296)) 4294967296)) (wrem (wmul .u64 (wrem a1 4294967296) (wquo .u64 a2 4294967296)) 4294967296)) 4294967296) 4294967296) (wmul .u64 (wrem (wadd .u64 (wadd .u64 (wquo .u64 (wmul .u64 (wrem a1 4294967296) (wrem a2 4294967296)) 4294967296) (wrem (wmul .u64 (wquo .u64 a1 4294967296) (wrem a2 4294967296)) 4294967296)) (wrem (wmul .u64 (wrem a1 4294967296) (wquo .u64 a2 4294967296)) 4294967296)) 4294967296) 4294967296), (ff (ieq 3 0)), (ff (ieq 3 1)), (ff (ieq 3 2)), (tt (ieq 3 3)), (ff (izero 4294967296)), .int (wrem (wmul .u64 (wrem a1 4294967296) (wrem a2 4294967296)) 4294967296) (wrem (wmul .u64 (wrem a1 4294967296) (wrem a2 4294967296)) 4294967296), .int (wadd .u64 (wmul .u64 (wrem (wadd .u64 (wadd .u64 (wquo .u64 (wmul .u64 (wrem a1 4294967296) (wrem a2 4294967296)) 4294967296) (wrem (wmul .u64 (wquo .u64 a1 4294967296) (wrem a2 4294967296)) 4294967296)) (wrem (wmul .u64 (wrem a1 4294967296) (wquo .u64 a2 4294967296)) 4294967296)) 4294967296) 4294967296) (wrem (wmul .u64 (wrem a1 4294967296) (wrem a2 4294967296)) 4294967296)) (wadd .u64 (wmul .u64 (wrem (wadd .u64 (wadd .u64 (wquo .u64 (wmul .u64 (wrem a1 4294967296) (wrem a2 4294967296)) 4294967296) (wrem (wmul .u64 (wquo .u64 a1 4294967296) (wrem a2 4294967296)) 4294967296)) (wrem (wmul .u64 (wrem a1 4294967296) (wquo .u64 a2 4294967296)) 4294967296)) 4294967296) 4294967296) (wrem (wmul .u64 (wrem a1 4294967296) (wrem a2 4294967296)) 4294967296))] := ⟨(by first | exact rfl | (unfold Cond.Holds; decide)), rfl, (by first | exact rfl | (unfold Cond.Holds; decide)), rfl, rfl, (by first | exact rfl | (unfold Cond.Holds; decide)), rfl, (by first | exact rfl | (unfold Cond.Holds; decide)), rfl, rfl, (by first | exact rfl | (unfold Cond.Holds; decide)), rfl, (by first | exact rfl | (unfold Cond.Holds; decide)), rfl, rfl, (by first | exact rfl | (unfold Cond.Holds; decide)), rfl, (by first | exact rfl | (unfold Cond.Holds; decide)), rfl, rfl, (by first | exact rfl | (unfold Cond.Holds; decide)), (by first | exact rfl | (unfold Cond.Holds; decide)), (by first | exact rfl | (unfold Cond.Holds; decide)), (by first | exact rfl | (unfold Cond.Holds; decide)), (by first | exact rfl | (unfold Cond.Holds; decide)), rfl, (by first | exact rfl | (unfold Cond.Holds; decide)), (by first | exact rfl | (unfold Cond.Holds; decide)), (by first | exact rfl | (unfold Cond.Holds; decide)), rfl, rfl, (by first | exact rfl | (unfold Cond.Holds; decide)), (by first | exact rfl | (unfold Cond.Holds; decide)), (by first | exact rfl | (unfold Cond.Holds; decide)), (by first | exact rfl | (unfold Cond.Holds; decide)), rfl, rfl, (by first | exact rfl | (unfold Cond.Holds; decide)), (by first | exact rfl | (unfold Cond.Holds; decide)), (by first | exact rfl | (unfold Cond.Holds; decide)), (by first | exact rfl | (unfold Cond.Holds; decide)), rfl, rfl, (by first | exact rfl | (unfold Cond.Holds; decide)), (by first | exact rfl | (unfold Cond.Holds; decide)), (by first | exact rfl | (unfold Cond.Holds; decide)), (by first | exact rfl | (unfold Cond.Holds; decide)), rfl, rfl, (by first | exact rfl | (unfold Cond.Holds; decide)), rfl, rfl, (by first | exact rfl | (unfold Cond.Holds; decide)), rfl, rfl, (by first | exact rfl | (unfold Cond.Holds; decide)), (by first | exact rfl | (unfold Cond.Holds; decide)), (by first | exact rfl | (unfold Cond.Holds; decide)), (by first | exact rfl | (unfold Cond.Holds; decide)), (by first | exact rfl | (unfold Cond.Holds; decide)), rfl, rfl, trivial⟩
 exact fpC hn174 (r := F174_res (GA199.mk (wadd .u64 (wadd .u64 (wadd .u64 (wmul .u64 (wquo .u64 a1 4294967296) (wquo .u64 a2 4294967296)) (wquo .u64 (wmul .u64 (wquo .u64 a1 4294967296) (wrem a2 4294967296)) 4294967296)) (wquo .u64 (wmul .u64 (wrem a1 4294967296) (wquo .u64 a2 4294967296)) 4294967296)) (wquo .u64 (wadd .u64 (wadd .u64 (wquo .u64 (wmul .u64 (wrem a1 4294967296) (wrem a2 4294967296)) 4294967296) (wrem (wmul .u64 (wquo .u64 a1 4294967296) (wrem a2 4294967296)) 4294967296)) (wrem (wmul .u64 (wrem a1 4294967296) (wquo .u64 a2 4294967296)) 4294967296)) 4294967296)) (wadd .u64 (wmul .u64 (wrem (wadd .u64 (wadd .u64 (wquo .u64 (wmul .u64 (wrem a1 4294967296) (wrem a2 4294967296)) 4294967296) (wrem (wmul .u64 (wquo .u64 a1 4294967296) (wrem a2 4294967296)) 4294967296)) (wrem (wmul .u64 (wrem a1 4294967296) (wquo .u64 a2 4294967296)) 4294967296)) 4294967296) 4294967296) (wrem (wmul .u64 (wrem a1 4294967296) (wrem a2 4294967296)) 4294967296)))) pz
noncomputable def hn170 : Hint := { H 170 with nt := 41, prot := 0 }
def F170_res (r1 : Int × Bool) : Res := ⟨[(.one (.im (.lit (.int .i64 r1.1)))), (.one (.im (.lit (.bool r1.2))))], []⟩
def F170 (K : Nat) (a2 : Int) (a3 : Int) : Option (Int × Bool) :=
 (F175 K a2).bind fun r4 =>
 (F175 K a3).bind fun r5 =>
 (F174 K r4 r5).bind fun r6 =>
 bif (ilt 0 r6.x0) then
  (some (0, false))
 else
 bif (ilt 9223372036854775808 r6.x1) then
  (some (0, false))
 else
 bif (ieq r6.x1 9223372036854775808) then
  (bif (beqb (ilt a2 0) (ilt a3 0)) then
   (some (0, false))
  else
  some ((-9223372036854775808), true))
 else
 bif (beqb (ilt a2 0) (ilt a3 0)) then
  (some ((wconv .i64 r6.x1), true))
 else
 some ((wneg .i64 (wconv .i64 r6.x1)), true)
theorem F170_ok (K : Nat) (a2 : Int) (a3 : Int) (r : Int × Bool) (hF : F170 K a2 a3 = some r) : Evt E H 170 [.one (.lit (.int .i64 a2)), .one (.lit (.int .i64 a3))] (F170_res r) := by
 rw [F170] at hF
 refine bind_some hF (fun r4 h5 hF => ?_)
 refine bind_some hF (fun r6 h7 hF => ?_)
 refine bind_some hF (fun r8 h9 hF => ?_)
 have q15 : PQ hn170 fun l => (.call 175 [.one (i6 a2)] (F175_res r4) :: (ff (leadsAny (Res.mk [(.one (.im (.lit (.int .u64 r4))))] []))) :: .call 175 [.one (i6 a3)] (F175_res r6) :: (ff (leadsAny (Res.mk [(.one (.im (.lit (.int .u64 r6))))] []))) :: .call 174 [.one (.lit (.int .u64 r4)), .one (.lit (.int .u64 r6))] (F174_res r8) :: (ff (leadsAny (Res.mk [(.agg [(.im (.lit (.int .u64 r8.x0))), (.im (.lit (.int .u64 r8.x1)))])] []))) :: (tt (ieq 0 0)) :: l) := fun z => ⟨(F175_ok K a2 _ h5), lk, (F175_ok K a3 _ h7), lk, (F174_ok K r4 r6 _ h9), lk, (by first | exact rfl | (unfold Cond.Holds; decide)), z⟩
 refine cond_some hF (fun h10 hF => ?_) (fun h10 hF => ?_)
 ·
  obtain rfl := sj hF
  have pz : HA hn170 [(bf (igt r8.x0 0)), (bf (igt r8.x0 0)), (bf (igt r8.x0 0)), (tt (igt r8.x0 0)), (tt true)] := ⟨(bA (igt_eq h10)), (bA (igt_eq h10)), (bA (igt_eq h10)), (igt_eq h10), rfl, trivial⟩
  exact fpC hn170 (r := F170_res (0, false)) (q15 pz)
 have q16 : PQ hn170 fun l => ((bg (igt r8.x0 0)) :: (ff (ieq 1 0)) :: (tt (ieq 1 1)) :: (bg (igt r8.x0 0)) :: (bg (igt r8.x0 0)) :: (ff (igt r8.x0 0)) :: l) := fun z => ⟨(bB (igt_eq h10)), (by first | exact rfl | (unfold Cond.Holds; decide)), (by first | exact rfl | (unfold Cond.Holds; decide)), (bB (igt_eq h10)), (bB (igt_eq h10)), (igt_eq h10), z⟩
 refine cond_some hF (fun h11 hF => ?_) (fun h11 hF => ?_)
 ·
  obtain rfl := sj hF
  have pz : HA hn170 [(tt (igt r8.x1 9223372036854775808))] := ⟨(igt_eq h11), trivial⟩
  exact fpC hn170 (r := F170_res (0, false)) (q15 (q16 pz))
 have q17 : PQ hn170 fun l => ((ff (igt r8.x1 9223372036854775808)) :: (ff (ieq 1 0)) :: (tt (ieq 1 1)) :: l) := fun z => ⟨(igt_eq h11), (by first | exact rfl | (unfold Cond.Holds; decide)), (by first | exact rfl | (unfold Cond.Holds; decide)), z⟩
 refine cond_some hF (fun h12 hF => ?_) (fun h12 hF => ?_)
 ·
  refine cond_some hF (fun h13 hF => ?_) (fun h13 hF => ?_)
  ·
   obtain rfl := sj hF
   have pz : HA hn170 [(tt (ieq r8.x1 9223372036854775808)), (ff (bnot (beqb (ilt a2 0) (ilt a3 0))))] := ⟨h12, (bnot_t h13), trivial⟩
   exact fpC hn170 (r := F170_res (0, false)) (q15 (q16 (q17 pz)))
  obtain rfl := sj hF
  have pz : HA hn170 [(tt (ieq r8.x1 9223372036854775808)), (tt (bnot (beqb (ilt a2 0) (ilt a3 0))))] := ⟨h12, (bnot_f h13), trivial⟩
  exact fpC hn170 (r := F170_res ((-9223372036854775808), true)) (q15 (q16 (q17 pz)))
 refine cond_some hF (fun h14 hF => ?_) (fun h14 hF => ?_)
 ·
  obtain rfl := sj hF
  have pz : HA hn170 [(ff (ieq r8.x1 9223372036854775808)), (ff (bnot (beqb (ilt a2 0) (ilt a3 0)))), (ff (ieq 1 0)), (tt (ieq 1 1)), .int (wconv .i64 r8.x1) (wconv .i64 r8.x1)] := ⟨h12, (bnot_t h14), (by first | exact rfl | (unfold Cond.Holds; decide)), (by first | exact rfl | (unfold Cond.Holds; decide)), rfl, trivial⟩
  exact fpC hn170 (r := F170_res ((wconv .i64 r8.x1), true)) (q15 (q16 (q17 pz)))
 obtain rfl := sj hF
 have pz : HA hn170 [(ff (ieq r8.x1 9223372036854775808)), (tt (bnot (beqb (ilt a2 0) (ilt a3 0)))), (ff (ieq 1 0)), (tt (ieq 1 1)), .int (wconv .i64 r8.x1) (wconv .i64 r8.x1), .int (wneg .i64 (wconv .i64 r8.x1)) (wneg .i64 (wconv .i64 r8.x1))] := ⟨h12, (bnot_f h14), (by first | exact rfl | (unfold Cond.Holds; decide)), (by first | exact rfl | (unfold Cond.Holds; decide)), rfl, rfl, trivial⟩
 exact fpC hn170 (r := F170_res ((wneg .i64 (wconv .i64 r8.x1)), true)) (q15 (q16 (q17 pz)))
noncomputable def hn167 : Hint := { H 167 with nt := 25, prot := 0 }
def F167_res (r1 : Int × Bool) : Res := ⟨[(.one (.im (.lit (.int .i64 r1.1)))), (.one (.im (.lit (.bool r1.2))))], []⟩
def F167 (K : Nat) (a1 : Int) (a2 : Int) (a3 : Int) : Option (Int × Bool) :=
 (F170 K a1 a2).bind fun r4 =>
 bif r4.2 then
  (bif (ilt a3 1) then
   (some (0, false))
  else
  bif (izero a3) then none else
  some ((wquo .i64 r4.1 a3), true))
 else
 some (0, false)
theorem F167_ok (K : Nat) (a1 : Int) (a2 : Int) (a3 : Int) (r : Int × Bool) (hF : F167 K a1 a2 a3 = some r) : Evt E H 167 [.one (.lit (.int .i64 a1)), .one (.lit (.int .i64 a2)), .one (.lit (.int .i64 a3))] (F167_res r) := by
 rw [F167] at hF
 refine bind_some hF (fun r4 h5 hF => ?_)
 refine cond_some hF (fun h6 hF => ?_) (fun h6 hF => ?_)
 ·
  have q9 : PQ hn167 fun l => (.call 170 [.one (i6 a1), .one (i6 a2)] (F170_res r4) :: (ff (leadsAny (Res.mk [(.one (.im (i6 r4.1))), (.one (.im (.lit (.bool r4.2))))] []))) :: (bg (bnot r4.2)) :: (bg (bnot r4.2)) :: (ff (bnot r4.2)) :: l) := fun z => ⟨(F170_ok K a1 a2 _ h5), lk, (bB (bnot_t h6)), (bB (bnot_t h6)), (bnot_t h6), z⟩
  refine cond_some hF (fun h7 hF => ?_) (fun h7 hF => ?_)
  ·
   obtain rfl := sj hF
   have pz : HA hn167 [(tt (ilt a3 1))] := ⟨h7, trivial⟩
   exact fpC hn167 (r := F167_res (0, false)) (q9 pz)
  refine cond_some hF (fun _ hF => nomatch hF) (fun h8 hF => ?_)
  obtain rfl := sj hF
  have pz : HA hn167 [(ff (ilt a3 1)), (ff (izero a3)), .int (wquo .i64 r4.1 a3) (wquo .i64 r4.1 a3)] := ⟨h7, h8, rfl, trivial⟩
  exact fpC hn167 (r := F167_res ((wquo .i64 r4.1 a3), true)) (q9 pz)
 obtain rfl := sj hF
 have pz : HA hn167 [.call 170 [.one (i6 a1), .one (i6 a2)] (F170_res r4), (ff (leadsAny (Res.mk [(.one (.im (i6 r4.1))), (.one (.im (.lit (.bool r4.2))))] []))), (bf (bnot r4.2)), (bf (bnot r4.2)), (tt (bnot r4.2)), (tt true)] := ⟨(F170_ok K a1 a2 _ h5), lk, (bA (bnot_f h6)), (bA (bnot_f h6)), (bnot_f h6), rfl, trivial⟩
 exact fpC hn167 (r := F167_res (0, false)) pz
noncomputable def hn146 : Hint := { H 146 with nt := 68, prot := 0 }
noncomputable def c146_0 : Code := loopOf E 146 0
def F146_res (r1 : Int × List GMsg × Bool × Int) : Res := ⟨[(.one (.im (.lit (.int .i64 r1.1)))), (.one (.own 130 (.sl (len r1.2.1) (flat eGMsg r1.2.1)))), (.one (.im (.lit (.bool r1.2.2.1)))), (.one (.im (.lit (.int .i64 r1.2.2.2))))], []⟩
def F146_l0_0 (K : Nat) (v1 : List GEdge) (v2 : Int) : Nat → List GMsg → Int → Option ((Unit) ⊕ (List GMsg))
 | 0, _, _ => none
 | k + 1, v3, v4 =>
  bif (ilt v4 (nlen (len v1))) then
   (bif (inr v4 (len v1)) then
   (elAt v1 v4).bind fun x5 =>
   (F167 K v2 1 (nlen (len v1))).bind fun r6 =>
   bif r6.2 then
    (bif (apok (len v3) 1 16) then
    F146_l0_0 K v1 v2 k (appL v3 [(GMsg.mk x5.To r6.1)]) (wadd .i64 v4 1)
    else none)
   else
   some (.inl ())
   else none)
  else
  some (.inr v3)
def F146_l0_0_S (v1 : List GEdge) (v2 : Int) (v3 : List GMsg) (v4 : Int) : TS := .on [0, 1, 128, 129, 1024, 1025, 2752, 2753, 2816, 2817, 2880, 2881] [(0, ⟨.one, 0, nob⟩), (1, ⟨.im, 0, (.sl (len v1) (flat eGEdge v1))⟩), (128, ⟨.one, 0, nob⟩), (129, ⟨.im, 0, (.lit (.int .i64 v2))⟩), (1024, ⟨.one, 0, nob⟩), (1025, ⟨(.own 130), 0, (.sl (len v3) (flat eGMsg v3))⟩), (2752, ⟨.one, 0, nob⟩), (2753, ⟨.im, 0, (.sl (len v1) (flat eGEdge v1))⟩), (2816, ⟨.one, 0, nob⟩), (2817, ⟨.im, 0, (.lit (.int .i64 (nlen (len v1))))⟩), (2880, ⟨.one, 0, nob⟩), (2881, ⟨.im, 0, (.lit (.int .i64 v4))⟩)]
def F146_l0_0_X0 (v1 : List GEdge) (v2 : Int) (w3 : Unit) : TS := .on [512, 513, 576, 577, 640, 641, 704, 705] [(512, ⟨.one, 0, nob⟩), (513, ⟨.im, 0, (.lit (.int .i64 0))⟩), (576, ⟨.one, 0, nob⟩), (577, ⟨(.own 130), 0, (.sl 0 [])⟩), (640, ⟨.one, 0, nob⟩), (641, ⟨.im, 0, (.lit (.bool false))⟩), (704, ⟨.one, 0, nob⟩), (705, ⟨.im, 0, (.lit (.int .i64 8))⟩)]
def F146_l0_0_X1 (v1 : List GEdge) (v2 : Int) (w3 : List GMsg) : TS := .on [128, 129, 1024, 1025] [(128, ⟨.one, 0, nob⟩), (129, ⟨.im, 0, (.lit (.int .i64 v2))⟩), (1024, ⟨.one, 0, nob⟩), (1025, ⟨(.own 130), 0, (.sl (len w3) (flat eGMsg w3))⟩)]
theorem F146_l0_0_ok (K : Nat) (v1 : List GEdge) (v2 : Int) : ∀ (k : Nat) (v3 : List GMsg) (v4 : Int) (r : (Unit) ⊕ (List GMsg)), F146_l0_0 K v1 v2 k v3 v4 = some r → (Sum.elim (fun w => LoopEv E H hn146 0 c146_0 (F146_l0_0_S v1 v2 v3 v4) .ret (F146_l0_0_X0 v1 v2 w)) (fun w => LoopEv E H hn146 0 c146_0 (F146_l0_0_S v1 v2 v3 v4) (.exit 0) (F146_l0_0_X1 v1 v2 w))) r := by
 intro k
 induction k with
 | zero => intro v3 v4 r hF; cases hF
 | succ k ih =>
  intro v3 v4 r hF
  rw [F146_l0_0] at hF
  refine cond_some hF (fun h5 hF => ?_) (fun h5 hF => ?_)
  ·
   refine cond_some hF (fun h6 hF => ?_) (fun _ hF => nomatch hF)
   refine bind_some hF (fun x7 h8 hF => ?_)
   refine bind_some hF (fun r9 h10 hF => ?_)
   have q13 : PQ hn146 fun l => ((tt (ilt v4 (nl v1))) :: (tt (inr v4 (len v1))) :: .sub (flat eGEdge v1) (nidx v4 3) 3 [(i6 x7.From), (i6 x7.To), (i6 x7.W)] :: .int (nl v1) (nl v1) :: .call 167 [.one (i6 v2), .one (i6 1), .one (i6 (nl v1))] (F167_res r9) :: (ff (leadsAny (Res.mk [(.one (.im (i6 r9.1))), (.one (.im (.lit (.bool r9.2))))] []))) :: l) := fun z => ⟨h5, h6, ⟨rfl, sub_flat0 eGEdge_len h8 3 (by decide)⟩, rfl, (F167_ok K v2 1 (nl v1) _ h10), lk, z⟩
   refine cond_some hF (fun h11 hF => ?_) (fun h11 hF => ?_)
   ·
    refine cond_some hF (fun h12 hF => ?_) (fun _ hF => nomatch hF)
    have pz : HA hn146 [(ff (bnot r9.2)), (tt (leqm [(i6 x7.To), (i6 r9.1)] 1 2)), (tt (apok (len v3) 1 16)), .sl (nadd (len v3) 1) (lapp (flat eGMsg v3) [(i6 x7.To), (i6 r9.1)]) (len (α := GMsg) (appL v3 [(GMsg.mk x7.To r9.1)])) (flat eGMsg (appL v3 [(GMsg.mk x7.To r9.1)])), .int (wadd .i64 v4 1) (wadd .i64 v4 1)] := ⟨(bnot_t h11), rfl, h12, (app_ok (enc := eGMsg) (v3 : List GMsg) [(GMsg.mk x7.To r9.1)]), rfl, trivial⟩
    have h0 := ih _ _ _ hF
    have hn := lN hn146 0 c146_0 (F146_l0_0_S v1 v2 v3 v4) (F146_l0_0_S v1 v2 (appL v3 [(GMsg.mk x7.To r9.1)]) (wadd .i64 v4 1)) (q13 pz)
    cases r with
    | inl w => exact hn _ _ h0
    | inr w => exact hn _ _ h0
   obtain rfl := sj hF
   have pz : HA hn146 [(tt (bnot r9.2))] := ⟨(bnot_f h11), trivial⟩
   exact lE hn146 0 c146_0 (F146_l0_0_S v1 v2 v3 v4) (F146_l0_0_X0 v1 v2 ()) .ret (q13 pz)
  obtain rfl := sj hF
  have pz : HA hn146 [(ff (ilt v4 (nl v1)))] := ⟨h5, trivial⟩
  exact lE hn146 0 c146_0 (F146_l0_0_S v1 v2 v3 v4) (F146_l0_0_X1 v1 v2 v3) (.exit 0) pz
def F146 (K : Nat) (a1 : List GEdge) (a2 : Int) (a3 : Int) (a4 : Int) : Option (Int × List GMsg × Bool × Int) :=
 bif (ilt 0 a2) then
  ((F167 K a4 85 100).bind fun r5 =>
  (F144 K 150000 r5.1).bind fun r6 =>
  bif r5.2 then
   (bif r6.2 then
    (bif (ile 10 a2) then
     (some (r6.1, ([], (true, 0))))
    else
    (F146_l0_0 K a1 r6.1 K [] 0).bind fun y7 =>
    Sum.elim (fun w8 =>
     some (0, ([], (false, 8))))
     (fun w9 =>
     some (r6.1, (w9, (false, 0)))) y7)
   else
   some (0, ([], (false, 8))))
  else
  some (0, ([], (false, 8))))
 else
 bif (ile 10 a2) then
  (some (a3, ([], (true, 0))))
 else
 (F146_l0_0 K a1 a3 K [] 0).bind fun y10 =>
 Sum.elim (fun w11 =>
  some (0, ([], (false, 8))))
  (fun w12 =>
  some (a3, (w12, (false, 0)))) y10
theorem F146_ok (K : Nat) (a1 : List GEdge) (a2 : Int) (a3 : Int) (a4 : Int) (r : Int × List GMsg × Bool × Int) (hF : F146 K a1 a2 a3 a4 = some r) : Evt E H 146 [.one (.sl (len a1) (flat eGEdge a1)), .one (.lit (.int .i64 a2)), .one (.lit (.int .i64 a3)), .one (.lit (.int .i64 a4))] (F146_res r) := by
 rw [F146] at hF
 refine cond_some hF (fun h5 hF => ?_) (fun h5 hF => ?_)
 ·
  refine bind_some hF (fun r6 h7 hF => ?_)
  refine bind_some hF (fun r8 h9 hF => ?_)
  have q22 : PQ hn146 fun l => ((tt (igt a2 0)) :: .call 167 [.one (i6 a4), .one (i6 85), .one (i6 100)] (F167_res r6) :: (ff (leadsAny (Res.mk [(.one (.im (i6 r6.1))), (.one (.im (.lit (.bool r6.2))))] []))) :: .call 144 [.one (i6 150000), .one (i6 r6.1)] (F144_res r8) :: (ff (leadsAny (Res.mk [(.one (.im (i6 r8.1))), (.one (.im (.lit (.bool r8.2))))] []))) :: l) := fun z => ⟨(igt_eq h5), (F167_ok K a4 85 100 _ h7), lk, (F144_ok K 150000 r6.1 _ h9), lk, z⟩
  refine cond_some hF (fun h10 hF => ?_) (fun h10 hF => ?_)
  ·
   have q23 : PQ hn146 fun l => ((bg (bnot r6.2)) :: (bg (bnot r6.2)) :: (ff (bnot r6.2)) :: l) := fun z => ⟨(bB (bnot_t h10)), (bB (bnot_t h10)), (bnot_t h10), z⟩
   refine cond_some hF (fun h11 hF => ?_) (fun h11 hF => ?_)
   ·
    refine cond_some hF (fun h12 hF => ?_) (fun h12 hF => ?_)
    ·
     obtain rfl := sj hF
     have pz : HA hn146 [(ff (bnot r8.2)), (tt (ige a2 10))] := ⟨(bnot_t h11), (ige_eq h12), trivial⟩
     exact fpC hn146 (r := F146_res (r8.1, ([], (true, 0)))) (q22 (q23 pz))
    have q24 : PQ hn146 fun l => ((ff (bnot r8.2)) :: (ff (ige a2 10)) :: .int (nl a1) (nl a1) :: l) := fun z => ⟨(bnot_t h11), (ige_eq h12), rfl, z⟩
    refine bind_some hF (fun y14 h13 hF => ?_)
    refine sum_some hF (fun w15 hx hF => ?_) (fun w16 hx hF => ?_)
    ·
     subst hx
     obtain rfl := sj hF
     have pz : HA hn146 [.loop 0 c146_0 (F146_l0_0_S a1 r8.1 [] 0) .ret (F146_l0_0_X0 a1 r8.1 w15)] := ⟨(F146_l0_0_ok K a1 r8.1 K [] 0 _ h13), trivial⟩
     exact fpC hn146 (r := F146_res (0, ([], (false, 8)))) (q22 (q23 (q24 pz)))
    subst hx
    obtain rfl := sj hF
    have pz : HA hn146 [.loop 0 c146_0 (F146_l0_0_S a1 r8.1 [] 0) (.exit 0) (F146_l0_0_X1 a1 r8.1 w16)] := ⟨(F146_l0_0_ok K a1 r8.1 K [] 0 _ h13), trivial⟩
    exact fpC hn146 (r := F146_res (r8.1, (w16, (false, 0)))) (q22 (q23 (q24 pz)))
   obtain rfl := sj hF
   have pz : HA hn146 [(tt (bnot r8.2))] := ⟨(bnot_f h11), trivial⟩
   exact fpC hn146 (r := F146_res (0, ([], (false, 8)))) (q22 (q23 pz))
  obtain rfl := sj hF
  have pz : HA hn146 [(bf (bnot r6.2)), (bf (bnot r6.2)), (tt (bnot r6.2)), (tt true)] := ⟨(bA (bnot_f h10)), (bA (bnot_f h10)), (bnot_f h10), rfl, trivial⟩
  exact fpC hn146 (r := F146_res (0, ([], (false, 8)))) (q22 pz)
 refine cond_some hF (fun h17 hF => ?_) (fun h17 hF => ?_)
 ·
  obtain rfl := sj hF
  have pz : HA hn146 [(ff (igt a2 0)), (tt (ige a2 10))] := ⟨(igt_eq h5), (ige_eq h17), trivial⟩
  exact fpC hn146 (r := F146_res (a3, ([], (true, 0)))) pz
 have q25 : PQ hn146 fun l => ((ff (igt a2 0)) :: (ff (ige a2 10)) :: .int (nl a1) (nl a1) :: l) := fun z => ⟨(igt_eq h5), (ige_eq h17), rfl, z⟩
 refine bind_some hF (fun y19 h18 hF => ?_)
 refine sum_some hF (fun w20 hx hF => ?_) (fun w21 hx hF => ?_)
 ·
  subst hx
  obtain rfl := sj hF
  have pz : HA hn146 [.loop 0 c146_0 (F146_l0_0_S a1 a3 [] 0) .ret (F146_l0_0_X0 a1 a3 w20)] := ⟨(F146_l0_0_ok K a1 a3 K [] 0 _ h18), trivial⟩
  exact fpC hn146 (r := F146_res (0, ([], (false, 8)))) (q25 pz)
 subst hx
 obtain rfl := sj hF
 have pz : HA hn146 [.loop 0 c146_0 (F146_l0_0_S a1 a3 [] 0) (.exit 0) (F146_l0_0_X1 a1 a3 w21)] := ⟨(F146_l0_0_ok K a1 a3 K [] 0 _ h18), trivial⟩
 exact fpC hn146 (r := F146_res (a3, (w21, (false, 0)))) (q25 pz)
noncomputable def hn99 : Hint := { H 99 with nt := 122, prot := 0 }
noncomputable def c99_0 : Code := loopOf E 99 0
def F99_res (r1 : Int × List GMsg × Bool × Int) : Res := ⟨[(.one (.im (.lit (.int .i64 r1.1)))), (.one (.own 130 (.sl (len r1.2.1) (flat eGMsg r1.2.1)))), (.one (.im (.lit (.bool r1.2.2.1)))), (.one (.im (.lit (.int .i64 r1.2.2.2))))], []⟩
def F99_l0_0 (K : Nat) (v1 : Int) (v2 : Bool) (v3 : List GEdge) : Nat → List GMsg → Int → Option ((Unit) ⊕ (List GMsg))
 | 0, _, _ => none
 | k + 1, v4, v5 =>
  bif (ilt v5 (nlen (len v3))) then
   (bif (inr v5 (len v3)) then
   (elAt v3 v5).bind fun x6 =>
   (F160 K v1 x6).bind fun r7 =>
   bif r7.2 then
    (bif (apok (len v4) 1 16) then
    F99_l0_0 K v1 v2 v3 k (appL v4 [(GMsg.mk x6.To r7.1)]) (wadd .i64 v5 1)
    else none)
   else
   some (.inl ())
   else none)
  else
  some (.inr v4)
def F99_l0_0_S (v1 : Int) (v2 : Bool) (v3 : List GEdge) (v4 : List GMsg) (v5 : Int) : TS := .on [256, 257, 1216, 1217, 1218, 1219, 1220, 1344, 1345, 1472, 1473, 6144, 6145, 6208, 6209, 6272, 6273] [(256, ⟨.one, 0, nob⟩), (257, ⟨.im, 0, (.lit (.int .i64 v1))⟩), (1216, ⟨(.box 176 4), 0, nob⟩), (1217, ⟨.im, 0, (.lit (fnV 158))⟩), (1218, ⟨.im, 0, (.lit (fnV 159))⟩), (1219, ⟨.im, 0, (.lit (.bool v2))⟩), (1220, ⟨.im, 0, (.lit (fnV 160))⟩), (1344, ⟨.one, 0, nob⟩), (1345, ⟨(.own 89), 0, (.sl (len v3) (flat eGEdge v3))⟩), (1472, ⟨.one, 0, nob⟩), (1473, ⟨(.own 130), 0, (.sl (len v4) (flat eGMsg v4))⟩), (6144, ⟨.one, 0, nob⟩), (6145, ⟨(.vw 1345 0), 0, nob⟩), (6208, ⟨.one, 0, nob⟩), (6209, ⟨.im, 0, (.lit (.int .i64 (nlen (len v3))))⟩), (6272, ⟨.one, 0, nob⟩), (6273, ⟨.im, 0, (.lit (.int .i64 v5))⟩)]
def F99_l0_0_X0 (v1 : Int) (v2 : Bool) (v3 : List GEdge) (w4 : Unit) : TS := .on [896, 897, 960, 961, 1024, 1025, 1088, 1089] [(896, ⟨.one, 0, nob⟩), (897, ⟨.im, 0, (.lit (.int .i64 0))⟩), (960, ⟨.one, 0, nob⟩), (961, ⟨(.own 130), 0, (.sl 0 [])⟩), (1024, ⟨.one, 0, nob⟩), (1025, ⟨.im, 0, (.lit (.bool false))⟩), (1088, ⟨.one, 0, nob⟩), (1089, ⟨.im, 0, (.lit (.int .i64 8))⟩)]
def F99_l0_0_X1 (v1 : Int) (v2 : Bool) (v3 : List GEdge) (w4 : List GMsg) : TS := .on [256, 257, 1472, 1473] [(256, ⟨.one, 0, nob⟩), (257, ⟨.im, 0, (.lit (.int .i64 v1))⟩), (1472, ⟨.one, 0, nob⟩), (1473, ⟨(.own 130), 0, (.sl (len w4) (flat eGMsg w4))⟩)]
theorem F99_l0_0_ok (K : Nat) (v1 : Int) (v2 : Bool) (v3 : List GEdge) : ∀ (k : Nat) (v4 : List GMsg) (v5 : Int) (r : (Unit) ⊕ (List GMsg)), F99_l0_0 K v1 v2 v3 k v4 v5 = some r → (Sum.elim (fun w => LoopEv E H hn99 0 c99_0 (F99_l0_0_S v1 v2 v3 v4 v5) .ret (F99_l0_0_X0 v1 v2 v3 w)) (fun w => LoopEv E H hn99 0 c99_0 (F99_l0_0_S v1 v2 v3 v4 v5) (.exit 0) (F99_l0_0_X1 v1 v2 v3 w))) r := by
 intro k
 induction k with
 | zero => intro v4 v5 r hF; cases hF
 | succ k ih =>
  intro v4 v5 r hF
  rw [F99_l0_0] at hF
  refine cond_some hF (fun h6 hF => ?_) (fun h6 hF => ?_)
  ·
   refine cond_some hF (fun h7 hF => ?_) (fun _ hF => nomatch hF)
   refine bind_some hF (fun x8 h9 hF => ?_)
   refine bind_some hF (fun r10 h11 hF => ?_)
   have q14 : PQ hn99 fun l => ((tt (ilt v5 (nl v3))) :: (tt (inr v5 (len v3))) :: .sub (flat eGEdge v3) (nidx v5 3) 3 [(i6 x8.From), (i6 x8.To), (i6 x8.W)] :: .call 160 [.one (i6 v1), .agg (eGEdge x8)] (F160_res r10) :: (ff (leadsAny (Res.mk [(.one (.im (i6 r10.1))), (.one (.im (.lit (.bool r10.2))))] []))) :: l) := fun z => ⟨h6, h7, ⟨rfl, sub_flat0 eGEdge_len h9 3 (by decide)⟩, (F160_ok K v1 x8 _ h11), lk, z⟩
   refine cond_some hF (fun h12 hF => ?_) (fun h12 hF => ?_)
   ·
    refine cond_some hF (fun h13 hF => ?_) (fun _ hF => nomatch hF)
    have pz : HA hn99 [(ff (bnot r10.2)), (tt (leqm [(i6 x8.To), (i6 r10.1)] 1 2)), (tt (apok (len v4) 1 16)), .sl (nadd (len v4) 1) (lapp (flat eGMsg v4) [(i6 x8.To), (i6 r10.1)]) (len (α := GMsg) (appL v4 [(GMsg.mk x8.To r10.1)])) (flat eGMsg (appL v4 [(GMsg.mk x8.To r10.1)])), .int (wadd .i64 v5 1) (wadd .i64 v5 1)] := ⟨(bnot_t h12), rfl, h13, (app_ok (enc := eGMsg) (v4 : List GMsg) [(GMsg.mk x8.To r10.1)]), rfl, trivial⟩
    have h0 := ih _ _ _ hF
    have hn := lN hn99 0 c99_0 (F99_l0_0_S v1 v2 v3 v4 v5) (F99_l0_0_S v1 v2 v3 (appL v4 [(GMsg.mk x8.To r10.1)]) (wadd .i64 v5 1)) (q14 pz)
    cases r with
    | inl w => exact hn _ _ h0
    | inr w => exact hn _ _ h0
   obtain rfl := sj hF
   have pz : HA hn99 [(tt (bnot r10.2))] := ⟨(bnot_f h12), trivial⟩
   exact lE hn99 0 c99_0 (F99_l0_0_S v1 v2 v3 v4 v5) (F99_l0_0_X0 v1 v2 v3 ()) .ret (q14 pz)
  obtain rfl := sj hF
  have pz : HA hn99 [(ff (ilt v5 (nl v3)))] := ⟨h6, trivial⟩
  exact lE hn99 0 c99_0 (F99_l0_0_S v1 v2 v3 v4 v5) (F99_l0_0_X1 v1 v2 v3 v4) (.exit 0) pz
def F99_l0_1 (K : Nat) (v1 : Int) (v2 : Bool) (v3 : List GEdge) : Nat → List GMsg → Int → Option ((Unit) ⊕ (List GMsg))
 | 0, _, _ => none
 | k + 1, v4, v5 =>
  bif (ilt v5 (nlen (len v3))) then
   (bif (inr v5 (len v3)) then
   (elAt v3 v5).bind fun x6 =>
   (F161 K v1 x6).bind fun r7 =>
   bif r7.2 then
    (bif (apok (len v4) 1 16) then
    F99_l0_1 K v1 v2 v3 k (appL v4 [(GMsg.mk x6.To r7.1)]) (wadd .i64 v5 1)
    else none)
   else
   some (.inl ())
   else none)
  else
  some (.inr v4)
def F99_l0_1_S (v1 : Int) (v2 : Bool) (v3 : List GEdge) (v4 : List GMsg) (v5 : Int) : TS := .on [256, 257, 1216, 1217, 1218, 1219, 1220, 1344, 1345, 1472, 1473, 6144, 6145, 6208, 6209, 6272, 6273] [(256, ⟨.one, 0, nob⟩), (257, ⟨.im, 0, (.lit (.int .i64 v1))⟩), (1216, ⟨(.box 176 4), 0, nob⟩), (1217, ⟨.im, 0, (.lit (fnV 158))⟩), (1218, ⟨.im, 0, (.lit (fnV 159))⟩), (1219, ⟨.im, 0, (.lit (.bool v2))⟩), (1220, ⟨.im, 0, (.lit (fnV 161))⟩), (1344, ⟨.one, 0, nob⟩), (1345, ⟨(.own 89), 0, (.sl (len v3) (flat eGEdge v3))⟩), (1472, ⟨.one, 0, nob⟩), (1473, ⟨(.own 130), 0, (.sl (len v4) (flat eGMsg v4))⟩), (6144, ⟨.one, 0, nob⟩), (6145, ⟨(.vw 1345 0), 0, nob⟩), (6208, ⟨.one, 0, nob⟩), (6209, ⟨.im, 0, (.lit (.int .i64 (nlen (len v3))))⟩), (6272, ⟨.one, 0, nob⟩), (6273, ⟨.im, 0, (.lit (.int .i64 v5))⟩)]
def F99_l0_1_X0 (v1 : Int) (v2 : Bool) (v3 : List GEdge) (w4 : Unit) : TS := .on [896, 897, 960, 961, 1024, 1025, 1088, 1089] [(896, ⟨.one, 0, nob⟩), (897, ⟨.im, 0, (.lit (.int .i64 0))⟩), (960, ⟨.one, 0, nob⟩), (961, ⟨(.own 130), 0, (.sl 0 [])⟩), (1024, ⟨.one, 0, nob⟩), (1025, ⟨.im, 0, (.lit (.bool false))⟩), (1088, ⟨.one, 0, nob⟩), (1089, ⟨.im, 0, (.lit (.int .i64 8))⟩)]
def F99_l0_1_X1 (v1 : Int) (v2 : Bool) (v3 : List GEdge) (w4 : List GMsg) : TS := .on [256, 257, 1472, 1473] [(256, ⟨.one, 0, nob⟩), (257, ⟨.im, 0, (.lit (.int .i64 v1))⟩), (1472, ⟨.one, 0, nob⟩), (1473, ⟨(.own 130), 0, (.sl (len w4) (flat eGMsg w4))⟩)]
theorem F99_l0_1_ok (K : Nat) (v1 : Int) (v2 : Bool) (v3 : List GEdge) : ∀ (k : Nat) (v4 : List GMsg) (v5 : Int) (r : (Unit) ⊕ (List GMsg)), F99_l0_1 K v1 v2 v3 k v4 v5 = some r → (Sum.elim (fun w => LoopEv E H hn99 0 c99_0 (F99_l0_1_S v1 v2 v3 v4 v5) .ret (F99_l0_1_X0 v1 v2 v3 w)) (fun w => LoopEv E H hn99 0 c99_0 (F99_l0_1_S v1 v2 v3 v4 v5) (.exit 0) (F99_l0_1_X1 v1 v2 v3 w))) r := by
 intro k
 induction k with
 | zero => intro v4 v5 r hF; cases hF
 | succ k ih =>
  intro v4 v5 r hF
  rw [F99_l0_1] at hF
  refine cond_some hF (fun h6 hF => ?_) (fun h6 hF => ?_)
  ·
   refine cond_some hF (fun h7 hF => ?_) (fun _ hF => nomatch hF)
   refine bind_some hF (fun x8 h9 hF => ?_)
   refine bind_some hF (fun r10 h11 hF => ?_)
   have q14 : PQ hn99 fun l => ((tt (ilt v5 (nl v3))) :: (tt (inr v5 (len v3))) :: .sub (flat eGEdge v3) (nidx v5 3) 3 [(i6 x8.From), (i6 x8.To), (i6 x8.W)] :: .call 161 [.one (i6 v1), .agg (eGEdge x8)] (F161_res r10) :: (ff (leadsAny (Res.mk [(.one (.im (i6 r10.1))), (.one (.im (.lit (.bool r10.2))))] []))) :: l) := fun z => ⟨h6, h7, ⟨rfl, sub_flat0 eGEdge_len h9 3 (by decide)⟩, (F161_ok K v1 x8 _ h11), lk, z⟩
   refine cond_some hF (fun h12 hF => ?_) (fun h12 hF => ?_)
   ·
    refine cond_some hF (fun h13 hF => ?_) (fun _ hF => nomatch hF)
    have pz : HA hn99 [(ff (bnot r10.2)), (tt (leqm [(i6 x8.To), (i6 r10.1)] 1 2)), (tt (apok (len v4) 1 16)), .sl (nadd (len v4) 1) (lapp (flat eGMsg v4) [(i6 x8.To), (i6 r10.1)]) (len (α := GMsg) (appL v4 [(GMsg.mk x8.To r10.1)])) (flat eGMsg (appL v4 [(GMsg.mk x8.To r10.1)])), .int (wadd .i64 v5 1) (wadd .i64 v5 1)] := ⟨(bnot_t h12), rfl, h13, (app_ok (enc := eGMsg) (v4 : List GMsg) [(GMsg.mk x8.To r10.1)]), rfl, trivial⟩
    have h0 := ih _ _ _ hF
    have hn := lN hn99 0 c99_0 (F99_l0_1_S v1 v2 v3 v4 v5) (F99_l0_1_S v1 v2 v3 (appL v4 [(GMsg.mk x8.To r10.1)]) (wadd .i64 v5 1)) (q14 pz)
    cases r with
    | inl w => exact hn _ _ h0
    | inr w => exact hn _ _ h0
   obtain rfl := sj hF
   have pz : HA hn99 [(tt (bnot r10.2))] := ⟨(bnot_f h12), trivial⟩
   exact lE hn99 0 c99_0 (F99_l0_1_S v1 v2 v3 v4 v5) (F99_l0_1_X0 v1 v2 v3 ()) .ret (q14 pz)
  obtain rfl := sj hF
  have pz : HA hn99 [(ff (ilt v5 (nl v3)))] := ⟨h6, trivial⟩
  exact lE hn99 0 c99_0 (F99_l0_1_S v1 v2 v3 v4 v5) (F99_l0_1_X1 v1 v2 v3 v4) (.exit 0) pz
def F99_l0_2 (K : Nat) (v1 : Int) (v2 : Bool) (v3 : List GEdge) : Nat → List GMsg → Int → Option ((Unit) ⊕ (List GMsg))
 | 0, _, _ => none
 | k + 1, v4, v5 =>
  bif (ilt v5 (nlen (len v3))) then
   (bif (inr v5 (len v3)) then
   (elAt v3 v5).bind fun x6 =>
   (F163 K v1 x6).bind fun r7 =>
   bif r7.2 then
    (bif (apok (len v4) 1 16) then
    F99_l0_2 K v1 v2 v3 k (appL v4 [(GMsg.mk x6.To r7.1)]) (wadd .i64 v5 1)
    else none)
   else
   some (.inl ())
   else none)
  else
  some (.inr v4)
def F99_l0_2_S (v1 : Int) (v2 : Bool) (v3 : List GEdge) (v4 : List GMsg) (v5 : Int) : TS := .on [256, 257, 1216, 1217, 1218, 1219, 1220, 1344, 1345, 1472, 1473, 6144, 6145, 6208, 6209, 6272, 6273] [(256, ⟨.one, 0, nob⟩), (257, ⟨.im, 0, (.lit (.int .i64 v1))⟩), (1216, ⟨(.box 176 4), 0, nob⟩), (1217, ⟨.im, 0, (.lit (fnV 162))⟩), (1218, ⟨.im, 0, (.lit (fnV 159))⟩), (1219, ⟨.im, 0, (.lit (.bool v2))⟩), (1220, ⟨.im, 0, (.lit (fnV 163))⟩), (1344, ⟨.one, 0, nob⟩), (1345, ⟨(.own 89), 0, (.sl (len v3) (flat eGEdge v3))⟩), (1472, ⟨.one, 0, nob⟩), (1473, ⟨(.own 130), 0, (.sl (len v4) (flat eGMsg v4))⟩), (6144, ⟨.one, 0, nob⟩), (6145, ⟨(.vw 1345 0), 0, nob⟩), (6208, ⟨.one, 0, nob⟩), (6209, ⟨.im, 0, (.lit (.int .i64 (nlen (len v3))))⟩), (6272, ⟨.one, 0, nob⟩), (6273, ⟨.im, 0, (.lit (.int .i64 v5))⟩)]
def F99_l0_2_X0 (v1 : Int) (v2 : Bool) (v3 : List GEdge) (w4 : Unit) : TS := .on [896, 897, 960, 961, 1024, 1025, 1088, 1089] [(896, ⟨.one, 0, nob⟩), (897, ⟨.im, 0, (.lit (.int .i64 0))⟩), (960, ⟨.one, 0, nob⟩), (961, ⟨(.own 130), 0, (.sl 0 [])⟩), (1024, ⟨.one, 0, nob⟩), (1025, ⟨.im, 0, (.lit (.bool false))⟩), (1088, ⟨.one, 0, nob⟩), (1089, ⟨.im, 0, (.lit (.int .i64 8))⟩)]
def F99_l0_2_X1 (v1 : Int) (v2 : Bool) (v3 : List GEdge) (w4 : List GMsg) : TS := .on [256, 257, 1472, 1473] [(256, ⟨.one, 0, nob⟩), (257, ⟨.im, 0, (.lit (.int .i64 v1))⟩), (1472, ⟨.one, 0, nob⟩), (1473, ⟨(.own 130), 0, (.sl (len w4) (flat eGMsg w4))⟩)]
theorem F99_l0_2_ok (K : Nat) (v1 : Int) (v2 : Bool) (v3 : List GEdge) : ∀ (k : Nat) (v4 : List GMsg) (v5 : Int) (r : (Unit) ⊕ (List GMsg)), F99_l0_2 K v1 v2 v3 k v4 v5 = some r → (Sum.elim (fun w => LoopEv E H hn99 0 c99_0 (F99_l0_2_S v1 v2 v3 v4 v5) .ret (F99_l0_2_X0 v1 v2 v3 w)) (fun w => LoopEv E H hn99 0 c99_0 (F99_l0_2_S v1 v2 v3 v4 v5) (.exit 0) (F99_l0_2_X1 v1 v2 v3 w))) r := by
 intro k
 induction k with
 | zero => intro v4 v5 r hF; cases hF
 | succ k ih =>
  intro v4 v5 r hF
  rw [F99_l0_2] at hF
  refine cond_some hF (fun h6 hF => ?_) (fun h6 hF => ?_)
  ·
   refine cond_some hF (fun h7 hF => ?_) (fun _ hF => nomatch hF)
   refine bind_some hF (fun x8 h9 hF => ?_)
   refine bind_some hF (fun r10 h11 hF => ?_)
   have q14 : PQ hn99 fun l => ((tt (ilt v5 (nl v3))) :: (tt (inr v5 (len v3))) :: .sub (flat eGEdge v3) (nidx v5 3) 3 [(i6 x8.From), (i6 x8.To), (i6 x8.W)] :: .call 163 [.one (i6 v1), .agg (eGEdge x8)] (F163_res r10) :: (ff (leadsAny (Res.mk [(.one (.im (i6 r10.1))), (.one (.im (.lit (.bool r10.2))))] []))) :: l) := fun z => ⟨h6, h7, ⟨rfl, sub_flat0 eGEdge_len h9 3 (by decide)⟩, (F163_ok K v1 x8 _ h11), lk, z⟩
   refine cond_some hF (fun h12 hF => ?_) (fun h12 hF => ?_)
   ·
    refine cond_some hF (fun h13 hF => ?_) (fun _ hF => nomatch hF)
    have pz : HA hn99 [(ff (bnot r10.2)), (tt (leqm [(i6 x8.To), (i6 r10.1)] 1 2)), (tt (apok (len v4) 1 16)), .sl (nadd (len v4) 1) (lapp (flat eGMsg v4) [(i6 x8.To), (i6 r10.1)]) (len (α := GMsg) (appL v4 [(GMsg.mk x8.To r10.1)])) (flat eGMsg (appL v4 [(GMsg.mk x8.To r10.1)])), .int (wadd .i64 v5 1) (wadd .i64 v5 1)] := ⟨(bnot_t h12), rfl, h13, (app_ok (enc := eGMsg) (v4 : List GMsg) [(GMsg.mk x8.To r10.1)]), rfl, trivial⟩
    have h0 := ih _ _ _ hF
    have hn := lN hn99 0 c99_0 (F99_l0_2_S v1 v2 v3 v4 v5) (F99_l0_2_S v1 v2 v3 (appL v4 [(GMsg.mk x8.To r10.1)]) (wadd .i64 v5 1)) (q14 pz)
    cases r with
    | inl w => exact hn _ _ h0
    | inr w => exact hn _ _ h0
   obtain rfl := sj hF
   have pz : HA hn99 [(tt (bnot r10.2))] := ⟨(bnot_f h12), trivial⟩
   exact lE hn99 0 c99_0 (F99_l0_2_S v1 v2 v3 v4 v5) (F99_l0_2_X0 v1 v2 v3 ()) .ret (q14 pz)
  obtain rfl := sj hF
  have pz : HA hn99 [(ff (ilt v5 (nl v3)))] := ⟨h6, trivial⟩
  exact lE hn99 0 c99_0 (F99_l0_2_S v1 v2 v3 v4 v5) (F99_l0_2_X1 v1 v2 v3 v4) (.exit 0) pz
def F99_l0_3 (K : Nat) (v1 : Int) (v2 : Bool) (v3 : List GEdge) : Nat → List GMsg → Int → Option ((Unit) ⊕ (List GMsg))
 | 0, _, _ => none
 | k + 1, v4, v5 =>
  bif (ilt v5 (nlen (len v3))) then
   (bif (inr v5 (len v3)) then
   (elAt v3 v5).bind fun x6 =>
   (F163 K v1 x6).bind fun r7 =>
   bif r7.2 then
    (bif (apok (len v4) 1 16) then
    F99_l0_3 K v1 v2 v3 k (appL v4 [(GMsg.mk x6.To r7.1)]) (wadd .i64 v5 1)
    else none)
   else
   some (.inl ())
   else none)
  else
  some (.inr v4)
def F99_l0_3_S (v1 : Int) (v2 : Bool) (v3 : List GEdge) (v4 : List GMsg) (v5 : Int) : TS := .on [256, 257, 1216, 1217, 1218, 1219, 1220, 1344, 1345, 1472, 1473, 6144, 6145, 6208, 6209, 6272, 6273] [(256, ⟨.one, 0, nob⟩), (257, ⟨.im, 0, (.lit (.int .i64 v1))⟩), (1216, ⟨(.box 176 4), 0, nob⟩), (1217, ⟨.im, 0, (.lit (fnV 164))⟩), (1218, ⟨.im, 0, (.lit (fnV 165))⟩), (1219, ⟨.im, 0, (.lit (.bool v2))⟩), (1220, ⟨.im, 0, (.lit (fnV 163))⟩), (1344, ⟨.one, 0, nob⟩), (1345, ⟨(.own 89), 0, (.sl (len v3) (flat eGEdge v3))⟩), (1472, ⟨.one, 0, nob⟩), (1473, ⟨(.own 130), 0, (.sl (len v4) (flat eGMsg v4))⟩), (6144, ⟨.one, 0, nob⟩), (6145, ⟨(.vw 1345 0), 0, nob⟩), (6208, ⟨.one, 0, nob⟩), (6209, ⟨.im, 0, (.lit (.int .i64 (nlen (len v3))))⟩), (6272, ⟨.one, 0, nob⟩), (6273, ⟨.im, 0, (.lit (.int .i64 v5))⟩)]
def F99_l0_3_X0 (v1 : Int) (v2 : Bool) (v3 : List GEdge) (w4 : Unit) : TS := .on [896, 897, 960, 961, 1024, 1025, 1088, 1089] [(896, ⟨.one, 0, nob⟩), (897, ⟨.im, 0, (.lit (.int .i64 0))⟩), (960, ⟨.one, 0, nob⟩), (961, ⟨(.own 130), 0, (.sl 0 [])⟩), (1024, ⟨.one, 0, nob⟩), (1025, ⟨.im, 0, (.lit (.bool false))⟩), (1088, ⟨.one, 0, nob⟩), (1089, ⟨.im, 0, (.lit (.int .i64 8))⟩)]
def F99_l0_3_X1 (v1 : Int) (v2 : Bool) (v3 : List GEdge) (w4 : List GMsg) : TS := .on [256, 257, 1472, 1473] [(256, ⟨.one, 0, nob⟩), (257, ⟨.im, 0, (.lit (.int .i64 v1))⟩), (1472, ⟨.one, 0, nob⟩), (1473, ⟨(.own 130), 0, (.sl (len w4) (flat eGMsg w4))⟩)]
theorem F99_l0_3_ok (K : Nat) (v1 : Int) (v2 : Bool) (v3 : List GEdge) : ∀ (k : Nat) (v4 : List GMsg) (v5 : Int) (r : (Unit) ⊕ (List GMsg)), F99_l0_3 K v1 v2 v3 k v4 v5 = some r → (Sum.elim (fun w => LoopEv E H hn99 0 c99_0 (F99_l0_3_S v1 v2 v3 v4 v5) .ret (F99_l0_3_X0 v1 v2 v3 w)) (fun w => LoopEv E H hn99 0 c99_0 (F99_l0_3_S v1 v2 v3 v4 v5) (.exit 0) (F99_l0_3_X1 v1 v2 v3 w))) r := by
 intro k
 induction k with
 | zero => intro v4 v5 r hF; cases hF
 | succ k ih =>
  intro v4 v5 r hF
  rw [F99_l0_3] at hF
  refine cond_some hF (fun h6 hF => ?_) (fun h6 hF => ?_)
  ·
   refine cond_some hF (fun h7 hF => ?_) (fun _ hF => nomatch hF)
   refine bind_some hF (fun x8 h9 hF => ?_)
   refine bind_some hF (fun r10 h11 hF => ?_)
   have q14 : PQ hn99 fun l => ((tt (ilt v5 (nl v3))) :: (tt (inr v5 (len v3))) :: .sub (flat eGEdge v3) (nidx v5 3) 3 [(i6 x8.From), (i6 x8.To), (i6 x8.W)] :: .call 163 [.one (i6 v1), .agg (eGEdge x8)] (F163_res r10) :: (ff (leadsAny (Res.mk [(.one (.im (i6 r10.1))), (.one (.im (.lit (.bool r10.2))))] []))) :: l) := fun z => ⟨h6, h7, ⟨rfl, sub_flat0 eGEdge_len h9 3 (by decide)⟩, (F163_ok K v1 x8 _ h11), lk, z⟩
   refine cond_some hF (fun h12 hF => ?_) (fun h12 hF => ?_)
   ·
    refine cond_some hF (fun h13 hF => ?_) (fun _ hF => nomatch hF)
    have pz : HA hn99 [(ff (bnot r10.2)), (tt (leqm [(i6 x8.To), (i6 r10.1)] 1 2)), (tt (apok (len v4) 1 16)), .sl (nadd (len v4) 1) (lapp (flat eGMsg v4) [(i6 x8.To), (i6 r10.1)]) (len (α := GMsg) (appL v4 [(GMsg.mk x8.To r10.1)])) (flat eGMsg (appL v4 [(GMsg.mk x8.To r10.1)])), .int (wadd .i64 v5 1) (wadd .i64 v5 1)] := ⟨(bnot_t h12), rfl, h13, (app_ok (enc := eGMsg) (v4 : List GMsg) [(GMsg.mk x8.To r10.1)]), rfl, trivial⟩
    have h0 := ih _ _ _ hF
    have hn := lN hn99 0 c99_0 (F99_l0_3_S v1 v2 v3 v4 v5) (F99_l0_3_S v1 v2 v3 (appL v4 [(GMsg.mk x8.To r10.1)]) (wadd .i64 v5 1)) (q14 pz)
    cases r with
    | inl w => exact hn _ _ h0
    | inr w => exact hn _ _ h0
   obtain rfl := sj hF
   have pz : HA hn99 [(tt (bnot r10.2))] := ⟨(bnot_f h12), trivial⟩
   exact lE hn99 0 c99_0 (F99_l0_3_S v1 v2 v3 v4 v5) (F99_l0_3_X0 v1 v2 v3 ()) .ret (q14 pz)
  obtain rfl := sj hF
  have pz : HA hn99 [(ff (ilt v5 (nl v3)))] := ⟨h6, trivial⟩
  exact lE hn99 0 c99_0 (F99_l0_3_S v1 v2 v3 v4 v5) (F99_l0_3_X1 v1 v2 v3 v4) (.exit 0) pz
def F99 (K : Nat) (a1 : GGraph) (a2 : GJob) (a3 : Int) (a4 : Int) (a5 : Int) (a6 : Int) (a7 : Bool) : Option (Int × List GMsg × Bool × Int) :=
 (F94 K a1 a2).bind fun r8 =>
 bif (ieq r8 0) then
  (bif (ilt a4 0) then
   (some (0, ([], (false, 4))))
  else
  bif (ile a1.N a4) then
   (some (0, ([], (false, 4))))
  else
  bif (ilt a3 0) then
   (some (0, ([], (false, 1))))
  else
  bif (ilt 40 a3) then
   (some (0, ([], (false, 1))))
  else
  bif a7 then
   ((F143 K a2.Prog).bind fun r9 =>
   bif (areFns [r9.1.start_, r9.1.better_, r9.1.send_] [158, 159, 160]) then
    ((F68 K a1 a4).bind fun r10 =>
    bif (ieq a3 0) then
     (bif r9.1.only_ then
      ((F159 K a6 a5).bind fun r11 =>
      bif r11 then
       ((F99_l0_0 K a6 r9.1.only_ r10 K [] 0).bind fun y12 =>
       Sum.elim (fun w13 =>
        some (0, ([], (false, 8))))
        (fun w14 =>
        some (a6, (w14, (true, 0)))) y12)
      else
      bif (ieq a4 a2.Source) then
       ((F99_l0_0 K a5 r9.1.only_ r10 K [] 0).bind fun y15 =>
       Sum.elim (fun w16 =>
        some (0, ([], (false, 8))))
        (fun w17 =>
        some (a5, (w17, (true, 0)))) y15)
      else
      some (a5, ([], (true, 0))))
     else
     (F159 K a6 a5).bind fun r18 =>
     bif r18 then
      ((F99_l0_0 K a6 r9.1.only_ r10 K [] 0).bind fun y19 =>
      Sum.elim (fun w20 =>
       some (0, ([], (false, 8))))
       (fun w21 =>
       some (a6, (w21, (true, 0)))) y19)
     else
     (F99_l0_0 K a5 r9.1.only_ r10 K [] 0).bind fun y22 =>
     Sum.elim (fun w23 =>
      some (0, ([], (false, 8))))
      (fun w24 =>
      some (a5, (w24, (true, 0)))) y22)
    else
    (F159 K a6 a5).bind fun r25 =>
    bif r25 then
     ((F99_l0_0 K a6 r9.1.only_ r10 K [] 0).bind fun y26 =>
     Sum.elim (fun w27 =>
      some (0, ([], (false, 8))))
      (fun w28 =>
      some (a6, (w28, (true, 0)))) y26)
    else
    some (a5, ([], (true, 0))))
   else
   bif (areFns [r9.1.start_, r9.1.better_, r9.1.send_] [158, 159, 161]) then
    ((F68 K a1 a4).bind fun r29 =>
    bif (ieq a3 0) then
     (bif r9.1.only_ then
      ((F159 K a6 a5).bind fun r30 =>
      bif r30 then
       ((F99_l0_1 K a6 r9.1.only_ r29 K [] 0).bind fun y31 =>
       Sum.elim (fun w32 =>
        some (0, ([], (false, 8))))
        (fun w33 =>
        some (a6, (w33, (true, 0)))) y31)
      else
      bif (ieq a4 a2.Source) then
       ((F99_l0_1 K a5 r9.1.only_ r29 K [] 0).bind fun y34 =>
       Sum.elim (fun w35 =>
        some (0, ([], (false, 8))))
        (fun w36 =>
        some (a5, (w36, (true, 0)))) y34)
      else
      some (a5, ([], (true, 0))))
     else
     (F159 K a6 a5).bind fun r37 =>
     bif r37 then
      ((F99_l0_1 K a6 r9.1.only_ r29 K [] 0).bind fun y38 =>
      Sum.elim (fun w39 =>
       some (0, ([], (false, 8))))
       (fun w40 =>
       some (a6, (w40, (true, 0)))) y38)
     else
     (F99_l0_1 K a5 r9.1.only_ r29 K [] 0).bind fun y41 =>
     Sum.elim (fun w42 =>
      some (0, ([], (false, 8))))
      (fun w43 =>
      some (a5, (w43, (true, 0)))) y41)
    else
    (F159 K a6 a5).bind fun r44 =>
    bif r44 then
     ((F99_l0_1 K a6 r9.1.only_ r29 K [] 0).bind fun y45 =>
     Sum.elim (fun w46 =>
      some (0, ([], (false, 8))))
      (fun w47 =>
      some (a6, (w47, (true, 0)))) y45)
    else
    some (a5, ([], (true, 0))))
   else
   bif (areFns [r9.1.start_, r9.1.better_, r9.1.send_] [162, 159, 163]) then
    ((F68 K a1 a4).bind fun r48 =>
    bif (ieq a3 0) then
     (bif r9.1.only_ then
      ((F159 K a6 a5).bind fun r49 =>
      bif r49 then
       ((F99_l0_2 K a6 r9.1.only_ r48 K [] 0).bind fun y50 =>
       Sum.elim (fun w51 =>
        some (0, ([], (false, 8))))
        (fun w52 =>
        some (a6, (w52, (true, 0)))) y50)
      else
      bif (ieq a4 a2.Source) then
       ((F99_l0_2 K a5 r9.1.only_ r48 K [] 0).bind fun y53 =>
       Sum.elim (fun w54 =>
        some (0, ([], (false, 8))))
        (fun w55 =>
        some (a5, (w55, (true, 0)))) y53)
      else
      some (a5, ([], (true, 0))))
     else
     (F159 K a6 a5).bind fun r56 =>
     bif r56 then
      ((F99_l0_2 K a6 r9.1.only_ r48 K [] 0).bind fun y57 =>
      Sum.elim (fun w58 =>
       some (0, ([], (false, 8))))
       (fun w59 =>
       some (a6, (w59, (true, 0)))) y57)
     else
     (F99_l0_2 K a5 r9.1.only_ r48 K [] 0).bind fun y60 =>
     Sum.elim (fun w61 =>
      some (0, ([], (false, 8))))
      (fun w62 =>
      some (a5, (w62, (true, 0)))) y60)
    else
    (F159 K a6 a5).bind fun r63 =>
    bif r63 then
     ((F99_l0_2 K a6 r9.1.only_ r48 K [] 0).bind fun y64 =>
     Sum.elim (fun w65 =>
      some (0, ([], (false, 8))))
      (fun w66 =>
      some (a6, (w66, (true, 0)))) y64)
    else
    some (a5, ([], (true, 0))))
   else
   bif (areFns [r9.1.start_, r9.1.better_, r9.1.send_] [164, 165, 163]) then
    ((F68 K a1 a4).bind fun r67 =>
    bif (ieq a3 0) then
     (bif r9.1.only_ then
      ((F165 K a6 a5).bind fun r68 =>
      bif r68 then
       ((F99_l0_3 K a6 r9.1.only_ r67 K [] 0).bind fun y69 =>
       Sum.elim (fun w70 =>
        some (0, ([], (false, 8))))
        (fun w71 =>
        some (a6, (w71, (true, 0)))) y69)
      else
      bif (ieq a4 a2.Source) then
       ((F99_l0_3 K a5 r9.1.only_ r67 K [] 0).bind fun y72 =>
       Sum.elim (fun w73 =>
        some (0, ([], (false, 8))))
        (fun w74 =>
        some (a5, (w74, (true, 0)))) y72)
      else
      some (a5, ([], (true, 0))))
     else
     (F165 K a6 a5).bind fun r75 =>
     bif r75 then
      ((F99_l0_3 K a6 r9.1.only_ r67 K [] 0).bind fun y76 =>
      Sum.elim (fun w77 =>
       some (0, ([], (false, 8))))
       (fun w78 =>
       some (a6, (w78, (true, 0)))) y76)
     else
     (F99_l0_3 K a5 r9.1.only_ r67 K [] 0).bind fun y79 =>
     Sum.elim (fun w80 =>
      some (0, ([], (false, 8))))
      (fun w81 =>
      some (a5, (w81, (true, 0)))) y79)
    else
    (F165 K a6 a5).bind fun r82 =>
    bif r82 then
     ((F99_l0_3 K a6 r9.1.only_ r67 K [] 0).bind fun y83 =>
     Sum.elim (fun w84 =>
      some (0, ([], (false, 8))))
      (fun w85 =>
      some (a6, (w85, (true, 0)))) y83)
    else
    some (a5, ([], (true, 0))))
   else
   bif (areFns [r9.1.start_, r9.1.better_, r9.1.send_] [166, 0, 163]) then
    ((F68 K a1 a4).bind fun r86 =>
    (F146 K r86 a3 a5 a6).bind fun r87 =>
    some (r87.1, (r87.2.1, (r87.2.2.1, r87.2.2.2))))
   else
   bif (areFns [r9.1.start_, r9.1.better_, r9.1.send_] [0, 0, 0]) then
   (F68 K a1 a4).bind fun r88 =>
   (F146 K r88 a3 a5 a6).bind fun r89 =>
   some (r89.1, (r89.2.1, (r89.2.2.1, r89.2.2.2)))
   else none)
  else
  (F143 K a2.Prog).bind fun r90 =>
  bif (areFns [r90.1.start_, r90.1.better_, r90.1.send_] [158, 159, 160]) then
   ((F68 K a1 a4).bind fun r91 =>
   bif (ieq a3 0) then
    (bif r90.1.only_ then
     (bif (ieq a4 a2.Source) then
      ((F99_l0_0 K a5 r90.1.only_ r91 K [] 0).bind fun y92 =>
      Sum.elim (fun w93 =>
       some (0, ([], (false, 8))))
       (fun w94 =>
       some (a5, (w94, (true, 0)))) y92)
     else
     some (a5, ([], (true, 0))))
    else
    (F99_l0_0 K a5 r90.1.only_ r91 K [] 0).bind fun y95 =>
    Sum.elim (fun w96 =>
     some (0, ([], (false, 8))))
     (fun w97 =>
     some (a5, (w97, (true, 0)))) y95)
   else
   some (a5, ([], (true, 0))))
  else
  bif (areFns [r90.1.start_, r90.1.better_, r90.1.send_] [158, 159, 161]) then
   ((F68 K a1 a4).bind fun r98 =>
   bif (ieq a3 0) then
    (bif r90.1.only_ then
     (bif (ieq a4 a2.Source) then
      ((F99_l0_1 K a5 r90.1.only_ r98 K [] 0).bind fun y99 =>
      Sum.elim (fun w100 =>
       some (0, ([], (false, 8))))
       (fun w101 =>
       some (a5, (w101, (true, 0)))) y99)
     else
     some (a5, ([], (true, 0))))
    else
    (F99_l0_1 K a5 r90.1.only_ r98 K [] 0).bind fun y102 =>
    Sum.elim (fun w103 =>
     some (0, ([], (false, 8))))
     (fun w104 =>
     some (a5, (w104, (true, 0)))) y102)
   else
   some (a5, ([], (true, 0))))
  else
  bif (areFns [r90.1.start_, r90.1.better_, r90.1.send_] [162, 159, 163]) then
   ((F68 K a1 a4).bind fun r105 =>
   bif (ieq a3 0) then
    (bif r90.1.only_ then
     (bif (ieq a4 a2.Source) then
      ((F99_l0_2 K a5 r90.1.only_ r105 K [] 0).bind fun y106 =>
      Sum.elim (fun w107 =>
       some (0, ([], (false, 8))))
       (fun w108 =>
       some (a5, (w108, (true, 0)))) y106)
     else
     some (a5, ([], (true, 0))))
    else
    (F99_l0_2 K a5 r90.1.only_ r105 K [] 0).bind fun y109 =>
    Sum.elim (fun w110 =>
     some (0, ([], (false, 8))))
     (fun w111 =>
     some (a5, (w111, (true, 0)))) y109)
   else
   some (a5, ([], (true, 0))))
  else
  bif (areFns [r90.1.start_, r90.1.better_, r90.1.send_] [164, 165, 163]) then
   ((F68 K a1 a4).bind fun r112 =>
   bif (ieq a3 0) then
    (bif r90.1.only_ then
     (bif (ieq a4 a2.Source) then
      ((F99_l0_3 K a5 r90.1.only_ r112 K [] 0).bind fun y113 =>
      Sum.elim (fun w114 =>
       some (0, ([], (false, 8))))
       (fun w115 =>
       some (a5, (w115, (true, 0)))) y113)
     else
     some (a5, ([], (true, 0))))
    else
    (F99_l0_3 K a5 r90.1.only_ r112 K [] 0).bind fun y116 =>
    Sum.elim (fun w117 =>
     some (0, ([], (false, 8))))
     (fun w118 =>
     some (a5, (w118, (true, 0)))) y116)
   else
   some (a5, ([], (true, 0))))
  else
  bif (areFns [r90.1.start_, r90.1.better_, r90.1.send_] [166, 0, 163]) then
   ((F68 K a1 a4).bind fun r119 =>
   (F146 K r119 a3 a5 0).bind fun r120 =>
   some (r120.1, (r120.2.1, (r120.2.2.1, r120.2.2.2))))
  else
  bif (areFns [r90.1.start_, r90.1.better_, r90.1.send_] [0, 0, 0]) then
  (F68 K a1 a4).bind fun r121 =>
  (F146 K r121 a3 a5 0).bind fun r122 =>
  some (r122.1, (r122.2.1, (r122.2.2.1, r122.2.2.2)))
  else none)
 else
 some (0, ([], (false, r8)))
end Go.Proofs.Ytnjanliihnadjaa.Tm

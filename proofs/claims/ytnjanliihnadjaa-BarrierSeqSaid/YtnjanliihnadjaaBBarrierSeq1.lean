/- What the row of BarrierSeq leans on: printed functions and plain laws. Conditions: none. -/
import Derived.Test.YtnjanliihnadjaaTy
import Derived.Test.YtnjanliihnadjaaTab
import Derived.Test.YtnjanliihnadjaaKn
import Derived.Test.YtnjanliihnadjaaWf
import Derived.IntWalk
import Derived.KernelRfl
import Derived.OpenShut
set_option linter.unusedVariables false
set_option linter.unusedSimpArgs false
namespace Go.Proofs.Ytnjanliihnadjaa.Tm
open Go
abbrev PQ (h : Hint) (f : List Cond → List Cond) : Prop := ∀ {l : List Cond}, HoldAll E H h l → HoldAll E H h (f l)
theorem elAt_nat {α : Type} (l : List α) (i : Nat) : elAt l (i : Int) = l[i]? := by simp [elAt]
theorem wadd_ok {a b : Int} (h1 : -9223372036854775808 ≤ a + b) (h2 : a + b < 9223372036854775808) : wadd .i64 a b = a + b := by
 show IntKind.i64.wrap (a + b) = a + b
 rw [IntKind.wrap_i64]
 omega
theorem wadd_nat {i : Nat} (h : i < 4611686018427387904) : wadd .i64 (i : Int) 1 = ((i + 1 : Nat) : Int) := by
 rw [wadd_ok (by omega) (by omega)]; simp
theorem at_idx {α : Type} (l : List α) (i : Nat) :
   (∃ x, l.drop i = x :: l.drop (i + 1) ∧ ilt (i : Int) (nlen (len l)) = true ∧ inr (i : Int) (len l) = true ∧ elAt l (i : Int) = some x) ∨
   (l.drop i = [] ∧ ilt (i : Int) (nlen (len l)) = false) := by
 by_cases h : i < l.length
 · left
   refine ⟨l[i], List.drop_eq_getElem_cons h, ?_, ?_, ?_⟩
   · simp [ilt, nlen, len]; omega
   · simp [inr, len]; omega
   · rw [elAt_nat]; simp [h]
 · right
   refine ⟨List.drop_eq_nil_of_le (by omega), ?_⟩
   simp [ilt, nlen, len]; omega
def goI {α σ β : Type} (step : Nat → α → σ → (σ → Option β) → Option β) (fin : σ → Option β) : Nat → List α → σ → Option β
 | _, [], s => fin s
 | i, x :: r, s => step i x s (goI step fin (i + 1) r)
def goL {α σ β : Type} (step : α → σ → (σ → Option β) → Option β) (fin : σ → Option β) : List α → σ → Option β
 | [], s => fin s
 | x :: r, s => step x s (goL step fin r)
theorem lt_of_drop' {α : Type} {l : List α} {i : Nat} {x : α} {r : List α} (h : l.drop i = x :: r) : i < l.length := by
 rcases Nat.lt_or_ge i l.length with g | g
 · exact g
 · rw [List.drop_eq_nil_of_le g] at h; cases h
theorem scanI {α σ β : Type} {l : List α} {L : Nat → σ → Int → Option β} (step : Nat → α → σ → (σ → Option β) → Option β) (fin : σ → Option β)
   (h : ∀ k s (i : Nat), i ≤ l.length → L (k + 1) s i = bif ilt i (nlen (len l)) then (bif inr i (len l) then (elAt l i).bind fun x => step i x s (fun s' => L k s' (wadd .i64 i 1)) else none) else fin s)
   (hl : l.length < 4611686018427387904) : ∀ (k : Nat) (s : σ) (i : Nat), l.length - i < k → i ≤ l.length → L k s i = goI step fin i (l.drop i) s := by
 intro k
 induction k with
 | zero => intro s i h; omega
 | succ k ih =>
   intro s i hk hi
   rw [h k s i hi]
   rcases at_idx l i with ⟨x, e1, e2, e3, e4⟩ | ⟨e1, e2⟩
   · have hlt := lt_of_drop' e1
     rw [e1, e2, e3, e4]
     simp only [cond_true, Option.bind_some, goI]
     congr 1
     funext s'
     rw [wadd_nat (by omega)]
     exact ih s' (i + 1) (by omega) (by omega)
   · rw [e1, e2]; rfl
theorem scanL {α σ β : Type} {l : List α} {L : Nat → σ → Int → Option β} (step : α → σ → (σ → Option β) → Option β) (fin : σ → Option β)
   (h : ∀ k s (i : Nat), i ≤ l.length → L (k + 1) s i = bif ilt i (nlen (len l)) then (bif inr i (len l) then (elAt l i).bind fun x => step x s (fun s' => L k s' (wadd .i64 i 1)) else none) else fin s)
   (hl : l.length < 4611686018427387904) {K : Nat} (hK : l.length < K) (s : σ) : L K s 0 = goL step fin l s := by
 have e : ∀ (i : Nat) (r : List α) (s : σ), goI (fun _ => step) fin i r s = goL step fin r s := by
   intro i r
   induction r generalizing i with
   | nil => intro s; rfl
   | cons x r ih =>
     intro s
     simp only [goI, goL]
     congr 1
     funext s'
     exact ih (i + 1) s'
 have := scanI (fun _ => step) fin h hl K s 0 (by omega) (by omega)
 rw [e, List.drop_zero] at this
 exact this
theorem ilt_not' (a b : Int) : ilt a b = !(ile b a) := by
 unfold ilt ile
 by_cases h : a < b <;> simp [h] <;> omega
theorem ieq_refl (a : Int) : ieq a a = true := by simp [ieq]
theorem ile_iff {a b : Int} : ile a b = true ↔ a ≤ b := decide_eq_true_iff
theorem ilt_iff {a b : Int} : ilt a b = true ↔ a < b := decide_eq_true_iff
theorem ieq_iff {a b : Int} : ieq a b = true ↔ a = b := by simp [ieq]
theorem ile_f {a b : Int} : ile a b = false ↔ b < a := by simp [ile]
theorem ilt_f {a b : Int} : ilt a b = false ↔ b ≤ a := by simp [ilt]
theorem ieq_f {a b : Int} : ieq a b = false ↔ a ≠ b := by simp [ieq]
theorem sorted_ext {α : Type} {lt : α → α → Prop} (asym : ∀ a b, lt a b → ¬ lt b a) : ∀ {l l' : List α}, l.Pairwise lt → l'.Pairwise lt → (∀ x, x ∈ l ↔ x ∈ l') → l = l'
 | [], [], _, _, _ => rfl
 | [], b :: l', _, _, h => absurd ((h b).2 List.mem_cons_self) (by simp)
 | a :: l, [], _, _, h => absurd ((h a).1 List.mem_cons_self) (by simp)
 | a :: l, b :: l', h1, h2, h => by
   obtain ⟨p1, p2⟩ := List.pairwise_cons.1 h1
   obtain ⟨q1, q2⟩ := List.pairwise_cons.1 h2
   have hab : a = b := by
     rcases List.mem_cons.1 ((h a).1 List.mem_cons_self) with e | e
     · exact e
     · rcases List.mem_cons.1 ((h b).2 List.mem_cons_self) with e' | e'
       · exact e'.symm
       · exact absurd (p1 b e') (asym _ _ (q1 a e))
   subst hab
   congr 1
   refine sorted_ext asym p2 q2 fun x => ⟨fun hx => ?_, fun hx => ?_⟩
   · rcases List.mem_cons.1 ((h x).1 (List.mem_cons_of_mem _ hx)) with e | e
     · subst e; exact absurd (p1 x hx) (fun q => asym _ _ q q)
     · exact e
   · rcases List.mem_cons.1 ((h x).2 (List.mem_cons_of_mem _ hx)) with e | e
     · subst e; exact absurd (q1 x hx) (fun q => asym _ _ q q)
     · exact e
noncomputable def hn151 : Hint := { H 151 with nt := 25, prot := 0 }
noncomputable def c151_0 : Code := loopOf E 151 0
def F151_res (r1 : Int × Bool) : Res := ⟨[(.one (.im (.lit (.int .i64 r1.1)))), (.one (.im (.lit (.bool r1.2))))], []⟩
def F151_l0_0 (K : Nat) (a1 : List GMsg) (a2 : Int) : Nat → Int → Option ((Int) ⊕ (Unit))
 | 0, _ => none
 | k + 1, v3 =>
  bif (ilt v3 (nlen (len a1))) then
   (bif (inr v3 (len a1)) then
   (elAt a1 v3).bind fun x4 =>
   bif (ieq x4.To a2) then
    (some (.inl x4.V))
   else
   F151_l0_0 K a1 a2 k (wadd .i64 v3 1)
   else none)
  else
  some (.inr ())
def F151_l0_0_S (a1 : List GMsg) (a2 : Int) (v3 : Int) : TS := .on [0, 1, 64, 65, 384, 385] [(0, ⟨.one, 0, nob⟩), (1, ⟨.im, 0, (.sl (len a1) (flat eGMsg a1))⟩), (64, ⟨.one, 0, nob⟩), (65, ⟨.im, 0, (.lit (.int .i64 a2))⟩), (384, ⟨.one, 0, nob⟩), (385, ⟨.im, 0, (.lit (.int .i64 v3))⟩)]
def F151_l0_0_X0 (a1 : List GMsg) (a2 : Int) (w3 : Int) : TS := .on [256, 257, 320, 321] [(256, ⟨.one, 0, nob⟩), (257, ⟨.im, 0, (.lit (.int .i64 w3))⟩), (320, ⟨.one, 0, nob⟩), (321, ⟨.im, 0, (.lit (.bool true))⟩)]
def F151_l0_0_X1 (a1 : List GMsg) (a2 : Int) (w3 : Unit) : TS := .on [] []
theorem F151_l0_0_ok (K : Nat) (a1 : List GMsg) (a2 : Int) : ∀ (k : Nat) (v3 : Int) (r : (Int) ⊕ (Unit)), F151_l0_0 K a1 a2 k v3 = some r → (Sum.elim (fun w => LoopEv E H hn151 0 c151_0 (F151_l0_0_S a1 a2 v3) .ret (F151_l0_0_X0 a1 a2 w)) (fun w => LoopEv E H hn151 0 c151_0 (F151_l0_0_S a1 a2 v3) (.exit 0) (F151_l0_0_X1 a1 a2 w))) r := by
 intro k
 induction k with
 | zero => intro v3 r hF; cases hF
 | succ k ih =>
  intro v3 r hF
  rw [F151_l0_0] at hF
  refine cond_some hF (fun h4 hF => ?_) (fun h4 hF => ?_)
  ·
   refine cond_some hF (fun h5 hF => ?_) (fun _ hF => nomatch hF)
   refine bind_some hF (fun x6 h7 hF => ?_)
   have q9 : PQ hn151 fun l => (.int (nlen (len a1)) (nlen (len a1)) :: .test (ilt v3 (nlen (len a1))) true :: .test (inr v3 (len a1)) true :: .sub (flat eGMsg a1) (nadd (nidx v3 2) 0) 1 [(.lit (.int .i64 x6.To))] :: l) := fun z => ⟨rfl, h4, h5, ⟨rfl, sub_flat eGMsg_len h7 0 1 (by decide)⟩, z⟩
   refine cond_some hF (fun h8 hF => ?_) (fun h8 hF => ?_)
   ·
    obtain rfl := Option.some.inj hF
    have pz : HoldAll E H hn151 [.test (ieq x6.To a2) true, .test (inr v3 (len a1)) true, .sub (flat eGMsg a1) (nadd (nidx v3 2) 1) 1 [(.lit (.int .i64 x6.V))]] := ⟨h8, h5, ⟨rfl, sub_flat eGMsg_len h7 1 1 (by decide)⟩, trivial⟩
    exact loop_endC (h := hn151) (l := 0) (c := c151_0) (ts := F151_l0_0_S a1 a2 v3) (ts' := F151_l0_0_X0 a1 a2 x6.V) (ex := .ret) (q9 pz) (by kernel_rfl) trivial
   have pz : HoldAll E H hn151 [.test (ieq x6.To a2) false, .int (wadd .i64 v3 1) (wadd .i64 v3 1)] := ⟨h8, rfl, trivial⟩
   have h0 := ih _ _ hF
   have hn := fun ex ts' => loop_nextC (h := hn151) (l := 0) (c := c151_0) (ts := F151_l0_0_S a1 a2 v3) (ts1 := (F151_l0_0_S a1 a2 (wadd .i64 v3 1))) (ex := ex) (ts' := ts') (q9 pz) (by kernel_rfl)
   cases r with
   | inl w => exact hn _ _ h0
   | inr w => exact hn _ _ h0
  obtain rfl := Option.some.inj hF
  have pz : HoldAll E H hn151 [.int (nlen (len a1)) (nlen (len a1)), .test (ilt v3 (nlen (len a1))) false] := ⟨rfl, h4, trivial⟩
  exact loop_endC (h := hn151) (l := 0) (c := c151_0) (ts := F151_l0_0_S a1 a2 v3) (ts' := F151_l0_0_X1 a1 a2 ()) (ex := (.exit 0)) pz (by kernel_rfl) trivial
def F151 (K : Nat) (a1 : List GMsg) (a2 : Int) : Option (Int × Bool) :=
 (F151_l0_0 K a1 a2 K 0).bind fun y3 =>
 Sum.elim (fun w4 =>
  some (w4, true))
  (fun w5 =>
  some (0, false)) y3
theorem F151_ok (K : Nat) (a1 : List GMsg) (a2 : Int) (r : Int × Bool) (hF : F151 K a1 a2 = some r) : Evt E H 151 [.one (.sl (len a1) (flat eGMsg a1)), .one (.lit (.int .i64 a2))] (F151_res r) := by
 rw [F151] at hF
 refine bind_some hF (fun y4 h3 hF => ?_)
 refine sum_some hF (fun w5 hx hF => ?_) (fun w6 hx hF => ?_)
 ·
  subst hx
  obtain rfl := Option.some.inj hF
  have pz : HoldAll E H hn151 [.loop 0 c151_0 (F151_l0_0_S a1 a2 0) .ret (F151_l0_0_X0 a1 a2 w5)] := ⟨(F151_l0_0_ok K a1 a2 K 0 _ h3), trivial⟩
  exact fn_playC hn151 (r := F151_res (w5, true)) pz (by kernel_rfl) (by kernel_rfl)
 subst hx
 obtain rfl := Option.some.inj hF
 have pz : HoldAll E H hn151 [.loop 0 c151_0 (F151_l0_0_S a1 a2 0) (.exit 0) (F151_l0_0_X1 a1 a2 w6)] := ⟨(F151_l0_0_ok K a1 a2 K 0 _ h3), trivial⟩
 exact fn_playC hn151 (r := F151_res (0, false)) pz (by kernel_rfl) (by kernel_rfl)
noncomputable def hn91 : Hint := { H 91 with nt := 66, prot := 0 }
noncomputable def c91_0 : Code := loopOf E 91 0
noncomputable def c91_1 : Code := loopOf E 91 1
def F91_res (r1 : List GMsg) : Res := ⟨[(.one (.own 130 (.sl (len r1) (flat eGMsg r1))))], []⟩
def F91_l1_1 (K : Nat) (a1 : List GMsg) (v2 : Int) : Nat → List GMsg → Int → Option (List GMsg)
 | 0, _, _ => none
 | k + 1, v3, v4 =>
  bif (ilt 0 v4) then
   (bif (inr (wsub .i64 v4 1) (len v3)) then
   (elAt v3 (wsub .i64 v4 1)).bind fun x5 =>
   bif (inr v4 (len v3)) then
   (elAt v3 v4).bind fun x6 =>
   bif (ilt x5.To x6.To) then
    (some v3)
   else
   bif (ieq x5.To x6.To) then
    (bif (ile x5.V x6.V) then
     (some v3)
    else
    bif (inr v4 (len (α := GMsg) (putAt v3 (wsub .i64 v4 1) x6))) then
    (elAt (putAt v3 (wsub .i64 v4 1) x6) v4).bind fun x7 =>
    F91_l1_1 K a1 v2 k (putAt (putAt v3 (wsub .i64 v4 1) x6) v4 x5) (wsub .i64 v4 1)
    else none)
   else
   bif (inr v4 (len (α := GMsg) (putAt v3 (wsub .i64 v4 1) x6))) then
   (elAt (putAt v3 (wsub .i64 v4 1) x6) v4).bind fun x8 =>
   F91_l1_1 K a1 v2 k (putAt (putAt v3 (wsub .i64 v4 1) x6) v4 x5) (wsub .i64 v4 1)
   else none
   else none
   else none)
  else
  some v3
def F91_l1_1_S (a1 : List GMsg) (v2 : Int) (v3 : List GMsg) (v4 : Int) : TS := .on [0, 1, 192, 193, 256, 257, 320, 321] [(0, ⟨.one, 0, nob⟩), (1, ⟨.im, 0, (.sl (len a1) (flat eGMsg a1))⟩), (192, ⟨.one, 0, nob⟩), (193, ⟨(.own 130), 0, (.sl (len v3) (flat eGMsg v3))⟩), (256, ⟨.one, 0, nob⟩), (257, ⟨.im, 0, (.lit (.int .i64 v2))⟩), (320, ⟨.one, 0, nob⟩), (321, ⟨.im, 0, (.lit (.int .i64 v4))⟩)]
def F91_l1_1_X0 (a1 : List GMsg) (v2 : Int) (w3 : List GMsg) : TS := .on [0, 1, 192, 193, 256, 257] [(0, ⟨.one, 0, nob⟩), (1, ⟨.im, 0, (.sl (len a1) (flat eGMsg a1))⟩), (192, ⟨.one, 0, nob⟩), (193, ⟨(.own 130), 0, (.sl (len w3) (flat eGMsg w3))⟩), (256, ⟨.one, 0, nob⟩), (257, ⟨.im, 0, (.lit (.int .i64 v2))⟩)]
theorem F91_l1_1_ok (K : Nat) (a1 : List GMsg) (v2 : Int) : ∀ (k : Nat) (v3 : List GMsg) (v4 : Int) (r : List GMsg), F91_l1_1 K a1 v2 k v3 v4 = some r → LoopEv E H hn91 2 c91_1 (F91_l1_1_S a1 v2 v3 v4) (.exit 2) (F91_l1_1_X0 a1 v2 r) := by
 intro k
 induction k with
 | zero => intro v3 v4 r hF; cases hF
 | succ k ih =>
  intro v3 v4 r hF
  rw [F91_l1_1] at hF
  refine cond_some hF (fun h5 hF => ?_) (fun h5 hF => ?_)
  ·
   refine cond_some hF (fun h6 hF => ?_) (fun _ hF => nomatch hF)
   refine bind_some hF (fun x7 h8 hF => ?_)
   refine cond_some hF (fun h9 hF => ?_) (fun _ hF => nomatch hF)
   refine bind_some hF (fun x10 h11 hF => ?_)
   have q21 : PQ hn91 fun l => (.test (igt v4 0) true :: .int (wsub .i64 v4 1) (wsub .i64 v4 1) :: .test (inr (wsub .i64 v4 1) (len v3)) true :: .sub (flat eGMsg v3) (nidx (wsub .i64 v4 1) 2) 2 [(.lit (.int .i64 x7.To)), (.lit (.int .i64 x7.V))] :: .test (inr v4 (len v3)) true :: .sub (flat eGMsg v3) (nidx v4 2) 2 [(.lit (.int .i64 x10.To)), (.lit (.int .i64 x10.V))] :: l) := fun z => ⟨(igt_eq h5), rfl, h6, ⟨rfl, sub_flat0 eGMsg_len h8 2 (by decide)⟩, h9, ⟨rfl, sub_flat0 eGMsg_len h11 2 (by decide)⟩, z⟩
   refine cond_some hF (fun h12 hF => ?_) (fun h12 hF => ?_)
   ·
    obtain rfl := Option.some.inj hF
    have pz : HoldAll E H hn91 [.test (beqb (ilt x7.To x10.To) false) false, .test (beqb (ilt x7.To x10.To) false) false, .test (beqb (ilt x7.To x10.To) false) false, .test (beqb (ilt x7.To x10.To) false) false, .test (beqb (ilt x7.To x10.To) false) false, .test (beqb (ilt x7.To x10.To) false) false, .test (beqb (ilt x7.To x10.To) false) false, .test (ilt x7.To x10.To) true, .test true true] := ⟨(beqb_ft h12), (beqb_ft h12), (beqb_ft h12), (beqb_ft h12), (beqb_ft h12), (beqb_ft h12), (beqb_ft h12), h12, rfl, trivial⟩
    exact loop_endC (h := hn91) (l := 2) (c := c91_1) (ts := F91_l1_1_S a1 v2 v3 v4) (ts' := F91_l1_1_X0 a1 v2 v3) (ex := (.exit 2)) (q21 pz) (by kernel_rfl) trivial
   have q22 : PQ hn91 fun l => (.test (beqb (ilt x7.To x10.To) false) true :: .test (beqb (ilt x7.To x10.To) false) true :: .test (beqb (ilt x7.To x10.To) false) true :: .test (beqb (ilt x7.To x10.To) false) true :: .test (beqb (ilt x7.To x10.To) false) true :: .test (beqb (ilt x7.To x10.To) false) true :: l) := fun z => ⟨(beqb_ff h12), (beqb_ff h12), (beqb_ff h12), (beqb_ff h12), (beqb_ff h12), (beqb_ff h12), z⟩
   refine cond_some hF (fun h13 hF => ?_) (fun h13 hF => ?_)
   ·
    have q23 : PQ hn91 fun l => (.test (beqb (ieq x7.To x10.To) true) true :: .test (beqb (ieq x7.To x10.To) true) true :: .test (beqb (ieq x7.To x10.To) true) true :: .test (beqb (ieq x7.To x10.To) true) true :: .test (beqb (ieq x7.To x10.To) true) true :: .test (beqb (ilt x7.To x10.To) false) true :: .test (ieq x7.To x10.To) true :: .test (ilt x7.To x10.To) false :: l) := fun z => ⟨(beqb_t h13), (beqb_t h13), (beqb_t h13), (beqb_t h13), (beqb_t h13), (beqb_ff h12), h13, h12, z⟩
    refine cond_some hF (fun h14 hF => ?_) (fun h14 hF => ?_)
    ·
     obtain rfl := Option.some.inj hF
     have pz : HoldAll E H hn91 [.test (ile x7.V x10.V) true] := ⟨h14, trivial⟩
     exact loop_endC (h := hn91) (l := 2) (c := c91_1) (ts := F91_l1_1_S a1 v2 v3 v4) (ts' := F91_l1_1_X0 a1 v2 v3) (ex := (.exit 2)) (q21 (q22 (q23 pz))) (by kernel_rfl) trivial
    refine cond_some hF (fun h15 hF => ?_) (fun _ hF => nomatch hF)
    refine bind_some hF (fun x16 h17 hF => ?_)
    have pz : HoldAll E H hn91 [.test (ile x7.V x10.V) false, .int (wsub .i64 v4 1) (wsub .i64 v4 1), .test (inr (wsub .i64 v4 1) (len v3)) true, .test (lfits (nidx (wsub .i64 v4 1) 2) 2 (flat eGMsg v3)) true, .sl (len v3) (lset (flat eGMsg v3) (nidx (wsub .i64 v4 1) 2) [(.lit (.int .i64 x10.To)), (.lit (.int .i64 x10.V))]) (len (α := GMsg) (putAt v3 (wsub .i64 v4 1) x10)) (flat eGMsg (putAt v3 (wsub .i64 v4 1) x10)), .test (inr v4 (len (α := GMsg) (putAt v3 (wsub .i64 v4 1) x10))) true, .test (lfits (nidx v4 2) 2 (flat eGMsg (putAt v3 (wsub .i64 v4 1) x10))) true, .sl (len (α := GMsg) (putAt v3 (wsub .i64 v4 1) x10)) (lset (flat eGMsg (putAt v3 (wsub .i64 v4 1) x10)) (nidx v4 2) [(.lit (.int .i64 x7.To)), (.lit (.int .i64 x7.V))]) (len (α := GMsg) (putAt (putAt v3 (wsub .i64 v4 1) x10) v4 x7)) (flat eGMsg (putAt (putAt v3 (wsub .i64 v4 1) x10) v4 x7)), .int (wsub .i64 v4 1) (wsub .i64 v4 1)] := ⟨h14, rfl, h6, (lfits_flat0 eGMsg_len h8 _ (by decide)), (set_ok0 eGMsg_len h8 _ (by simp) rfl), h15, (lfits_flat0 eGMsg_len h17 _ (by decide)), (set_ok0 eGMsg_len h17 _ (by simp) rfl), rfl, trivial⟩
    have h0 := ih _ _ _ hF
    have hn := fun ex ts' => loop_nextC (h := hn91) (l := 2) (c := c91_1) (ts := F91_l1_1_S a1 v2 v3 v4) (ts1 := (F91_l1_1_S a1 v2 (putAt (putAt v3 (wsub .i64 v4 1) x10) v4 x7) (wsub .i64 v4 1))) (ex := ex) (ts' := ts') (q21 (q22 (q23 pz))) (by kernel_rfl)
    exact hn _ _ h0
   refine cond_some hF (fun h18 hF => ?_) (fun _ hF => nomatch hF)
   refine bind_some hF (fun x19 h20 hF => ?_)
   have pz : HoldAll E H hn91 [.test (beqb (ieq x7.To x10.To) true) false, .test (beqb (ieq x7.To x10.To) true) false, .test (beqb (ieq x7.To x10.To) true) false, .test (beqb (ieq x7.To x10.To) true) false, .test (beqb (ieq x7.To x10.To) true) false, .test (beqb (ilt x7.To x10.To) false) true, .test (ieq x7.To x10.To) false, .test (ilt x7.To x10.To) false, .test false false, .int (wsub .i64 v4 1) (wsub .i64 v4 1), .test (inr (wsub .i64 v4 1) (len v3)) true, .test (lfits (nidx (wsub .i64 v4 1) 2) 2 (flat eGMsg v3)) true, .sl (len v3) (lset (flat eGMsg v3) (nidx (wsub .i64 v4 1) 2) [(.lit (.int .i64 x10.To)), (.lit (.int .i64 x10.V))]) (len (α := GMsg) (putAt v3 (wsub .i64 v4 1) x10)) (flat eGMsg (putAt v3 (wsub .i64 v4 1) x10)), .test (inr v4 (len (α := GMsg) (putAt v3 (wsub .i64 v4 1) x10))) true, .test (lfits (nidx v4 2) 2 (flat eGMsg (putAt v3 (wsub .i64 v4 1) x10))) true, .sl (len (α := GMsg) (putAt v3 (wsub .i64 v4 1) x10)) (lset (flat eGMsg (putAt v3 (wsub .i64 v4 1) x10)) (nidx v4 2) [(.lit (.int .i64 x7.To)), (.lit (.int .i64 x7.V))]) (len (α := GMsg) (putAt (putAt v3 (wsub .i64 v4 1) x10) v4 x7)) (flat eGMsg (putAt (putAt v3 (wsub .i64 v4 1) x10) v4 x7)), .int (wsub .i64 v4 1) (wsub .i64 v4 1)] := ⟨(beqb_t h13), (beqb_t h13), (beqb_t h13), (beqb_t h13), (beqb_t h13), (beqb_ff h12), h13, h12, rfl, rfl, h6, (lfits_flat0 eGMsg_len h8 _ (by decide)), (set_ok0 eGMsg_len h8 _ (by simp) rfl), h18, (lfits_flat0 eGMsg_len h20 _ (by decide)), (set_ok0 eGMsg_len h20 _ (by simp) rfl), rfl, trivial⟩
   have h0 := ih _ _ _ hF
   have hn := fun ex ts' => loop_nextC (h := hn91) (l := 2) (c := c91_1) (ts := F91_l1_1_S a1 v2 v3 v4) (ts1 := (F91_l1_1_S a1 v2 (putAt (putAt v3 (wsub .i64 v4 1) x10) v4 x7) (wsub .i64 v4 1))) (ex := ex) (ts' := ts') (q21 (q22 pz)) (by kernel_rfl)
   exact hn _ _ h0
  obtain rfl := Option.some.inj hF
  have pz : HoldAll E H hn91 [.test (igt v4 0) false] := ⟨(igt_eq h5), trivial⟩
  exact loop_endC (h := hn91) (l := 2) (c := c91_1) (ts := F91_l1_1_S a1 v2 v3 v4) (ts' := F91_l1_1_X0 a1 v2 v3) (ex := (.exit 2)) pz (by kernel_rfl) trivial
def F91_l0_0 (K : Nat) (a1 : List GMsg) : Nat → List GMsg → Int → Option (List GMsg)
 | 0, _, _ => none
 | k + 1, v2, v3 =>
  bif (ilt v3 (nlen (len a1))) then
   (bif (inr v3 (len a1)) then
   (elAt a1 v3).bind fun x4 =>
   bif (apok (len v2) 1 16) then
   (F91_l1_1 K a1 v3 K (appL v2 [x4]) (wsub .i64 (nlen (len (α := GMsg) (appL v2 [x4]))) 1)).bind fun w5 =>
   F91_l0_0 K a1 k w5 (wadd .i64 v3 1)
   else none
   else none)
  else
  some v2
def F91_l0_0_S (a1 : List GMsg) (v2 : List GMsg) (v3 : Int) : TS := .on [0, 1, 192, 193, 256, 257] [(0, ⟨.one, 0, nob⟩), (1, ⟨.im, 0, (.sl (len a1) (flat eGMsg a1))⟩), (192, ⟨.one, 0, nob⟩), (193, ⟨(.own 130), 0, (.sl (len v2) (flat eGMsg v2))⟩), (256, ⟨.one, 0, nob⟩), (257, ⟨.im, 0, (.lit (.int .i64 v3))⟩)]
def F91_l0_0_X0 (a1 : List GMsg) (w2 : List GMsg) : TS := .on [192, 193] [(192, ⟨.one, 0, nob⟩), (193, ⟨(.own 130), 0, (.sl (len w2) (flat eGMsg w2))⟩)]
theorem F91_l0_0_ok (K : Nat) (a1 : List GMsg) : ∀ (k : Nat) (v2 : List GMsg) (v3 : Int) (r : List GMsg), F91_l0_0 K a1 k v2 v3 = some r → LoopEv E H hn91 0 c91_0 (F91_l0_0_S a1 v2 v3) (.exit 0) (F91_l0_0_X0 a1 r) := by
 intro k
 induction k with
 | zero => intro v2 v3 r hF; cases hF
 | succ k ih =>
  intro v2 v3 r hF
  rw [F91_l0_0] at hF
  refine cond_some hF (fun h4 hF => ?_) (fun h4 hF => ?_)
  ·
   refine cond_some hF (fun h5 hF => ?_) (fun _ hF => nomatch hF)
   refine bind_some hF (fun x6 h7 hF => ?_)
   refine cond_some hF (fun h8 hF => ?_) (fun _ hF => nomatch hF)
   refine bind_some hF (fun w10 h9 hF => ?_)
   have pz : HoldAll E H hn91 [.int (nlen (len a1)) (nlen (len a1)), .test (ilt v3 (nlen (len a1))) true, .test (inr v3 (len a1)) true, .sub (flat eGMsg a1) (nidx v3 2) 2 [(.lit (.int .i64 x6.To)), (.lit (.int .i64 x6.V))], .test (leqm [(.lit (.int .i64 x6.To)), (.lit (.int .i64 x6.V))] 1 2) true, .test (apok (len v2) 1 16) true, .sl (nadd (len v2) 1) (lapp (flat eGMsg v2) [(.lit (.int .i64 x6.To)), (.lit (.int .i64 x6.V))]) (len (α := GMsg) (appL v2 [x6])) (flat eGMsg (appL v2 [x6])), .int (nlen (len (α := GMsg) (appL v2 [x6]))) (nlen (len (α := GMsg) (appL v2 [x6]))), .int (wsub .i64 (nlen (len (α := GMsg) (appL v2 [x6]))) 1) (wsub .i64 (nlen (len (α := GMsg) (appL v2 [x6]))) 1), .loop 2 c91_1 (F91_l1_1_S a1 v3 (appL v2 [x6]) (wsub .i64 (nlen (len (α := GMsg) (appL v2 [x6]))) 1)) (.exit 2) (F91_l1_1_X0 a1 v3 w10), .int (wadd .i64 v3 1) (wadd .i64 v3 1)] := ⟨rfl, h4, h5, ⟨rfl, sub_flat0 eGMsg_len h7 2 (by decide)⟩, rfl, h8, (app_ok (enc := eGMsg) (v2 : List GMsg) [x6]), rfl, rfl, (F91_l1_1_ok K a1 v3 K (appL v2 [x6]) (wsub .i64 (nlen (len (α := GMsg) (appL v2 [x6]))) 1) _ h9), rfl, trivial⟩
   have h0 := ih _ _ _ hF
   have hn := fun ex ts' => loop_nextC (h := hn91) (l := 0) (c := c91_0) (ts := F91_l0_0_S a1 v2 v3) (ts1 := (F91_l0_0_S a1 w10 (wadd .i64 v3 1))) (ex := ex) (ts' := ts') pz (by kernel_rfl)
   exact hn _ _ h0
  obtain rfl := Option.some.inj hF
  have pz : HoldAll E H hn91 [.int (nlen (len a1)) (nlen (len a1)), .test (ilt v3 (nlen (len a1))) false] := ⟨rfl, h4, trivial⟩
  exact loop_endC (h := hn91) (l := 0) (c := c91_0) (ts := F91_l0_0_S a1 v2 v3) (ts' := F91_l0_0_X0 a1 v2) (ex := (.exit 0)) pz (by kernel_rfl) trivial
def F91 (K : Nat) (a1 : List GMsg) : Option (List GMsg) :=
 (F91_l0_0 K a1 K [] 0).bind fun w2 =>
 some w2
theorem F91_ok (K : Nat) (a1 : List GMsg) (r : List GMsg) (hF : F91 K a1 = some r) : Evt E H 91 [.one (.sl (len a1) (flat eGMsg a1))] (F91_res r) := by
 rw [F91] at hF
 refine bind_some hF (fun w3 h2 hF => ?_)
 obtain rfl := Option.some.inj hF
 have pz : HoldAll E H hn91 [.loop 0 c91_0 (F91_l0_0_S a1 [] 0) (.exit 0) (F91_l0_0_X0 a1 w3)] := ⟨(F91_l0_0_ok K a1 K [] 0 _ h2), trivial⟩
 exact fn_playC hn91 (r := F91_res w3) pz (by kernel_rfl) (by kernel_rfl)
def leM (a b : GMsg) : Bool := ilt a.To b.To || (ieq a.To b.To && ile a.V b.V)
theorem leM_iff {a b : GMsg} : leM a b = true ↔ a.To < b.To ∨ a.To = b.To ∧ a.V ≤ b.V := by simp [leM, ilt, ieq, ile]
theorem leM_f {a b : GMsg} : leM a b = false ↔ ¬ (a.To < b.To ∨ a.To = b.To ∧ a.V ≤ b.V) := by rw [← leM_iff]; simp
theorem leM_trans {a b c : GMsg} (h : leM a b = true) (g : leM b c = true) : leM a c = true := by rw [leM_iff] at *; omega
theorem leM_total {a b : GMsg} (h : leM a b = false) : leM b a = true := by rw [leM_f] at h; rw [leM_iff]; omega
def srtM (l : List GMsg) : Prop := l.Pairwise fun a b => leM a b = true
def bubR : List GMsg → GMsg → List GMsg → List GMsg
 | [], x, Q => x :: Q
 | y :: R, x, Q => bif leM y x then (y :: R).reverse ++ x :: Q else bubR R x (y :: Q)
def sortM (l : List GMsg) : List GMsg := l.foldl (fun acc x => bubR acc.reverse x []) []
theorem bubR_perm (x : GMsg) : ∀ (R Q : List GMsg), (bubR R x Q).Perm (R.reverse ++ x :: Q)
 | [], Q => List.Perm.refl _
 | y :: R, Q => by
   rw [bubR]
   cases leM y x
   · refine (bubR_perm x R (y :: Q)).trans ?_
     rw [List.reverse_cons, List.append_assoc]
     exact List.Perm.append_left _ (List.Perm.swap y x Q)
   · exact List.Perm.refl _
theorem bubR_srt (x : GMsg) : ∀ (R Q : List GMsg), srtM (R.reverse ++ Q) → (∀ q ∈ Q, leM x q = true) → srtM (bubR R x Q)
 | [], Q, h, hx => List.pairwise_cons.2 ⟨hx, h⟩
 | y :: R, Q, h, hx => by
   rw [bubR]
   cases hy : leM y x
   · refine bubR_srt x R (y :: Q) ?_ fun q hq => ?_
     · rw [List.reverse_cons, List.append_assoc] at h; exact h
     · rcases List.mem_cons.1 hq with e | e
       · subst e; exact leM_total hy
       · exact hx q e
   · obtain ⟨h1, h2, h3⟩ := List.pairwise_append.1 h
     refine List.pairwise_append.2 ⟨h1, List.pairwise_cons.2 ⟨hx, h2⟩, fun a ha b hb => ?_⟩
     have hay : a = y ∨ leM a y = true := by
       rw [List.reverse_cons] at ha h1
       obtain ⟨_, _, h6⟩ := List.pairwise_append.1 h1
       rcases List.mem_append.1 ha with e | e
       · exact .inr (h6 a e y (by simp))
       · exact .inl (List.mem_singleton.1 e)
     rcases List.mem_cons.1 hb with e | e
     · subst e
       rcases hay with e | e
       · subst e; exact hy
       · exact leM_trans e hy
     · exact h3 a ha b e
theorem sort_go : ∀ (l acc : List GMsg), srtM acc → srtM (l.foldl (fun acc x => bubR acc.reverse x []) acc) ∧ (l.foldl (fun acc x => bubR acc.reverse x []) acc).Perm (acc ++ l)
 | [], acc, h => ⟨h, by simp⟩
 | x :: l, acc, h => by
   have h1 : srtM (bubR acc.reverse x []) := bubR_srt x acc.reverse [] (by simpa using h) (fun q hq => (nomatch hq))
   have h2 : (bubR acc.reverse x []).Perm (acc ++ [x]) := by simpa using bubR_perm x acc.reverse []
   obtain ⟨a, b⟩ := sort_go l _ h1
   refine ⟨a, b.trans ?_⟩
   have := h2.append_right l
   simpa using this
theorem sortM_srt (l : List GMsg) : srtM (sortM l) := (sort_go l [] List.Pairwise.nil).1
theorem sortM_perm (l : List GMsg) : (sortM l).Perm l := by
 have := (sort_go l [] List.Pairwise.nil).2
 rwa [List.nil_append] at this
theorem sortM_len (l : List GMsg) : (sortM l).length = l.length := (sortM_perm l).length_eq
theorem swap_at {α : Type} (A : List α) (y x : α) (Q : List α) : (A ++ y :: x :: Q)[A.length]? = some y ∧ (A ++ y :: x :: Q)[A.length + 1]? = some x ∧ (A ++ y :: x :: Q).set A.length x = A ++ x :: x :: Q ∧ (A ++ x :: x :: Q)[A.length + 1]? = some x ∧ (A ++ x :: x :: Q).set (A.length + 1) y = A ++ x :: y :: Q := by
 refine ⟨by simp, ?_, ?_, ?_, ?_⟩
 · rw [List.getElem?_append_right (by omega)]; simp
 · rw [List.set_append_right (h := by omega)]; simp
 · rw [List.getElem?_append_right (by omega)]; simp
 · rw [List.set_append_right (h := by omega)]; simp
theorem F91_bub (K : Nat) (a : List GMsg) (v : Int) (x : GMsg) : ∀ (R Q : List GMsg) (k : Nat), R.length < k → R.length < 1000000 → F91_l1_1 K a v k (R.reverse ++ x :: Q) (R.length : Int) = some (bubR R x Q) := by
 intro R
 induction R with
 | nil =>
   intro Q k hk _
   obtain ⟨k, rfl⟩ : ∃ q, k = q + 1 := ⟨k - 1, by omega⟩
   rw [F91_l1_1]; rfl
 | cons y R ih =>
   intro Q k hk hl
   obtain ⟨k, rfl⟩ : ∃ q, k = q + 1 := ⟨k - 1, by omega⟩
   simp only [List.length_cons] at hk hl
   have e0 : (y :: R).reverse ++ x :: Q = R.reverse ++ y :: x :: Q := by simp
   obtain ⟨s1, s2, s3, s4, s5⟩ := swap_at R.reverse y x Q
   rw [List.length_reverse] at s1 s2 s3 s4 s5
   have hlen : (R.reverse ++ y :: x :: Q).length = R.length + (Q.length + 2) := by simp
   have w : wsub .i64 ((R.length + 1 : Nat) : Int) 1 = ((R.length : Nat) : Int) := by
     show IntKind.i64.wrap _ = _
     rw [IntKind.wrap_i64]; omega
   have i1 : inr ((R.length : Nat) : Int) (len (R.reverse ++ y :: x :: Q)) = true := decide_eq_true ⟨by omega, by show ((R.length : Nat) : Int) < (((R.reverse ++ y :: x :: Q).length : Nat) : Int); omega⟩
   have i2 : inr ((R.length + 1 : Nat) : Int) (len (R.reverse ++ y :: x :: Q)) = true := decide_eq_true ⟨by omega, by show ((R.length + 1 : Nat) : Int) < (((R.reverse ++ y :: x :: Q).length : Nat) : Int); omega⟩
   have p1 : putAt (R.reverse ++ y :: x :: Q) ((R.length : Nat) : Int) x = R.reverse ++ x :: x :: Q := by unfold putAt; rw [Int.toNat_natCast]; exact s3
   have i3 : inr ((R.length + 1 : Nat) : Int) (len (R.reverse ++ x :: x :: Q)) = true := decide_eq_true ⟨by omega, by show ((R.length + 1 : Nat) : Int) < (((R.reverse ++ x :: x :: Q).length : Nat) : Int); simp; omega⟩
   have p2 : putAt (R.reverse ++ x :: x :: Q) ((R.length + 1 : Nat) : Int) y = R.reverse ++ x :: y :: Q := by unfold putAt; rw [Int.toNat_natCast]; exact s5
   have g1 : elAt (R.reverse ++ y :: x :: Q) ((R.length : Nat) : Int) = some y := by rw [elAt_nat]; exact s1
   have g2 : elAt (R.reverse ++ y :: x :: Q) ((R.length + 1 : Nat) : Int) = some x := by rw [elAt_nat]; exact s2
   have g3 : elAt (R.reverse ++ x :: x :: Q) ((R.length + 1 : Nat) : Int) = some x := by rw [elAt_nat]; exact s4
   rw [e0, List.length_cons, F91_l1_1, ilt_iff.2 (by omega : (0 : Int) < ((R.length + 1 : Nat) : Int)), cond_true, w, i1, cond_true, g1, Option.bind_some, i2, cond_true, g2, Option.bind_some, p1, i3, g3, bubR, leM]
   have sw := ih (y :: Q) k (by omega) (by omega)
   cases ilt y.To x.To
   · cases ieq y.To x.To
     · simp only [cond_false, cond_true, Option.bind_some, p2, Bool.false_or, Bool.false_and]; exact sw
     · cases ile y.V x.V
       · simp only [cond_false, cond_true, Option.bind_some, p2, Bool.false_or, Bool.true_and]; exact sw
       · simp
   · simp
theorem F91_spec {K : Nat} (l : List GMsg) (hl : l.length < 100000) (hK : l.length < K) : F91 K l = some (sortM l) := by
 let step : Nat → GMsg → List GMsg → (List GMsg → Option (List GMsg)) → Option (List GMsg) := fun i x a c =>
   bif (apok (len a) 1 16) then (F91_l1_1 K l (i : Int) K (appL a [x]) (wsub .i64 (nlen (len (α := GMsg) (appL a [x]))) 1)).bind fun w => c w else none
 have h := scanI (l := l) (L := fun k s i => F91_l0_0 K l k s i) step (fun s => some s) (fun k s i _ => rfl) (by omega) K [] 0 (by omega) (by omega)
 have hw : ∀ (r : List GMsg) (i : Nat) (a : List GMsg), a.length + r.length ≤ l.length → goI step (fun s => some s) i r a = some (r.foldl (fun acc x => bubR acc.reverse x []) a) := by
   intro r
   induction r with
   | nil => intro i a _; rfl
   | cons x r ih =>
     intro i a ha
     simp only [List.length_cons] at ha
     rw [goI]
     show (bif (apok (len a) 1 16) then (F91_l1_1 K l (i : Int) K (appL a [x]) (wsub .i64 (nlen (len (α := GMsg) (appL a [x]))) 1)).bind fun w => goI step (fun s => some s) (i + 1) r w else none) = _
     have ap : apok (len a) 1 16 = true := decide_eq_true ⟨by show a.length + 1 ≤ _; omega, by show (a.length + 1) * 16 ≤ _; omega⟩
     have w : wsub .i64 (nlen (len (α := GMsg) (appL a [x]))) 1 = ((a.reverse.length : Nat) : Int) := by
       have : nlen (len (α := GMsg) (appL a [x])) = ((a.length + 1 : Nat) : Int) := by simp [nlen, len, appL]
       rw [this, List.length_reverse]
       show IntKind.i64.wrap _ = _
       rw [IntKind.wrap_i64]; omega
     have e : appL a [x] = a.reverse.reverse ++ x :: [] := by simp [appL]
     have hb := (bubR_perm x a.reverse []).length_eq
     rw [ap, cond_true, w, e, F91_bub K l (i : Int) x a.reverse [] K (by simp; omega) (by simp; omega), Option.bind_some, ih (i + 1) _ (by rw [hb]; simp; omega)]; rfl
 rw [List.drop_zero, hw l 0 [] (by simp)] at h
 have h' : F91_l0_0 K l K [] 0 = some (sortM l) := h
 rw [F91, h']; rfl
noncomputable def hn65 : Hint := { H 65 with nt := 99, prot := 0 }
noncomputable def c65_0 : Code := loopOf E 65 0
def F65_res (r1 : Int) : Res := ⟨[(.one (.im (.lit (.int .i64 r1))))], []⟩
def F65_l0_0 (K : Nat) (a1 : GGraph) : Nat → Int → Option ((Int) ⊕ (Unit))
 | 0, _ => none
 | k + 1, v2 =>
  bif (ilt v2 (nlen (len a1.Edges))) then
   (bif (inr v2 (len a1.Edges)) then
   (elAt a1.Edges v2).bind fun x3 =>
   bif (ilt x3.From 0) then
    (some (.inl 4))
   else
   bif (ilt x3.To 0) then
    (some (.inl 4))
   else
   bif (ile a1.N x3.From) then
    (some (.inl 4))
   else
   bif (ile a1.N x3.To) then
    (some (.inl 4))
   else
   bif (ilt x3.W 0) then
    (some (.inl 1))
   else
   bif (ilt 4611686018427387904 x3.W) then
    (some (.inl 1))
   else
   bif (ilt 0 v2) then
    (bif (inr (wsub .i64 v2 1) (len a1.Edges)) then
    (elAt a1.Edges (wsub .i64 v2 1)).bind fun x4 =>
    bif (ieq x4.From x3.From) then
     (bif (ieq x4.To x3.To) then
      (some (.inl 5))
     else
     bif (ilt x3.From x4.From) then
      (some (.inl 6))
     else
     bif (ilt x3.To x4.To) then
      (some (.inl 6))
     else
     F65_l0_0 K a1 k (wadd .i64 v2 1))
    else
    bif (ilt x3.From x4.From) then
     (some (.inl 6))
    else
    F65_l0_0 K a1 k (wadd .i64 v2 1)
    else none)
   else
   F65_l0_0 K a1 k (wadd .i64 v2 1)
   else none)
  else
  some (.inr ())
def F65_l0_0_S (a1 : GGraph) (v2 : Int) : TS := .on [64, 65, 66, 192, 193] [(64, ⟨(.box 62 2), 0, nob⟩), (65, ⟨.im, 0, (.lit (.int .i64 a1.N))⟩), (66, ⟨.im, 0, (.sl (len a1.Edges) (flat eGEdge a1.Edges))⟩), (192, ⟨.one, 0, nob⟩), (193, ⟨.im, 0, (.lit (.int .i64 v2))⟩)]
def F65_l0_0_X0 (a1 : GGraph) (w2 : Int) : TS := .on [128, 129] [(128, ⟨.one, 0, nob⟩), (129, ⟨.im, 0, (.lit (.int .i64 w2))⟩)]
def F65_l0_0_X1 (a1 : GGraph) (w2 : Unit) : TS := .on [] []
theorem F65_l0_0_ok (K : Nat) (a1 : GGraph) : ∀ (k : Nat) (v2 : Int) (r : (Int) ⊕ (Unit)), F65_l0_0 K a1 k v2 = some r → (Sum.elim (fun w => LoopEv E H hn65 0 c65_0 (F65_l0_0_S a1 v2) .ret (F65_l0_0_X0 a1 w)) (fun w => LoopEv E H hn65 0 c65_0 (F65_l0_0_S a1 v2) (.exit 0) (F65_l0_0_X1 a1 w))) r := by
 intro k
 induction k with
 | zero => intro v2 r hF; cases hF
 | succ k ih =>
  intro v2 r hF
  rw [F65_l0_0] at hF
  refine cond_some hF (fun h3 hF => ?_) (fun h3 hF => ?_)
  ·
   refine cond_some hF (fun h4 hF => ?_) (fun _ hF => nomatch hF)
   refine bind_some hF (fun x5 h6 hF => ?_)
   have q22 : PQ hn65 fun l => (.int (nlen (len a1.Edges)) (nlen (len a1.Edges)) :: .test (ilt v2 (nlen (len a1.Edges))) true :: .test (inr v2 (len a1.Edges)) true :: .sub (flat eGEdge a1.Edges) (nidx v2 3) 3 [(.lit (.int .i64 x5.From)), (.lit (.int .i64 x5.To)), (.lit (.int .i64 x5.W))] :: l) := fun z => ⟨rfl, h3, h4, ⟨rfl, sub_flat0 eGEdge_len h6 3 (by decide)⟩, z⟩
   refine cond_some hF (fun h7 hF => ?_) (fun h7 hF => ?_)
   ·
    obtain rfl := Option.some.inj hF
    have pz : HoldAll E H hn65 [.test (beqb (ilt x5.From 0) false) false, .test (beqb (ilt x5.From 0) false) false, .test (beqb (ilt x5.From 0) false) false, .test (ilt x5.From 0) true, .test (beqb true false) false, .test (beqb true false) false, .test (beqb true false) false, .test (beqb true false) false, .test (beqb true false) false, .test true true, .test (beqb true false) false, .test (beqb true false) false, .test (beqb true false) false, .test (beqb true false) false, .test (beqb true false) false, .test true true, .test true true] := ⟨(beqb_ft h7), (beqb_ft h7), (beqb_ft h7), h7, (beqb_ft rfl), (beqb_ft rfl), (beqb_ft rfl), (beqb_ft rfl), (beqb_ft rfl), rfl, (beqb_ft rfl), (beqb_ft rfl), (beqb_ft rfl), (beqb_ft rfl), (beqb_ft rfl), rfl, rfl, trivial⟩
    exact loop_endC (h := hn65) (l := 0) (c := c65_0) (ts := F65_l0_0_S a1 v2) (ts' := F65_l0_0_X0 a1 4) (ex := .ret) (q22 pz) (by kernel_rfl) trivial
   have q23 : PQ hn65 fun l => (.test (beqb (ilt x5.From 0) false) true :: .test (beqb (ilt x5.From 0) false) true :: .test (beqb (ilt x5.From 0) false) true :: .test (ilt x5.From 0) false :: l) := fun z => ⟨(beqb_ff h7), (beqb_ff h7), (beqb_ff h7), h7, z⟩
   refine cond_some hF (fun h8 hF => ?_) (fun h8 hF => ?_)
   ·
    obtain rfl := Option.some.inj hF
    have pz : HoldAll E H hn65 [.test (beqb (ilt x5.To 0) false) false, .test (beqb (ilt x5.To 0) false) false, .test (beqb (ilt x5.To 0) false) false, .test (beqb (ilt x5.To 0) false) false, .test (beqb (ilt x5.To 0) false) false, .test (ilt x5.To 0) true, .test (beqb true false) false, .test (beqb true false) false, .test (beqb true false) false, .test (beqb true false) false, .test (beqb true false) false, .test true true, .test true true] := ⟨(beqb_ft h8), (beqb_ft h8), (beqb_ft h8), (beqb_ft h8), (beqb_ft h8), h8, (beqb_ft rfl), (beqb_ft rfl), (beqb_ft rfl), (beqb_ft rfl), (beqb_ft rfl), rfl, rfl, trivial⟩
    exact loop_endC (h := hn65) (l := 0) (c := c65_0) (ts := F65_l0_0_S a1 v2) (ts' := F65_l0_0_X0 a1 4) (ex := .ret) (q22 (q23 pz)) (by kernel_rfl) trivial
   have q24 : PQ hn65 fun l => (.test (beqb (ilt x5.To 0) false) true :: .test (beqb (ilt x5.To 0) false) true :: .test (beqb (ilt x5.To 0) false) true :: .test (beqb (ilt x5.To 0) false) true :: .test (beqb (ilt x5.To 0) false) true :: .test (ilt x5.To 0) false :: l) := fun z => ⟨(beqb_ff h8), (beqb_ff h8), (beqb_ff h8), (beqb_ff h8), (beqb_ff h8), h8, z⟩
   refine cond_some hF (fun h9 hF => ?_) (fun h9 hF => ?_)
   ·
    obtain rfl := Option.some.inj hF
    have pz : HoldAll E H hn65 [.test (beqb (ige x5.From a1.N) false) false, .test (beqb (ige x5.From a1.N) false) false, .test (beqb (ige x5.From a1.N) false) false, .test (beqb (ige x5.From a1.N) false) false, .test (beqb (ige x5.From a1.N) false) false, .test (ige x5.From a1.N) true, .test true true] := ⟨(beqb_ft (ige_eq h9)), (beqb_ft (ige_eq h9)), (beqb_ft (ige_eq h9)), (beqb_ft (ige_eq h9)), (beqb_ft (ige_eq h9)), (ige_eq h9), rfl, trivial⟩
    exact loop_endC (h := hn65) (l := 0) (c := c65_0) (ts := F65_l0_0_S a1 v2) (ts' := F65_l0_0_X0 a1 4) (ex := .ret) (q22 (q23 (q24 pz))) (by kernel_rfl) trivial
   have q25 : PQ hn65 fun l => (.test (beqb (ige x5.From a1.N) false) true :: .test (beqb (ige x5.From a1.N) false) true :: .test (beqb (ige x5.From a1.N) false) true :: .test (beqb (ige x5.From a1.N) false) true :: .test (beqb (ige x5.From a1.N) false) true :: .test (ige x5.From a1.N) false :: l) := fun z => ⟨(beqb_ff (ige_eq h9)), (beqb_ff (ige_eq h9)), (beqb_ff (ige_eq h9)), (beqb_ff (ige_eq h9)), (beqb_ff (ige_eq h9)), (ige_eq h9), z⟩
   refine cond_some hF (fun h10 hF => ?_) (fun h10 hF => ?_)
   ·
    obtain rfl := Option.some.inj hF
    have pz : HoldAll E H hn65 [.test (ige x5.To a1.N) true] := ⟨(ige_eq h10), trivial⟩
    exact loop_endC (h := hn65) (l := 0) (c := c65_0) (ts := F65_l0_0_S a1 v2) (ts' := F65_l0_0_X0 a1 4) (ex := .ret) (q22 (q23 (q24 (q25 pz)))) (by kernel_rfl) trivial
   refine cond_some hF (fun h11 hF => ?_) (fun h11 hF => ?_)
   ·
    obtain rfl := Option.some.inj hF
    have pz : HoldAll E H hn65 [.test (ige x5.To a1.N) false, .test (beqb (ilt x5.W 0) false) false, .test (beqb (ilt x5.W 0) false) false, .test (beqb (ilt x5.W 0) false) false, .test (ilt x5.W 0) true, .test true true] := ⟨(ige_eq h10), (beqb_ft h11), (beqb_ft h11), (beqb_ft h11), h11, rfl, trivial⟩
    exact loop_endC (h := hn65) (l := 0) (c := c65_0) (ts := F65_l0_0_S a1 v2) (ts' := F65_l0_0_X0 a1 1) (ex := .ret) (q22 (q23 (q24 (q25 pz)))) (by kernel_rfl) trivial
   have q26 : PQ hn65 fun l => (.test (ige x5.To a1.N) false :: .test (beqb (ilt x5.W 0) false) true :: .test (beqb (ilt x5.W 0) false) true :: .test (beqb (ilt x5.W 0) false) true :: .test (ilt x5.W 0) false :: l) := fun z => ⟨(ige_eq h10), (beqb_ff h11), (beqb_ff h11), (beqb_ff h11), h11, z⟩
   refine cond_some hF (fun h12 hF => ?_) (fun h12 hF => ?_)
   ·
    obtain rfl := Option.some.inj hF
    have pz : HoldAll E H hn65 [.test (igt x5.W 4611686018427387904) true] := ⟨(igt_eq h12), trivial⟩
    exact loop_endC (h := hn65) (l := 0) (c := c65_0) (ts := F65_l0_0_S a1 v2) (ts' := F65_l0_0_X0 a1 1) (ex := .ret) (q22 (q23 (q24 (q25 (q26 pz))))) (by kernel_rfl) trivial
   refine cond_some hF (fun h13 hF => ?_) (fun h13 hF => ?_)
   ·
    refine cond_some hF (fun h14 hF => ?_) (fun _ hF => nomatch hF)
    refine bind_some hF (fun x15 h16 hF => ?_)
    have q27 : PQ hn65 fun l => (.test (igt x5.W 4611686018427387904) false :: .test (igt v2 0) true :: .int (wsub .i64 v2 1) (wsub .i64 v2 1) :: .test (inr (wsub .i64 v2 1) (len a1.Edges)) true :: .sub (flat eGEdge a1.Edges) (nidx (wsub .i64 v2 1) 3) 3 [(.lit (.int .i64 x15.From)), (.lit (.int .i64 x15.To)), (.lit (.int .i64 x15.W))] :: l) := fun z => ⟨(igt_eq h12), (igt_eq h13), rfl, h14, ⟨rfl, sub_flat0 eGEdge_len h16 3 (by decide)⟩, z⟩
    refine cond_some hF (fun h17 hF => ?_) (fun h17 hF => ?_)
    ·
     have q28 : PQ hn65 fun l => (.test (beqb (ieq x15.From x5.From) true) true :: .test (beqb (ieq x15.From x5.From) true) true :: .test (beqb (ieq x15.From x5.From) true) true :: .test (beqb (ieq x15.From x5.From) true) true :: .test (beqb (ieq x15.From x5.From) true) true :: .test (ieq x15.From x5.From) true :: l) := fun z => ⟨(beqb_t h17), (beqb_t h17), (beqb_t h17), (beqb_t h17), (beqb_t h17), h17, z⟩
     refine cond_some hF (fun h18 hF => ?_) (fun h18 hF => ?_)
     ·
      obtain rfl := Option.some.inj hF
      have pz : HoldAll E H hn65 [.test (ieq x15.To x5.To) true] := ⟨h18, trivial⟩
      exact loop_endC (h := hn65) (l := 0) (c := c65_0) (ts := F65_l0_0_S a1 v2) (ts' := F65_l0_0_X0 a1 5) (ex := .ret) (q22 (q23 (q24 (q25 (q26 (q27 (q28 pz))))))) (by kernel_rfl) trivial
     refine cond_some hF (fun h19 hF => ?_) (fun h19 hF => ?_)
     ·
      obtain rfl := Option.some.inj hF
      have pz : HoldAll E H hn65 [.test (ieq x15.To x5.To) false, .test (beqb (igt x15.From x5.From) false) false, .test (beqb (igt x15.From x5.From) false) false, .test (beqb (igt x15.From x5.From) false) false, .test (beqb (igt x15.From x5.From) false) false, .test (beqb (igt x15.From x5.From) false) false, .test (beqb (igt x15.From x5.From) false) false, .test (beqb (igt x15.From x5.From) false) false, .test (igt x15.From x5.From) true, .test true true] := ⟨h18, (beqb_ft (igt_eq h19)), (beqb_ft (igt_eq h19)), (beqb_ft (igt_eq h19)), (beqb_ft (igt_eq h19)), (beqb_ft (igt_eq h19)), (beqb_ft (igt_eq h19)), (beqb_ft (igt_eq h19)), (igt_eq h19), rfl, trivial⟩
      exact loop_endC (h := hn65) (l := 0) (c := c65_0) (ts := F65_l0_0_S a1 v2) (ts' := F65_l0_0_X0 a1 6) (ex := .ret) (q22 (q23 (q24 (q25 (q26 (q27 (q28 pz))))))) (by kernel_rfl) trivial
     have q29 : PQ hn65 fun l => (.test (ieq x15.To x5.To) false :: .test (beqb (igt x15.From x5.From) false) true :: .test (beqb (igt x15.From x5.From) false) true :: .test (beqb (igt x15.From x5.From) false) true :: .test (beqb (igt x15.From x5.From) false) true :: .test (beqb (igt x15.From x5.From) false) true :: .test (beqb (igt x15.From x5.From) false) true :: .test (beqb (ieq x15.From x5.From) true) true :: .test (beqb (ieq x15.From x5.From) true) true :: .test (beqb (ieq x15.From x5.From) true) true :: .test (beqb (ieq x15.From x5.From) true) true :: .test (beqb (ieq x15.From x5.From) true) true :: .test (beqb (igt x15.From x5.From) false) true :: .test (ieq x15.From x5.From) true :: .test (igt x15.From x5.From) false :: l) := fun z => ⟨h18, (beqb_ff (igt_eq h19)), (beqb_ff (igt_eq h19)), (beqb_ff (igt_eq h19)), (beqb_ff (igt_eq h19)), (beqb_ff (igt_eq h19)), (beqb_ff (igt_eq h19)), (beqb_t h17), (beqb_t h17), (beqb_t h17), (beqb_t h17), (beqb_t h17), (beqb_ff (igt_eq h19)), h17, (igt_eq h19), z⟩
     refine cond_some hF (fun h20 hF => ?_) (fun h20 hF => ?_)
     ·
      obtain rfl := Option.some.inj hF
      have pz : HoldAll E H hn65 [.test (igt x15.To x5.To) true] := ⟨(igt_eq h20), trivial⟩
      exact loop_endC (h := hn65) (l := 0) (c := c65_0) (ts := F65_l0_0_S a1 v2) (ts' := F65_l0_0_X0 a1 6) (ex := .ret) (q22 (q23 (q24 (q25 (q26 (q27 (q28 (q29 pz)))))))) (by kernel_rfl) trivial
     have pz : HoldAll E H hn65 [.test (igt x15.To x5.To) false, .int (wadd .i64 v2 1) (wadd .i64 v2 1)] := ⟨(igt_eq h20), rfl, trivial⟩
     have h0 := ih _ _ hF
     have hn := fun ex ts' => loop_nextC (h := hn65) (l := 0) (c := c65_0) (ts := F65_l0_0_S a1 v2) (ts1 := (F65_l0_0_S a1 (wadd .i64 v2 1))) (ex := ex) (ts' := ts') (q22 (q23 (q24 (q25 (q26 (q27 (q28 (q29 pz)))))))) (by kernel_rfl)
     cases r with
     | inl w => exact hn _ _ h0
     | inr w => exact hn _ _ h0
    have q30 : PQ hn65 fun l => (.test (beqb (ieq x15.From x5.From) true) false :: .test (beqb (ieq x15.From x5.From) true) false :: .test (beqb (ieq x15.From x5.From) true) false :: .test (beqb (ieq x15.From x5.From) true) false :: .test (beqb (ieq x15.From x5.From) true) false :: .test (ieq x15.From x5.From) false :: .test false false :: l) := fun z => ⟨(beqb_t h17), (beqb_t h17), (beqb_t h17), (beqb_t h17), (beqb_t h17), h17, rfl, z⟩
    refine cond_some hF (fun h21 hF => ?_) (fun h21 hF => ?_)
    ·
     obtain rfl := Option.some.inj hF
     have pz : HoldAll E H hn65 [.test (beqb (igt x15.From x5.From) false) false, .test (beqb (igt x15.From x5.From) false) false, .test (beqb (igt x15.From x5.From) false) false, .test (beqb (igt x15.From x5.From) false) false, .test (beqb (igt x15.From x5.From) false) false, .test (beqb (igt x15.From x5.From) false) false, .test (beqb (igt x15.From x5.From) false) false, .test (igt x15.From x5.From) true, .test true true] := ⟨(beqb_ft (igt_eq h21)), (beqb_ft (igt_eq h21)), (beqb_ft (igt_eq h21)), (beqb_ft (igt_eq h21)), (beqb_ft (igt_eq h21)), (beqb_ft (igt_eq h21)), (beqb_ft (igt_eq h21)), (igt_eq h21), rfl, trivial⟩
     exact loop_endC (h := hn65) (l := 0) (c := c65_0) (ts := F65_l0_0_S a1 v2) (ts' := F65_l0_0_X0 a1 6) (ex := .ret) (q22 (q23 (q24 (q25 (q26 (q27 (q30 pz))))))) (by kernel_rfl) trivial
    have pz : HoldAll E H hn65 [.test (beqb (igt x15.From x5.From) false) true, .test (beqb (igt x15.From x5.From) false) true, .test (beqb (igt x15.From x5.From) false) true, .test (beqb (igt x15.From x5.From) false) true, .test (beqb (igt x15.From x5.From) false) true, .test (beqb (igt x15.From x5.From) false) true, .test (beqb (ieq x15.From x5.From) true) false, .test (beqb (ieq x15.From x5.From) true) false, .test (beqb (ieq x15.From x5.From) true) false, .test (beqb (ieq x15.From x5.From) true) false, .test (beqb (ieq x15.From x5.From) true) false, .test (beqb (igt x15.From x5.From) false) true, .test (ieq x15.From x5.From) false, .test (igt x15.From x5.From) false, .test false false, .int (wadd .i64 v2 1) (wadd .i64 v2 1)] := ⟨(beqb_ff (igt_eq h21)), (beqb_ff (igt_eq h21)), (beqb_ff (igt_eq h21)), (beqb_ff (igt_eq h21)), (beqb_ff (igt_eq h21)), (beqb_ff (igt_eq h21)), (beqb_t h17), (beqb_t h17), (beqb_t h17), (beqb_t h17), (beqb_t h17), (beqb_ff (igt_eq h21)), h17, (igt_eq h21), rfl, rfl, trivial⟩
    have h0 := ih _ _ hF
    have hn := fun ex ts' => loop_nextC (h := hn65) (l := 0) (c := c65_0) (ts := F65_l0_0_S a1 v2) (ts1 := (F65_l0_0_S a1 (wadd .i64 v2 1))) (ex := ex) (ts' := ts') (q22 (q23 (q24 (q25 (q26 (q27 (q30 pz))))))) (by kernel_rfl)
    cases r with
    | inl w => exact hn _ _ h0
    | inr w => exact hn _ _ h0
   have pz : HoldAll E H hn65 [.test (igt x5.W 4611686018427387904) false, .test (igt v2 0) false, .int (wadd .i64 v2 1) (wadd .i64 v2 1)] := ⟨(igt_eq h12), (igt_eq h13), rfl, trivial⟩
   have h0 := ih _ _ hF
   have hn := fun ex ts' => loop_nextC (h := hn65) (l := 0) (c := c65_0) (ts := F65_l0_0_S a1 v2) (ts1 := (F65_l0_0_S a1 (wadd .i64 v2 1))) (ex := ex) (ts' := ts') (q22 (q23 (q24 (q25 (q26 pz))))) (by kernel_rfl)
   cases r with
   | inl w => exact hn _ _ h0
   | inr w => exact hn _ _ h0
  obtain rfl := Option.some.inj hF
  have pz : HoldAll E H hn65 [.int (nlen (len a1.Edges)) (nlen (len a1.Edges)), .test (ilt v2 (nlen (len a1.Edges))) false] := ⟨rfl, h3, trivial⟩
  exact loop_endC (h := hn65) (l := 0) (c := c65_0) (ts := F65_l0_0_S a1 v2) (ts' := F65_l0_0_X1 a1 ()) (ex := (.exit 0)) pz (by kernel_rfl) trivial
def F65 (K : Nat) (a1 : GGraph) : Option (Int) :=
 bif (ilt a1.N 1) then
  (some 1)
 else
 bif (ilt 24 a1.N) then
  (some 1)
 else
 bif (ilt 80 (nlen (len a1.Edges))) then
  (some 3)
 else
 (F65_l0_0 K a1 K 0).bind fun y2 =>
 Sum.elim (fun w3 =>
  some w3)
  (fun w4 =>
  some 0) y2
theorem F65_ok (K : Nat) (a1 : GGraph) (r : Int) (hF : F65 K a1 = some r) : Evt E H 65 [.agg (eGGraph a1)] (F65_res r) := by
 rw [F65] at hF
 refine cond_some hF (fun h2 hF => ?_) (fun h2 hF => ?_)
 ·
  obtain rfl := Option.some.inj hF
  have pz : HoldAll E H hn65 [.test (beqb (ilt a1.N 1) false) false, .test (beqb (ilt a1.N 1) false) false, .test (beqb (ilt a1.N 1) false) false, .test (ilt a1.N 1) true, .test true true] := ⟨(beqb_ft h2), (beqb_ft h2), (beqb_ft h2), h2, rfl, trivial⟩
  exact fn_playC hn65 (r := F65_res 1) pz (by kernel_rfl) (by kernel_rfl)
 have q9 : PQ hn65 fun l => (.test (beqb (ilt a1.N 1) false) true :: .test (beqb (ilt a1.N 1) false) true :: .test (beqb (ilt a1.N 1) false) true :: .test (ilt a1.N 1) false :: l) := fun z => ⟨(beqb_ff h2), (beqb_ff h2), (beqb_ff h2), h2, z⟩
 refine cond_some hF (fun h3 hF => ?_) (fun h3 hF => ?_)
 ·
  obtain rfl := Option.some.inj hF
  have pz : HoldAll E H hn65 [.test (igt a1.N 24) true] := ⟨(igt_eq h3), trivial⟩
  exact fn_playC hn65 (r := F65_res 1) (q9 pz) (by kernel_rfl) (by kernel_rfl)
 refine cond_some hF (fun h4 hF => ?_) (fun h4 hF => ?_)
 ·
  obtain rfl := Option.some.inj hF
  have pz : HoldAll E H hn65 [.test (igt a1.N 24) false, .int (nlen (len a1.Edges)) (nlen (len a1.Edges)), .test (igt (nlen (len a1.Edges)) 80) true] := ⟨(igt_eq h3), rfl, (igt_eq h4), trivial⟩
  exact fn_playC hn65 (r := F65_res 3) (q9 pz) (by kernel_rfl) (by kernel_rfl)
 have q10 : PQ hn65 fun l => (.test (igt a1.N 24) false :: .int (nlen (len a1.Edges)) (nlen (len a1.Edges)) :: .test (igt (nlen (len a1.Edges)) 80) false :: l) := fun z => ⟨(igt_eq h3), rfl, (igt_eq h4), z⟩
 refine bind_some hF (fun y6 h5 hF => ?_)
 refine sum_some hF (fun w7 hx hF => ?_) (fun w8 hx hF => ?_)
 ·
  subst hx
  obtain rfl := Option.some.inj hF
  have pz : HoldAll E H hn65 [.loop 0 c65_0 (F65_l0_0_S a1 0) .ret (F65_l0_0_X0 a1 w7)] := ⟨(F65_l0_0_ok K a1 K 0 _ h5), trivial⟩
  exact fn_playC hn65 (r := F65_res w7) (q9 (q10 pz)) (by kernel_rfl) (by kernel_rfl)
 subst hx
 obtain rfl := Option.some.inj hF
 have pz : HoldAll E H hn65 [.loop 0 c65_0 (F65_l0_0_S a1 0) (.exit 0) (F65_l0_0_X1 a1 w8)] := ⟨(F65_l0_0_ok K a1 K 0 _ h5), trivial⟩
 exact fn_playC hn65 (r := F65_res 0) (q9 (q10 pz)) (by kernel_rfl) (by kernel_rfl)
def badE (n : Int) (e : GEdge) : Int :=
 bif ilt e.From 0 || ile n e.From || ilt e.To 0 || ile n e.To then 4 else bif ilt e.W 0 || ilt 4611686018427387904 e.W then 1 else 0
def ordE (d e : GEdge) : Int := bif ieq d.From e.From && ieq d.To e.To then 5 else bif ilt e.From d.From || (ieq d.From e.From && ilt e.To d.To) then 6 else 0
def gchk (n : Int) : Option GEdge → List GEdge → Int
 | _, [] => 0
 | prev, e :: r => bif ieq (badE n e) 0 then (match prev with
   | none => gchk n (some e) r
   | some d => bif ieq (ordE d e) 0 then gchk n (some e) r else ordE d e) else badE n e
def gcheck (g : GGraph) : Int := bif ilt g.N 1 || ilt 24 g.N then 1 else bif ilt 80 (nlen (len g.Edges)) then 3 else gchk g.N none g.Edges
def prevOf {α : Type} (l : List α) : Nat → Option α
 | 0 => none
 | i + 1 => l[i]?
theorem wsub_one {i : Nat} (h0 : 0 < i) (h : i < 4611686018427387904) : wsub .i64 (i : Int) 1 = ((i - 1 : Nat) : Int) := by
 show IntKind.i64.wrap ((i : Int) - 1) = _
 rw [IntKind.wrap_i64]; omega
theorem prev_at {α : Type} {l : List α} {i : Nat} (h0 : 0 < i) (hi : i < l.length) (hl : l.length < 4611686018427387904) :
   ∃ d, prevOf l i = some d ∧ wsub .i64 (i : Int) 1 = ((i - 1 : Nat) : Int) ∧ inr ((i - 1 : Nat) : Int) (len l) = true ∧ elAt l ((i - 1 : Nat) : Int) = some d := by
 obtain ⟨j, rfl⟩ : ∃ j, i = j + 1 := ⟨i - 1, by omega⟩
 refine ⟨l[j], by simp [prevOf], wsub_one h0 (by omega), decide_eq_true ⟨by omega, by show ((j + 1 - 1 : Nat) : Int) < (l.length : Int); omega⟩, ?_⟩
 rw [elAt_nat]
 simp
theorem prev_next {α : Type} {l : List α} {i : Nat} {x : α} {r : List α} (h : l.drop i = x :: r) : prevOf l (i + 1) = some x ∧ l.drop (i + 1) = r ∧ i < l.length := by
 have hi := lt_of_drop' h
 have := List.drop_eq_getElem_cons hi
 rw [h] at this
 injection this with a b
 exact ⟨by simp [prevOf, hi, a], b.symm, hi⟩
def sumI (v : Int) : Int ⊕ Unit := bif ieq v 0 then .inr () else .inl v
theorem badE_ok {n : Int} {e : GEdge} (h : ieq (badE n e) 0 = true) : 0 ≤ e.From ∧ e.From < n ∧ 0 ≤ e.To ∧ e.To < n ∧ 0 ≤ e.W ∧ e.W ≤ 4611686018427387904 := by
 rw [badE] at h
 cases h1 : ilt e.From 0 || ile n e.From || ilt e.To 0 || ile n e.To
 · cases h2 : ilt e.W 0 || ilt 4611686018427387904 e.W
   · simp only [Bool.or_eq_false_iff, ilt_f, ile_f] at h1 h2
     omega
   · rw [h1, h2] at h; cases h
 · rw [h1] at h; cases h
theorem sumI_elim (v : Int) : (some (sumI v)).bind (fun y => Sum.elim (fun w => some w) (fun w => some 0) y) = some v := by
 unfold sumI
 cases h : ieq v 0
 · rfl
 · have : v = 0 := ieq_iff.1 h
   subst this; rfl
theorem F65_loop {K : Nat} (hK : 100 ≤ K) (g : GGraph) (hl : g.Edges.length ≤ 80) : F65_l0_0 K g K 0 = some (sumI (gchk g.N none g.Edges)) := by
 let chk : Nat → GEdge → Option (Int ⊕ Unit) → Option (Int ⊕ Unit) := fun i x c =>
     bif (ilt 0 (i : Int)) then
       (bif (inr (wsub .i64 (i : Int) 1) (len g.Edges)) then
       (elAt g.Edges (wsub .i64 (i : Int) 1)).bind fun d =>
       bif (ieq d.From x.From) then
         (bif (ieq d.To x.To) then (some (.inl 5)) else bif (ilt x.From d.From) then (some (.inl 6)) else bif (ilt x.To d.To) then (some (.inl 6)) else c)
       else bif (ilt x.From d.From) then (some (.inl 6)) else c
       else none)
     else c
 let step : Nat → GEdge → Unit → (Unit → Option (Int ⊕ Unit)) → Option (Int ⊕ Unit) := fun i x _ c =>
     bif (ilt x.From 0) then (some (.inl 4)) else bif (ilt x.To 0) then (some (.inl 4)) else bif (ile g.N x.From) then (some (.inl 4)) else bif (ile g.N x.To) then (some (.inl 4)) else
     bif (ilt x.W 0) then (some (.inl 1)) else bif (ilt 4611686018427387904 x.W) then (some (.inl 1)) else chk i x (c ())
 let fin : Unit → Option (Int ⊕ Unit) := fun _ => some (.inr ())
 have h := scanI (l := g.Edges) (L := fun k (_ : Unit) i => F65_l0_0 K g k i) step fin (fun k st i hi => rfl) (by omega) K () 0 (by omega) (by omega)
 have hstep : ∀ i x c, step i x () c = bif ieq (badE g.N x) 0 then chk i x (c ()) else some (.inl (badE g.N x)) := by
   intro i x c
   show (bif (ilt x.From 0) then (some (.inl 4)) else bif (ilt x.To 0) then (some (.inl 4)) else bif (ile g.N x.From) then (some (.inl 4)) else bif (ile g.N x.To) then (some (.inl 4)) else
     bif (ilt x.W 0) then (some (.inl 1)) else bif (ilt 4611686018427387904 x.W) then (some (.inl 1)) else chk i x (c ())) = _
   rw [badE]
   cases ilt x.From 0 <;> cases ile g.N x.From <;> cases ilt x.To 0 <;> cases ile g.N x.To <;> cases ilt x.W 0 <;> cases ilt 4611686018427387904 x.W <;> rfl
 have hw : ∀ (r : List GEdge) (i : Nat), g.Edges.drop i = r → goI step fin i r () = some (sumI (gchk g.N (prevOf g.Edges i) r)) := by
   intro r
   induction r with
   | nil => intro i _; rfl
   | cons x r ih =>
     intro i hr
     obtain ⟨n1, n2, hi⟩ := prev_next hr
     rw [goI, hstep]
     cases hb : ieq (badE g.N x) 0
     · have hne : badE g.N x ≠ 0 := ieq_f.1 hb
       cases prevOf g.Edges i <;> simp only [gchk, hb, cond_false, sumI]
     · have nx := ih (i + 1) n2
       rw [n1] at nx
       rw [cond_true, nx]
       cases i with
       | zero =>
         show some (sumI (gchk g.N (some x) r)) = some (sumI (gchk g.N none (x :: r)))
         rw [gchk, hb]; rfl
       | succ j =>
         obtain ⟨d, p1, p2, p3, p4⟩ := prev_at (l := g.Edges) (i := j + 1) (by omega) hi (by omega)
         have : ilt 0 ((j + 1 : Nat) : Int) = true := ilt_iff.2 (by omega)
         show (bif (ilt 0 ((j + 1 : Nat) : Int)) then
           (bif (inr (wsub .i64 ((j + 1 : Nat) : Int) 1) (len g.Edges)) then
           (elAt g.Edges (wsub .i64 ((j + 1 : Nat) : Int) 1)).bind fun d =>
           bif (ieq d.From x.From) then
             (bif (ieq d.To x.To) then (some (.inl 5)) else bif (ilt x.From d.From) then (some (.inl 6)) else bif (ilt x.To d.To) then (some (.inl 6)) else some (sumI (gchk g.N (some x) r)))
           else bif (ilt x.From d.From) then (some (.inl 6)) else some (sumI (gchk g.N (some x) r))
           else none)
         else some (sumI (gchk g.N (some x) r))) = _
         rw [this, cond_true, p2, p3, cond_true, p4, Option.bind_some, p1, gchk, hb, cond_true, ordE]
         cases hf : ieq d.From x.From
         · cases ilt x.From d.From <;> rfl
         · have : ilt x.From d.From = false := ilt_f.2 (by have := ieq_iff.1 hf; omega)
           rw [this]
           cases ieq d.To x.To <;> cases ilt x.To d.To <;> rfl
 have := hw g.Edges 0 rfl
 rw [List.drop_zero, this] at h
 exact h
theorem F65_spec {K : Nat} (hK : 100 ≤ K) (g : GGraph) : F65 K g = some (gcheck g) := by
 rw [F65, gcheck]
 cases ilt g.N 1
 · cases h2 : ilt 24 g.N
   · cases h3 : ilt 80 (nlen (len g.Edges))
     · have hl : g.Edges.length ≤ 80 := by have := ilt_f.1 h3; simp only [nlen, len] at this; omega
       rw [F65_loop hK g hl]
       exact sumI_elim _
     · rfl
   · rfl
 · rfl
theorem gcheck_ok {g : GGraph} (h : ieq (gcheck g) 0 = true) : 1 ≤ g.N ∧ g.N ≤ 24 ∧ g.Edges.length ≤ 80 ∧ gchk g.N none g.Edges = 0 := by
 rw [gcheck] at h
 cases h1 : ilt g.N 1 || ilt 24 g.N
 · rw [h1, cond_false] at h
   cases h2 : ilt 80 (nlen (len g.Edges))
   · rw [h2, cond_false] at h
     simp only [Bool.or_eq_false_iff, ilt_f] at h1
     have := ilt_f.1 h2
     simp only [nlen, len] at this
     exact ⟨by omega, by omega, by omega, ieq_iff.1 h⟩
   · rw [h2] at h; cases h
 · rw [h1] at h; cases h
theorem gchk_mem {n : Int} : ∀ {l : List GEdge} {p : Option GEdge}, gchk n p l = 0 → ∀ e ∈ l, ieq (badE n e) 0 = true
 | [], _, _, e, h => by cases h
 | x :: l, p, h, e, he => by
   unfold gchk at h
   cases hb : ieq (badE n x) 0
   · rw [hb, cond_false] at h; rw [h] at hb; cases hb
   · rw [hb, cond_true] at h
     rcases List.mem_cons.1 he with q | q
     · subst q; exact hb
     · cases p with
       | none => exact gchk_mem h e q
       | some d =>
         dsimp only at h
         cases ho : ieq (ordE d x) 0
         · rw [ho, cond_false] at h; rw [h] at ho; cases ho
         · rw [ho, cond_true] at h; exact gchk_mem h e q
noncomputable def hn59 : Hint := { H 59 with nt := 51, prot := 0 }
def F59_res (r1 : Int) : Res := ⟨[(.one (.im (.lit (.int .i64 r1))))], []⟩
def F59 (K : Nat) (a1 : GGraph) (a2 : GJob) : Option (Int) :=
 (F65 K a1).bind fun r3 =>
 bif (ieq r3 0) then
  (bif (ilt a2.Prog 1) then
   (some 1)
  else
  bif (ilt 5 a2.Prog) then
   (some 1)
  else
  bif (ilt a2.Source 0) then
   (some 1)
  else
  bif (ile a1.N a2.Source) then
   (some 1)
  else
  bif (ilt a2.Limit 0) then
   (some 1)
  else
  bif (ilt 40 a2.Limit) then
   (some 1)
  else
  bif (ilt a2.Parts 1) then
   (some 1)
  else
  bif (ilt 6 a2.Parts) then
   (some 1)
  else
  some 0)
 else
 some r3
theorem F59_ok (K : Nat) (a1 : GGraph) (a2 : GJob) (r : Int) (hF : F59 K a1 a2 = some r) : Evt E H 59 [.agg (eGGraph a1), .agg (eGJob a2)] (F59_res r) := by
 rw [F59] at hF
 refine bind_some hF (fun r3 h4 hF => ?_)
 refine cond_some hF (fun h5 hF => ?_) (fun h5 hF => ?_)
 ·
  have q14 : PQ hn59 fun l => (.call 65 [.agg (eGGraph a1)] (F65_res r3) :: .test (leadsAny (Res.mk [(.one (.im (.lit (.int .i64 r3))))] [])) false :: .test (ine r3 0) false :: l) := fun z => ⟨(F65_ok K a1 _ h4), (leads_ok (by simp [leadsAny, RV.leads, RC.leads, leadsT, hasSl_lit])), (ine_t h5), z⟩
  refine cond_some hF (fun h6 hF => ?_) (fun h6 hF => ?_)
  ·
   obtain rfl := Option.some.inj hF
   have pz : HoldAll E H hn59 [.test (beqb (ilt a2.Prog 1) false) false, .test (beqb (ilt a2.Prog 1) false) false, .test (beqb (ilt a2.Prog 1) false) false, .test (ilt a2.Prog 1) true, .test (beqb true false) false, .test (beqb true false) false, .test (beqb true false) false, .test true true, .test (beqb true false) false, .test (beqb true false) false, .test (beqb true false) false, .test (beqb true false) false, .test (beqb true false) false, .test true true, .test (beqb true false) false, .test (beqb true false) false, .test (beqb true false) false, .test true true, .test (beqb true false) false, .test (beqb true false) false, .test (beqb true false) false, .test true true, .test (beqb true false) false, .test (beqb true false) false, .test (beqb true false) false, .test true true, .test (beqb true false) false, .test (beqb true false) false, .test (beqb true false) false, .test true true, .test true true] := ⟨(beqb_ft h6), (beqb_ft h6), (beqb_ft h6), h6, (beqb_ft rfl), (beqb_ft rfl), (beqb_ft rfl), rfl, (beqb_ft rfl), (beqb_ft rfl), (beqb_ft rfl), (beqb_ft rfl), (beqb_ft rfl), rfl, (beqb_ft rfl), (beqb_ft rfl), (beqb_ft rfl), rfl, (beqb_ft rfl), (beqb_ft rfl), (beqb_ft rfl), rfl, (beqb_ft rfl), (beqb_ft rfl), (beqb_ft rfl), rfl, (beqb_ft rfl), (beqb_ft rfl), (beqb_ft rfl), rfl, rfl, trivial⟩
   exact fn_playC hn59 (r := F59_res 1) (q14 pz) (by kernel_rfl) (by kernel_rfl)
  have q15 : PQ hn59 fun l => (.test (beqb (ilt a2.Prog 1) false) true :: .test (beqb (ilt a2.Prog 1) false) true :: .test (beqb (ilt a2.Prog 1) false) true :: .test (ilt a2.Prog 1) false :: l) := fun z => ⟨(beqb_ff h6), (beqb_ff h6), (beqb_ff h6), h6, z⟩
  refine cond_some hF (fun h7 hF => ?_) (fun h7 hF => ?_)
  ·
   obtain rfl := Option.some.inj hF
   have pz : HoldAll E H hn59 [.test (beqb (igt a2.Prog 5) false) false, .test (beqb (igt a2.Prog 5) false) false, .test (beqb (igt a2.Prog 5) false) false, .test (igt a2.Prog 5) true, .test (beqb true false) false, .test (beqb true false) false, .test (beqb true false) false, .test (beqb true false) false, .test (beqb true false) false, .test true true, .test (beqb true false) false, .test (beqb true false) false, .test (beqb true false) false, .test true true, .test (beqb true false) false, .test (beqb true false) false, .test (beqb true false) false, .test true true, .test (beqb true false) false, .test (beqb true false) false, .test (beqb true false) false, .test true true, .test (beqb true false) false, .test (beqb true false) false, .test (beqb true false) false, .test true true, .test true true] := ⟨(beqb_ft (igt_eq h7)), (beqb_ft (igt_eq h7)), (beqb_ft (igt_eq h7)), (igt_eq h7), (beqb_ft rfl), (beqb_ft rfl), (beqb_ft rfl), (beqb_ft rfl), (beqb_ft rfl), rfl, (beqb_ft rfl), (beqb_ft rfl), (beqb_ft rfl), rfl, (beqb_ft rfl), (beqb_ft rfl), (beqb_ft rfl), rfl, (beqb_ft rfl), (beqb_ft rfl), (beqb_ft rfl), rfl, (beqb_ft rfl), (beqb_ft rfl), (beqb_ft rfl), rfl, rfl, trivial⟩
   exact fn_playC hn59 (r := F59_res 1) (q14 (q15 pz)) (by kernel_rfl) (by kernel_rfl)
  have q16 : PQ hn59 fun l => (.test (beqb (igt a2.Prog 5) false) true :: .test (beqb (igt a2.Prog 5) false) true :: .test (beqb (igt a2.Prog 5) false) true :: .test (igt a2.Prog 5) false :: l) := fun z => ⟨(beqb_ff (igt_eq h7)), (beqb_ff (igt_eq h7)), (beqb_ff (igt_eq h7)), (igt_eq h7), z⟩
  refine cond_some hF (fun h8 hF => ?_) (fun h8 hF => ?_)
  ·
   obtain rfl := Option.some.inj hF
   have pz : HoldAll E H hn59 [.test (beqb (ilt a2.Source 0) false) false, .test (beqb (ilt a2.Source 0) false) false, .test (beqb (ilt a2.Source 0) false) false, .test (beqb (ilt a2.Source 0) false) false, .test (beqb (ilt a2.Source 0) false) false, .test (ilt a2.Source 0) true, .test (beqb true false) false, .test (beqb true false) false, .test (beqb true false) false, .test true true, .test (beqb true false) false, .test (beqb true false) false, .test (beqb true false) false, .test true true, .test (beqb true false) false, .test (beqb true false) false, .test (beqb true false) false, .test true true, .test (beqb true false) false, .test (beqb true false) false, .test (beqb true false) false, .test true true, .test true true] := ⟨(beqb_ft h8), (beqb_ft h8), (beqb_ft h8), (beqb_ft h8), (beqb_ft h8), h8, (beqb_ft rfl), (beqb_ft rfl), (beqb_ft rfl), rfl, (beqb_ft rfl), (beqb_ft rfl), (beqb_ft rfl), rfl, (beqb_ft rfl), (beqb_ft rfl), (beqb_ft rfl), rfl, (beqb_ft rfl), (beqb_ft rfl), (beqb_ft rfl), rfl, rfl, trivial⟩
   exact fn_playC hn59 (r := F59_res 1) (q14 (q15 (q16 pz))) (by kernel_rfl) (by kernel_rfl)
  have q17 : PQ hn59 fun l => (.test (beqb (ilt a2.Source 0) false) true :: .test (beqb (ilt a2.Source 0) false) true :: .test (beqb (ilt a2.Source 0) false) true :: .test (beqb (ilt a2.Source 0) false) true :: .test (beqb (ilt a2.Source 0) false) true :: .test (ilt a2.Source 0) false :: l) := fun z => ⟨(beqb_ff h8), (beqb_ff h8), (beqb_ff h8), (beqb_ff h8), (beqb_ff h8), h8, z⟩
  refine cond_some hF (fun h9 hF => ?_) (fun h9 hF => ?_)
  ·
   obtain rfl := Option.some.inj hF
   have pz : HoldAll E H hn59 [.test (beqb (ige a2.Source a1.N) false) false, .test (beqb (ige a2.Source a1.N) false) false, .test (beqb (ige a2.Source a1.N) false) false, .test (ige a2.Source a1.N) true, .test (beqb true false) false, .test (beqb true false) false, .test (beqb true false) false, .test true true, .test (beqb true false) false, .test (beqb true false) false, .test (beqb true false) false, .test true true, .test (beqb true false) false, .test (beqb true false) false, .test (beqb true false) false, .test true true, .test true true] := ⟨(beqb_ft (ige_eq h9)), (beqb_ft (ige_eq h9)), (beqb_ft (ige_eq h9)), (ige_eq h9), (beqb_ft rfl), (beqb_ft rfl), (beqb_ft rfl), rfl, (beqb_ft rfl), (beqb_ft rfl), (beqb_ft rfl), rfl, (beqb_ft rfl), (beqb_ft rfl), (beqb_ft rfl), rfl, rfl, trivial⟩
   exact fn_playC hn59 (r := F59_res 1) (q14 (q15 (q16 (q17 pz)))) (by kernel_rfl) (by kernel_rfl)
  have q18 : PQ hn59 fun l => (.test (beqb (ige a2.Source a1.N) false) true :: .test (beqb (ige a2.Source a1.N) false) true :: .test (beqb (ige a2.Source a1.N) false) true :: .test (ige a2.Source a1.N) false :: l) := fun z => ⟨(beqb_ff (ige_eq h9)), (beqb_ff (ige_eq h9)), (beqb_ff (ige_eq h9)), (ige_eq h9), z⟩
  refine cond_some hF (fun h10 hF => ?_) (fun h10 hF => ?_)
  ·
   obtain rfl := Option.some.inj hF
   have pz : HoldAll E H hn59 [.test (beqb (ilt a2.Limit 0) false) false, .test (beqb (ilt a2.Limit 0) false) false, .test (beqb (ilt a2.Limit 0) false) false, .test (ilt a2.Limit 0) true, .test (beqb true false) false, .test (beqb true false) false, .test (beqb true false) false, .test true true, .test (beqb true false) false, .test (beqb true false) false, .test (beqb true false) false, .test true true, .test true true] := ⟨(beqb_ft h10), (beqb_ft h10), (beqb_ft h10), h10, (beqb_ft rfl), (beqb_ft rfl), (beqb_ft rfl), rfl, (beqb_ft rfl), (beqb_ft rfl), (beqb_ft rfl), rfl, rfl, trivial⟩
   exact fn_playC hn59 (r := F59_res 1) (q14 (q15 (q16 (q17 (q18 pz))))) (by kernel_rfl) (by kernel_rfl)
  have q19 : PQ hn59 fun l => (.test (beqb (ilt a2.Limit 0) false) true :: .test (beqb (ilt a2.Limit 0) false) true :: .test (beqb (ilt a2.Limit 0) false) true :: .test (ilt a2.Limit 0) false :: l) := fun z => ⟨(beqb_ff h10), (beqb_ff h10), (beqb_ff h10), h10, z⟩
  refine cond_some hF (fun h11 hF => ?_) (fun h11 hF => ?_)
  ·
   obtain rfl := Option.some.inj hF
   have pz : HoldAll E H hn59 [.test (beqb (igt a2.Limit 40) false) false, .test (beqb (igt a2.Limit 40) false) false, .test (beqb (igt a2.Limit 40) false) false, .test (igt a2.Limit 40) true, .test (beqb true false) false, .test (beqb true false) false, .test (beqb true false) false, .test true true, .test true true] := ⟨(beqb_ft (igt_eq h11)), (beqb_ft (igt_eq h11)), (beqb_ft (igt_eq h11)), (igt_eq h11), (beqb_ft rfl), (beqb_ft rfl), (beqb_ft rfl), rfl, rfl, trivial⟩
   exact fn_playC hn59 (r := F59_res 1) (q14 (q15 (q16 (q17 (q18 (q19 pz)))))) (by kernel_rfl) (by kernel_rfl)
  have q20 : PQ hn59 fun l => (.test (beqb (igt a2.Limit 40) false) true :: .test (beqb (igt a2.Limit 40) false) true :: .test (beqb (igt a2.Limit 40) false) true :: .test (igt a2.Limit 40) false :: l) := fun z => ⟨(beqb_ff (igt_eq h11)), (beqb_ff (igt_eq h11)), (beqb_ff (igt_eq h11)), (igt_eq h11), z⟩
  refine cond_some hF (fun h12 hF => ?_) (fun h12 hF => ?_)
  ·
   obtain rfl := Option.some.inj hF
   have pz : HoldAll E H hn59 [.test (beqb (ilt a2.Parts 1) false) false, .test (beqb (ilt a2.Parts 1) false) false, .test (beqb (ilt a2.Parts 1) false) false, .test (ilt a2.Parts 1) true, .test true true] := ⟨(beqb_ft h12), (beqb_ft h12), (beqb_ft h12), h12, rfl, trivial⟩
   exact fn_playC hn59 (r := F59_res 1) (q14 (q15 (q16 (q17 (q18 (q19 (q20 pz))))))) (by kernel_rfl) (by kernel_rfl)
  have q21 : PQ hn59 fun l => (.test (beqb (ilt a2.Parts 1) false) true :: .test (beqb (ilt a2.Parts 1) false) true :: .test (beqb (ilt a2.Parts 1) false) true :: .test (ilt a2.Parts 1) false :: l) := fun z => ⟨(beqb_ff h12), (beqb_ff h12), (beqb_ff h12), h12, z⟩
  refine cond_some hF (fun h13 hF => ?_) (fun h13 hF => ?_)
  ·
   obtain rfl := Option.some.inj hF
   have pz : HoldAll E H hn59 [.test (igt a2.Parts 6) true] := ⟨(igt_eq h13), trivial⟩
   exact fn_playC hn59 (r := F59_res 1) (q14 (q15 (q16 (q17 (q18 (q19 (q20 (q21 pz)))))))) (by kernel_rfl) (by kernel_rfl)
  obtain rfl := Option.some.inj hF
  have pz : HoldAll E H hn59 [.test (igt a2.Parts 6) false] := ⟨(igt_eq h13), trivial⟩
  exact fn_playC hn59 (r := F59_res 0) (q14 (q15 (q16 (q17 (q18 (q19 (q20 (q21 pz)))))))) (by kernel_rfl) (by kernel_rfl)
 obtain rfl := Option.some.inj hF
 have pz : HoldAll E H hn59 [.call 65 [.agg (eGGraph a1)] (F65_res r3), .test (leadsAny (Res.mk [(.one (.im (.lit (.int .i64 r3))))] [])) false, .test (ine r3 0) true] := ⟨(F65_ok K a1 _ h4), (leads_ok (by simp [leadsAny, RV.leads, RC.leads, leadsT, hasSl_lit])), (ine_f h5), trivial⟩
 exact fn_playC hn59 (r := F59_res r3) pz (by kernel_rfl) (by kernel_rfl)
def jbad (n : Int) (j : GJob) : Bool := ilt j.Source 0 || (ile n j.Source || (ilt j.Limit 0 || (ilt 40 j.Limit || (ilt j.Parts 1 || ilt 6 j.Parts))))
def pbad (p : Int) : Bool := ilt p 1 || ilt 5 p
def jcheck (g : GGraph) (j : GJob) : Int := bif ieq (gcheck g) 0 then (bif pbad j.Prog || jbad g.N j then 1 else 0) else gcheck g
theorem jtail (n : Int) (j : GJob) : (bif (ilt j.Source 0) then (some 1) else bif (ile n j.Source) then (some 1) else bif (ilt j.Limit 0) then (some 1) else bif (ilt 40 j.Limit) then (some 1) else bif (ilt j.Parts 1) then (some 1) else bif (ilt 6 j.Parts) then (some 1) else some 0) = some (bif jbad n j then 1 else 0 : Int) := by
 unfold jbad
 cases ilt j.Source 0 <;> cases ile n j.Source <;> cases ilt j.Limit 0 <;> cases ilt 40 j.Limit <;> cases ilt j.Parts 1 <;> cases ilt 6 j.Parts <;> rfl
theorem F59_spec {K : Nat} (hK : 100 ≤ K) (g : GGraph) (j : GJob) : F59 K g j = some (jcheck g j) := by
 rw [F59, F65_spec hK, Option.bind_some, jcheck]
 cases ieq (gcheck g) 0
 · rfl
 · rw [cond_true, cond_true, jtail, pbad]
   cases ilt j.Prog 1 <;> cases ilt 5 j.Prog <;> rfl
theorem jcheck_ok {g : GGraph} {j : GJob} (h : ieq (jcheck g j) 0 = true) : ieq (gcheck g) 0 = true ∧ 1 ≤ j.Prog ∧ j.Prog ≤ 5 ∧ 0 ≤ j.Source ∧ j.Source < g.N ∧ 0 ≤ j.Limit ∧ j.Limit ≤ 40 ∧ 1 ≤ j.Parts ∧ j.Parts ≤ 6 := by
 rw [jcheck] at h
 cases hg : ieq (gcheck g) 0
 · rw [hg, cond_false] at h; rw [h] at hg; cases hg
 · rw [hg, cond_true] at h
   cases hb : pbad j.Prog || jbad g.N j
   · simp only [pbad, jbad, Bool.or_eq_false_iff, ilt_f, ile_f] at hb
     obtain ⟨⟨h1, h2⟩, h3, h4, h5, h6, h7, h8⟩ := hb
     exact ⟨rfl, h1, h2, h3, h4, h5, h6, h7, h8⟩
   · rw [hb] at h; cases h
def F144 (K : Nat) (a1 : Int) (a2 : Int) : Option (Int × Bool) :=
 bif (beqb (ige a1 0) (ige a2 0)) then
  (bif (beqb (ige (wadd .i64 a1 a2) 0) (ige a1 0)) then
   (some ((wadd .i64 a1 a2), true))
  else
  some (0, false))
 else
 some ((wadd .i64 a1 a2), true)
noncomputable def hn96 : Hint := { H 96 with nt := 24, prot := 0 }
def F96_res (r1 : Int) : Res := ⟨[(.one (.im (.lit (.int .i64 r1))))], []⟩
def F96 (K : Nat) (a1 : GJob) (a2 : Int) : Option (Int) :=
 bif (ieq a1.Prog 2) then
  (some a2)
 else
 bif (ieq a1.Prog 4) then
  (some (wrem (wadd .i64 (wmul .i64 (wmul .i64 a2 a2) 31) 7) 1009))
 else
 bif (ieq a1.Prog 5) then
  (some 1000000)
 else
 bif (ieq a2 a1.Source) then
  (some 0)
 else
 some 9223372036854775807
theorem F96_ok (K : Nat) (a1 : GJob) (a2 : Int) (r : Int) (hF : F96 K a1 a2 = some r) : Evt E H 96 [.agg (eGJob a1), .one (.lit (.int .i64 a2))] (F96_res r) := by
 rw [F96] at hF
 refine cond_some hF (fun h3 hF => ?_) (fun h3 hF => ?_)
 ·
  obtain rfl := Option.some.inj hF
  have pz : HoldAll E H hn96 [.test (ieq a1.Prog 2) true] := ⟨h3, trivial⟩
  exact fn_playC hn96 (r := F96_res a2) pz (by kernel_rfl) (by kernel_rfl)
 refine cond_some hF (fun h4 hF => ?_) (fun h4 hF => ?_)
 ·
  obtain rfl := Option.some.inj hF
  have pz : HoldAll E H hn96 [.test (ieq a1.Prog 2) false, .test (ieq a1.Prog 4) true, .int (wmul .i64 a2 a2) (wmul .i64 a2 a2), .int (wmul .i64 (wmul .i64 a2 a2) 31) (wmul .i64 (wmul .i64 a2 a2) 31), .int (wadd .i64 (wmul .i64 (wmul .i64 a2 a2) 31) 7) (wadd .i64 (wmul .i64 (wmul .i64 a2 a2) 31) 7), .test (izero 1009) false, .int (wrem (wadd .i64 (wmul .i64 (wmul .i64 a2 a2) 31) 7) 1009) (wrem (wadd .i64 (wmul .i64 (wmul .i64 a2 a2) 31) 7) 1009)] := ⟨h3, h4, rfl, rfl, rfl, (by first | exact rfl | (unfold Cond.Holds; decide)), rfl, trivial⟩
  exact fn_playC hn96 (r := F96_res (wrem (wadd .i64 (wmul .i64 (wmul .i64 a2 a2) 31) 7) 1009)) pz (by kernel_rfl) (by kernel_rfl)
 refine cond_some hF (fun h5 hF => ?_) (fun h5 hF => ?_)
 ·
  obtain rfl := Option.some.inj hF
  have pz : HoldAll E H hn96 [.test (ieq a1.Prog 2) false, .test (ieq a1.Prog 4) false, .test (ieq a1.Prog 5) true] := ⟨h3, h4, h5, trivial⟩
  exact fn_playC hn96 (r := F96_res 1000000) pz (by kernel_rfl) (by kernel_rfl)
 have q7 : PQ hn96 fun l => (.test (ieq a1.Prog 2) false :: .test (ieq a1.Prog 4) false :: .test (ieq a1.Prog 5) false :: l) := fun z => ⟨h3, h4, h5, z⟩
 refine cond_some hF (fun h6 hF => ?_) (fun h6 hF => ?_)
 ·
  obtain rfl := Option.some.inj hF
  have pz : HoldAll E H hn96 [.test (ieq a2 a1.Source) true] := ⟨h6, trivial⟩
  exact fn_playC hn96 (r := F96_res 0) (q7 pz) (by kernel_rfl) (by kernel_rfl)
 obtain rfl := Option.some.inj hF
 have pz : HoldAll E H hn96 [.test (ieq a2 a1.Source) false] := ⟨h6, trivial⟩
 exact fn_playC hn96 (r := F96_res 9223372036854775807) (q7 pz) (by kernel_rfl) (by kernel_rfl)
noncomputable def hn145 : Hint := { H 145 with nt := 27, prot := 0 }
def F145_res (r1 : Int × Bool) : Res := ⟨[(.one (.im (.lit (.int .i64 r1.1)))), (.one (.im (.lit (.bool r1.2))))], []⟩
def F145 (K : Nat) (a1 : Int) (a2 : Int) : Option (Int × Bool) :=
 bif (ilt 0 a2) then
  (bif (ilt (wsub .i64 9223372036854775807 a2) a1) then
   (some (0, false))
  else
  bif (ilt a2 0) then
   (bif (ilt a1 (wsub .i64 (-9223372036854775808) a2)) then
    (some (0, false))
   else
   some ((wadd .i64 a1 a2), true))
  else
  some ((wadd .i64 a1 a2), true))
 else
 bif (ilt a2 0) then
  (bif (ilt a1 (wsub .i64 (-9223372036854775808) a2)) then
   (some (0, false))
  else
  some ((wadd .i64 a1 a2), true))
 else
 some ((wadd .i64 a1 a2), true)
theorem F145_ok (K : Nat) (a1 : Int) (a2 : Int) (r : Int × Bool) (hF : F145 K a1 a2 = some r) : Evt E H 145 [.one (.lit (.int .i64 a1)), .one (.lit (.int .i64 a2))] (F145_res r) := by
 rw [F145] at hF
 refine cond_some hF (fun h3 hF => ?_) (fun h3 hF => ?_)
 ·
  have q9 : PQ hn145 fun l => (.test (beqb (igt a2 0) true) true :: .test (beqb (igt a2 0) true) true :: .test (beqb (igt a2 0) true) true :: .int (wsub .i64 9223372036854775807 a2) (wsub .i64 9223372036854775807 a2) :: .test (beqb (igt a2 0) true) true :: .test (igt a2 0) true :: l) := fun z => ⟨(beqb_t (igt_eq h3)), (beqb_t (igt_eq h3)), (beqb_t (igt_eq h3)), rfl, (beqb_t (igt_eq h3)), (igt_eq h3), z⟩
  refine cond_some hF (fun h4 hF => ?_) (fun h4 hF => ?_)
  ·
   obtain rfl := Option.some.inj hF
   have pz : HoldAll E H hn145 [.test (beqb (igt a1 (wsub .i64 9223372036854775807 a2)) false) false, .test (beqb (igt a1 (wsub .i64 9223372036854775807 a2)) false) false, .test (beqb (igt a1 (wsub .i64 9223372036854775807 a2)) false) false, .test (beqb (igt a1 (wsub .i64 9223372036854775807 a2)) false) false, .test (igt a1 (wsub .i64 9223372036854775807 a2)) true, .test true true] := ⟨(beqb_ft (igt_eq h4)), (beqb_ft (igt_eq h4)), (beqb_ft (igt_eq h4)), (beqb_ft (igt_eq h4)), (igt_eq h4), rfl, trivial⟩
   exact fn_playC hn145 (r := F145_res (0, false)) (q9 pz) (by kernel_rfl) (by kernel_rfl)
  have q10 : PQ hn145 fun l => (.test (beqb (igt a1 (wsub .i64 9223372036854775807 a2)) false) true :: .test (beqb (igt a1 (wsub .i64 9223372036854775807 a2)) false) true :: .test (beqb (igt a1 (wsub .i64 9223372036854775807 a2)) false) true :: l) := fun z => ⟨(beqb_ff (igt_eq h4)), (beqb_ff (igt_eq h4)), (beqb_ff (igt_eq h4)), z⟩
  refine cond_some hF (fun h5 hF => ?_) (fun h5 hF => ?_)
  ·
   have q11 : PQ hn145 fun l => (.test (beqb (ilt a2 0) true) true :: .test (beqb (ilt a2 0) true) true :: .test (beqb (ilt a2 0) true) true :: .int (wsub .i64 (-9223372036854775808) a2) (wsub .i64 (-9223372036854775808) a2) :: .test (beqb (ilt a2 0) true) true :: .test (beqb (igt a1 (wsub .i64 9223372036854775807 a2)) false) true :: .test (ilt a2 0) true :: .test (igt a1 (wsub .i64 9223372036854775807 a2)) false :: l) := fun z => ⟨(beqb_t h5), (beqb_t h5), (beqb_t h5), rfl, (beqb_t h5), (beqb_ff (igt_eq h4)), h5, (igt_eq h4), z⟩
   refine cond_some hF (fun h6 hF => ?_) (fun h6 hF => ?_)
   ·
    obtain rfl := Option.some.inj hF
    have pz : HoldAll E H hn145 [.test (ilt a1 (wsub .i64 (-9223372036854775808) a2)) true] := ⟨h6, trivial⟩
    exact fn_playC hn145 (r := F145_res (0, false)) (q9 (q10 (q11 pz))) (by kernel_rfl) (by kernel_rfl)
   obtain rfl := Option.some.inj hF
   have pz : HoldAll E H hn145 [.test (ilt a1 (wsub .i64 (-9223372036854775808) a2)) false, .int (wadd .i64 a1 a2) (wadd .i64 a1 a2)] := ⟨h6, rfl, trivial⟩
   exact fn_playC hn145 (r := F145_res ((wadd .i64 a1 a2), true)) (q9 (q10 (q11 pz))) (by kernel_rfl) (by kernel_rfl)
  obtain rfl := Option.some.inj hF
  have pz : HoldAll E H hn145 [.test (beqb (ilt a2 0) true) false, .test (beqb (ilt a2 0) true) false, .test (beqb (ilt a2 0) true) false, .test (beqb (ilt a2 0) true) false, .test (beqb (igt a1 (wsub .i64 9223372036854775807 a2)) false) true, .test (ilt a2 0) false, .test (igt a1 (wsub .i64 9223372036854775807 a2)) false, .test false false, .int (wadd .i64 a1 a2) (wadd .i64 a1 a2)] := ⟨(beqb_t h5), (beqb_t h5), (beqb_t h5), (beqb_t h5), (beqb_ff (igt_eq h4)), h5, (igt_eq h4), rfl, rfl, trivial⟩
  exact fn_playC hn145 (r := F145_res ((wadd .i64 a1 a2), true)) (q9 (q10 pz)) (by kernel_rfl) (by kernel_rfl)
 have q12 : PQ hn145 fun l => (.test (beqb (igt a2 0) true) false :: .test (beqb (igt a2 0) true) false :: .test (beqb (igt a2 0) true) false :: .test (beqb (igt a2 0) true) false :: .test (igt a2 0) false :: .test (beqb false false) true :: .test (beqb false false) true :: .test (beqb false false) true :: l) := fun z => ⟨(beqb_t (igt_eq h3)), (beqb_t (igt_eq h3)), (beqb_t (igt_eq h3)), (beqb_t (igt_eq h3)), (igt_eq h3), (beqb_ff rfl), (beqb_ff rfl), (beqb_ff rfl), z⟩
 refine cond_some hF (fun h7 hF => ?_) (fun h7 hF => ?_)
 ·
  have q13 : PQ hn145 fun l => (.test (beqb (ilt a2 0) true) true :: .test (beqb (ilt a2 0) true) true :: .test (beqb (ilt a2 0) true) true :: .int (wsub .i64 (-9223372036854775808) a2) (wsub .i64 (-9223372036854775808) a2) :: .test (beqb (ilt a2 0) true) true :: .test (beqb false false) true :: .test (ilt a2 0) true :: .test false false :: l) := fun z => ⟨(beqb_t h7), (beqb_t h7), (beqb_t h7), rfl, (beqb_t h7), (beqb_ff rfl), h7, rfl, z⟩
  refine cond_some hF (fun h8 hF => ?_) (fun h8 hF => ?_)
  ·
   obtain rfl := Option.some.inj hF
   have pz : HoldAll E H hn145 [.test (ilt a1 (wsub .i64 (-9223372036854775808) a2)) true] := ⟨h8, trivial⟩
   exact fn_playC hn145 (r := F145_res (0, false)) (q12 (q13 pz)) (by kernel_rfl) (by kernel_rfl)
  obtain rfl := Option.some.inj hF
  have pz : HoldAll E H hn145 [.test (ilt a1 (wsub .i64 (-9223372036854775808) a2)) false, .int (wadd .i64 a1 a2) (wadd .i64 a1 a2)] := ⟨h8, rfl, trivial⟩
  exact fn_playC hn145 (r := F145_res ((wadd .i64 a1 a2), true)) (q12 (q13 pz)) (by kernel_rfl) (by kernel_rfl)
 obtain rfl := Option.some.inj hF
 have pz : HoldAll E H hn145 [.test (beqb (ilt a2 0) true) false, .test (beqb (ilt a2 0) true) false, .test (beqb (ilt a2 0) true) false, .test (beqb (ilt a2 0) true) false, .test (beqb false false) true, .test (ilt a2 0) false, .test false false, .test false false, .int (wadd .i64 a1 a2) (wadd .i64 a1 a2)] := ⟨(beqb_t h7), (beqb_t h7), (beqb_t h7), (beqb_t h7), (beqb_ff rfl), h7, rfl, rfl, rfl, trivial⟩
 exact fn_playC hn145 (r := F145_res ((wadd .i64 a1 a2), true)) (q12 pz) (by kernel_rfl) (by kernel_rfl)
noncomputable def hn98 : Hint := { H 98 with nt := 39, prot := 0 }
def F98_res (r1 : Int × Int) : Res := ⟨[(.one (.im (.lit (.int .i64 r1.1)))), (.one (.im (.lit (.int .i64 r1.2))))], []⟩
def F98 (K : Nat) (a1 : Int) (a2 : Int) (a3 : Int) : Option (Int × Int) :=
 bif (ilt a1 1) then
  (some (0, 1))
 else
 bif (ilt 5 a1) then
  (some (0, 1))
 else
 bif (ieq a1 5) then
  ((F145 K a2 a3).bind fun r4 =>
  bif r4.2 then
   (some (r4.1, 0))
  else
  some (0, 8))
 else
 bif (ieq a1 4) then
  (bif (ilt a3 a2) then
   (some (a2, 0))
  else
  some (a3, 0))
 else
 bif (ilt a2 a3) then
  (some (a2, 0))
 else
 some (a3, 0)
theorem F98_ok (K : Nat) (a1 : Int) (a2 : Int) (a3 : Int) (r : Int × Int) (hF : F98 K a1 a2 a3 = some r) : Evt E H 98 [.one (.lit (.int .i64 a1)), .one (.lit (.int .i64 a2)), .one (.lit (.int .i64 a3))] (F98_res r) := by
 rw [F98] at hF
 refine cond_some hF (fun h4 hF => ?_) (fun h4 hF => ?_)
 ·
  obtain rfl := Option.some.inj hF
  have pz : HoldAll E H hn98 [.test (beqb (ilt a1 1) false) false, .test (beqb (ilt a1 1) false) false, .test (ilt a1 1) true, .test true true] := ⟨(beqb_ft h4), (beqb_ft h4), h4, rfl, trivial⟩
  exact fn_playC hn98 (r := F98_res (0, 1)) pz (by kernel_rfl) (by kernel_rfl)
 have q13 : PQ hn98 fun l => (.test (beqb (ilt a1 1) false) true :: .test (beqb (ilt a1 1) false) true :: .test (ilt a1 1) false :: l) := fun z => ⟨(beqb_ff h4), (beqb_ff h4), h4, z⟩
 refine cond_some hF (fun h5 hF => ?_) (fun h5 hF => ?_)
 ·
  obtain rfl := Option.some.inj hF
  have pz : HoldAll E H hn98 [.test (igt a1 5) true] := ⟨(igt_eq h5), trivial⟩
  exact fn_playC hn98 (r := F98_res (0, 1)) (q13 pz) (by kernel_rfl) (by kernel_rfl)
 refine cond_some hF (fun h6 hF => ?_) (fun h6 hF => ?_)
 ·
  refine bind_some hF (fun r7 h8 hF => ?_)
  have q14 : PQ hn98 fun l => (.test (igt a1 5) false :: .test (ieq a1 5) true :: .call 145 [.one (.lit (.int .i64 a2)), .one (.lit (.int .i64 a3))] (F145_res r7) :: .test (leadsAny (Res.mk [(.one (.im (.lit (.int .i64 r7.1)))), (.one (.im (.lit (.bool r7.2))))] [])) false :: l) := fun z => ⟨(igt_eq h5), h6, (F145_ok K a2 a3 _ h8), (leads_ok (by simp [leadsAny, RV.leads, RC.leads, leadsT, hasSl_lit])), z⟩
  refine cond_some hF (fun h9 hF => ?_) (fun h9 hF => ?_)
  ·
   obtain rfl := Option.some.inj hF
   have pz : HoldAll E H hn98 [.test (bnot r7.2) false] := ⟨(bnot_t h9), trivial⟩
   exact fn_playC hn98 (r := F98_res (r7.1, 0)) (q13 (q14 pz)) (by kernel_rfl) (by kernel_rfl)
  obtain rfl := Option.some.inj hF
  have pz : HoldAll E H hn98 [.test (bnot r7.2) true] := ⟨(bnot_f h9), trivial⟩
  exact fn_playC hn98 (r := F98_res (0, 8)) (q13 (q14 pz)) (by kernel_rfl) (by kernel_rfl)
 refine cond_some hF (fun h10 hF => ?_) (fun h10 hF => ?_)
 ·
  have q15 : PQ hn98 fun l => (.test (igt a1 5) false :: .test (ieq a1 5) false :: .test (ieq a1 4) true :: l) := fun z => ⟨(igt_eq h5), h6, h10, z⟩
  refine cond_some hF (fun h11 hF => ?_) (fun h11 hF => ?_)
  ·
   obtain rfl := Option.some.inj hF
   have pz : HoldAll E H hn98 [.test (igt a2 a3) true] := ⟨(igt_eq h11), trivial⟩
   exact fn_playC hn98 (r := F98_res (a2, 0)) (q13 (q15 pz)) (by kernel_rfl) (by kernel_rfl)
  obtain rfl := Option.some.inj hF
  have pz : HoldAll E H hn98 [.test (igt a2 a3) false] := ⟨(igt_eq h11), trivial⟩
  exact fn_playC hn98 (r := F98_res (a3, 0)) (q13 (q15 pz)) (by kernel_rfl) (by kernel_rfl)
 have q16 : PQ hn98 fun l => (.test (igt a1 5) false :: .test (ieq a1 5) false :: .test (ieq a1 4) false :: l) := fun z => ⟨(igt_eq h5), h6, h10, z⟩
 refine cond_some hF (fun h12 hF => ?_) (fun h12 hF => ?_)
 ·
  obtain rfl := Option.some.inj hF
  have pz : HoldAll E H hn98 [.test (ilt a2 a3) true] := ⟨h12, trivial⟩
  exact fn_playC hn98 (r := F98_res (a2, 0)) (q13 (q16 pz)) (by kernel_rfl) (by kernel_rfl)
 obtain rfl := Option.some.inj hF
 have pz : HoldAll E H hn98 [.test (ilt a2 a3) false] := ⟨h12, trivial⟩
 exact fn_playC hn98 (r := F98_res (a3, 0)) (q13 (q16 pz)) (by kernel_rfl) (by kernel_rfl)
def i64 (n : Int) : Prop := -9223372036854775808 ≤ n ∧ n ≤ 9223372036854775807
def startS (j : GJob) (v : Int) : Int := bif ieq j.Prog 2 then v else bif ieq j.Prog 4 then (31 * v * v + 7) % 1009 else bif ieq j.Prog 5 then 1000000 else bif ieq v j.Source then 0 else 9223372036854775807
theorem wmul_ok {a b : Int} (h : i64 (a * b)) : wmul .i64 a b = a * b := by
 show IntKind.i64.wrap (a * b) = _
 rw [IntKind.wrap_i64]; unfold i64 at h; omega
theorem wadd_i64 {a b : Int} (h : i64 (a + b)) : wadd .i64 a b = a + b := by
 show IntKind.i64.wrap (a + b) = _
 rw [IntKind.wrap_i64]; unfold i64 at h; omega
theorem most_ok {v : Int} (h0 : 0 ≤ v) (h : v ≤ 1000) : wrem (wadd .i64 (wmul .i64 (wmul .i64 31 v) v) 7) 1009 = (31 * v * v + 7) % 1009 ∧ wrem (wadd .i64 (wmul .i64 (wmul .i64 v v) 31) 7) 1009 = (31 * v * v + 7) % 1009 := by
 have hvv : 0 ≤ v * v ∧ v * v ≤ 1000000 := ⟨Int.mul_nonneg h0 h0, by have := Int.mul_le_mul h h h0 (by omega : (0 : Int) ≤ 1000); omega⟩
 have e1 : 31 * v * v = 31 * (v * v) := Int.mul_assoc _ _ _
 have e2 : wmul .i64 31 v = 31 * v := wmul_ok ⟨by omega, by omega⟩
 have e3 : wmul .i64 (31 * v) v = 31 * v * v := wmul_ok ⟨by omega, by omega⟩
 have e4 : wmul .i64 v v = v * v := wmul_ok ⟨by omega, by omega⟩
 have e5 : wmul .i64 (v * v) 31 = v * v * 31 := wmul_ok ⟨by omega, by omega⟩
 have e6 : wadd .i64 (31 * v * v) 7 = 31 * v * v + 7 := wadd_i64 ⟨by omega, by omega⟩
 have e7 : v * v * 31 = 31 * v * v := by omega
 rw [e2, e3, e4, e5, e7, e6]
 have : wrem (31 * v * v + 7) 1009 = (31 * v * v + 7) % 1009 := by
   show Int.tmod _ _ = _
   exact Int.tmod_eq_emod_of_nonneg (by omega)
 exact ⟨this, this⟩
theorem F96_spec (K : Nat) (j : GJob) {v : Int} (h0 : 0 ≤ v) (h : v ≤ 1000) : F96 K j v = some (startS j v) := by
 rw [F96, (most_ok h0 h).2, startS]
 cases ieq j.Prog 2 <;> cases ieq j.Prog 4 <;> cases ieq j.Prog 5 <;> cases ieq v j.Source <;> rfl
def fitsB (n : Int) : Bool := decide (-9223372036854775808 ≤ n) && decide (n ≤ 9223372036854775807)
theorem fitsB_iff {n : Int} : fitsB n = true ↔ i64 n := by simp [fitsB, i64]
theorem fitsB_f {n : Int} : fitsB n = false ↔ n < -9223372036854775808 ∨ 9223372036854775807 < n := by
 cases h : fitsB n
 · have : ¬ i64 n := fun q => by rw [fitsB_iff.2 q] at h; cases h
   unfold i64 at this
   simp only [true_iff]; omega
 · have := fitsB_iff.1 h
   unfold i64 at this
   simp only [Bool.true_eq_false, false_iff]; omega
def addS (a b : Int) : Int × Bool := bif fitsB (a + b) then (a + b, true) else (0, false)
theorem F145_spec (K : Nat) {a b : Int} (ha : i64 a) (hb : i64 b) : F145 K a b = some (addS a b) := by
 unfold i64 at ha hb
 rw [F145, addS]
 cases h1 : ilt 0 b
 · have b1 := ilt_f.1 h1
   cases h2 : ilt b 0
   · have b2 := ilt_f.1 h2
     have : b = 0 := by omega
     rw [fitsB_iff.2 (by unfold i64; omega), wadd_i64 (by unfold i64; omega)]; rfl
   · have b2 := ilt_iff.1 h2
     have ew : wsub .i64 (-9223372036854775808) b = -9223372036854775808 - b := by
       show IntKind.i64.wrap _ = _
       rw [IntKind.wrap_i64]; omega
     rw [cond_false, cond_true, ew]
     cases h3 : ilt a (-9223372036854775808 - b)
     · have := ilt_f.1 h3
       rw [fitsB_iff.2 (by unfold i64; omega), wadd_i64 (by unfold i64; omega)]; rfl
     · have := ilt_iff.1 h3
       rw [fitsB_f.2 (by omega)]; rfl
 · have b1 := ilt_iff.1 h1
   have ew : wsub .i64 9223372036854775807 b = 9223372036854775807 - b := by
     show IntKind.i64.wrap _ = _
     rw [IntKind.wrap_i64]; omega
   rw [cond_true, ew, ilt_f.2 (by omega : (0 : Int) ≤ b), cond_false]
   cases h3 : ilt (9223372036854775807 - b) a
   · have := ilt_f.1 h3
     rw [fitsB_iff.2 (by unfold i64; omega), wadd_i64 (by unfold i64; omega)]; rfl
   · have := ilt_iff.1 h3
     rw [fitsB_f.2 (by omega)]; rfl
theorem F144_spec (K : Nat) {a b : Int} (ha : i64 a) (hb : i64 b) : F144 K a b = some (addS a b) := by
 unfold i64 at ha hb
 have ew : wadd .i64 a b = bif fitsB (a + b) then a + b else bif ilt (a + b) 0 then a + b + 18446744073709551616 else a + b - 18446744073709551616 := by
   show IntKind.i64.wrap (a + b) = _
   rw [IntKind.wrap_i64]
   cases h : fitsB (a + b)
   · have := fitsB_f.1 h
     cases h2 : ilt (a + b) 0
     · have := ilt_f.1 h2; simp only [cond_false]; omega
     · have := ilt_iff.1 h2; simp only [cond_false, cond_true]; omega
   · have := fitsB_iff.1 h; unfold i64 at this; simp only [cond_true]; omega
 have eg : ∀ x : Int, ige x 0 = !(ilt x 0) := fun x => by
   unfold ige ilt
   by_cases h : x < 0 <;> simp [h] <;> omega
 rw [F144, addS, eg, eg, eg, ew]
 cases h : fitsB (a + b)
 · have h' := fitsB_f.1 h
   rcases h' with h' | h'
   · rw [ilt_iff.2 (by omega : a < 0), ilt_iff.2 (by omega : b < 0), ilt_iff.2 (by omega : a + b < 0)]
     simp only [cond_false, cond_true]
     rw [ilt_f.2 (by omega : 0 ≤ a + b + 18446744073709551616)]; rfl
   · rw [ilt_f.2 (by omega : 0 ≤ a), ilt_f.2 (by omega : 0 ≤ b), ilt_f.2 (by omega : 0 ≤ a + b)]
     simp only [cond_false, cond_true]
     rw [ilt_iff.2 (by omega : a + b - 18446744073709551616 < 0)]; rfl
 · simp only [cond_true]
   cases h1 : ilt a 0 <;> cases h2 : ilt b 0
   · rw [ilt_f.2 (by have := ilt_f.1 h1; have := ilt_f.1 h2; omega : 0 ≤ a + b)]; rfl
   · rfl
   · rfl
   · rw [ilt_iff.2 (by have := ilt_iff.1 h1; have := ilt_iff.1 h2; omega : a + b < 0)]; rfl
def foldS (p a b : Int) : Int × Int := bif pbad p then (0, 1) else bif ieq p 5 then (bif (addS a b).2 then ((addS a b).1, 0) else (0, 8)) else bif ieq p 4 then (bif ilt a b then (b, 0) else (a, 0)) else bif ilt b a then (b, 0) else (a, 0)
theorem F98_spec (K : Nat) (p : Int) {a b : Int} (ha : i64 a) (hb : i64 b) : F98 K p a b = some (foldS p a b) := by
 rw [F98, F145_spec K ha hb, foldS, pbad]
 cases ilt p 1
 · cases ilt 5 p
   · cases ieq p 5
     · cases ieq p 4
       · simp only [Bool.or_false, cond_false]
         cases h1 : ilt a b <;> cases h2 : ilt b a
         · have := ilt_f.1 h1; have := ilt_f.1 h2
           have : a = b := by omega
           subst this; rfl
         · rfl
         · rfl
         · have := ilt_iff.1 h1; have := ilt_iff.1 h2; omega
       · simp only [Bool.or_false, cond_false, cond_true]
         cases h1 : ilt a b <;> cases h2 : ilt b a
         · have := ilt_f.1 h1; have := ilt_f.1 h2
           have : a = b := by omega
           subst this; rfl
         · rfl
         · rfl
         · have := ilt_iff.1 h1; have := ilt_iff.1 h2; omega
     · simp only [Bool.or_false, cond_false, cond_true, Option.bind_some]
       cases (addS a b).2 <;> rfl
   · rfl
 · rfl
theorem foldS_i64 {p a b : Int} (ha : i64 a) (hb : i64 b) : i64 (foldS p a b).1 := by
 have h0 : i64 0 := by unfold i64; omega
 rw [foldS]
 cases pbad p
 · cases ieq p 5
   · cases ieq p 4
     · simp only [cond_false]
       cases ilt b a
       · exact ha
       · exact hb
     · simp only [cond_false, cond_true]
       cases ilt a b
       · exact ha
       · exact hb
   · simp only [cond_false, cond_true]
     unfold addS
     cases h : fitsB (a + b)
     · exact h0
     · exact fitsB_iff.1 h
 · exact h0
noncomputable def hn152 : Hint := { H 152 with nt := 68, prot := 0 }
noncomputable def c152_0 : Code := loopOf E 152 0
noncomputable def c152_1 : Code := loopOf E 152 1
def F152_res (r1 : List GMsg × Int) : Res := ⟨[(.one (.own 130 (.sl (len r1.1) (flat eGMsg r1.1)))), (.one (.im (.lit (.int .i64 r1.2))))], []⟩
def F152_l1_1 (K : Nat) (a1 : Int) (r2 : List GMsg) (v3 : List GMsg) (x4 : GMsg) : Nat → Int → Int → Option ((Int) ⊕ (Int × Int))
 | 0, _, _ => none
 | k + 1, v5, v6 =>
  bif (ilt v5 (nlen (len r2))) then
   (bif (inr v5 (len r2)) then
   (elAt r2 v5).bind fun x7 =>
   bif (ieq x7.To x4.To) then
    ((F98 K a1 v6 x7.V).bind fun r8 =>
    bif (ieq r8.2 0) then
     (F152_l1_1 K a1 r2 v3 x4 k (wadd .i64 v5 1) r8.1)
    else
    some (.inl r8.2))
   else
   some (.inr (v5, v6))
   else none)
  else
  some (.inr (v5, v6))
def F152_l1_1_S (a1 : Int) (r2 : List GMsg) (v3 : List GMsg) (x4 : GMsg) (v5 : Int) (v6 : Int) : TS := .on [0, 1, 384, 385, 448, 449, 512, 513, 576, 577, 578] [(0, ⟨.one, 0, nob⟩), (1, ⟨.im, 0, (.lit (.int .i64 a1))⟩), (384, ⟨.one, 0, nob⟩), (385, ⟨(.own 130), 0, (.sl (len r2) (flat eGMsg r2))⟩), (448, ⟨.one, 0, nob⟩), (449, ⟨(.own 130), 0, (.sl (len v3) (flat eGMsg v3))⟩), (512, ⟨.one, 0, nob⟩), (513, ⟨.im, 0, (.lit (.int .i64 v5))⟩), (576, ⟨(.box 130 2), 0, nob⟩), (577, ⟨.im, 0, (.lit (.int .i64 x4.To))⟩), (578, ⟨.im, 0, (.lit (.int .i64 v6))⟩)]
def F152_l1_1_X0 (a1 : Int) (r2 : List GMsg) (v3 : List GMsg) (x4 : GMsg) (w5 : Int) : TS := .on [256, 257, 320, 321] [(256, ⟨.one, 0, nob⟩), (257, ⟨(.own 130), 0, (.sl 0 [])⟩), (320, ⟨.one, 0, nob⟩), (321, ⟨.im, 0, (.lit (.int .i64 w5))⟩)]
def F152_l1_1_X1 (a1 : Int) (r2 : List GMsg) (v3 : List GMsg) (x4 : GMsg) (w5 : Int × Int) : TS := .on [0, 1, 384, 385, 448, 449, 512, 513, 576, 577, 578] [(0, ⟨.one, 0, nob⟩), (1, ⟨.im, 0, (.lit (.int .i64 a1))⟩), (384, ⟨.one, 0, nob⟩), (385, ⟨(.own 130), 0, (.sl (len r2) (flat eGMsg r2))⟩), (448, ⟨.one, 0, nob⟩), (449, ⟨(.own 130), 0, (.sl (len v3) (flat eGMsg v3))⟩), (512, ⟨.one, 0, nob⟩), (513, ⟨.im, 0, (.lit (.int .i64 w5.1))⟩), (576, ⟨(.box 130 2), 0, nob⟩), (577, ⟨.im, 0, (.lit (.int .i64 x4.To))⟩), (578, ⟨.im, 0, (.lit (.int .i64 w5.2))⟩)]
theorem F152_l1_1_ok (K : Nat) (a1 : Int) (r2 : List GMsg) (v3 : List GMsg) (x4 : GMsg) : ∀ (k : Nat) (v5 : Int) (v6 : Int) (r : (Int) ⊕ (Int × Int)), F152_l1_1 K a1 r2 v3 x4 k v5 v6 = some r → (Sum.elim (fun w => LoopEv E H hn152 2 c152_1 (F152_l1_1_S a1 r2 v3 x4 v5 v6) .ret (F152_l1_1_X0 a1 r2 v3 x4 w)) (fun w => LoopEv E H hn152 2 c152_1 (F152_l1_1_S a1 r2 v3 x4 v5 v6) (.exit 2) (F152_l1_1_X1 a1 r2 v3 x4 w))) r := by
 intro k
 induction k with
 | zero => intro v5 v6 r hF; cases hF
 | succ k ih =>
  intro v5 v6 r hF
  rw [F152_l1_1] at hF
  refine cond_some hF (fun h7 hF => ?_) (fun h7 hF => ?_)
  ·
   refine cond_some hF (fun h8 hF => ?_) (fun _ hF => nomatch hF)
   refine bind_some hF (fun x9 h10 hF => ?_)
   have q15 : PQ hn152 fun l => (.int (nlen (len r2)) (nlen (len r2)) :: .test (beqb (ilt v5 (nlen (len r2))) true) true :: .test (beqb (ilt v5 (nlen (len r2))) true) true :: .test (beqb (ilt v5 (nlen (len r2))) true) true :: .test (inr v5 (len r2)) true :: .test (beqb (ilt v5 (nlen (len r2))) true) true :: .test (beqb (ilt v5 (nlen (len r2))) true) true :: .sub (flat eGMsg r2) (nadd (nidx v5 2) 0) 1 [(.lit (.int .i64 x9.To))] :: .test (beqb (ilt v5 (nlen (len r2))) true) true :: .test (beqb (ilt v5 (nlen (len r2))) true) true :: .test (beqb (ilt v5 (nlen (len r2))) true) true :: .test (ilt v5 (nlen (len r2))) true :: l) := fun z => ⟨rfl, (beqb_t h7), (beqb_t h7), (beqb_t h7), h8, (beqb_t h7), (beqb_t h7), ⟨rfl, sub_flat eGMsg_len h10 0 1 (by decide)⟩, (beqb_t h7), (beqb_t h7), (beqb_t h7), h7, z⟩
   refine cond_some hF (fun h11 hF => ?_) (fun h11 hF => ?_)
   ·
    refine bind_some hF (fun r12 h13 hF => ?_)
    have q16 : PQ hn152 fun l => (.test (ieq x9.To x4.To) true :: .test (inr v5 (len r2)) true :: .sub (flat eGMsg r2) (nadd (nidx v5 2) 1) 1 [(.lit (.int .i64 x9.V))] :: .call 98 [.one (.lit (.int .i64 a1)), .one (.lit (.int .i64 v6)), .one (.lit (.int .i64 x9.V))] (F98_res r12) :: .test (leadsAny (Res.mk [(.one (.im (.lit (.int .i64 r12.1)))), (.one (.im (.lit (.int .i64 r12.2))))] [])) false :: l) := fun z => ⟨h11, h8, ⟨rfl, sub_flat eGMsg_len h10 1 1 (by decide)⟩, (F98_ok K a1 v6 x9.V _ h13), (leads_ok (by simp [leadsAny, RV.leads, RC.leads, leadsT, hasSl_lit, flat_ns eGMsg_ns])), z⟩
    refine cond_some hF (fun h14 hF => ?_) (fun h14 hF => ?_)
    ·
     have pz : HoldAll E H hn152 [.test (ine r12.2 0) false, .int (wadd .i64 v5 1) (wadd .i64 v5 1)] := ⟨(ine_t h14), rfl, trivial⟩
     have h0 := ih _ _ _ hF
     have hn := fun ex ts' => loop_nextC (h := hn152) (l := 2) (c := c152_1) (ts := F152_l1_1_S a1 r2 v3 x4 v5 v6) (ts1 := (F152_l1_1_S a1 r2 v3 x4 (wadd .i64 v5 1) r12.1)) (ex := ex) (ts' := ts') (q15 (q16 pz)) (by kernel_rfl)
     cases r with
     | inl w => exact hn _ _ h0
     | inr w => exact hn _ _ h0
    obtain rfl := Option.some.inj hF
    have pz : HoldAll E H hn152 [.test (ine r12.2 0) true] := ⟨(ine_f h14), trivial⟩
    exact loop_endC (h := hn152) (l := 2) (c := c152_1) (ts := F152_l1_1_S a1 r2 v3 x4 v5 v6) (ts' := F152_l1_1_X0 a1 r2 v3 x4 r12.2) (ex := .ret) (q15 (q16 pz)) (by kernel_rfl) trivial
   obtain rfl := Option.some.inj hF
   have pz : HoldAll E H hn152 [.test (ieq x9.To x4.To) false] := ⟨h11, trivial⟩
   exact loop_endC (h := hn152) (l := 2) (c := c152_1) (ts := F152_l1_1_S a1 r2 v3 x4 v5 v6) (ts' := F152_l1_1_X1 a1 r2 v3 x4 (v5, v6)) (ex := (.exit 2)) (q15 pz) (by kernel_rfl) trivial
  obtain rfl := Option.some.inj hF
  have pz : HoldAll E H hn152 [.int (nlen (len r2)) (nlen (len r2)), .test (beqb (ilt v5 (nlen (len r2))) true) false, .test (beqb (ilt v5 (nlen (len r2))) true) false, .test (beqb (ilt v5 (nlen (len r2))) true) false, .test (beqb (ilt v5 (nlen (len r2))) true) false, .test (beqb (ilt v5 (nlen (len r2))) true) false, .test (beqb (ilt v5 (nlen (len r2))) true) false, .test (beqb (ilt v5 (nlen (len r2))) true) false, .test (beqb (ilt v5 (nlen (len r2))) true) false, .test (ilt v5 (nlen (len r2))) false, .test false false] := ⟨rfl, (beqb_t h7), (beqb_t h7), (beqb_t h7), (beqb_t h7), (beqb_t h7), (beqb_t h7), (beqb_t h7), (beqb_t h7), h7, rfl, trivial⟩
  exact loop_endC (h := hn152) (l := 2) (c := c152_1) (ts := F152_l1_1_S a1 r2 v3 x4 v5 v6) (ts' := F152_l1_1_X1 a1 r2 v3 x4 (v5, v6)) (ex := (.exit 2)) pz (by kernel_rfl) trivial
def F152_l0_0 (K : Nat) (a1 : Int) (r2 : List GMsg) : Nat → List GMsg → Int → Option ((Int) ⊕ (List GMsg))
 | 0, _, _ => none
 | k + 1, v3, v4 =>
  bif (ilt v4 (nlen (len r2))) then
   (bif (inr v4 (len r2)) then
   (elAt r2 v4).bind fun x5 =>
   (F152_l1_1 K a1 r2 v3 x5 K (wadd .i64 v4 1) x5.V).bind fun y6 =>
   Sum.elim (fun w7 =>
    some (.inl w7))
    (fun w8 =>
    bif (apok (len v3) 1 16) then
    F152_l0_0 K a1 r2 k (appL v3 [(GMsg.mk x5.To w8.2)]) w8.1
    else none) y6
   else none)
  else
  some (.inr v3)
def F152_l0_0_S (a1 : Int) (r2 : List GMsg) (v3 : List GMsg) (v4 : Int) : TS := .on [0, 1, 384, 385, 448, 449, 512, 513] [(0, ⟨.one, 0, nob⟩), (1, ⟨.im, 0, (.lit (.int .i64 a1))⟩), (384, ⟨.one, 0, nob⟩), (385, ⟨(.own 130), 0, (.sl (len r2) (flat eGMsg r2))⟩), (448, ⟨.one, 0, nob⟩), (449, ⟨(.own 130), 0, (.sl (len v3) (flat eGMsg v3))⟩), (512, ⟨.one, 0, nob⟩), (513, ⟨.im, 0, (.lit (.int .i64 v4))⟩)]
def F152_l0_0_X0 (a1 : Int) (r2 : List GMsg) (w3 : Int) : TS := .on [256, 257, 320, 321] [(256, ⟨.one, 0, nob⟩), (257, ⟨(.own 130), 0, (.sl 0 [])⟩), (320, ⟨.one, 0, nob⟩), (321, ⟨.im, 0, (.lit (.int .i64 w3))⟩)]
def F152_l0_0_X1 (a1 : Int) (r2 : List GMsg) (w3 : List GMsg) : TS := .on [448, 449] [(448, ⟨.one, 0, nob⟩), (449, ⟨(.own 130), 0, (.sl (len w3) (flat eGMsg w3))⟩)]
theorem F152_l0_0_ok (K : Nat) (a1 : Int) (r2 : List GMsg) : ∀ (k : Nat) (v3 : List GMsg) (v4 : Int) (r : (Int) ⊕ (List GMsg)), F152_l0_0 K a1 r2 k v3 v4 = some r → (Sum.elim (fun w => LoopEv E H hn152 0 c152_0 (F152_l0_0_S a1 r2 v3 v4) .ret (F152_l0_0_X0 a1 r2 w)) (fun w => LoopEv E H hn152 0 c152_0 (F152_l0_0_S a1 r2 v3 v4) (.exit 0) (F152_l0_0_X1 a1 r2 w))) r := by
 intro k
 induction k with
 | zero => intro v3 v4 r hF; cases hF
 | succ k ih =>
  intro v3 v4 r hF
  rw [F152_l0_0] at hF
  refine cond_some hF (fun h5 hF => ?_) (fun h5 hF => ?_)
  ·
   refine cond_some hF (fun h6 hF => ?_) (fun _ hF => nomatch hF)
   refine bind_some hF (fun x7 h8 hF => ?_)
   have q14 : PQ hn152 fun l => (.int (nlen (len r2)) (nlen (len r2)) :: .test (ilt v4 (nlen (len r2))) true :: .test (inr v4 (len r2)) true :: .sub (flat eGMsg r2) (nidx v4 2) 2 [(.lit (.int .i64 x7.To)), (.lit (.int .i64 x7.V))] :: .int (wadd .i64 v4 1) (wadd .i64 v4 1) :: l) := fun z => ⟨rfl, h5, h6, ⟨rfl, sub_flat0 eGMsg_len h8 2 (by decide)⟩, rfl, z⟩
   refine bind_some hF (fun y10 h9 hF => ?_)
   refine sum_some hF (fun w11 hx hF => ?_) (fun w12 hx hF => ?_)
   ·
    subst hx
    obtain rfl := Option.some.inj hF
    have pz : HoldAll E H hn152 [.loop 2 c152_1 (F152_l1_1_S a1 r2 v3 x7 (wadd .i64 v4 1) x7.V) .ret (F152_l1_1_X0 a1 r2 v3 x7 w11)] := ⟨(F152_l1_1_ok K a1 r2 v3 x7 K (wadd .i64 v4 1) x7.V _ h9), trivial⟩
    exact loop_endC (h := hn152) (l := 0) (c := c152_0) (ts := F152_l0_0_S a1 r2 v3 v4) (ts' := F152_l0_0_X0 a1 r2 w11) (ex := .ret) (q14 pz) (by kernel_rfl) trivial
   subst hx
   refine cond_some hF (fun h13 hF => ?_) (fun _ hF => nomatch hF)
   have pz : HoldAll E H hn152 [.loop 2 c152_1 (F152_l1_1_S a1 r2 v3 x7 (wadd .i64 v4 1) x7.V) (.exit 2) (F152_l1_1_X1 a1 r2 v3 x7 w12), .test (leqm [(.lit (.int .i64 x7.To)), (.lit (.int .i64 w12.2))] 1 2) true, .test (apok (len v3) 1 16) true, .sl (nadd (len v3) 1) (lapp (flat eGMsg v3) [(.lit (.int .i64 x7.To)), (.lit (.int .i64 w12.2))]) (len (α := GMsg) (appL v3 [(GMsg.mk x7.To w12.2)])) (flat eGMsg (appL v3 [(GMsg.mk x7.To w12.2)]))] := ⟨(F152_l1_1_ok K a1 r2 v3 x7 K (wadd .i64 v4 1) x7.V _ h9), rfl, h13, (app_ok (enc := eGMsg) (v3 : List GMsg) [(GMsg.mk x7.To w12.2)]), trivial⟩
   have h0 := ih _ _ _ hF
   have hn := fun ex ts' => loop_nextC (h := hn152) (l := 0) (c := c152_0) (ts := F152_l0_0_S a1 r2 v3 v4) (ts1 := (F152_l0_0_S a1 r2 (appL v3 [(GMsg.mk x7.To w12.2)]) w12.1)) (ex := ex) (ts' := ts') (q14 pz) (by kernel_rfl)
   cases r with
   | inl w => exact hn _ _ h0
   | inr w => exact hn _ _ h0
  obtain rfl := Option.some.inj hF
  have pz : HoldAll E H hn152 [.int (nlen (len r2)) (nlen (len r2)), .test (ilt v4 (nlen (len r2))) false] := ⟨rfl, h5, trivial⟩
  exact loop_endC (h := hn152) (l := 0) (c := c152_0) (ts := F152_l0_0_S a1 r2 v3 v4) (ts' := F152_l0_0_X1 a1 r2 v3) (ex := (.exit 0)) pz (by kernel_rfl) trivial
def F152 (K : Nat) (a1 : Int) (a2 : List GMsg) : Option (List GMsg × Int) :=
 bif (ilt a1 1) then
  (some ([], 1))
 else
 bif (ilt 5 a1) then
  (some ([], 1))
 else
 (F91 K a2).bind fun r3 =>
 (F152_l0_0 K a1 r3 K [] 0).bind fun y4 =>
 Sum.elim (fun w5 =>
  some ([], w5))
  (fun w6 =>
  some (w6, 0)) y4
theorem F152_ok (K : Nat) (a1 : Int) (a2 : List GMsg) (r : List GMsg × Int) (hF : F152 K a1 a2 = some r) : Evt E H 152 [.one (.lit (.int .i64 a1)), .one (.sl (len a2) (flat eGMsg a2))] (F152_res r) := by
 rw [F152] at hF
 refine cond_some hF (fun h3 hF => ?_) (fun h3 hF => ?_)
 ·
  obtain rfl := Option.some.inj hF
  have pz : HoldAll E H hn152 [.test (beqb (ilt a1 1) false) false, .test (beqb (ilt a1 1) false) false, .test (ilt a1 1) true, .test true true] := ⟨(beqb_ft h3), (beqb_ft h3), h3, rfl, trivial⟩
  exact fn_playC hn152 (r := F152_res ([], 1)) pz (by kernel_rfl) (by kernel_rfl)
 have q11 : PQ hn152 fun l => (.test (beqb (ilt a1 1) false) true :: .test (beqb (ilt a1 1) false) true :: .test (ilt a1 1) false :: l) := fun z => ⟨(beqb_ff h3), (beqb_ff h3), h3, z⟩
 refine cond_some hF (fun h4 hF => ?_) (fun h4 hF => ?_)
 ·
  obtain rfl := Option.some.inj hF
  have pz : HoldAll E H hn152 [.test (igt a1 5) true] := ⟨(igt_eq h4), trivial⟩
  exact fn_playC hn152 (r := F152_res ([], 1)) (q11 pz) (by kernel_rfl) (by kernel_rfl)
 refine bind_some hF (fun r5 h6 hF => ?_)
 have q12 : PQ hn152 fun l => (.test (igt a1 5) false :: .call 91 [.one (.sl (len a2) (flat eGMsg a2))] (F91_res r5) :: .test (leadsAny (Res.mk [(.one (.own 130 (.sl (len r5) (flat eGMsg r5))))] [])) false :: l) := fun z => ⟨(igt_eq h4), (F91_ok K a2 _ h6), (leads_ok (by simp [leadsAny, RV.leads, RC.leads, leadsT, hasSl_lit, flat_ns eGMsg_ns])), z⟩
 refine bind_some hF (fun y8 h7 hF => ?_)
 refine sum_some hF (fun w9 hx hF => ?_) (fun w10 hx hF => ?_)
 ·
  subst hx
  obtain rfl := Option.some.inj hF
  have pz : HoldAll E H hn152 [.loop 0 c152_0 (F152_l0_0_S a1 r5 [] 0) .ret (F152_l0_0_X0 a1 r5 w9)] := ⟨(F152_l0_0_ok K a1 r5 K [] 0 _ h7), trivial⟩
  exact fn_playC hn152 (r := F152_res ([], w9)) (q11 (q12 pz)) (by kernel_rfl) (by kernel_rfl)
 subst hx
 obtain rfl := Option.some.inj hF
 have pz : HoldAll E H hn152 [.loop 0 c152_0 (F152_l0_0_S a1 r5 [] 0) (.exit 0) (F152_l0_0_X1 a1 r5 w10)] := ⟨(F152_l0_0_ok K a1 r5 K [] 0 _ h7), trivial⟩
 exact fn_playC hn152 (r := F152_res (w10, 0)) (q11 (q12 pz)) (by kernel_rfl) (by kernel_rfl)
def foldC (p : Int) : List GMsg → GMsg → List GMsg → Int ⊕ List GMsg
 | [], cur, done => .inr (done ++ [cur])
 | x :: r, cur, done => bif ieq cur.To x.To then (bif ieq (foldS p cur.V x.V).2 0 then foldC p r (GMsg.mk cur.To (foldS p cur.V x.V).1) done else .inl (foldS p cur.V x.V).2) else foldC p r x (done ++ [cur])
def foldO (p : Int) : List GMsg → List GMsg → Int ⊕ List GMsg
 | [], done => .inr done
 | x :: r, done => foldC p r x done
def boxO : Int ⊕ List GMsg → List GMsg × Int
 | .inl e => ([], e)
 | .inr s => (s, 0)
def boxS (p : Int) (l : List GMsg) : List GMsg × Int := bif pbad p then ([], 1) else boxO (foldO p (sortM l) [])
theorem put_last {α : Type} (d : List α) (c x : α) : inr (wsub .i64 (nlen (len (d ++ [c]))) 1) (len (d ++ [c])) = true ∧ (d.length < 1000000 → elAt (d ++ [c]) (wsub .i64 (nlen (len (d ++ [c]))) 1) = some c ∧ putAt (d ++ [c]) (wsub .i64 (nlen (len (d ++ [c]))) 1) x = d ++ [x]) ∨ ¬ d.length < 1000000 := by
 by_cases h : d.length < 1000000
 · left
   have w : wsub .i64 (nlen (len (d ++ [c]))) 1 = ((d.length : Nat) : Int) := by
     show IntKind.i64.wrap (((d ++ [c]).length : Int) - 1) = _
     rw [List.length_append, IntKind.wrap_i64]; simp; omega
   rw [w]
   refine ⟨decide_eq_true ⟨by omega, by show (d.length : Int) < ((d ++ [c]).length : Int); simp; omega⟩, fun _ => ⟨by rw [elAt_nat]; simp, ?_⟩⟩
   unfold putAt
   rw [Int.toNat_natCast, List.set_append_right (h := by omega)]; simp
 · right; exact h
def foldI (p t : Int) : List GMsg → Int → Int ⊕ (List GMsg × Int)
 | [], v => .inr ([], v)
 | x :: r, v => bif ieq x.To t then (bif ieq (foldS p v x.V).2 0 then foldI p t r (foldS p v x.V).1 else .inl (foldS p v x.V).2) else .inr (x :: r, v)
theorem ieq_comm (a b : Int) : ieq a b = ieq b a := by
 cases h : ieq b a
 · exact ieq_f.2 fun q => ieq_f.1 h q.symm
 · exact ieq_iff.2 (ieq_iff.1 h).symm
theorem foldC_I (p t : Int) : ∀ (r : List GMsg) (v : Int) (d : List GMsg), foldC p r (GMsg.mk t v) d = match foldI p t r v with | .inl e => .inl e | .inr w => foldO p w.1 (d ++ [GMsg.mk t w.2])
 | [], v, d => rfl
 | x :: r, v, d => by
   rw [foldC, foldI, ieq_comm x.To t]
   cases ieq t x.To
   · rfl
   · rw [cond_true, cond_true]
     cases ieq (foldS p v x.V).2 0
     · rfl
     · rw [cond_true, cond_true]; exact foldC_I p t r _ d
theorem F152_in {K : Nat} (p : Int) (l : List GMsg) (o : List GMsg) (x : GMsg) (hl : l.length < 100000) (hs : ∀ y ∈ l, i64 y.V) : ∀ (r : List GMsg) (k i : Nat) (v : Int), l.drop i = r → r.length < k → i64 v → i ≤ l.length →
   (∃ e, foldI p x.To r v = .inl e ∧ F152_l1_1 K p l o x k (i : Int) v = some (.inl e)) ∨
   (∃ (n : Nat) (v' : Int), foldI p x.To r v = .inr (l.drop n, v') ∧ F152_l1_1 K p l o x k (i : Int) v = some (.inr ((n : Int), v')) ∧ i ≤ n ∧ n ≤ l.length ∧ i64 v') := by
 intro r
 induction r with
 | nil =>
   intro k i v hr hk hv hi
   obtain ⟨k, rfl⟩ : ∃ q, k = q + 1 := ⟨k - 1, by omega⟩
   right
   refine ⟨i, v, by rw [hr]; rfl, ?_, Nat.le_refl _, hi, hv⟩
   rcases at_idx l i with ⟨y, e1, _⟩ | ⟨e1, e2⟩
   · rw [hr] at e1; cases e1
   · rw [F152_l1_1, e2]; rfl
 | cons y r ih =>
   intro k i v hr hk hv hi
   obtain ⟨k, rfl⟩ : ∃ q, k = q + 1 := ⟨k - 1, by omega⟩
   simp only [List.length_cons] at hk
   rcases at_idx l i with ⟨y', e1, e2, e3, e4⟩ | ⟨e1, _⟩
   · rw [hr] at e1
     injection e1 with e1 e5
     subst e1
     have hlt := lt_of_drop' hr
     have hy : i64 y.V := hs y (List.mem_of_mem_drop (by rw [hr]; exact List.mem_cons_self))
     rw [F152_l1_1, e2, e3, e4, foldI]
     simp only [cond_true, Option.bind_some, F98_spec K p hv hy]
     cases ieq y.To x.To
     · right
       exact ⟨i, v, by rw [hr]; rfl, rfl, Nat.le_refl _, hi, hv⟩
     · rw [cond_true, cond_true]
       cases ieq (foldS p v y.V).2 0
       · left; exact ⟨_, rfl, rfl⟩
       · rw [cond_true, cond_true, wadd_nat (by omega)]
         rcases ih k (i + 1) _ e5.symm (by omega) (foldS_i64 hv hy) (by omega) with h | ⟨n, v', h1, h2, h3, h4, h5⟩
         · left; exact h
         · right; exact ⟨n, v', h1, h2, by omega, h4, h5⟩
   · rw [hr] at e1; cases e1
theorem F152_out {K : Nat} (p : Int) (l : List GMsg) (hl : l.length < 100000) (hK : l.length < K) (hs : ∀ y ∈ l, i64 y.V) : ∀ (k i : Nat) (d : List GMsg), l.length - i < k → i ≤ l.length → d.length ≤ i →
   F152_l0_0 K p l k d (i : Int) = some (foldO p (l.drop i) d) := by
 intro k
 induction k with
 | zero => intro i d h; omega
 | succ k ih =>
   intro i d hk hi hd
   rw [F152_l0_0]
   rcases at_idx l i with ⟨x, e1, e2, e3, e4⟩ | ⟨e1, e2⟩
   · have hlt := lt_of_drop' e1
     have hx : i64 x.V := hs x (List.mem_of_mem_drop (by rw [e1]; exact List.mem_cons_self))
     have ap : apok (len d) 1 16 = true := decide_eq_true ⟨by show d.length + 1 ≤ _; omega, by show (d.length + 1) * 16 ≤ _; omega⟩
     rw [e2, e3, e4, e1, foldO, show foldC p (l.drop (i + 1)) x d = foldC p (l.drop (i + 1)) (GMsg.mk x.To x.V) d from rfl, foldC_I, wadd_nat (by omega)]
     simp only [cond_true, Option.bind_some, ap]
     rcases F152_in (K := K) p l d x hl hs _ K (i + 1) x.V rfl (by rw [List.length_drop]; omega) hx (by omega) with ⟨e, h1, h2⟩ | ⟨n, v', h1, h2, h3, h4, h5⟩
     · rw [h1, h2]; rfl
     · rw [h1, h2]
       simp only [Option.bind_some, Sum.elim_inr]
       exact ih n (d ++ [GMsg.mk x.To v']) (by omega) h4 (by rw [List.length_append]; simp only [List.length_singleton]; omega)
   · rw [e2, e1]; rfl
theorem F152_spec {K : Nat} (p : Int) (l : List GMsg) (hv : ∀ x ∈ l, i64 x.V) (hK : l.length < K) (hl : l.length < 10000) : F152 K p l = some (boxS p l) := by
 have hsl := sortM_len l
 have hs : ∀ x ∈ sortM l, i64 x.V := fun x hx => hv x ((sortM_perm l).mem_iff.1 hx)
 have h := F152_out (K := K) p (sortM l) (by omega) (by omega) hs K 0 [] (by omega) (by omega) (by simp)
 have h' : F152_l0_0 K p (sortM l) K [] 0 = some (foldO p (sortM l) []) := h
 rw [F152, boxS, pbad, F91_spec l (by omega) hK, Option.bind_some, h', Option.bind_some]
 cases ilt p 1
 · cases ilt 5 p
   · cases foldO p (sortM l) [] <;> rfl
   · rfl
 · rfl
def atS (l : List GMsg) (v : Int) : Int × Bool := match l.find? (fun m => ieq m.To v) with
 | some m => (m.V, true)
 | none => (0, false)
def sumF : Option GMsg → Int ⊕ Unit
 | some m => .inl m.V
 | none => .inr ()
theorem at_go (l : List GMsg) (v : Int) : goL (fun (x : GMsg) (_ : Unit) c => bif ieq x.To v then some (.inl x.V) else c ()) (fun _ => some (.inr ())) l () = (some (sumF (l.find? fun m => ieq m.To v)) : Option (Int ⊕ Unit)) := by
 induction l with
 | nil => rfl
 | cons x l ih =>
   rw [goL, List.find?_cons]
   cases h : ieq x.To v
   · exact ih
   · rfl
theorem F151_spec {K : Nat} (l : List GMsg) (v : Int) (hl : l.length < 100000) (hK : l.length < K) : F151 K l v = some (atS l v) := by
 have e : F151_l0_0 K l v K 0 = _ := scanL (l := l) (L := fun k (_ : Unit) i => F151_l0_0 K l v k i) (fun x _ c => bif ieq x.To v then some (.inl x.V) else c ()) (fun _ => some (.inr ())) (fun k s i _ => rfl) (by omega) hK ()
 rw [F151, e, at_go, atS]
 cases l.find? fun m => ieq m.To v <;> rfl
theorem atS_i64 {l : List GMsg} {v : Int} (h : ∀ x ∈ l, i64 x.V) : i64 (atS l v).1 := by
 rw [atS]
 cases hq : l.find? fun m => ieq m.To v with
 | none => show i64 0; unfold i64; omega
 | some m => exact h m (List.mem_of_find?_eq_some hq)
noncomputable def hn69 : Hint := { H 69 with nt := 35, prot := 0 }
noncomputable def c69_0 : Code := loopOf E 69 0
def F69_res (r1 : List GEdge) : Res := ⟨[(.one (.own 89 (.sl (len r1) (flat eGEdge r1))))], []⟩
def F69_l0_0 (K : Nat) (a1 : GGraph) (a2 : Int) : Nat → List GEdge → Int → Option (List GEdge)
 | 0, _, _ => none
 | k + 1, v3, v4 =>
  bif (ilt v4 (nlen (len a1.Edges))) then
   (bif (inr v4 (len a1.Edges)) then
   (elAt a1.Edges v4).bind fun x5 =>
   bif (ieq x5.From a2) then
    (bif (apok (len v3) 1 24) then
    F69_l0_0 K a1 a2 k (appL v3 [x5]) (wadd .i64 v4 1)
    else none)
   else
   F69_l0_0 K a1 a2 k v3 (wadd .i64 v4 1)
   else none)
  else
  some v3
def F69_l0_0_S (a1 : GGraph) (a2 : Int) (v3 : List GEdge) (v4 : Int) : TS := .on [64, 65, 128, 129, 130, 320, 321, 384, 385] [(64, ⟨.one, 0, nob⟩), (65, ⟨.im, 0, (.lit (.int .i64 a2))⟩), (128, ⟨(.box 62 2), 0, nob⟩), (129, ⟨.im, 0, (.lit (.int .i64 a1.N))⟩), (130, ⟨.im, 0, (.sl (len a1.Edges) (flat eGEdge a1.Edges))⟩), (320, ⟨.one, 0, nob⟩), (321, ⟨(.own 89), 0, (.sl (len v3) (flat eGEdge v3))⟩), (384, ⟨.one, 0, nob⟩), (385, ⟨.im, 0, (.lit (.int .i64 v4))⟩)]
def F69_l0_0_X0 (a1 : GGraph) (a2 : Int) (w3 : List GEdge) : TS := .on [320, 321] [(320, ⟨.one, 0, nob⟩), (321, ⟨(.own 89), 0, (.sl (len w3) (flat eGEdge w3))⟩)]
theorem F69_l0_0_ok (K : Nat) (a1 : GGraph) (a2 : Int) : ∀ (k : Nat) (v3 : List GEdge) (v4 : Int) (r : List GEdge), F69_l0_0 K a1 a2 k v3 v4 = some r → LoopEv E H hn69 0 c69_0 (F69_l0_0_S a1 a2 v3 v4) (.exit 0) (F69_l0_0_X0 a1 a2 r) := by
 intro k
 induction k with
 | zero => intro v3 v4 r hF; cases hF
 | succ k ih =>
  intro v3 v4 r hF
  rw [F69_l0_0] at hF
  refine cond_some hF (fun h5 hF => ?_) (fun h5 hF => ?_)
  ·
   refine cond_some hF (fun h6 hF => ?_) (fun _ hF => nomatch hF)
   refine bind_some hF (fun x7 h8 hF => ?_)
   have q11 : PQ hn69 fun l => (.int (nlen (len a1.Edges)) (nlen (len a1.Edges)) :: .test (ilt v4 (nlen (len a1.Edges))) true :: .test (inr v4 (len a1.Edges)) true :: .sub (flat eGEdge a1.Edges) (nadd (nidx v4 3) 0) 1 [(.lit (.int .i64 x7.From))] :: l) := fun z => ⟨rfl, h5, h6, ⟨rfl, sub_flat eGEdge_len h8 0 1 (by decide)⟩, z⟩
   refine cond_some hF (fun h9 hF => ?_) (fun h9 hF => ?_)
   ·
    refine cond_some hF (fun h10 hF => ?_) (fun _ hF => nomatch hF)
    have pz : HoldAll E H hn69 [.test (ieq x7.From a2) true, .test (inr v4 (len a1.Edges)) true, .sub (flat eGEdge a1.Edges) (nidx v4 3) 3 [(.lit (.int .i64 x7.From)), (.lit (.int .i64 x7.To)), (.lit (.int .i64 x7.W))], .test (leqm [(.lit (.int .i64 x7.From)), (.lit (.int .i64 x7.To)), (.lit (.int .i64 x7.W))] 1 3) true, .test (apok (len v3) 1 24) true, .sl (nadd (len v3) 1) (lapp (flat eGEdge v3) [(.lit (.int .i64 x7.From)), (.lit (.int .i64 x7.To)), (.lit (.int .i64 x7.W))]) (len (α := GEdge) (appL v3 [x7])) (flat eGEdge (appL v3 [x7])), .int (wadd .i64 v4 1) (wadd .i64 v4 1)] := ⟨h9, h6, ⟨rfl, sub_flat0 eGEdge_len h8 3 (by decide)⟩, rfl, h10, (app_ok (enc := eGEdge) (v3 : List GEdge) [x7]), rfl, trivial⟩
    have h0 := ih _ _ _ hF
    have hn := fun ex ts' => loop_nextC (h := hn69) (l := 0) (c := c69_0) (ts := F69_l0_0_S a1 a2 v3 v4) (ts1 := (F69_l0_0_S a1 a2 (appL v3 [x7]) (wadd .i64 v4 1))) (ex := ex) (ts' := ts') (q11 pz) (by kernel_rfl)
    exact hn _ _ h0
   have pz : HoldAll E H hn69 [.test (ieq x7.From a2) false, .int (wadd .i64 v4 1) (wadd .i64 v4 1)] := ⟨h9, rfl, trivial⟩
   have h0 := ih _ _ _ hF
   have hn := fun ex ts' => loop_nextC (h := hn69) (l := 0) (c := c69_0) (ts := F69_l0_0_S a1 a2 v3 v4) (ts1 := (F69_l0_0_S a1 a2 v3 (wadd .i64 v4 1))) (ex := ex) (ts' := ts') (q11 pz) (by kernel_rfl)
   exact hn _ _ h0
  obtain rfl := Option.some.inj hF
  have pz : HoldAll E H hn69 [.int (nlen (len a1.Edges)) (nlen (len a1.Edges)), .test (ilt v4 (nlen (len a1.Edges))) false] := ⟨rfl, h5, trivial⟩
  exact loop_endC (h := hn69) (l := 0) (c := c69_0) (ts := F69_l0_0_S a1 a2 v3 v4) (ts' := F69_l0_0_X0 a1 a2 v3) (ex := (.exit 0)) pz (by kernel_rfl) trivial
def F69 (K : Nat) (a1 : GGraph) (a2 : Int) : Option (List GEdge) :=
 (F65 K a1).bind fun r3 =>
 bif (ieq r3 0) then
  ((F69_l0_0 K a1 a2 K [] 0).bind fun w4 =>
  some w4)
 else
 some []
theorem F69_ok (K : Nat) (a1 : GGraph) (a2 : Int) (r : List GEdge) (hF : F69 K a1 a2 = some r) : Evt E H 69 [.agg (eGGraph a1), .one (.lit (.int .i64 a2))] (F69_res r) := by
 rw [F69] at hF
 refine bind_some hF (fun r3 h4 hF => ?_)
 refine cond_some hF (fun h5 hF => ?_) (fun h5 hF => ?_)
 ·
  refine bind_some hF (fun w7 h6 hF => ?_)
  obtain rfl := Option.some.inj hF
  have pz : HoldAll E H hn69 [.call 65 [.agg (eGGraph a1)] (F65_res r3), .test (leadsAny (Res.mk [(.one (.im (.lit (.int .i64 r3))))] [])) false, .test (ine r3 0) false, .loop 0 c69_0 (F69_l0_0_S a1 a2 [] 0) (.exit 0) (F69_l0_0_X0 a1 a2 w7)] := ⟨(F65_ok K a1 _ h4), (leads_ok (by simp [leadsAny, RV.leads, RC.leads, leadsT, hasSl_lit])), (ine_t h5), (F69_l0_0_ok K a1 a2 K [] 0 _ h6), trivial⟩
  exact fn_playC hn69 (r := F69_res w7) pz (by kernel_rfl) (by kernel_rfl)
 obtain rfl := Option.some.inj hF
 have pz : HoldAll E H hn69 [.call 65 [.agg (eGGraph a1)] (F65_res r3), .test (leadsAny (Res.mk [(.one (.im (.lit (.int .i64 r3))))] [])) false, .test (ine r3 0) true] := ⟨(F65_ok K a1 _ h4), (leads_ok (by simp [leadsAny, RV.leads, RC.leads, leadsT, hasSl_lit])), (ine_f h5), trivial⟩
 exact fn_playC hn69 (r := F69_res []) pz (by kernel_rfl) (by kernel_rfl)
def F160 (K : Nat) (a1 : Int) (a2 : GEdge) : Option (Int × Bool) :=
 (F144 K a1 a2.W).bind fun r3 =>
 some (r3.1, r3.2)
def F161 (K : Nat) (a1 : Int) (a2 : GEdge) : Option (Int × Bool) :=
 (F144 K a1 1).bind fun r3 =>
 some (r3.1, r3.2)
def F163 (K : Nat) (a1 : Int) (a2 : GEdge) : Option (Int × Bool) :=
 some (a1, true)
def F175 (K : Nat) (a1 : Int) : Option (Int) :=
 bif (ilt a1 0) then
  (some (wadd .u64 (wconv .u64 (wneg .i64 (wadd .i64 a1 1))) 1))
 else
 some (wconv .u64 a1)
def F174 (K : Nat) (a1 : Int) (a2 : Int) : Option (GA199) :=
 some (GA199.mk (wadd .u64 (wadd .u64 (wadd .u64 (wmul .u64 (wquo .u64 a1 4294967296) (wquo .u64 a2 4294967296)) (wquo .u64 (wmul .u64 (wquo .u64 a1 4294967296) (wrem a2 4294967296)) 4294967296)) (wquo .u64 (wmul .u64 (wrem a1 4294967296) (wquo .u64 a2 4294967296)) 4294967296)) (wquo .u64 (wadd .u64 (wadd .u64 (wquo .u64 (wmul .u64 (wrem a1 4294967296) (wrem a2 4294967296)) 4294967296) (wrem (wmul .u64 (wquo .u64 a1 4294967296) (wrem a2 4294967296)) 4294967296)) (wrem (wmul .u64 (wrem a1 4294967296) (wquo .u64 a2 4294967296)) 4294967296)) 4294967296)) (wadd .u64 (wmul .u64 (wrem (wadd .u64 (wadd .u64 (wquo .u64 (wmul .u64 (wrem a1 4294967296) (wrem a2 4294967296)) 4294967296) (wrem (wmul .u64 (wquo .u64 a1 4294967296) (wrem a2 4294967296)) 4294967296)) (wrem (wmul .u64 (wrem a1 4294967296) (wquo .u64 a2 4294967296)) 4294967296)) 4294967296) 4294967296) (wrem (wmul .u64 (wrem a1 4294967296) (wrem a2 4294967296)) 4294967296)))
def F170 (K : Nat) (a2 : Int) (a3 : Int) : Option (Int × Bool) :=
 (F175 K a2).bind fun r4 =>
 (F175 K a3).bind fun r5 =>
 (F174 K r4 r5).bind fun r6 =>
 bif (ilt 0 r6.x0) then
  (some (0, false))
 else
 bif (ilt 9223372036854775808 r6.x1) then
  (some (0, false))
 else
 bif (ieq r6.x1 9223372036854775808) then
  (bif (beqb (ilt a2 0) (ilt a3 0)) then
   (some (0, false))
  else
  some ((-9223372036854775808), true))
 else
 bif (beqb (ilt a2 0) (ilt a3 0)) then
  (some ((wconv .i64 r6.x1), true))
 else
 some ((wneg .i64 (wconv .i64 r6.x1)), true)
def F167 (K : Nat) (a1 : Int) (a2 : Int) (a3 : Int) : Option (Int × Bool) :=
 (F170 K a1 a2).bind fun r4 =>
 bif r4.2 then
  (bif (ilt a3 1) then
   (some (0, false))
  else
  bif (izero a3) then none else
  some ((wquo .i64 r4.1 a3), true))
 else
 some (0, false)
def F146_l0_0 (K : Nat) (v1 : List GEdge) (v2 : Int) : Nat → List GMsg → Int → Option ((Unit) ⊕ (List GMsg))
 | 0, _, _ => none
 | k + 1, v3, v4 =>
  bif (ilt v4 (nlen (len v1))) then
   (bif (inr v4 (len v1)) then
   (elAt v1 v4).bind fun x5 =>
   (F167 K v2 1 (nlen (len v1))).bind fun r6 =>
   bif r6.2 then
    (bif (apok (len v3) 1 16) then
    F146_l0_0 K v1 v2 k (appL v3 [(GMsg.mk x5.To r6.1)]) (wadd .i64 v4 1)
    else none)
   else
   some (.inl ())
   else none)
  else
  some (.inr v3)
def F99_l0_0 (K : Nat) (v1 : Int) (v2 : Bool) (v3 : List GEdge) : Nat → List GMsg → Int → Option ((Unit) ⊕ (List GMsg))
 | 0, _, _ => none
 | k + 1, v4, v5 =>
  bif (ilt v5 (nlen (len v3))) then
   (bif (inr v5 (len v3)) then
   (elAt v3 v5).bind fun x6 =>
   (F160 K v1 x6).bind fun r7 =>
   bif r7.2 then
    (bif (apok (len v4) 1 16) then
    F99_l0_0 K v1 v2 v3 k (appL v4 [(GMsg.mk x6.To r7.1)]) (wadd .i64 v5 1)
    else none)
   else
   some (.inl ())
   else none)
  else
  some (.inr v4)
def F99_l0_1 (K : Nat) (v1 : Int) (v2 : Bool) (v3 : List GEdge) : Nat → List GMsg → Int → Option ((Unit) ⊕ (List GMsg))
 | 0, _, _ => none
 | k + 1, v4, v5 =>
  bif (ilt v5 (nlen (len v3))) then
   (bif (inr v5 (len v3)) then
   (elAt v3 v5).bind fun x6 =>
   (F161 K v1 x6).bind fun r7 =>
   bif r7.2 then
    (bif (apok (len v4) 1 16) then
    F99_l0_1 K v1 v2 v3 k (appL v4 [(GMsg.mk x6.To r7.1)]) (wadd .i64 v5 1)
    else none)
   else
   some (.inl ())
   else none)
  else
  some (.inr v4)
def F99_l0_2 (K : Nat) (v1 : Int) (v2 : Bool) (v3 : List GEdge) : Nat → List GMsg → Int → Option ((Unit) ⊕ (List GMsg))
 | 0, _, _ => none
 | k + 1, v4, v5 =>
  bif (ilt v5 (nlen (len v3))) then
   (bif (inr v5 (len v3)) then
   (elAt v3 v5).bind fun x6 =>
   (F163 K v1 x6).bind fun r7 =>
   bif r7.2 then
    (bif (apok (len v4) 1 16) then
    F99_l0_2 K v1 v2 v3 k (appL v4 [(GMsg.mk x6.To r7.1)]) (wadd .i64 v5 1)
    else none)
   else
   some (.inl ())
   else none)
  else
  some (.inr v4)
def F99_l0_3 (K : Nat) (v1 : Int) (v2 : Bool) (v3 : List GEdge) : Nat → List GMsg → Int → Option ((Unit) ⊕ (List GMsg))
 | 0, _, _ => none
 | k + 1, v4, v5 =>
  bif (ilt v5 (nlen (len v3))) then
   (bif (inr v5 (len v3)) then
   (elAt v3 v5).bind fun x6 =>
   (F163 K v1 x6).bind fun r7 =>
   bif r7.2 then
    (bif (apok (len v4) 1 16) then
    F99_l0_3 K v1 v2 v3 k (appL v4 [(GMsg.mk x6.To r7.1)]) (wadd .i64 v5 1)
    else none)
   else
   some (.inl ())
   else none)
  else
  some (.inr v4)
noncomputable def hn171 : Hint := { H 171 with nt := 37, prot := 0 }
def F171_res (r1 : Int × Bool) : Res := ⟨[(.one (.im (.lit (.int .i64 r1.1)))), (.one (.im (.lit (.bool r1.2))))], []⟩
def F171 (K : Nat) (a1 : Int) (a2 : Int) : Option (Int × Bool) :=
 bif (ieq a1 0) then
  (some (0, true))
 else
 bif (ieq a2 0) then
  (some (0, true))
 else
 bif (ieq a1 (-1)) then
  (bif (ieq a1 (-9223372036854775808)) then
   (some (0, false))
  else
  bif (ieq a2 (-9223372036854775808)) then
   (some (0, false))
  else
  some ((wmul .i64 a1 a2), true))
 else
 bif (ieq a2 (-1)) then
  (bif (ieq a1 (-9223372036854775808)) then
   (some (0, false))
  else
  bif (ieq a2 (-9223372036854775808)) then
   (some (0, false))
  else
  some ((wmul .i64 a1 a2), true))
 else
 bif (izero a2) then none else
 bif (ieq (wquo .i64 (wmul .i64 a1 a2) a2) a1) then
  (some ((wmul .i64 a1 a2), true))
 else
 some (0, false)
theorem F171_ok (K : Nat) (a1 : Int) (a2 : Int) (r : Int × Bool) (hF : F171 K a1 a2 = some r) : Evt E H 171 [.one (.lit (.int .i64 a1)), .one (.lit (.int .i64 a2))] (F171_res r) := by
 rw [F171] at hF
 refine cond_some hF (fun h3 hF => ?_) (fun h3 hF => ?_)
 ·
  obtain rfl := Option.some.inj hF
  have pz : HoldAll E H hn171 [.test (beqb (ieq a1 0) false) false, .test (beqb (ieq a1 0) false) false, .test (ieq a1 0) true, .test true true] := ⟨(beqb_ft h3), (beqb_ft h3), h3, rfl, trivial⟩
  exact fn_playC hn171 (r := F171_res (0, true)) pz (by kernel_rfl) (by kernel_rfl)
 have q13 : PQ hn171 fun l => (.test (beqb (ieq a1 0) false) true :: .test (beqb (ieq a1 0) false) true :: .test (ieq a1 0) false :: l) := fun z => ⟨(beqb_ff h3), (beqb_ff h3), h3, z⟩
 refine cond_some hF (fun h4 hF => ?_) (fun h4 hF => ?_)
 ·
  obtain rfl := Option.some.inj hF
  have pz : HoldAll E H hn171 [.test (ieq a2 0) true] := ⟨h4, trivial⟩
  exact fn_playC hn171 (r := F171_res (0, true)) (q13 pz) (by kernel_rfl) (by kernel_rfl)
 refine cond_some hF (fun h5 hF => ?_) (fun h5 hF => ?_)
 ·
  have q14 : PQ hn171 fun l => (.test (ieq a2 0) false :: .test (beqb (ieq a1 (-1)) false) false :: .test (beqb (ieq a1 (-1)) false) false :: .test (ieq a1 (-1)) true :: .test true true :: l) := fun z => ⟨h4, (beqb_ft h5), (beqb_ft h5), h5, rfl, z⟩
  refine cond_some hF (fun h6 hF => ?_) (fun h6 hF => ?_)
  ·
   obtain rfl := Option.some.inj hF
   have pz : HoldAll E H hn171 [.test (beqb (ieq a1 (-9223372036854775808)) false) false, .test (beqb (ieq a1 (-9223372036854775808)) false) false, .test (ieq a1 (-9223372036854775808)) true, .test true true] := ⟨(beqb_ft h6), (beqb_ft h6), h6, rfl, trivial⟩
   exact fn_playC hn171 (r := F171_res (0, false)) (q13 (q14 pz)) (by kernel_rfl) (by kernel_rfl)
  have q15 : PQ hn171 fun l => (.test (beqb (ieq a1 (-9223372036854775808)) false) true :: .test (beqb (ieq a1 (-9223372036854775808)) false) true :: .test (ieq a1 (-9223372036854775808)) false :: l) := fun z => ⟨(beqb_ff h6), (beqb_ff h6), h6, z⟩
  refine cond_some hF (fun h7 hF => ?_) (fun h7 hF => ?_)
  ·
   obtain rfl := Option.some.inj hF
   have pz : HoldAll E H hn171 [.test (ieq a2 (-9223372036854775808)) true] := ⟨h7, trivial⟩
   exact fn_playC hn171 (r := F171_res (0, false)) (q13 (q14 (q15 pz))) (by kernel_rfl) (by kernel_rfl)
  obtain rfl := Option.some.inj hF
  have pz : HoldAll E H hn171 [.test (ieq a2 (-9223372036854775808)) false, .int (wmul .i64 a1 a2) (wmul .i64 a1 a2)] := ⟨h7, rfl, trivial⟩
  exact fn_playC hn171 (r := F171_res ((wmul .i64 a1 a2), true)) (q13 (q14 (q15 pz))) (by kernel_rfl) (by kernel_rfl)
 have q16 : PQ hn171 fun l => (.test (ieq a2 0) false :: .test (beqb (ieq a1 (-1)) false) true :: .test (beqb (ieq a1 (-1)) false) true :: .test (ieq a1 (-1)) false :: l) := fun z => ⟨h4, (beqb_ff h5), (beqb_ff h5), h5, z⟩
 refine cond_some hF (fun h8 hF => ?_) (fun h8 hF => ?_)
 ·
  refine cond_some hF (fun h9 hF => ?_) (fun h9 hF => ?_)
  ·
   obtain rfl := Option.some.inj hF
   have pz : HoldAll E H hn171 [.test (ieq a2 (-1)) true, .test (beqb (ieq a1 (-9223372036854775808)) false) false, .test (beqb (ieq a1 (-9223372036854775808)) false) false, .test (ieq a1 (-9223372036854775808)) true, .test true true] := ⟨h8, (beqb_ft h9), (beqb_ft h9), h9, rfl, trivial⟩
   exact fn_playC hn171 (r := F171_res (0, false)) (q13 (q16 pz)) (by kernel_rfl) (by kernel_rfl)
  have q17 : PQ hn171 fun l => (.test (ieq a2 (-1)) true :: .test (beqb (ieq a1 (-9223372036854775808)) false) true :: .test (beqb (ieq a1 (-9223372036854775808)) false) true :: .test (ieq a1 (-9223372036854775808)) false :: l) := fun z => ⟨h8, (beqb_ff h9), (beqb_ff h9), h9, z⟩
  refine cond_some hF (fun h10 hF => ?_) (fun h10 hF => ?_)
  ·
   obtain rfl := Option.some.inj hF
   have pz : HoldAll E H hn171 [.test (ieq a2 (-9223372036854775808)) true] := ⟨h10, trivial⟩
   exact fn_playC hn171 (r := F171_res (0, false)) (q13 (q16 (q17 pz))) (by kernel_rfl) (by kernel_rfl)
  obtain rfl := Option.some.inj hF
  have pz : HoldAll E H hn171 [.test (ieq a2 (-9223372036854775808)) false, .int (wmul .i64 a1 a2) (wmul .i64 a1 a2)] := ⟨h10, rfl, trivial⟩
  exact fn_playC hn171 (r := F171_res ((wmul .i64 a1 a2), true)) (q13 (q16 (q17 pz))) (by kernel_rfl) (by kernel_rfl)
 refine cond_some hF (fun _ hF => nomatch hF) (fun h11 hF => ?_)
 have q18 : PQ hn171 fun l => (.test (ieq a2 (-1)) false :: .int (wmul .i64 a1 a2) (wmul .i64 a1 a2) :: .test (izero a2) false :: .int (wquo .i64 (wmul .i64 a1 a2) a2) (wquo .i64 (wmul .i64 a1 a2) a2) :: l) := fun z => ⟨h8, rfl, h11, rfl, z⟩
 refine cond_some hF (fun h12 hF => ?_) (fun h12 hF => ?_)
 ·
  obtain rfl := Option.some.inj hF
  have pz : HoldAll E H hn171 [.test (ine (wquo .i64 (wmul .i64 a1 a2) a2) a1) false] := ⟨(ine_t h12), trivial⟩
  exact fn_playC hn171 (r := F171_res ((wmul .i64 a1 a2), true)) (q13 (q16 (q18 pz))) (by kernel_rfl) (by kernel_rfl)
 obtain rfl := Option.some.inj hF
 have pz : HoldAll E H hn171 [.test (ine (wquo .i64 (wmul .i64 a1 a2) a2) a1) true] := ⟨(ine_f h12), trivial⟩
 exact fn_playC hn171 (r := F171_res (0, false)) (q13 (q16 (q18 pz))) (by kernel_rfl) (by kernel_rfl)
noncomputable def hn168 : Hint := { H 168 with nt := 23, prot := 0 }
def F168_res (r1 : Int × Bool) : Res := ⟨[(.one (.im (.lit (.int .i64 r1.1)))), (.one (.im (.lit (.bool r1.2))))], []⟩
def F168 (K : Nat) (a1 : Int) (a2 : Int) (a3 : Int) : Option (Int × Bool) :=
 bif (ilt a3 1) then
  (some (0, false))
 else
 (F171 K a1 a2).bind fun r4 =>
 bif r4.2 then
  (bif (izero a3) then none else
  some ((wquo .i64 r4.1 a3), true))
 else
 some (0, false)
theorem F168_ok (K : Nat) (a1 : Int) (a2 : Int) (a3 : Int) (r : Int × Bool) (hF : F168 K a1 a2 a3 = some r) : Evt E H 168 [.one (.lit (.int .i64 a1)), .one (.lit (.int .i64 a2)), .one (.lit (.int .i64 a3))] (F168_res r) := by
 rw [F168] at hF
 refine cond_some hF (fun h4 hF => ?_) (fun h4 hF => ?_)
 ·
  obtain rfl := Option.some.inj hF
  have pz : HoldAll E H hn168 [.test (ilt a3 1) true] := ⟨h4, trivial⟩
  exact fn_playC hn168 (r := F168_res (0, false)) pz (by kernel_rfl) (by kernel_rfl)
 refine bind_some hF (fun r5 h6 hF => ?_)
 have q9 : PQ hn168 fun l => (.test (ilt a3 1) false :: .call 171 [.one (.lit (.int .i64 a1)), .one (.lit (.int .i64 a2))] (F171_res r5) :: .test (leadsAny (Res.mk [(.one (.im (.lit (.int .i64 r5.1)))), (.one (.im (.lit (.bool r5.2))))] [])) false :: l) := fun z => ⟨h4, (F171_ok K a1 a2 _ h6), (leads_ok (by simp [leadsAny, RV.leads, RC.leads, leadsT, hasSl_lit])), z⟩
 refine cond_some hF (fun h7 hF => ?_) (fun h7 hF => ?_)
 ·
  refine cond_some hF (fun _ hF => nomatch hF) (fun h8 hF => ?_)
  obtain rfl := Option.some.inj hF
  have pz : HoldAll E H hn168 [.test (bnot r5.2) false, .test (izero a3) false, .int (wquo .i64 r5.1 a3) (wquo .i64 r5.1 a3)] := ⟨(bnot_t h7), h8, rfl, trivial⟩
  exact fn_playC hn168 (r := F168_res ((wquo .i64 r5.1 a3), true)) (q9 pz) (by kernel_rfl) (by kernel_rfl)
 obtain rfl := Option.some.inj hF
 have pz : HoldAll E H hn168 [.test (bnot r5.2) true] := ⟨(bnot_f h7), trivial⟩
 exact fn_playC hn168 (r := F168_res (0, false)) (q9 pz) (by kernel_rfl) (by kernel_rfl)
noncomputable def hn147 : Hint := { H 147 with nt := 17, prot := 0 }
def F147_res (r1 : Int × Bool) : Res := ⟨[(.one (.im (.lit (.int .i64 r1.1)))), (.one (.im (.lit (.bool r1.2))))], []⟩
def F147 (K : Nat) (a1 : Int) : Option (Int × Bool) :=
 (F168 K a1 85 100).bind fun r2 =>
 bif r2.2 then
  ((F145 K 150000 r2.1).bind fun r3 =>
  some (r3.1, r3.2))
 else
 some (0, false)
theorem F147_ok (K : Nat) (a1 : Int) (r : Int × Bool) (hF : F147 K a1 = some r) : Evt E H 147 [.one (.lit (.int .i64 a1))] (F147_res r) := by
 rw [F147] at hF
 refine bind_some hF (fun r2 h3 hF => ?_)
 refine cond_some hF (fun h4 hF => ?_) (fun h4 hF => ?_)
 ·
  refine bind_some hF (fun r5 h6 hF => ?_)
  obtain rfl := Option.some.inj hF
  have pz : HoldAll E H hn147 [.call 168 [.one (.lit (.int .i64 a1)), .one (.lit (.int .i64 85)), .one (.lit (.int .i64 100))] (F168_res r2), .test (leadsAny (Res.mk [(.one (.im (.lit (.int .i64 r2.1)))), (.one (.im (.lit (.bool r2.2))))] [])) false, .test (bnot r2.2) false, .call 145 [.one (.lit (.int .i64 150000)), .one (.lit (.int .i64 r2.1))] (F145_res r5), .test (leadsAny (Res.mk [(.one (.im (.lit (.int .i64 r5.1)))), (.one (.im (.lit (.bool r5.2))))] [])) false] := ⟨(F168_ok K a1 85 100 _ h3), (leads_ok (by simp [leadsAny, RV.leads, RC.leads, leadsT, hasSl_lit])), (bnot_t h4), (F145_ok K 150000 r2.1 _ h6), (leads_ok (by simp [leadsAny, RV.leads, RC.leads, leadsT, hasSl_lit])), trivial⟩
  exact fn_playC hn147 (r := F147_res (r5.1, r5.2)) pz (by kernel_rfl) (by kernel_rfl)
 obtain rfl := Option.some.inj hF
 have pz : HoldAll E H hn147 [.call 168 [.one (.lit (.int .i64 a1)), .one (.lit (.int .i64 85)), .one (.lit (.int .i64 100))] (F168_res r2), .test (leadsAny (Res.mk [(.one (.im (.lit (.int .i64 r2.1)))), (.one (.im (.lit (.bool r2.2))))] [])) false, .test (bnot r2.2) true] := ⟨(F168_ok K a1 85 100 _ h3), (leads_ok (by simp [leadsAny, RV.leads, RC.leads, leadsT, hasSl_lit])), (bnot_f h4), trivial⟩
 exact fn_playC hn147 (r := F147_res (0, false)) pz (by kernel_rfl) (by kernel_rfl)
noncomputable def hn148 : Hint := { H 148 with nt := 33, prot := 0 }
def F148_res (r1 : Int × Bool) : Res := ⟨[(.one (.im (.lit (.int .i64 r1.1)))), (.one (.im (.lit (.bool r1.2))))], []⟩
def F148 (K : Nat) (a1 : Int) (a2 : Int) (a3 : GEdge) (a4 : Int) : Option (Int × Bool) :=
 bif (ieq a1 1) then
  ((F145 K a2 a3.W).bind fun r5 =>
  some (r5.1, r5.2))
 else
 bif (ieq a1 3) then
  ((F145 K a2 1).bind fun r6 =>
  some (r6.1, r6.2))
 else
 bif (ieq a1 5) then
  ((F168 K a2 1 a4).bind fun r7 =>
  some (r7.1, r7.2))
 else
 some (a2, true)
theorem F148_ok (K : Nat) (a1 : Int) (a2 : Int) (a3 : GEdge) (a4 : Int) (r : Int × Bool) (hF : F148 K a1 a2 a3 a4 = some r) : Evt E H 148 [.one (.lit (.int .i64 a1)), .one (.lit (.int .i64 a2)), .agg (eGEdge a3), .one (.lit (.int .i64 a4))] (F148_res r) := by
 rw [F148] at hF
 refine cond_some hF (fun h5 hF => ?_) (fun h5 hF => ?_)
 ·
  refine bind_some hF (fun r6 h7 hF => ?_)
  obtain rfl := Option.some.inj hF
  have pz : HoldAll E H hn148 [.test (ieq a1 1) true, .call 145 [.one (.lit (.int .i64 a2)), .one (.lit (.int .i64 a3.W))] (F145_res r6), .test (leadsAny (Res.mk [(.one (.im (.lit (.int .i64 r6.1)))), (.one (.im (.lit (.bool r6.2))))] [])) false] := ⟨h5, (F145_ok K a2 a3.W _ h7), (leads_ok (by simp [leadsAny, RV.leads, RC.leads, leadsT, hasSl_lit])), trivial⟩
  exact fn_playC hn148 (r := F148_res (r6.1, r6.2)) pz (by kernel_rfl) (by kernel_rfl)
 refine cond_some hF (fun h8 hF => ?_) (fun h8 hF => ?_)
 ·
  refine bind_some hF (fun r9 h10 hF => ?_)
  obtain rfl := Option.some.inj hF
  have pz : HoldAll E H hn148 [.test (ieq a1 1) false, .test (ieq a1 3) true, .call 145 [.one (.lit (.int .i64 a2)), .one (.lit (.int .i64 1))] (F145_res r9), .test (leadsAny (Res.mk [(.one (.im (.lit (.int .i64 r9.1)))), (.one (.im (.lit (.bool r9.2))))] [])) false] := ⟨h5, h8, (F145_ok K a2 1 _ h10), (leads_ok (by simp [leadsAny, RV.leads, RC.leads, leadsT, hasSl_lit])), trivial⟩
  exact fn_playC hn148 (r := F148_res (r9.1, r9.2)) pz (by kernel_rfl) (by kernel_rfl)
 refine cond_some hF (fun h11 hF => ?_) (fun h11 hF => ?_)
 ·
  refine bind_some hF (fun r12 h13 hF => ?_)
  obtain rfl := Option.some.inj hF
  have pz : HoldAll E H hn148 [.test (ieq a1 1) false, .test (ieq a1 3) false, .test (ieq a1 5) true, .call 168 [.one (.lit (.int .i64 a2)), .one (.lit (.int .i64 1)), .one (.lit (.int .i64 a4))] (F168_res r12), .test (leadsAny (Res.mk [(.one (.im (.lit (.int .i64 r12.1)))), (.one (.im (.lit (.bool r12.2))))] [])) false] := ⟨h5, h8, h11, (F168_ok K a2 1 a4 _ h13), (leads_ok (by simp [leadsAny, RV.leads, RC.leads, leadsT, hasSl_lit])), trivial⟩
  exact fn_playC hn148 (r := F148_res (r12.1, r12.2)) pz (by kernel_rfl) (by kernel_rfl)
 obtain rfl := Option.some.inj hF
 have pz : HoldAll E H hn148 [.test (ieq a1 1) false, .test (ieq a1 3) false, .test (ieq a1 5) false] := ⟨h5, h8, h11, trivial⟩
 exact fn_playC hn148 (r := F148_res (a2, true)) pz (by kernel_rfl) (by kernel_rfl)
noncomputable def hn100 : Hint := { H 100 with nt := 145, prot := 0 }
noncomputable def c100_0 : Code := loopOf E 100 0
def F100_res (r1 : GTurned) : Res := ⟨[(.agg [(.im (.lit (.int .i64 r1.Val))), (.own 130 (.sl (len r1.Out) (flat eGMsg r1.Out))), (.im (.lit (.bool r1.Rest))), (.im (.lit (.int .i64 r1.E)))])], []⟩
def F100_l0_0 (K : Nat) (v1 : Int) (v2 : Int) (v3 : Int) (v4 : Int) (v5 : Int) (v6 : Bool) (v7 : List GEdge) : Nat → List GMsg → Int → Option ((Unit) ⊕ (List GMsg))
 | 0, _, _ => none
 | k + 1, v8, v9 =>
  bif (ilt v9 (nlen (len v7))) then
   (bif v6 then
    (bif (inr v9 (len v7)) then
    (elAt v7 v9).bind fun x10 =>
    (F148 K v2 v1 x10 (nlen (len v7))).bind fun r11 =>
    bif r11.2 then
     (bif (apok (len v8) 1 16) then
     F100_l0_0 K v1 v2 v3 v4 v5 v6 v7 k (appL v8 [(GMsg.mk x10.To r11.1)]) (wadd .i64 v9 1)
     else none)
    else
    some (.inl ())
    else none)
   else
   some (.inr v8))
  else
  some (.inr v8)
def F100_l0_0_S (v1 : Int) (v2 : Int) (v3 : Int) (v4 : Int) (v5 : Int) (v6 : Bool) (v7 : List GEdge) (v8 : List GMsg) (v9 : Int) : TS := .on [256, 257, 512, 513, 514, 515, 516, 896, 897, 898, 899, 900, 1088, 1089, 1344, 1345, 1346, 1347, 1348, 1408, 1409, 1472, 1473] [(256, ⟨.one, 0, nob⟩), (257, ⟨.im, 0, (.lit (.int .i64 v1))⟩), (512, ⟨(.box 64 4), 0, nob⟩), (513, ⟨.im, 0, (.lit (.int .i64 v2))⟩), (514, ⟨.im, 0, (.lit (.int .i64 v3))⟩), (515, ⟨.im, 0, (.lit (.int .i64 v4))⟩), (516, ⟨.im, 0, (.lit (.int .i64 v5))⟩), (896, ⟨(.box 126 4), 0, nob⟩), (897, ⟨.im, 0, (.lit (.int .i64 0))⟩), (898, ⟨(.own 130), 0, (.sl 0 [])⟩), (899, ⟨.im, 0, (.lit (.bool false))⟩), (900, ⟨.im, 0, (.lit (.int .i64 0))⟩), (1088, ⟨.one, 0, nob⟩), (1089, ⟨.im, 0, (.lit (.bool v6))⟩), (1344, ⟨(.box 126 4), 0, nob⟩), (1345, ⟨.im, 0, (.lit (.int .i64 v1))⟩), (1346, ⟨(.own 130), 0, (.sl (len v8) (flat eGMsg v8))⟩), (1347, ⟨.im, 0, (.lit (.bool (bnot v6)))⟩), (1348, ⟨.im, 0, (.lit (.int .i64 0))⟩), (1408, ⟨.one, 0, nob⟩), (1409, ⟨(.own 89), 0, (.sl (len v7) (flat eGEdge v7))⟩), (1472, ⟨.one, 0, nob⟩), (1473, ⟨.im, 0, (.lit (.int .i64 v9))⟩)]
def F100_l0_0_X0 (v1 : Int) (v2 : Int) (v3 : Int) (v4 : Int) (v5 : Int) (v6 : Bool) (v7 : List GEdge) (w8 : Unit) : TS := .on [896, 897, 898, 899, 900] [(896, ⟨(.box 126 4), 0, nob⟩), (897, ⟨.im, 0, (.lit (.int .i64 0))⟩), (898, ⟨(.own 130), 0, (.sl 0 [])⟩), (899, ⟨.im, 0, (.lit (.bool false))⟩), (900, ⟨.im, 0, (.lit (.int .i64 8))⟩)]
def F100_l0_0_X1 (v1 : Int) (v2 : Int) (v3 : Int) (v4 : Int) (v5 : Int) (v6 : Bool) (v7 : List GEdge) (w8 : List GMsg) : TS := .on [896, 897, 898, 899, 900, 1344, 1345, 1346, 1347, 1348] [(896, ⟨(.box 126 4), 0, nob⟩), (897, ⟨.im, 0, (.lit (.int .i64 0))⟩), (898, ⟨(.own 130), 0, (.sl 0 [])⟩), (899, ⟨.im, 0, (.lit (.bool false))⟩), (900, ⟨.im, 0, (.lit (.int .i64 0))⟩), (1344, ⟨(.box 126 4), 0, nob⟩), (1345, ⟨.im, 0, (.lit (.int .i64 v1))⟩), (1346, ⟨(.own 130), 0, (.sl (len w8) (flat eGMsg w8))⟩), (1347, ⟨.im, 0, (.lit (.bool (bnot v6)))⟩), (1348, ⟨.im, 0, (.lit (.int .i64 0))⟩)]
theorem F100_l0_0_ok (K : Nat) (v1 : Int) (v2 : Int) (v3 : Int) (v4 : Int) (v5 : Int) (v6 : Bool) (v7 : List GEdge) : ∀ (k : Nat) (v8 : List GMsg) (v9 : Int) (r : (Unit) ⊕ (List GMsg)), F100_l0_0 K v1 v2 v3 v4 v5 v6 v7 k v8 v9 = some r → (Sum.elim (fun w => LoopEv E H hn100 0 c100_0 (F100_l0_0_S v1 v2 v3 v4 v5 v6 v7 v8 v9) .ret (F100_l0_0_X0 v1 v2 v3 v4 v5 v6 v7 w)) (fun w => LoopEv E H hn100 0 c100_0 (F100_l0_0_S v1 v2 v3 v4 v5 v6 v7 v8 v9) (.exit 0) (F100_l0_0_X1 v1 v2 v3 v4 v5 v6 v7 w))) r := by
 intro k
 induction k with
 | zero => intro v8 v9 r hF; cases hF
 | succ k ih =>
  intro v8 v9 r hF
  rw [F100_l0_0] at hF
  refine cond_some hF (fun h10 hF => ?_) (fun h10 hF => ?_)
  ·
   have q19 : PQ hn100 fun l => (.int (nlen (len v7)) (nlen (len v7)) :: .test (beqb (ilt v9 (nlen (len v7))) true) true :: .test (ilt v9 (nlen (len v7))) true :: l) := fun z => ⟨rfl, (beqb_t h10), h10, z⟩
   refine cond_some hF (fun h11 hF => ?_) (fun h11 hF => ?_)
   ·
    refine cond_some hF (fun h12 hF => ?_) (fun _ hF => nomatch hF)
    refine bind_some hF (fun x13 h14 hF => ?_)
    refine bind_some hF (fun r15 h16 hF => ?_)
    have q20 : PQ hn100 fun l => (.test v6 true :: .test (inr v9 (len v7)) true :: .sub (flat eGEdge v7) (nidx v9 3) 3 [(.lit (.int .i64 x13.From)), (.lit (.int .i64 x13.To)), (.lit (.int .i64 x13.W))] :: .int (nlen (len v7)) (nlen (len v7)) :: .call 148 [.one (.lit (.int .i64 v2)), .one (.lit (.int .i64 v1)), .agg (eGEdge x13), .one (.lit (.int .i64 (nlen (len v7))))] (F148_res r15) :: .test (leadsAny (Res.mk [(.one (.im (.lit (.int .i64 r15.1)))), (.one (.im (.lit (.bool r15.2))))] [])) false :: l) := fun z => ⟨h11, h12, ⟨rfl, sub_flat0 eGEdge_len h14 3 (by decide)⟩, rfl, (F148_ok K v2 v1 x13 (nlen (len v7)) _ h16), (leads_ok (by simp [leadsAny, RV.leads, RC.leads, leadsT, hasSl_lit, flat_ns eGEdge_ns])), z⟩
    refine cond_some hF (fun h17 hF => ?_) (fun h17 hF => ?_)
    ·
     refine cond_some hF (fun h18 hF => ?_) (fun _ hF => nomatch hF)
     have pz : HoldAll E H hn100 [.test (bnot r15.2) false, .test (inr v9 (len v7)) true, .sub (flat eGEdge v7) (nadd (nidx v9 3) 1) 1 [(.lit (.int .i64 x13.To))], .test (leqm [(.lit (.int .i64 x13.To)), (.lit (.int .i64 r15.1))] 1 2) true, .test (apok (len v8) 1 16) true, .sl (nadd (len v8) 1) (lapp (flat eGMsg v8) [(.lit (.int .i64 x13.To)), (.lit (.int .i64 r15.1))]) (len (α := GMsg) (appL v8 [(GMsg.mk x13.To r15.1)])) (flat eGMsg (appL v8 [(GMsg.mk x13.To r15.1)])), .int (wadd .i64 v9 1) (wadd .i64 v9 1)] := ⟨(bnot_t h17), h12, ⟨rfl, sub_flat eGEdge_len h14 1 1 (by decide)⟩, rfl, h18, (app_ok (enc := eGMsg) (v8 : List GMsg) [(GMsg.mk x13.To r15.1)]), rfl, trivial⟩
     have h0 := ih _ _ _ hF
     have hn := fun ex ts' => loop_nextC (h := hn100) (l := 0) (c := c100_0) (ts := F100_l0_0_S v1 v2 v3 v4 v5 v6 v7 v8 v9) (ts1 := (F100_l0_0_S v1 v2 v3 v4 v5 v6 v7 (appL v8 [(GMsg.mk x13.To r15.1)]) (wadd .i64 v9 1))) (ex := ex) (ts' := ts') (q19 (q20 pz)) (by kernel_rfl)
     cases r with
     | inl w => exact hn _ _ h0
     | inr w => exact hn _ _ h0
    obtain rfl := Option.some.inj hF
    have pz : HoldAll E H hn100 [.test (bnot r15.2) true] := ⟨(bnot_f h17), trivial⟩
    exact loop_endC (h := hn100) (l := 0) (c := c100_0) (ts := F100_l0_0_S v1 v2 v3 v4 v5 v6 v7 v8 v9) (ts' := F100_l0_0_X0 v1 v2 v3 v4 v5 v6 v7 ()) (ex := .ret) (q19 (q20 pz)) (by kernel_rfl) trivial
   obtain rfl := Option.some.inj hF
   have pz : HoldAll E H hn100 [.test v6 false] := ⟨h11, trivial⟩
   exact loop_endC (h := hn100) (l := 0) (c := c100_0) (ts := F100_l0_0_S v1 v2 v3 v4 v5 v6 v7 v8 v9) (ts' := F100_l0_0_X1 v1 v2 v3 v4 v5 v6 v7 v8) (ex := (.exit 0)) (q19 pz) (by kernel_rfl) trivial
  obtain rfl := Option.some.inj hF
  have pz : HoldAll E H hn100 [.int (nlen (len v7)) (nlen (len v7)), .test (beqb (ilt v9 (nlen (len v7))) true) false, .test (ilt v9 (nlen (len v7))) false, .test false false] := ⟨rfl, (beqb_t h10), h10, rfl, trivial⟩
  exact loop_endC (h := hn100) (l := 0) (c := c100_0) (ts := F100_l0_0_S v1 v2 v3 v4 v5 v6 v7 v8 v9) (ts' := F100_l0_0_X1 v1 v2 v3 v4 v5 v6 v7 v8) (ex := (.exit 0)) pz (by kernel_rfl) trivial
def F100_l0_1 (K : Nat) (v1 : Int) (v2 : Int) (v3 : Int) (v4 : Int) (v5 : Int) (v6 : List GEdge) : Nat → List GMsg → Int → Option ((Unit) ⊕ (List GMsg))
 | 0, _, _ => none
 | k + 1, v7, v8 =>
  bif (ilt v8 (nlen (len v6))) then
   (bif (inr v8 (len v6)) then
   (elAt v6 v8).bind fun x9 =>
   (F148 K v2 v1 x9 (nlen (len v6))).bind fun r10 =>
   bif r10.2 then
    (bif (apok (len v7) 1 16) then
    F100_l0_1 K v1 v2 v3 v4 v5 v6 k (appL v7 [(GMsg.mk x9.To r10.1)]) (wadd .i64 v8 1)
    else none)
   else
   some (.inl ())
   else none)
  else
  some (.inr v7)
def F100_l0_1_S (v1 : Int) (v2 : Int) (v3 : Int) (v4 : Int) (v5 : Int) (v6 : List GEdge) (v7 : List GMsg) (v8 : Int) : TS := .on [256, 257, 512, 513, 514, 515, 516, 896, 897, 898, 899, 900, 1088, 1089, 1344, 1345, 1346, 1347, 1348, 1408, 1409, 1472, 1473] [(256, ⟨.one, 0, nob⟩), (257, ⟨.im, 0, (.lit (.int .i64 v1))⟩), (512, ⟨(.box 64 4), 0, nob⟩), (513, ⟨.im, 0, (.lit (.int .i64 v2))⟩), (514, ⟨.im, 0, (.lit (.int .i64 v3))⟩), (515, ⟨.im, 0, (.lit (.int .i64 v4))⟩), (516, ⟨.im, 0, (.lit (.int .i64 v5))⟩), (896, ⟨(.box 126 4), 0, nob⟩), (897, ⟨.im, 0, (.lit (.int .i64 0))⟩), (898, ⟨(.own 130), 0, (.sl 0 [])⟩), (899, ⟨.im, 0, (.lit (.bool false))⟩), (900, ⟨.im, 0, (.lit (.int .i64 0))⟩), (1088, ⟨.one, 0, nob⟩), (1089, ⟨.im, 0, (.lit (.bool true))⟩), (1344, ⟨(.box 126 4), 0, nob⟩), (1345, ⟨.im, 0, (.lit (.int .i64 v1))⟩), (1346, ⟨(.own 130), 0, (.sl (len v7) (flat eGMsg v7))⟩), (1347, ⟨.im, 0, (.lit (.bool true))⟩), (1348, ⟨.im, 0, (.lit (.int .i64 0))⟩), (1408, ⟨.one, 0, nob⟩), (1409, ⟨(.own 89), 0, (.sl (len v6) (flat eGEdge v6))⟩), (1472, ⟨.one, 0, nob⟩), (1473, ⟨.im, 0, (.lit (.int .i64 v8))⟩)]
def F100_l0_1_X0 (v1 : Int) (v2 : Int) (v3 : Int) (v4 : Int) (v5 : Int) (v6 : List GEdge) (w7 : Unit) : TS := .on [896, 897, 898, 899, 900] [(896, ⟨(.box 126 4), 0, nob⟩), (897, ⟨.im, 0, (.lit (.int .i64 0))⟩), (898, ⟨(.own 130), 0, (.sl 0 [])⟩), (899, ⟨.im, 0, (.lit (.bool false))⟩), (900, ⟨.im, 0, (.lit (.int .i64 8))⟩)]
def F100_l0_1_X1 (v1 : Int) (v2 : Int) (v3 : Int) (v4 : Int) (v5 : Int) (v6 : List GEdge) (w7 : List GMsg) : TS := .on [896, 897, 898, 899, 900, 1344, 1345, 1346, 1347, 1348] [(896, ⟨(.box 126 4), 0, nob⟩), (897, ⟨.im, 0, (.lit (.int .i64 0))⟩), (898, ⟨(.own 130), 0, (.sl 0 [])⟩), (899, ⟨.im, 0, (.lit (.bool false))⟩), (900, ⟨.im, 0, (.lit (.int .i64 0))⟩), (1344, ⟨(.box 126 4), 0, nob⟩), (1345, ⟨.im, 0, (.lit (.int .i64 v1))⟩), (1346, ⟨(.own 130), 0, (.sl (len w7) (flat eGMsg w7))⟩), (1347, ⟨.im, 0, (.lit (.bool true))⟩), (1348, ⟨.im, 0, (.lit (.int .i64 0))⟩)]
theorem F100_l0_1_ok (K : Nat) (v1 : Int) (v2 : Int) (v3 : Int) (v4 : Int) (v5 : Int) (v6 : List GEdge) : ∀ (k : Nat) (v7 : List GMsg) (v8 : Int) (r : (Unit) ⊕ (List GMsg)), F100_l0_1 K v1 v2 v3 v4 v5 v6 k v7 v8 = some r → (Sum.elim (fun w => LoopEv E H hn100 0 c100_0 (F100_l0_1_S v1 v2 v3 v4 v5 v6 v7 v8) .ret (F100_l0_1_X0 v1 v2 v3 v4 v5 v6 w)) (fun w => LoopEv E H hn100 0 c100_0 (F100_l0_1_S v1 v2 v3 v4 v5 v6 v7 v8) (.exit 0) (F100_l0_1_X1 v1 v2 v3 v4 v5 v6 w))) r := by
 intro k
 induction k with
 | zero => intro v7 v8 r hF; cases hF
 | succ k ih =>
  intro v7 v8 r hF
  rw [F100_l0_1] at hF
  refine cond_some hF (fun h9 hF => ?_) (fun h9 hF => ?_)
  ·
   refine cond_some hF (fun h10 hF => ?_) (fun _ hF => nomatch hF)
   refine bind_some hF (fun x11 h12 hF => ?_)
   refine bind_some hF (fun r13 h14 hF => ?_)
   have q17 : PQ hn100 fun l => (.int (nlen (len v6)) (nlen (len v6)) :: .test (beqb (ilt v8 (nlen (len v6))) true) true :: .test (ilt v8 (nlen (len v6))) true :: .test true true :: .test (inr v8 (len v6)) true :: .sub (flat eGEdge v6) (nidx v8 3) 3 [(.lit (.int .i64 x11.From)), (.lit (.int .i64 x11.To)), (.lit (.int .i64 x11.W))] :: .int (nlen (len v6)) (nlen (len v6)) :: .call 148 [.one (.lit (.int .i64 v2)), .one (.lit (.int .i64 v1)), .agg (eGEdge x11), .one (.lit (.int .i64 (nlen (len v6))))] (F148_res r13) :: .test (leadsAny (Res.mk [(.one (.im (.lit (.int .i64 r13.1)))), (.one (.im (.lit (.bool r13.2))))] [])) false :: l) := fun z => ⟨rfl, (beqb_t h9), h9, rfl, h10, ⟨rfl, sub_flat0 eGEdge_len h12 3 (by decide)⟩, rfl, (F148_ok K v2 v1 x11 (nlen (len v6)) _ h14), (leads_ok (by simp [leadsAny, RV.leads, RC.leads, leadsT, hasSl_lit, flat_ns eGEdge_ns])), z⟩
   refine cond_some hF (fun h15 hF => ?_) (fun h15 hF => ?_)
   ·
    refine cond_some hF (fun h16 hF => ?_) (fun _ hF => nomatch hF)
    have pz : HoldAll E H hn100 [.test (bnot r13.2) false, .test (inr v8 (len v6)) true, .sub (flat eGEdge v6) (nadd (nidx v8 3) 1) 1 [(.lit (.int .i64 x11.To))], .test (leqm [(.lit (.int .i64 x11.To)), (.lit (.int .i64 r13.1))] 1 2) true, .test (apok (len v7) 1 16) true, .sl (nadd (len v7) 1) (lapp (flat eGMsg v7) [(.lit (.int .i64 x11.To)), (.lit (.int .i64 r13.1))]) (len (α := GMsg) (appL v7 [(GMsg.mk x11.To r13.1)])) (flat eGMsg (appL v7 [(GMsg.mk x11.To r13.1)])), .int (wadd .i64 v8 1) (wadd .i64 v8 1)] := ⟨(bnot_t h15), h10, ⟨rfl, sub_flat eGEdge_len h12 1 1 (by decide)⟩, rfl, h16, (app_ok (enc := eGMsg) (v7 : List GMsg) [(GMsg.mk x11.To r13.1)]), rfl, trivial⟩
    have h0 := ih _ _ _ hF
    have hn := fun ex ts' => loop_nextC (h := hn100) (l := 0) (c := c100_0) (ts := F100_l0_1_S v1 v2 v3 v4 v5 v6 v7 v8) (ts1 := (F100_l0_1_S v1 v2 v3 v4 v5 v6 (appL v7 [(GMsg.mk x11.To r13.1)]) (wadd .i64 v8 1))) (ex := ex) (ts' := ts') (q17 pz) (by kernel_rfl)
    cases r with
    | inl w => exact hn _ _ h0
    | inr w => exact hn _ _ h0
   obtain rfl := Option.some.inj hF
   have pz : HoldAll E H hn100 [.test (bnot r13.2) true] := ⟨(bnot_f h15), trivial⟩
   exact loop_endC (h := hn100) (l := 0) (c := c100_0) (ts := F100_l0_1_S v1 v2 v3 v4 v5 v6 v7 v8) (ts' := F100_l0_1_X0 v1 v2 v3 v4 v5 v6 ()) (ex := .ret) (q17 pz) (by kernel_rfl) trivial
  obtain rfl := Option.some.inj hF
  have pz : HoldAll E H hn100 [.int (nlen (len v6)) (nlen (len v6)), .test (beqb (ilt v8 (nlen (len v6))) true) false, .test (ilt v8 (nlen (len v6))) false, .test false false] := ⟨rfl, (beqb_t h9), h9, rfl, trivial⟩
  exact loop_endC (h := hn100) (l := 0) (c := c100_0) (ts := F100_l0_1_S v1 v2 v3 v4 v5 v6 v7 v8) (ts' := F100_l0_1_X1 v1 v2 v3 v4 v5 v6 v7) (ex := (.exit 0)) pz (by kernel_rfl) trivial
def F100_l0_2 (K : Nat) (v1 : Int) (v2 : Int) (v3 : Int) (v4 : Int) (v5 : Int) (v6 : Bool) (v7 : List GEdge) : Nat → List GMsg → Int → Option ((Unit) ⊕ (List GMsg))
 | 0, _, _ => none
 | k + 1, v8, v9 =>
  bif (ilt v9 (nlen (len v7))) then
   (bif v6 then
    (bif (inr v9 (len v7)) then
    (elAt v7 v9).bind fun x10 =>
    (F148 K v2 v1 x10 (nlen (len v7))).bind fun r11 =>
    bif r11.2 then
     (bif (apok (len v8) 1 16) then
     F100_l0_2 K v1 v2 v3 v4 v5 v6 v7 k (appL v8 [(GMsg.mk x10.To r11.1)]) (wadd .i64 v9 1)
     else none)
    else
    some (.inl ())
    else none)
   else
   some (.inr v8))
  else
  some (.inr v8)
def F100_l0_2_S (v1 : Int) (v2 : Int) (v3 : Int) (v4 : Int) (v5 : Int) (v6 : Bool) (v7 : List GEdge) (v8 : List GMsg) (v9 : Int) : TS := .on [256, 257, 512, 513, 514, 515, 516, 896, 897, 898, 899, 900, 1088, 1089, 1344, 1345, 1346, 1347, 1348, 1408, 1409, 1472, 1473] [(256, ⟨.one, 0, nob⟩), (257, ⟨.im, 0, (.lit (.int .i64 v1))⟩), (512, ⟨(.box 64 4), 0, nob⟩), (513, ⟨.im, 0, (.lit (.int .i64 v2))⟩), (514, ⟨.im, 0, (.lit (.int .i64 v3))⟩), (515, ⟨.im, 0, (.lit (.int .i64 v4))⟩), (516, ⟨.im, 0, (.lit (.int .i64 v5))⟩), (896, ⟨(.box 126 4), 0, nob⟩), (897, ⟨.im, 0, (.lit (.int .i64 0))⟩), (898, ⟨(.own 130), 0, (.sl 0 [])⟩), (899, ⟨.im, 0, (.lit (.bool false))⟩), (900, ⟨.im, 0, (.lit (.int .i64 0))⟩), (1088, ⟨.one, 0, nob⟩), (1089, ⟨.im, 0, (.lit (.bool v6))⟩), (1344, ⟨(.box 126 4), 0, nob⟩), (1345, ⟨.im, 0, (.lit (.int .i64 v1))⟩), (1346, ⟨(.own 130), 0, (.sl (len v8) (flat eGMsg v8))⟩), (1347, ⟨.im, 0, (.lit (.bool true))⟩), (1348, ⟨.im, 0, (.lit (.int .i64 0))⟩), (1408, ⟨.one, 0, nob⟩), (1409, ⟨(.own 89), 0, (.sl (len v7) (flat eGEdge v7))⟩), (1472, ⟨.one, 0, nob⟩), (1473, ⟨.im, 0, (.lit (.int .i64 v9))⟩)]
def F100_l0_2_X0 (v1 : Int) (v2 : Int) (v3 : Int) (v4 : Int) (v5 : Int) (v6 : Bool) (v7 : List GEdge) (w8 : Unit) : TS := .on [896, 897, 898, 899, 900] [(896, ⟨(.box 126 4), 0, nob⟩), (897, ⟨.im, 0, (.lit (.int .i64 0))⟩), (898, ⟨(.own 130), 0, (.sl 0 [])⟩), (899, ⟨.im, 0, (.lit (.bool false))⟩), (900, ⟨.im, 0, (.lit (.int .i64 8))⟩)]
def F100_l0_2_X1 (v1 : Int) (v2 : Int) (v3 : Int) (v4 : Int) (v5 : Int) (v6 : Bool) (v7 : List GEdge) (w8 : List GMsg) : TS := .on [896, 897, 898, 899, 900, 1344, 1345, 1346, 1347, 1348] [(896, ⟨(.box 126 4), 0, nob⟩), (897, ⟨.im, 0, (.lit (.int .i64 0))⟩), (898, ⟨(.own 130), 0, (.sl 0 [])⟩), (899, ⟨.im, 0, (.lit (.bool false))⟩), (900, ⟨.im, 0, (.lit (.int .i64 0))⟩), (1344, ⟨(.box 126 4), 0, nob⟩), (1345, ⟨.im, 0, (.lit (.int .i64 v1))⟩), (1346, ⟨(.own 130), 0, (.sl (len w8) (flat eGMsg w8))⟩), (1347, ⟨.im, 0, (.lit (.bool true))⟩), (1348, ⟨.im, 0, (.lit (.int .i64 0))⟩)]
theorem F100_l0_2_ok (K : Nat) (v1 : Int) (v2 : Int) (v3 : Int) (v4 : Int) (v5 : Int) (v6 : Bool) (v7 : List GEdge) : ∀ (k : Nat) (v8 : List GMsg) (v9 : Int) (r : (Unit) ⊕ (List GMsg)), F100_l0_2 K v1 v2 v3 v4 v5 v6 v7 k v8 v9 = some r → (Sum.elim (fun w => LoopEv E H hn100 0 c100_0 (F100_l0_2_S v1 v2 v3 v4 v5 v6 v7 v8 v9) .ret (F100_l0_2_X0 v1 v2 v3 v4 v5 v6 v7 w)) (fun w => LoopEv E H hn100 0 c100_0 (F100_l0_2_S v1 v2 v3 v4 v5 v6 v7 v8 v9) (.exit 0) (F100_l0_2_X1 v1 v2 v3 v4 v5 v6 v7 w))) r := by
 intro k
 induction k with
 | zero => intro v8 v9 r hF; cases hF
 | succ k ih =>
  intro v8 v9 r hF
  rw [F100_l0_2] at hF
  refine cond_some hF (fun h10 hF => ?_) (fun h10 hF => ?_)
  ·
   have q19 : PQ hn100 fun l => (.int (nlen (len v7)) (nlen (len v7)) :: .test (beqb (ilt v9 (nlen (len v7))) true) true :: .test (ilt v9 (nlen (len v7))) true :: l) := fun z => ⟨rfl, (beqb_t h10), h10, z⟩
   refine cond_some hF (fun h11 hF => ?_) (fun h11 hF => ?_)
   ·
    refine cond_some hF (fun h12 hF => ?_) (fun _ hF => nomatch hF)
    refine bind_some hF (fun x13 h14 hF => ?_)
    refine bind_some hF (fun r15 h16 hF => ?_)
    have q20 : PQ hn100 fun l => (.test v6 true :: .test (inr v9 (len v7)) true :: .sub (flat eGEdge v7) (nidx v9 3) 3 [(.lit (.int .i64 x13.From)), (.lit (.int .i64 x13.To)), (.lit (.int .i64 x13.W))] :: .int (nlen (len v7)) (nlen (len v7)) :: .call 148 [.one (.lit (.int .i64 v2)), .one (.lit (.int .i64 v1)), .agg (eGEdge x13), .one (.lit (.int .i64 (nlen (len v7))))] (F148_res r15) :: .test (leadsAny (Res.mk [(.one (.im (.lit (.int .i64 r15.1)))), (.one (.im (.lit (.bool r15.2))))] [])) false :: l) := fun z => ⟨h11, h12, ⟨rfl, sub_flat0 eGEdge_len h14 3 (by decide)⟩, rfl, (F148_ok K v2 v1 x13 (nlen (len v7)) _ h16), (leads_ok (by simp [leadsAny, RV.leads, RC.leads, leadsT, hasSl_lit, flat_ns eGEdge_ns])), z⟩
    refine cond_some hF (fun h17 hF => ?_) (fun h17 hF => ?_)
    ·
     refine cond_some hF (fun h18 hF => ?_) (fun _ hF => nomatch hF)
     have pz : HoldAll E H hn100 [.test (bnot r15.2) false, .test (inr v9 (len v7)) true, .sub (flat eGEdge v7) (nadd (nidx v9 3) 1) 1 [(.lit (.int .i64 x13.To))], .test (leqm [(.lit (.int .i64 x13.To)), (.lit (.int .i64 r15.1))] 1 2) true, .test (apok (len v8) 1 16) true, .sl (nadd (len v8) 1) (lapp (flat eGMsg v8) [(.lit (.int .i64 x13.To)), (.lit (.int .i64 r15.1))]) (len (α := GMsg) (appL v8 [(GMsg.mk x13.To r15.1)])) (flat eGMsg (appL v8 [(GMsg.mk x13.To r15.1)])), .int (wadd .i64 v9 1) (wadd .i64 v9 1)] := ⟨(bnot_t h17), h12, ⟨rfl, sub_flat eGEdge_len h14 1 1 (by decide)⟩, rfl, h18, (app_ok (enc := eGMsg) (v8 : List GMsg) [(GMsg.mk x13.To r15.1)]), rfl, trivial⟩
     have h0 := ih _ _ _ hF
     have hn := fun ex ts' => loop_nextC (h := hn100) (l := 0) (c := c100_0) (ts := F100_l0_2_S v1 v2 v3 v4 v5 v6 v7 v8 v9) (ts1 := (F100_l0_2_S v1 v2 v3 v4 v5 v6 v7 (appL v8 [(GMsg.mk x13.To r15.1)]) (wadd .i64 v9 1))) (ex := ex) (ts' := ts') (q19 (q20 pz)) (by kernel_rfl)
     cases r with
     | inl w => exact hn _ _ h0
     | inr w => exact hn _ _ h0
    obtain rfl := Option.some.inj hF
    have pz : HoldAll E H hn100 [.test (bnot r15.2) true] := ⟨(bnot_f h17), trivial⟩
    exact loop_endC (h := hn100) (l := 0) (c := c100_0) (ts := F100_l0_2_S v1 v2 v3 v4 v5 v6 v7 v8 v9) (ts' := F100_l0_2_X0 v1 v2 v3 v4 v5 v6 v7 ()) (ex := .ret) (q19 (q20 pz)) (by kernel_rfl) trivial
   obtain rfl := Option.some.inj hF
   have pz : HoldAll E H hn100 [.test v6 false] := ⟨h11, trivial⟩
   exact loop_endC (h := hn100) (l := 0) (c := c100_0) (ts := F100_l0_2_S v1 v2 v3 v4 v5 v6 v7 v8 v9) (ts' := F100_l0_2_X1 v1 v2 v3 v4 v5 v6 v7 v8) (ex := (.exit 0)) (q19 pz) (by kernel_rfl) trivial
  obtain rfl := Option.some.inj hF
  have pz : HoldAll E H hn100 [.int (nlen (len v7)) (nlen (len v7)), .test (beqb (ilt v9 (nlen (len v7))) true) false, .test (ilt v9 (nlen (len v7))) false, .test false false] := ⟨rfl, (beqb_t h10), h10, rfl, trivial⟩
  exact loop_endC (h := hn100) (l := 0) (c := c100_0) (ts := F100_l0_2_S v1 v2 v3 v4 v5 v6 v7 v8 v9) (ts' := F100_l0_2_X1 v1 v2 v3 v4 v5 v6 v7 v8) (ex := (.exit 0)) pz (by kernel_rfl) trivial
def F100_l0_3 (K : Nat) (v1 : Int) (v2 : Int) (v3 : Int) (v4 : Int) (v5 : Int) (v6 : List GEdge) : Nat → List GMsg → Int → Option (((List GMsg)) ⊕ (Unit))
 | 0, _, _ => none
 | k + 1, v7, v8 =>
  bif (ilt v8 (nlen (len v6))) then
   (bif (ieq v1 v1) then
    (some (.inl v7))
   else
   bif (inr v8 (len v6)) then
   (elAt v6 v8).bind fun x9 =>
   (F148 K v2 v1 x9 (nlen (len v6))).bind fun r10 =>
   bif r10.2 then
    (bif (apok (len v7) 1 16) then
    F100_l0_3 K v1 v2 v3 v4 v5 v6 k (appL v7 [(GMsg.mk x9.To r10.1)]) (wadd .i64 v8 1)
    else none)
   else
   some (.inr ())
   else none)
  else
  some (.inl v7)
def F100_l0_3_S (v1 : Int) (v2 : Int) (v3 : Int) (v4 : Int) (v5 : Int) (v6 : List GEdge) (v7 : List GMsg) (v8 : Int) : TS := .on [256, 257, 512, 513, 514, 515, 516, 896, 897, 898, 899, 900, 1088, 1089, 1344, 1345, 1346, 1347, 1348, 1408, 1409, 1472, 1473] [(256, ⟨.one, 0, nob⟩), (257, ⟨.im, 0, (.lit (.int .i64 v1))⟩), (512, ⟨(.box 64 4), 0, nob⟩), (513, ⟨.im, 0, (.lit (.int .i64 v2))⟩), (514, ⟨.im, 0, (.lit (.int .i64 v3))⟩), (515, ⟨.im, 0, (.lit (.int .i64 v4))⟩), (516, ⟨.im, 0, (.lit (.int .i64 v5))⟩), (896, ⟨(.box 126 4), 0, nob⟩), (897, ⟨.im, 0, (.lit (.int .i64 0))⟩), (898, ⟨(.own 130), 0, (.sl 0 [])⟩), (899, ⟨.im, 0, (.lit (.bool false))⟩), (900, ⟨.im, 0, (.lit (.int .i64 0))⟩), (1088, ⟨.one, 0, nob⟩), (1089, ⟨.im, 0, (.lit (.bool (ine v1 v1)))⟩), (1344, ⟨(.box 126 4), 0, nob⟩), (1345, ⟨.im, 0, (.lit (.int .i64 v1))⟩), (1346, ⟨(.own 130), 0, (.sl (len v7) (flat eGMsg v7))⟩), (1347, ⟨.im, 0, (.lit (.bool true))⟩), (1348, ⟨.im, 0, (.lit (.int .i64 0))⟩), (1408, ⟨.one, 0, nob⟩), (1409, ⟨(.own 89), 0, (.sl (len v6) (flat eGEdge v6))⟩), (1472, ⟨.one, 0, nob⟩), (1473, ⟨.im, 0, (.lit (.int .i64 v8))⟩)]
def F100_l0_3_X0 (v1 : Int) (v2 : Int) (v3 : Int) (v4 : Int) (v5 : Int) (v6 : List GEdge) (w7 : List GMsg) : TS := .on [896, 897, 898, 899, 900, 1344, 1345, 1346, 1347, 1348] [(896, ⟨(.box 126 4), 0, nob⟩), (897, ⟨.im, 0, (.lit (.int .i64 0))⟩), (898, ⟨(.own 130), 0, (.sl 0 [])⟩), (899, ⟨.im, 0, (.lit (.bool false))⟩), (900, ⟨.im, 0, (.lit (.int .i64 0))⟩), (1344, ⟨(.box 126 4), 0, nob⟩), (1345, ⟨.im, 0, (.lit (.int .i64 v1))⟩), (1346, ⟨(.own 130), 0, (.sl (len w7) (flat eGMsg w7))⟩), (1347, ⟨.im, 0, (.lit (.bool true))⟩), (1348, ⟨.im, 0, (.lit (.int .i64 0))⟩)]
def F100_l0_3_X1 (v1 : Int) (v2 : Int) (v3 : Int) (v4 : Int) (v5 : Int) (v6 : List GEdge) (w7 : Unit) : TS := .on [896, 897, 898, 899, 900] [(896, ⟨(.box 126 4), 0, nob⟩), (897, ⟨.im, 0, (.lit (.int .i64 0))⟩), (898, ⟨(.own 130), 0, (.sl 0 [])⟩), (899, ⟨.im, 0, (.lit (.bool false))⟩), (900, ⟨.im, 0, (.lit (.int .i64 8))⟩)]
theorem F100_l0_3_ok (K : Nat) (v1 : Int) (v2 : Int) (v3 : Int) (v4 : Int) (v5 : Int) (v6 : List GEdge) : ∀ (k : Nat) (v7 : List GMsg) (v8 : Int) (r : ((List GMsg)) ⊕ (Unit)), F100_l0_3 K v1 v2 v3 v4 v5 v6 k v7 v8 = some r → (Sum.elim (fun w => LoopEv E H hn100 0 c100_0 (F100_l0_3_S v1 v2 v3 v4 v5 v6 v7 v8) (.exit 0) (F100_l0_3_X0 v1 v2 v3 v4 v5 v6 w)) (fun w => LoopEv E H hn100 0 c100_0 (F100_l0_3_S v1 v2 v3 v4 v5 v6 v7 v8) .ret (F100_l0_3_X1 v1 v2 v3 v4 v5 v6 w))) r := by
 intro k
 induction k with
 | zero => intro v7 v8 r hF; cases hF
 | succ k ih =>
  intro v7 v8 r hF
  rw [F100_l0_3] at hF
  refine cond_some hF (fun h9 hF => ?_) (fun h9 hF => ?_)
  ·
   have q18 : PQ hn100 fun l => (.int (nlen (len v6)) (nlen (len v6)) :: .test (beqb (ilt v8 (nlen (len v6))) true) true :: .test (ilt v8 (nlen (len v6))) true :: l) := fun z => ⟨rfl, (beqb_t h9), h9, z⟩
   refine cond_some hF (fun h10 hF => ?_) (fun h10 hF => ?_)
   ·
    obtain rfl := Option.some.inj hF
    have pz : HoldAll E H hn100 [.test (ine v1 v1) false] := ⟨(ine_t h10), trivial⟩
    exact loop_endC (h := hn100) (l := 0) (c := c100_0) (ts := F100_l0_3_S v1 v2 v3 v4 v5 v6 v7 v8) (ts' := F100_l0_3_X0 v1 v2 v3 v4 v5 v6 v7) (ex := (.exit 0)) (q18 pz) (by kernel_rfl) trivial
   refine cond_some hF (fun h11 hF => ?_) (fun _ hF => nomatch hF)
   refine bind_some hF (fun x12 h13 hF => ?_)
   refine bind_some hF (fun r14 h15 hF => ?_)
   have q19 : PQ hn100 fun l => (.test (ine v1 v1) true :: .test (inr v8 (len v6)) true :: .sub (flat eGEdge v6) (nidx v8 3) 3 [(.lit (.int .i64 x12.From)), (.lit (.int .i64 x12.To)), (.lit (.int .i64 x12.W))] :: .int (nlen (len v6)) (nlen (len v6)) :: .call 148 [.one (.lit (.int .i64 v2)), .one (.lit (.int .i64 v1)), .agg (eGEdge x12), .one (.lit (.int .i64 (nlen (len v6))))] (F148_res r14) :: .test (leadsAny (Res.mk [(.one (.im (.lit (.int .i64 r14.1)))), (.one (.im (.lit (.bool r14.2))))] [])) false :: l) := fun z => ⟨(ine_f h10), h11, ⟨rfl, sub_flat0 eGEdge_len h13 3 (by decide)⟩, rfl, (F148_ok K v2 v1 x12 (nlen (len v6)) _ h15), (leads_ok (by simp [leadsAny, RV.leads, RC.leads, leadsT, hasSl_lit, flat_ns eGEdge_ns])), z⟩
   refine cond_some hF (fun h16 hF => ?_) (fun h16 hF => ?_)
   ·
    refine cond_some hF (fun h17 hF => ?_) (fun _ hF => nomatch hF)
    have pz : HoldAll E H hn100 [.test (bnot r14.2) false, .test (inr v8 (len v6)) true, .sub (flat eGEdge v6) (nadd (nidx v8 3) 1) 1 [(.lit (.int .i64 x12.To))], .test (leqm [(.lit (.int .i64 x12.To)), (.lit (.int .i64 r14.1))] 1 2) true, .test (apok (len v7) 1 16) true, .sl (nadd (len v7) 1) (lapp (flat eGMsg v7) [(.lit (.int .i64 x12.To)), (.lit (.int .i64 r14.1))]) (len (α := GMsg) (appL v7 [(GMsg.mk x12.To r14.1)])) (flat eGMsg (appL v7 [(GMsg.mk x12.To r14.1)])), .int (wadd .i64 v8 1) (wadd .i64 v8 1)] := ⟨(bnot_t h16), h11, ⟨rfl, sub_flat eGEdge_len h13 1 1 (by decide)⟩, rfl, h17, (app_ok (enc := eGMsg) (v7 : List GMsg) [(GMsg.mk x12.To r14.1)]), rfl, trivial⟩
    have h0 := ih _ _ _ hF
    have hn := fun ex ts' => loop_nextC (h := hn100) (l := 0) (c := c100_0) (ts := F100_l0_3_S v1 v2 v3 v4 v5 v6 v7 v8) (ts1 := (F100_l0_3_S v1 v2 v3 v4 v5 v6 (appL v7 [(GMsg.mk x12.To r14.1)]) (wadd .i64 v8 1))) (ex := ex) (ts' := ts') (q18 (q19 pz)) (by kernel_rfl)
    cases r with
    | inl w => exact hn _ _ h0
    | inr w => exact hn _ _ h0
   obtain rfl := Option.some.inj hF
   have pz : HoldAll E H hn100 [.test (bnot r14.2) true] := ⟨(bnot_f h16), trivial⟩
   exact loop_endC (h := hn100) (l := 0) (c := c100_0) (ts := F100_l0_3_S v1 v2 v3 v4 v5 v6 v7 v8) (ts' := F100_l0_3_X1 v1 v2 v3 v4 v5 v6 ()) (ex := .ret) (q18 (q19 pz)) (by kernel_rfl) trivial
  obtain rfl := Option.some.inj hF
  have pz : HoldAll E H hn100 [.int (nlen (len v6)) (nlen (len v6)), .test (beqb (ilt v8 (nlen (len v6))) true) false, .test (ilt v8 (nlen (len v6))) false, .test false false] := ⟨rfl, (beqb_t h9), h9, rfl, trivial⟩
  exact loop_endC (h := hn100) (l := 0) (c := c100_0) (ts := F100_l0_3_S v1 v2 v3 v4 v5 v6 v7 v8) (ts' := F100_l0_3_X0 v1 v2 v3 v4 v5 v6 v7) (ex := (.exit 0)) pz (by kernel_rfl) trivial
def F100 (K : Nat) (a1 : GGraph) (a2 : GJob) (a3 : Int) (a4 : Int) (a5 : Int) (a6 : Int) (a7 : Bool) : Option (GTurned) :=
 (F59 K a1 a2).bind fun r8 =>
 bif (ieq r8 0) then
  (bif (ilt a4 0) then
   (some (GTurned.mk 0 [] false 4))
  else
  bif (ile a1.N a4) then
   (some (GTurned.mk 0 [] false 4))
  else
  bif (ilt a3 0) then
   (some (GTurned.mk 0 [] false 1))
  else
  bif (ilt 40 a3) then
   (some (GTurned.mk 0 [] false 1))
  else
  bif (ieq a2.Prog 5) then
   (bif a7 then
    (bif (ilt 0 a3) then
     ((F147 K a6).bind fun r9 =>
     bif r9.2 then
      ((F69 K a1 a4).bind fun r10 =>
      (F100_l0_0 K r9.1 a2.Prog a2.Source a2.Limit a2.Parts (ilt a3 10) r10 K [] 0).bind fun y11 =>
      Sum.elim (fun w12 =>
       some (GTurned.mk 0 [] false 8))
       (fun w13 =>
       some (GTurned.mk r9.1 w13 (bnot (ilt a3 10)) 0)) y11)
     else
     some (GTurned.mk 0 [] false 8))
    else
    (F69 K a1 a4).bind fun r14 =>
    (F100_l0_0 K a5 a2.Prog a2.Source a2.Limit a2.Parts (ilt a3 10) r14 K [] 0).bind fun y15 =>
    Sum.elim (fun w16 =>
     some (GTurned.mk 0 [] false 8))
     (fun w17 =>
     some (GTurned.mk a5 w17 (bnot (ilt a3 10)) 0)) y15)
   else
   bif (ilt 0 a3) then
    ((F147 K 0).bind fun r18 =>
    bif r18.2 then
     ((F69 K a1 a4).bind fun r19 =>
     (F100_l0_0 K r18.1 a2.Prog a2.Source a2.Limit a2.Parts (ilt a3 10) r19 K [] 0).bind fun y20 =>
     Sum.elim (fun w21 =>
      some (GTurned.mk 0 [] false 8))
      (fun w22 =>
      some (GTurned.mk r18.1 w22 (bnot (ilt a3 10)) 0)) y20)
    else
    some (GTurned.mk 0 [] false 8))
   else
   (F69 K a1 a4).bind fun r23 =>
   (F100_l0_0 K a5 a2.Prog a2.Source a2.Limit a2.Parts (ilt a3 10) r23 K [] 0).bind fun y24 =>
   Sum.elim (fun w25 =>
    some (GTurned.mk 0 [] false 8))
    (fun w26 =>
    some (GTurned.mk a5 w26 (bnot (ilt a3 10)) 0)) y24)
  else
  bif (ieq a2.Prog 1) then
   (bif (ieq a4 a2.Source) then
    (bif a7 then
     ((F98 K a2.Prog a5 a6).bind fun r27 =>
     bif (ieq a3 0) then
      ((F69 K a1 a4).bind fun r28 =>
      (F100_l0_1 K r27.1 a2.Prog a2.Source a2.Limit a2.Parts r28 K [] 0).bind fun y29 =>
      Sum.elim (fun w30 =>
       some (GTurned.mk 0 [] false 8))
       (fun w31 =>
       some (GTurned.mk r27.1 w31 true 0)) y29)
     else
     (F69 K a1 a4).bind fun r32 =>
     (F100_l0_2 K r27.1 a2.Prog a2.Source a2.Limit a2.Parts (ine r27.1 a5) r32 K [] 0).bind fun y33 =>
     Sum.elim (fun w34 =>
      some (GTurned.mk 0 [] false 8))
      (fun w35 =>
      some (GTurned.mk r27.1 w35 true 0)) y33)
    else
    bif (ieq a3 0) then
     ((F69 K a1 a4).bind fun r36 =>
     (F100_l0_1 K a5 a2.Prog a2.Source a2.Limit a2.Parts r36 K [] 0).bind fun y37 =>
     Sum.elim (fun w38 =>
      some (GTurned.mk 0 [] false 8))
      (fun w39 =>
      some (GTurned.mk a5 w39 true 0)) y37)
    else
    (F69 K a1 a4).bind fun r40 =>
    (F100_l0_3 K a5 a2.Prog a2.Source a2.Limit a2.Parts r40 K [] 0).bind fun y41 =>
    Sum.elim (fun w42 =>
     some (GTurned.mk a5 w42 true 0))
     (fun w43 =>
     some (GTurned.mk 0 [] false 8)) y41)
   else
   bif a7 then
    ((F98 K a2.Prog a5 a6).bind fun r44 =>
    (F69 K a1 a4).bind fun r45 =>
    (F100_l0_2 K r44.1 a2.Prog a2.Source a2.Limit a2.Parts (ine r44.1 a5) r45 K [] 0).bind fun y46 =>
    Sum.elim (fun w47 =>
     some (GTurned.mk 0 [] false 8))
     (fun w48 =>
     some (GTurned.mk r44.1 w48 true 0)) y46)
   else
   (F69 K a1 a4).bind fun r49 =>
   (F100_l0_3 K a5 a2.Prog a2.Source a2.Limit a2.Parts r49 K [] 0).bind fun y50 =>
   Sum.elim (fun w51 =>
    some (GTurned.mk a5 w51 true 0))
    (fun w52 =>
    some (GTurned.mk 0 [] false 8)) y50)
  else
  bif (ieq a2.Prog 3) then
   (bif (ieq a4 a2.Source) then
    (bif a7 then
     ((F98 K a2.Prog a5 a6).bind fun r53 =>
     bif (ieq a3 0) then
      ((F69 K a1 a4).bind fun r54 =>
      (F100_l0_1 K r53.1 a2.Prog a2.Source a2.Limit a2.Parts r54 K [] 0).bind fun y55 =>
      Sum.elim (fun w56 =>
       some (GTurned.mk 0 [] false 8))
       (fun w57 =>
       some (GTurned.mk r53.1 w57 true 0)) y55)
     else
     (F69 K a1 a4).bind fun r58 =>
     (F100_l0_2 K r53.1 a2.Prog a2.Source a2.Limit a2.Parts (ine r53.1 a5) r58 K [] 0).bind fun y59 =>
     Sum.elim (fun w60 =>
      some (GTurned.mk 0 [] false 8))
      (fun w61 =>
      some (GTurned.mk r53.1 w61 true 0)) y59)
    else
    bif (ieq a3 0) then
     ((F69 K a1 a4).bind fun r62 =>
     (F100_l0_1 K a5 a2.Prog a2.Source a2.Limit a2.Parts r62 K [] 0).bind fun y63 =>
     Sum.elim (fun w64 =>
      some (GTurned.mk 0 [] false 8))
      (fun w65 =>
      some (GTurned.mk a5 w65 true 0)) y63)
    else
    (F69 K a1 a4).bind fun r66 =>
    (F100_l0_3 K a5 a2.Prog a2.Source a2.Limit a2.Parts r66 K [] 0).bind fun y67 =>
    Sum.elim (fun w68 =>
     some (GTurned.mk a5 w68 true 0))
     (fun w69 =>
     some (GTurned.mk 0 [] false 8)) y67)
   else
   bif a7 then
    ((F98 K a2.Prog a5 a6).bind fun r70 =>
    (F69 K a1 a4).bind fun r71 =>
    (F100_l0_2 K r70.1 a2.Prog a2.Source a2.Limit a2.Parts (ine r70.1 a5) r71 K [] 0).bind fun y72 =>
    Sum.elim (fun w73 =>
     some (GTurned.mk 0 [] false 8))
     (fun w74 =>
     some (GTurned.mk r70.1 w74 true 0)) y72)
   else
   (F69 K a1 a4).bind fun r75 =>
   (F100_l0_3 K a5 a2.Prog a2.Source a2.Limit a2.Parts r75 K [] 0).bind fun y76 =>
   Sum.elim (fun w77 =>
    some (GTurned.mk a5 w77 true 0))
    (fun w78 =>
    some (GTurned.mk 0 [] false 8)) y76)
  else
  bif a7 then
   ((F98 K a2.Prog a5 a6).bind fun r79 =>
   bif (ieq a3 0) then
    ((F69 K a1 a4).bind fun r80 =>
    (F100_l0_1 K r79.1 a2.Prog a2.Source a2.Limit a2.Parts r80 K [] 0).bind fun y81 =>
    Sum.elim (fun w82 =>
     some (GTurned.mk 0 [] false 8))
     (fun w83 =>
     some (GTurned.mk r79.1 w83 true 0)) y81)
   else
   (F69 K a1 a4).bind fun r84 =>
   (F100_l0_2 K r79.1 a2.Prog a2.Source a2.Limit a2.Parts (ine r79.1 a5) r84 K [] 0).bind fun y85 =>
   Sum.elim (fun w86 =>
    some (GTurned.mk 0 [] false 8))
    (fun w87 =>
    some (GTurned.mk r79.1 w87 true 0)) y85)
  else
  bif (ieq a3 0) then
   ((F69 K a1 a4).bind fun r88 =>
   (F100_l0_1 K a5 a2.Prog a2.Source a2.Limit a2.Parts r88 K [] 0).bind fun y89 =>
   Sum.elim (fun w90 =>
    some (GTurned.mk 0 [] false 8))
    (fun w91 =>
    some (GTurned.mk a5 w91 true 0)) y89)
  else
  (F69 K a1 a4).bind fun r92 =>
  (F100_l0_3 K a5 a2.Prog a2.Source a2.Limit a2.Parts r92 K [] 0).bind fun y93 =>
  Sum.elim (fun w94 =>
   some (GTurned.mk a5 w94 true 0))
   (fun w95 =>
   some (GTurned.mk 0 [] false 8)) y93)
 else
 some (GTurned.mk 0 [] false r8)
theorem F100_ok (K : Nat) (a1 : GGraph) (a2 : GJob) (a3 : Int) (a4 : Int) (a5 : Int) (a6 : Int) (a7 : Bool) (r : GTurned) (hF : F100 K a1 a2 a3 a4 a5 a6 a7 = some r) : Evt E H 100 [.agg (eGGraph a1), .agg (eGJob a2), .one (.lit (.int .i64 a3)), .one (.lit (.int .i64 a4)), .one (.lit (.int .i64 a5)), .one (.lit (.int .i64 a6)), .one (.lit (.bool a7))] (F100_res r) := by
 rw [F100] at hF
 refine bind_some hF (fun r8 h9 hF => ?_)
 refine cond_some hF (fun h10 hF => ?_) (fun h10 hF => ?_)
 ·
  have q170 : PQ hn100 fun l => (.call 59 [.agg (eGGraph a1), .agg (eGJob a2)] (F59_res r8) :: .test (leadsAny (Res.mk [(.one (.im (.lit (.int .i64 r8))))] [])) false :: .test (ine r8 0) false :: l) := fun z => ⟨(F59_ok K a1 a2 _ h9), (leads_ok (by simp [leadsAny, RV.leads, RC.leads, leadsT, hasSl_lit, flat_ns eGJob_ns])), (ine_t h10), z⟩
  refine cond_some hF (fun h11 hF => ?_) (fun h11 hF => ?_)
  ·
   obtain rfl := Option.some.inj hF
   have pz : HoldAll E H hn100 [.test (beqb (ilt a4 0) false) false, .test (beqb (ilt a4 0) false) false, .test (beqb (ilt a4 0) false) false, .test (beqb (ilt a4 0) false) false, .test (ilt a4 0) true, .test true true] := ⟨(beqb_ft h11), (beqb_ft h11), (beqb_ft h11), (beqb_ft h11), h11, rfl, trivial⟩
   exact fn_playC hn100 (r := F100_res (GTurned.mk 0 [] false 4)) (q170 pz) (by kernel_rfl) (by kernel_rfl)
  have q171 : PQ hn100 fun l => (.test (beqb (ilt a4 0) false) true :: .test (beqb (ilt a4 0) false) true :: .test (beqb (ilt a4 0) false) true :: .test (beqb (ilt a4 0) false) true :: .test (ilt a4 0) false :: l) := fun z => ⟨(beqb_ff h11), (beqb_ff h11), (beqb_ff h11), (beqb_ff h11), h11, z⟩
  refine cond_some hF (fun h12 hF => ?_) (fun h12 hF => ?_)
  ·
   obtain rfl := Option.some.inj hF
   have pz : HoldAll E H hn100 [.test (ige a4 a1.N) true] := ⟨(ige_eq h12), trivial⟩
   exact fn_playC hn100 (r := F100_res (GTurned.mk 0 [] false 4)) (q170 (q171 pz)) (by kernel_rfl) (by kernel_rfl)
  refine cond_some hF (fun h13 hF => ?_) (fun h13 hF => ?_)
  ·
   obtain rfl := Option.some.inj hF
   have pz : HoldAll E H hn100 [.test (ige a4 a1.N) false, .test (beqb (ilt a3 0) false) false, .test (beqb (ilt a3 0) false) false, .test (ilt a3 0) true, .test true true] := ⟨(ige_eq h12), (beqb_ft h13), (beqb_ft h13), h13, rfl, trivial⟩
   exact fn_playC hn100 (r := F100_res (GTurned.mk 0 [] false 1)) (q170 (q171 pz)) (by kernel_rfl) (by kernel_rfl)
  have q172 : PQ hn100 fun l => (.test (ige a4 a1.N) false :: .test (beqb (ilt a3 0) false) true :: .test (beqb (ilt a3 0) false) true :: .test (ilt a3 0) false :: l) := fun z => ⟨(ige_eq h12), (beqb_ff h13), (beqb_ff h13), h13, z⟩
  refine cond_some hF (fun h14 hF => ?_) (fun h14 hF => ?_)
  ·
   obtain rfl := Option.some.inj hF
   have pz : HoldAll E H hn100 [.test (igt a3 40) true] := ⟨(igt_eq h14), trivial⟩
   exact fn_playC hn100 (r := F100_res (GTurned.mk 0 [] false 1)) (q170 (q171 (q172 pz))) (by kernel_rfl) (by kernel_rfl)
  refine cond_some hF (fun h15 hF => ?_) (fun h15 hF => ?_)
  ·
   refine cond_some hF (fun h16 hF => ?_) (fun h16 hF => ?_)
   ·
    have q173 : PQ hn100 fun l => (.test (igt a3 40) false :: .test (ieq a2.Prog 5) true :: .test (bnot a7) false :: l) := fun z => ⟨(igt_eq h14), h15, (bnot_t h16), z⟩
    refine cond_some hF (fun h17 hF => ?_) (fun h17 hF => ?_)
    ·
     refine bind_some hF (fun r18 h19 hF => ?_)
     have q174 : PQ hn100 fun l => (.test (igt a3 0) true :: .call 147 [.one (.lit (.int .i64 a6))] (F147_res r18) :: .test (leadsAny (Res.mk [(.one (.im (.lit (.int .i64 r18.1)))), (.one (.im (.lit (.bool r18.2))))] [])) false :: l) := fun z => ⟨(igt_eq h17), (F147_ok K a6 _ h19), (leads_ok (by simp [leadsAny, RV.leads, RC.leads, leadsT, hasSl_lit])), z⟩
     refine cond_some hF (fun h20 hF => ?_) (fun h20 hF => ?_)
     ·
      refine bind_some hF (fun r21 h22 hF => ?_)
      have q175 : PQ hn100 fun l => (.test (bnot r18.2) false :: .call 69 [.agg (eGGraph a1), .one (.lit (.int .i64 a4))] (F69_res r21) :: .test (leadsAny (Res.mk [(.one (.own 89 (.sl (len r21) (flat eGEdge r21))))] [])) false :: l) := fun z => ⟨(bnot_t h20), (F69_ok K a1 a4 _ h22), (leads_ok (by simp [leadsAny, RV.leads, RC.leads, leadsT, hasSl_lit, flat_ns eGEdge_ns])), z⟩
      refine bind_some hF (fun y24 h23 hF => ?_)
      refine sum_some hF (fun w25 hx hF => ?_) (fun w26 hx hF => ?_)
      ·
       subst hx
       obtain rfl := Option.some.inj hF
       have pz : HoldAll E H hn100 [.loop 0 c100_0 (F100_l0_0_S r18.1 a2.Prog a2.Source a2.Limit a2.Parts (ilt a3 10) r21 [] 0) .ret (F100_l0_0_X0 r18.1 a2.Prog a2.Source a2.Limit a2.Parts (ilt a3 10) r21 w25)] := ⟨(F100_l0_0_ok K r18.1 a2.Prog a2.Source a2.Limit a2.Parts (ilt a3 10) r21 K [] 0 _ h23), trivial⟩
       exact fn_playC hn100 (r := F100_res (GTurned.mk 0 [] false 8)) (q170 (q171 (q172 (q173 (q174 (q175 pz)))))) (by kernel_rfl) (by kernel_rfl)
      subst hx
      obtain rfl := Option.some.inj hF
      have pz : HoldAll E H hn100 [.loop 0 c100_0 (F100_l0_0_S r18.1 a2.Prog a2.Source a2.Limit a2.Parts (ilt a3 10) r21 [] 0) (.exit 0) (F100_l0_0_X1 r18.1 a2.Prog a2.Source a2.Limit a2.Parts (ilt a3 10) r21 w26)] := ⟨(F100_l0_0_ok K r18.1 a2.Prog a2.Source a2.Limit a2.Parts (ilt a3 10) r21 K [] 0 _ h23), trivial⟩
      exact fn_playC hn100 (r := F100_res (GTurned.mk r18.1 w26 (bnot (ilt a3 10)) 0)) (q170 (q171 (q172 (q173 (q174 (q175 pz)))))) (by kernel_rfl) (by kernel_rfl)
     obtain rfl := Option.some.inj hF
     have pz : HoldAll E H hn100 [.test (bnot r18.2) true] := ⟨(bnot_f h20), trivial⟩
     exact fn_playC hn100 (r := F100_res (GTurned.mk 0 [] false 8)) (q170 (q171 (q172 (q173 (q174 pz))))) (by kernel_rfl) (by kernel_rfl)
    refine bind_some hF (fun r27 h28 hF => ?_)
    have q176 : PQ hn100 fun l => (.test (igt a3 0) false :: .call 69 [.agg (eGGraph a1), .one (.lit (.int .i64 a4))] (F69_res r27) :: .test (leadsAny (Res.mk [(.one (.own 89 (.sl (len r27) (flat eGEdge r27))))] [])) false :: l) := fun z => ⟨(igt_eq h17), (F69_ok K a1 a4 _ h28), (leads_ok (by simp [leadsAny, RV.leads, RC.leads, leadsT, hasSl_lit, flat_ns eGEdge_ns])), z⟩
    refine bind_some hF (fun y30 h29 hF => ?_)
    refine sum_some hF (fun w31 hx hF => ?_) (fun w32 hx hF => ?_)
    ·
     subst hx
     obtain rfl := Option.some.inj hF
     have pz : HoldAll E H hn100 [.loop 0 c100_0 (F100_l0_0_S a5 a2.Prog a2.Source a2.Limit a2.Parts (ilt a3 10) r27 [] 0) .ret (F100_l0_0_X0 a5 a2.Prog a2.Source a2.Limit a2.Parts (ilt a3 10) r27 w31)] := ⟨(F100_l0_0_ok K a5 a2.Prog a2.Source a2.Limit a2.Parts (ilt a3 10) r27 K [] 0 _ h29), trivial⟩
     exact fn_playC hn100 (r := F100_res (GTurned.mk 0 [] false 8)) (q170 (q171 (q172 (q173 (q176 pz))))) (by kernel_rfl) (by kernel_rfl)
    subst hx
    obtain rfl := Option.some.inj hF
    have pz : HoldAll E H hn100 [.loop 0 c100_0 (F100_l0_0_S a5 a2.Prog a2.Source a2.Limit a2.Parts (ilt a3 10) r27 [] 0) (.exit 0) (F100_l0_0_X1 a5 a2.Prog a2.Source a2.Limit a2.Parts (ilt a3 10) r27 w32)] := ⟨(F100_l0_0_ok K a5 a2.Prog a2.Source a2.Limit a2.Parts (ilt a3 10) r27 K [] 0 _ h29), trivial⟩
    exact fn_playC hn100 (r := F100_res (GTurned.mk a5 w32 (bnot (ilt a3 10)) 0)) (q170 (q171 (q172 (q173 (q176 pz))))) (by kernel_rfl) (by kernel_rfl)
   have q177 : PQ hn100 fun l => (.test (igt a3 40) false :: .test (ieq a2.Prog 5) true :: .test (bnot a7) true :: l) := fun z => ⟨(igt_eq h14), h15, (bnot_f h16), z⟩
   refine cond_some hF (fun h33 hF => ?_) (fun h33 hF => ?_)
   ·
    refine bind_some hF (fun r34 h35 hF => ?_)
    have q178 : PQ hn100 fun l => (.test (igt a3 0) true :: .call 147 [.one (.lit (.int .i64 0))] (F147_res r34) :: .test (leadsAny (Res.mk [(.one (.im (.lit (.int .i64 r34.1)))), (.one (.im (.lit (.bool r34.2))))] [])) false :: l) := fun z => ⟨(igt_eq h33), (F147_ok K 0 _ h35), (leads_ok (by simp [leadsAny, RV.leads, RC.leads, leadsT, hasSl_lit])), z⟩
    refine cond_some hF (fun h36 hF => ?_) (fun h36 hF => ?_)
    ·
     refine bind_some hF (fun r37 h38 hF => ?_)
     have q179 : PQ hn100 fun l => (.test (bnot r34.2) false :: .call 69 [.agg (eGGraph a1), .one (.lit (.int .i64 a4))] (F69_res r37) :: .test (leadsAny (Res.mk [(.one (.own 89 (.sl (len r37) (flat eGEdge r37))))] [])) false :: l) := fun z => ⟨(bnot_t h36), (F69_ok K a1 a4 _ h38), (leads_ok (by simp [leadsAny, RV.leads, RC.leads, leadsT, hasSl_lit, flat_ns eGEdge_ns])), z⟩
     refine bind_some hF (fun y40 h39 hF => ?_)
     refine sum_some hF (fun w41 hx hF => ?_) (fun w42 hx hF => ?_)
     ·
      subst hx
      obtain rfl := Option.some.inj hF
      have pz : HoldAll E H hn100 [.loop 0 c100_0 (F100_l0_0_S r34.1 a2.Prog a2.Source a2.Limit a2.Parts (ilt a3 10) r37 [] 0) .ret (F100_l0_0_X0 r34.1 a2.Prog a2.Source a2.Limit a2.Parts (ilt a3 10) r37 w41)] := ⟨(F100_l0_0_ok K r34.1 a2.Prog a2.Source a2.Limit a2.Parts (ilt a3 10) r37 K [] 0 _ h39), trivial⟩
      exact fn_playC hn100 (r := F100_res (GTurned.mk 0 [] false 8)) (q170 (q171 (q172 (q177 (q178 (q179 pz)))))) (by kernel_rfl) (by kernel_rfl)
     subst hx
     obtain rfl := Option.some.inj hF
     have pz : HoldAll E H hn100 [.loop 0 c100_0 (F100_l0_0_S r34.1 a2.Prog a2.Source a2.Limit a2.Parts (ilt a3 10) r37 [] 0) (.exit 0) (F100_l0_0_X1 r34.1 a2.Prog a2.Source a2.Limit a2.Parts (ilt a3 10) r37 w42)] := ⟨(F100_l0_0_ok K r34.1 a2.Prog a2.Source a2.Limit a2.Parts (ilt a3 10) r37 K [] 0 _ h39), trivial⟩
     exact fn_playC hn100 (r := F100_res (GTurned.mk r34.1 w42 (bnot (ilt a3 10)) 0)) (q170 (q171 (q172 (q177 (q178 (q179 pz)))))) (by kernel_rfl) (by kernel_rfl)
    obtain rfl := Option.some.inj hF
    have pz : HoldAll E H hn100 [.test (bnot r34.2) true] := ⟨(bnot_f h36), trivial⟩
    exact fn_playC hn100 (r := F100_res (GTurned.mk 0 [] false 8)) (q170 (q171 (q172 (q177 (q178 pz))))) (by kernel_rfl) (by kernel_rfl)
   refine bind_some hF (fun r43 h44 hF => ?_)
   have q180 : PQ hn100 fun l => (.test (igt a3 0) false :: .call 69 [.agg (eGGraph a1), .one (.lit (.int .i64 a4))] (F69_res r43) :: .test (leadsAny (Res.mk [(.one (.own 89 (.sl (len r43) (flat eGEdge r43))))] [])) false :: l) := fun z => ⟨(igt_eq h33), (F69_ok K a1 a4 _ h44), (leads_ok (by simp [leadsAny, RV.leads, RC.leads, leadsT, hasSl_lit, flat_ns eGEdge_ns])), z⟩
   refine bind_some hF (fun y46 h45 hF => ?_)
   refine sum_some hF (fun w47 hx hF => ?_) (fun w48 hx hF => ?_)
   ·
    subst hx
    obtain rfl := Option.some.inj hF
    have pz : HoldAll E H hn100 [.loop 0 c100_0 (F100_l0_0_S a5 a2.Prog a2.Source a2.Limit a2.Parts (ilt a3 10) r43 [] 0) .ret (F100_l0_0_X0 a5 a2.Prog a2.Source a2.Limit a2.Parts (ilt a3 10) r43 w47)] := ⟨(F100_l0_0_ok K a5 a2.Prog a2.Source a2.Limit a2.Parts (ilt a3 10) r43 K [] 0 _ h45), trivial⟩
    exact fn_playC hn100 (r := F100_res (GTurned.mk 0 [] false 8)) (q170 (q171 (q172 (q177 (q180 pz))))) (by kernel_rfl) (by kernel_rfl)
   subst hx
   obtain rfl := Option.some.inj hF
   have pz : HoldAll E H hn100 [.loop 0 c100_0 (F100_l0_0_S a5 a2.Prog a2.Source a2.Limit a2.Parts (ilt a3 10) r43 [] 0) (.exit 0) (F100_l0_0_X1 a5 a2.Prog a2.Source a2.Limit a2.Parts (ilt a3 10) r43 w48)] := ⟨(F100_l0_0_ok K a5 a2.Prog a2.Source a2.Limit a2.Parts (ilt a3 10) r43 K [] 0 _ h45), trivial⟩
   exact fn_playC hn100 (r := F100_res (GTurned.mk a5 w48 (bnot (ilt a3 10)) 0)) (q170 (q171 (q172 (q177 (q180 pz))))) (by kernel_rfl) (by kernel_rfl)
  refine cond_some hF (fun h49 hF => ?_) (fun h49 hF => ?_)
  ·
   have q181 : PQ hn100 fun l => (.test (igt a3 40) false :: .test (ieq a2.Prog 5) false :: .test (beqb (ieq a2.Prog 1) false) false :: .test (beqb (ieq a2.Prog 1) false) false :: .test (beqb (ieq a2.Prog 1) false) false :: .test (ieq a2.Prog 1) true :: .test (beqb true true) true :: .test (beqb true true) true :: .test (beqb true true) true :: .test (beqb true true) true :: .test true true :: l) := fun z => ⟨(igt_eq h14), h15, (beqb_ft h49), (beqb_ft h49), (beqb_ft h49), h49, (beqb_t rfl), (beqb_t rfl), (beqb_t rfl), (beqb_t rfl), rfl, z⟩
   refine cond_some hF (fun h50 hF => ?_) (fun h50 hF => ?_)
   ·
    refine cond_some hF (fun h51 hF => ?_) (fun h51 hF => ?_)
    ·
     refine bind_some hF (fun r52 h53 hF => ?_)
     have q182 : PQ hn100 fun l => (.test (ine a4 a2.Source) false :: .test a7 true :: .call 98 [.one (.lit (.int .i64 a2.Prog)), .one (.lit (.int .i64 a5)), .one (.lit (.int .i64 a6))] (F98_res r52) :: .test (leadsAny (Res.mk [(.one (.im (.lit (.int .i64 r52.1)))), (.one (.im (.lit (.int .i64 r52.2))))] [])) false :: l) := fun z => ⟨(ine_t h50), h51, (F98_ok K a2.Prog a5 a6 _ h53), (leads_ok (by simp [leadsAny, RV.leads, RC.leads, leadsT, hasSl_lit])), z⟩
     refine cond_some hF (fun h54 hF => ?_) (fun h54 hF => ?_)
     ·
      refine bind_some hF (fun r55 h56 hF => ?_)
      have q183 : PQ hn100 fun l => (.test (beqb (ieq a3 0) false) false :: .test (beqb (ieq a3 0) false) false :: .test (beqb (ieq a3 0) false) false :: .test (ieq a3 0) true :: .call 69 [.agg (eGGraph a1), .one (.lit (.int .i64 a4))] (F69_res r55) :: .test (leadsAny (Res.mk [(.one (.own 89 (.sl (len r55) (flat eGEdge r55))))] [])) false :: l) := fun z => ⟨(beqb_ft h54), (beqb_ft h54), (beqb_ft h54), h54, (F69_ok K a1 a4 _ h56), (leads_ok (by simp [leadsAny, RV.leads, RC.leads, leadsT, hasSl_lit, flat_ns eGEdge_ns])), z⟩
      refine bind_some hF (fun y58 h57 hF => ?_)
      refine sum_some hF (fun w59 hx hF => ?_) (fun w60 hx hF => ?_)
      ·
       subst hx
       obtain rfl := Option.some.inj hF
       have pz : HoldAll E H hn100 [.loop 0 c100_0 (F100_l0_1_S r52.1 a2.Prog a2.Source a2.Limit a2.Parts r55 [] 0) .ret (F100_l0_1_X0 r52.1 a2.Prog a2.Source a2.Limit a2.Parts r55 w59)] := ⟨(F100_l0_1_ok K r52.1 a2.Prog a2.Source a2.Limit a2.Parts r55 K [] 0 _ h57), trivial⟩
       exact fn_playC hn100 (r := F100_res (GTurned.mk 0 [] false 8)) (q170 (q171 (q172 (q181 (q182 (q183 pz)))))) (by kernel_rfl) (by kernel_rfl)
      subst hx
      obtain rfl := Option.some.inj hF
      have pz : HoldAll E H hn100 [.loop 0 c100_0 (F100_l0_1_S r52.1 a2.Prog a2.Source a2.Limit a2.Parts r55 [] 0) (.exit 0) (F100_l0_1_X1 r52.1 a2.Prog a2.Source a2.Limit a2.Parts r55 w60)] := ⟨(F100_l0_1_ok K r52.1 a2.Prog a2.Source a2.Limit a2.Parts r55 K [] 0 _ h57), trivial⟩
      exact fn_playC hn100 (r := F100_res (GTurned.mk r52.1 w60 true 0)) (q170 (q171 (q172 (q181 (q182 (q183 pz)))))) (by kernel_rfl) (by kernel_rfl)
     refine bind_some hF (fun r61 h62 hF => ?_)
     have q184 : PQ hn100 fun l => (.test (beqb (ieq a3 0) false) true :: .test (beqb (ieq a3 0) false) true :: .test (beqb (ieq a3 0) false) true :: .test (ieq a3 0) false :: .call 69 [.agg (eGGraph a1), .one (.lit (.int .i64 a4))] (F69_res r61) :: .test (leadsAny (Res.mk [(.one (.own 89 (.sl (len r61) (flat eGEdge r61))))] [])) false :: l) := fun z => ⟨(beqb_ff h54), (beqb_ff h54), (beqb_ff h54), h54, (F69_ok K a1 a4 _ h62), (leads_ok (by simp [leadsAny, RV.leads, RC.leads, leadsT, hasSl_lit, flat_ns eGEdge_ns])), z⟩
     refine bind_some hF (fun y64 h63 hF => ?_)
     refine sum_some hF (fun w65 hx hF => ?_) (fun w66 hx hF => ?_)
     ·
      subst hx
      obtain rfl := Option.some.inj hF
      have pz : HoldAll E H hn100 [.loop 0 c100_0 (F100_l0_2_S r52.1 a2.Prog a2.Source a2.Limit a2.Parts (ine r52.1 a5) r61 [] 0) .ret (F100_l0_2_X0 r52.1 a2.Prog a2.Source a2.Limit a2.Parts (ine r52.1 a5) r61 w65)] := ⟨(F100_l0_2_ok K r52.1 a2.Prog a2.Source a2.Limit a2.Parts (ine r52.1 a5) r61 K [] 0 _ h63), trivial⟩
      exact fn_playC hn100 (r := F100_res (GTurned.mk 0 [] false 8)) (q170 (q171 (q172 (q181 (q182 (q184 pz)))))) (by kernel_rfl) (by kernel_rfl)
     subst hx
     obtain rfl := Option.some.inj hF
     have pz : HoldAll E H hn100 [.loop 0 c100_0 (F100_l0_2_S r52.1 a2.Prog a2.Source a2.Limit a2.Parts (ine r52.1 a5) r61 [] 0) (.exit 0) (F100_l0_2_X1 r52.1 a2.Prog a2.Source a2.Limit a2.Parts (ine r52.1 a5) r61 w66)] := ⟨(F100_l0_2_ok K r52.1 a2.Prog a2.Source a2.Limit a2.Parts (ine r52.1 a5) r61 K [] 0 _ h63), trivial⟩
     exact fn_playC hn100 (r := F100_res (GTurned.mk r52.1 w66 true 0)) (q170 (q171 (q172 (q181 (q182 (q184 pz)))))) (by kernel_rfl) (by kernel_rfl)
    refine cond_some hF (fun h67 hF => ?_) (fun h67 hF => ?_)
    ·
     refine bind_some hF (fun r68 h69 hF => ?_)
     have q185 : PQ hn100 fun l => (.test (ine a4 a2.Source) false :: .test a7 false :: .test (beqb (ieq a3 0) false) false :: .test (beqb (ieq a3 0) false) false :: .test (beqb (ieq a3 0) false) false :: .test (ieq a3 0) true :: .call 69 [.agg (eGGraph a1), .one (.lit (.int .i64 a4))] (F69_res r68) :: .test (leadsAny (Res.mk [(.one (.own 89 (.sl (len r68) (flat eGEdge r68))))] [])) false :: l) := fun z => ⟨(ine_t h50), h51, (beqb_ft h67), (beqb_ft h67), (beqb_ft h67), h67, (F69_ok K a1 a4 _ h69), (leads_ok (by simp [leadsAny, RV.leads, RC.leads, leadsT, hasSl_lit, flat_ns eGEdge_ns])), z⟩
     refine bind_some hF (fun y71 h70 hF => ?_)
     refine sum_some hF (fun w72 hx hF => ?_) (fun w73 hx hF => ?_)
     ·
      subst hx
      obtain rfl := Option.some.inj hF
      have pz : HoldAll E H hn100 [.loop 0 c100_0 (F100_l0_1_S a5 a2.Prog a2.Source a2.Limit a2.Parts r68 [] 0) .ret (F100_l0_1_X0 a5 a2.Prog a2.Source a2.Limit a2.Parts r68 w72)] := ⟨(F100_l0_1_ok K a5 a2.Prog a2.Source a2.Limit a2.Parts r68 K [] 0 _ h70), trivial⟩
      exact fn_playC hn100 (r := F100_res (GTurned.mk 0 [] false 8)) (q170 (q171 (q172 (q181 (q185 pz))))) (by kernel_rfl) (by kernel_rfl)
     subst hx
     obtain rfl := Option.some.inj hF
     have pz : HoldAll E H hn100 [.loop 0 c100_0 (F100_l0_1_S a5 a2.Prog a2.Source a2.Limit a2.Parts r68 [] 0) (.exit 0) (F100_l0_1_X1 a5 a2.Prog a2.Source a2.Limit a2.Parts r68 w73)] := ⟨(F100_l0_1_ok K a5 a2.Prog a2.Source a2.Limit a2.Parts r68 K [] 0 _ h70), trivial⟩
     exact fn_playC hn100 (r := F100_res (GTurned.mk a5 w73 true 0)) (q170 (q171 (q172 (q181 (q185 pz))))) (by kernel_rfl) (by kernel_rfl)
    refine bind_some hF (fun r74 h75 hF => ?_)
    have q186 : PQ hn100 fun l => (.test (ine a4 a2.Source) false :: .test a7 false :: .test (beqb (ieq a3 0) false) true :: .test (beqb (ieq a3 0) false) true :: .test (beqb (ieq a3 0) false) true :: .test (ieq a3 0) false :: .call 69 [.agg (eGGraph a1), .one (.lit (.int .i64 a4))] (F69_res r74) :: .test (leadsAny (Res.mk [(.one (.own 89 (.sl (len r74) (flat eGEdge r74))))] [])) false :: l) := fun z => ⟨(ine_t h50), h51, (beqb_ff h67), (beqb_ff h67), (beqb_ff h67), h67, (F69_ok K a1 a4 _ h75), (leads_ok (by simp [leadsAny, RV.leads, RC.leads, leadsT, hasSl_lit, flat_ns eGEdge_ns])), z⟩
    refine bind_some hF (fun y77 h76 hF => ?_)
    refine sum_some hF (fun w78 hx hF => ?_) (fun w79 hx hF => ?_)
    ·
     subst hx
     obtain rfl := Option.some.inj hF
     have pz : HoldAll E H hn100 [.loop 0 c100_0 (F100_l0_3_S a5 a2.Prog a2.Source a2.Limit a2.Parts r74 [] 0) (.exit 0) (F100_l0_3_X0 a5 a2.Prog a2.Source a2.Limit a2.Parts r74 w78)] := ⟨(F100_l0_3_ok K a5 a2.Prog a2.Source a2.Limit a2.Parts r74 K [] 0 _ h76), trivial⟩
     exact fn_playC hn100 (r := F100_res (GTurned.mk a5 w78 true 0)) (q170 (q171 (q172 (q181 (q186 pz))))) (by kernel_rfl) (by kernel_rfl)
    subst hx
    obtain rfl := Option.some.inj hF
    have pz : HoldAll E H hn100 [.loop 0 c100_0 (F100_l0_3_S a5 a2.Prog a2.Source a2.Limit a2.Parts r74 [] 0) .ret (F100_l0_3_X1 a5 a2.Prog a2.Source a2.Limit a2.Parts r74 w79)] := ⟨(F100_l0_3_ok K a5 a2.Prog a2.Source a2.Limit a2.Parts r74 K [] 0 _ h76), trivial⟩
    exact fn_playC hn100 (r := F100_res (GTurned.mk 0 [] false 8)) (q170 (q171 (q172 (q181 (q186 pz))))) (by kernel_rfl) (by kernel_rfl)
   refine cond_some hF (fun h80 hF => ?_) (fun h80 hF => ?_)
   ·
    refine bind_some hF (fun r81 h82 hF => ?_)
    refine bind_some hF (fun r83 h84 hF => ?_)
    have q187 : PQ hn100 fun l => (.test (ine a4 a2.Source) true :: .test a7 true :: .call 98 [.one (.lit (.int .i64 a2.Prog)), .one (.lit (.int .i64 a5)), .one (.lit (.int .i64 a6))] (F98_res r81) :: .test (leadsAny (Res.mk [(.one (.im (.lit (.int .i64 r81.1)))), (.one (.im (.lit (.int .i64 r81.2))))] [])) false :: .test (beqb false false) true :: .test (beqb false false) true :: .test (beqb false false) true :: .test false false :: .call 69 [.agg (eGGraph a1), .one (.lit (.int .i64 a4))] (F69_res r83) :: .test (leadsAny (Res.mk [(.one (.own 89 (.sl (len r83) (flat eGEdge r83))))] [])) false :: l) := fun z => ⟨(ine_f h50), h80, (F98_ok K a2.Prog a5 a6 _ h82), (leads_ok (by simp [leadsAny, RV.leads, RC.leads, leadsT, hasSl_lit, flat_ns eGEdge_ns])), (beqb_ff rfl), (beqb_ff rfl), (beqb_ff rfl), rfl, (F69_ok K a1 a4 _ h84), (leads_ok (by simp [leadsAny, RV.leads, RC.leads, leadsT, hasSl_lit, flat_ns eGEdge_ns])), z⟩
    refine bind_some hF (fun y86 h85 hF => ?_)
    refine sum_some hF (fun w87 hx hF => ?_) (fun w88 hx hF => ?_)
    ·
     subst hx
     obtain rfl := Option.some.inj hF
     have pz : HoldAll E H hn100 [.loop 0 c100_0 (F100_l0_2_S r81.1 a2.Prog a2.Source a2.Limit a2.Parts (ine r81.1 a5) r83 [] 0) .ret (F100_l0_2_X0 r81.1 a2.Prog a2.Source a2.Limit a2.Parts (ine r81.1 a5) r83 w87)] := ⟨(F100_l0_2_ok K r81.1 a2.Prog a2.Source a2.Limit a2.Parts (ine r81.1 a5) r83 K [] 0 _ h85), trivial⟩
     exact fn_playC hn100 (r := F100_res (GTurned.mk 0 [] false 8)) (q170 (q171 (q172 (q181 (q187 pz))))) (by kernel_rfl) (by kernel_rfl)
    subst hx
    obtain rfl := Option.some.inj hF
    have pz : HoldAll E H hn100 [.loop 0 c100_0 (F100_l0_2_S r81.1 a2.Prog a2.Source a2.Limit a2.Parts (ine r81.1 a5) r83 [] 0) (.exit 0) (F100_l0_2_X1 r81.1 a2.Prog a2.Source a2.Limit a2.Parts (ine r81.1 a5) r83 w88)] := ⟨(F100_l0_2_ok K r81.1 a2.Prog a2.Source a2.Limit a2.Parts (ine r81.1 a5) r83 K [] 0 _ h85), trivial⟩
    exact fn_playC hn100 (r := F100_res (GTurned.mk r81.1 w88 true 0)) (q170 (q171 (q172 (q181 (q187 pz))))) (by kernel_rfl) (by kernel_rfl)
   refine bind_some hF (fun r89 h90 hF => ?_)
   have q188 : PQ hn100 fun l => (.test (ine a4 a2.Source) true :: .test a7 false :: .test (beqb false false) true :: .test (beqb false false) true :: .test (beqb false false) true :: .test false false :: .call 69 [.agg (eGGraph a1), .one (.lit (.int .i64 a4))] (F69_res r89) :: .test (leadsAny (Res.mk [(.one (.own 89 (.sl (len r89) (flat eGEdge r89))))] [])) false :: l) := fun z => ⟨(ine_f h50), h80, (beqb_ff rfl), (beqb_ff rfl), (beqb_ff rfl), rfl, (F69_ok K a1 a4 _ h90), (leads_ok (by simp [leadsAny, RV.leads, RC.leads, leadsT, hasSl_lit, flat_ns eGEdge_ns])), z⟩
   refine bind_some hF (fun y92 h91 hF => ?_)
   refine sum_some hF (fun w93 hx hF => ?_) (fun w94 hx hF => ?_)
   ·
    subst hx
    obtain rfl := Option.some.inj hF
    have pz : HoldAll E H hn100 [.loop 0 c100_0 (F100_l0_3_S a5 a2.Prog a2.Source a2.Limit a2.Parts r89 [] 0) (.exit 0) (F100_l0_3_X0 a5 a2.Prog a2.Source a2.Limit a2.Parts r89 w93)] := ⟨(F100_l0_3_ok K a5 a2.Prog a2.Source a2.Limit a2.Parts r89 K [] 0 _ h91), trivial⟩
    exact fn_playC hn100 (r := F100_res (GTurned.mk a5 w93 true 0)) (q170 (q171 (q172 (q181 (q188 pz))))) (by kernel_rfl) (by kernel_rfl)
   subst hx
   obtain rfl := Option.some.inj hF
   have pz : HoldAll E H hn100 [.loop 0 c100_0 (F100_l0_3_S a5 a2.Prog a2.Source a2.Limit a2.Parts r89 [] 0) .ret (F100_l0_3_X1 a5 a2.Prog a2.Source a2.Limit a2.Parts r89 w94)] := ⟨(F100_l0_3_ok K a5 a2.Prog a2.Source a2.Limit a2.Parts r89 K [] 0 _ h91), trivial⟩
   exact fn_playC hn100 (r := F100_res (GTurned.mk 0 [] false 8)) (q170 (q171 (q172 (q181 (q188 pz))))) (by kernel_rfl) (by kernel_rfl)
  have q189 : PQ hn100 fun l => (.test (igt a3 40) false :: .test (ieq a2.Prog 5) false :: .test (beqb (ieq a2.Prog 1) false) true :: .test (beqb (ieq a2.Prog 1) false) true :: .test (beqb (ieq a2.Prog 1) false) true :: .test (ieq a2.Prog 1) false :: l) := fun z => ⟨(igt_eq h14), h15, (beqb_ff h49), (beqb_ff h49), (beqb_ff h49), h49, z⟩
  refine cond_some hF (fun h95 hF => ?_) (fun h95 hF => ?_)
  ·
   have q190 : PQ hn100 fun l => (.test (beqb (ieq a2.Prog 3) true) true :: .test (beqb (ieq a2.Prog 3) true) true :: .test (beqb (ieq a2.Prog 3) true) true :: .test (beqb (ieq a2.Prog 3) true) true :: .test (ieq a2.Prog 3) true :: l) := fun z => ⟨(beqb_t h95), (beqb_t h95), (beqb_t h95), (beqb_t h95), h95, z⟩
   refine cond_some hF (fun h96 hF => ?_) (fun h96 hF => ?_)
   ·
    refine cond_some hF (fun h97 hF => ?_) (fun h97 hF => ?_)
    ·
     refine bind_some hF (fun r98 h99 hF => ?_)
     have q191 : PQ hn100 fun l => (.test (ine a4 a2.Source) false :: .test a7 true :: .call 98 [.one (.lit (.int .i64 a2.Prog)), .one (.lit (.int .i64 a5)), .one (.lit (.int .i64 a6))] (F98_res r98) :: .test (leadsAny (Res.mk [(.one (.im (.lit (.int .i64 r98.1)))), (.one (.im (.lit (.int .i64 r98.2))))] [])) false :: l) := fun z => ⟨(ine_t h96), h97, (F98_ok K a2.Prog a5 a6 _ h99), (leads_ok (by simp [leadsAny, RV.leads, RC.leads, leadsT, hasSl_lit])), z⟩
     refine cond_some hF (fun h100 hF => ?_) (fun h100 hF => ?_)
     ·
      refine bind_some hF (fun r101 h102 hF => ?_)
      have q192 : PQ hn100 fun l => (.test (beqb (ieq a3 0) false) false :: .test (beqb (ieq a3 0) false) false :: .test (beqb (ieq a3 0) false) false :: .test (ieq a3 0) true :: .call 69 [.agg (eGGraph a1), .one (.lit (.int .i64 a4))] (F69_res r101) :: .test (leadsAny (Res.mk [(.one (.own 89 (.sl (len r101) (flat eGEdge r101))))] [])) false :: l) := fun z => ⟨(beqb_ft h100), (beqb_ft h100), (beqb_ft h100), h100, (F69_ok K a1 a4 _ h102), (leads_ok (by simp [leadsAny, RV.leads, RC.leads, leadsT, hasSl_lit, flat_ns eGEdge_ns])), z⟩
      refine bind_some hF (fun y104 h103 hF => ?_)
      refine sum_some hF (fun w105 hx hF => ?_) (fun w106 hx hF => ?_)
      ·
       subst hx
       obtain rfl := Option.some.inj hF
       have pz : HoldAll E H hn100 [.loop 0 c100_0 (F100_l0_1_S r98.1 a2.Prog a2.Source a2.Limit a2.Parts r101 [] 0) .ret (F100_l0_1_X0 r98.1 a2.Prog a2.Source a2.Limit a2.Parts r101 w105)] := ⟨(F100_l0_1_ok K r98.1 a2.Prog a2.Source a2.Limit a2.Parts r101 K [] 0 _ h103), trivial⟩
       exact fn_playC hn100 (r := F100_res (GTurned.mk 0 [] false 8)) (q170 (q171 (q172 (q189 (q190 (q191 (q192 pz))))))) (by kernel_rfl) (by kernel_rfl)
      subst hx
      obtain rfl := Option.some.inj hF
      have pz : HoldAll E H hn100 [.loop 0 c100_0 (F100_l0_1_S r98.1 a2.Prog a2.Source a2.Limit a2.Parts r101 [] 0) (.exit 0) (F100_l0_1_X1 r98.1 a2.Prog a2.Source a2.Limit a2.Parts r101 w106)] := ⟨(F100_l0_1_ok K r98.1 a2.Prog a2.Source a2.Limit a2.Parts r101 K [] 0 _ h103), trivial⟩
      exact fn_playC hn100 (r := F100_res (GTurned.mk r98.1 w106 true 0)) (q170 (q171 (q172 (q189 (q190 (q191 (q192 pz))))))) (by kernel_rfl) (by kernel_rfl)
     refine bind_some hF (fun r107 h108 hF => ?_)
     have q193 : PQ hn100 fun l => (.test (beqb (ieq a3 0) false) true :: .test (beqb (ieq a3 0) false) true :: .test (beqb (ieq a3 0) false) true :: .test (ieq a3 0) false :: .call 69 [.agg (eGGraph a1), .one (.lit (.int .i64 a4))] (F69_res r107) :: .test (leadsAny (Res.mk [(.one (.own 89 (.sl (len r107) (flat eGEdge r107))))] [])) false :: l) := fun z => ⟨(beqb_ff h100), (beqb_ff h100), (beqb_ff h100), h100, (F69_ok K a1 a4 _ h108), (leads_ok (by simp [leadsAny, RV.leads, RC.leads, leadsT, hasSl_lit, flat_ns eGEdge_ns])), z⟩
     refine bind_some hF (fun y110 h109 hF => ?_)
     refine sum_some hF (fun w111 hx hF => ?_) (fun w112 hx hF => ?_)
     ·
      subst hx
      obtain rfl := Option.some.inj hF
      have pz : HoldAll E H hn100 [.loop 0 c100_0 (F100_l0_2_S r98.1 a2.Prog a2.Source a2.Limit a2.Parts (ine r98.1 a5) r107 [] 0) .ret (F100_l0_2_X0 r98.1 a2.Prog a2.Source a2.Limit a2.Parts (ine r98.1 a5) r107 w111)] := ⟨(F100_l0_2_ok K r98.1 a2.Prog a2.Source a2.Limit a2.Parts (ine r98.1 a5) r107 K [] 0 _ h109), trivial⟩
      exact fn_playC hn100 (r := F100_res (GTurned.mk 0 [] false 8)) (q170 (q171 (q172 (q189 (q190 (q191 (q193 pz))))))) (by kernel_rfl) (by kernel_rfl)
     subst hx
     obtain rfl := Option.some.inj hF
     have pz : HoldAll E H hn100 [.loop 0 c100_0 (F100_l0_2_S r98.1 a2.Prog a2.Source a2.Limit a2.Parts (ine r98.1 a5) r107 [] 0) (.exit 0) (F100_l0_2_X1 r98.1 a2.Prog a2.Source a2.Limit a2.Parts (ine r98.1 a5) r107 w112)] := ⟨(F100_l0_2_ok K r98.1 a2.Prog a2.Source a2.Limit a2.Parts (ine r98.1 a5) r107 K [] 0 _ h109), trivial⟩
     exact fn_playC hn100 (r := F100_res (GTurned.mk r98.1 w112 true 0)) (q170 (q171 (q172 (q189 (q190 (q191 (q193 pz))))))) (by kernel_rfl) (by kernel_rfl)
    refine cond_some hF (fun h113 hF => ?_) (fun h113 hF => ?_)
    ·
     refine bind_some hF (fun r114 h115 hF => ?_)
     have q194 : PQ hn100 fun l => (.test (ine a4 a2.Source) false :: .test a7 false :: .test (beqb (ieq a3 0) false) false :: .test (beqb (ieq a3 0) false) false :: .test (beqb (ieq a3 0) false) false :: .test (ieq a3 0) true :: .call 69 [.agg (eGGraph a1), .one (.lit (.int .i64 a4))] (F69_res r114) :: .test (leadsAny (Res.mk [(.one (.own 89 (.sl (len r114) (flat eGEdge r114))))] [])) false :: l) := fun z => ⟨(ine_t h96), h97, (beqb_ft h113), (beqb_ft h113), (beqb_ft h113), h113, (F69_ok K a1 a4 _ h115), (leads_ok (by simp [leadsAny, RV.leads, RC.leads, leadsT, hasSl_lit, flat_ns eGEdge_ns])), z⟩
     refine bind_some hF (fun y117 h116 hF => ?_)
     refine sum_some hF (fun w118 hx hF => ?_) (fun w119 hx hF => ?_)
     ·
      subst hx
      obtain rfl := Option.some.inj hF
      have pz : HoldAll E H hn100 [.loop 0 c100_0 (F100_l0_1_S a5 a2.Prog a2.Source a2.Limit a2.Parts r114 [] 0) .ret (F100_l0_1_X0 a5 a2.Prog a2.Source a2.Limit a2.Parts r114 w118)] := ⟨(F100_l0_1_ok K a5 a2.Prog a2.Source a2.Limit a2.Parts r114 K [] 0 _ h116), trivial⟩
      exact fn_playC hn100 (r := F100_res (GTurned.mk 0 [] false 8)) (q170 (q171 (q172 (q189 (q190 (q194 pz)))))) (by kernel_rfl) (by kernel_rfl)
     subst hx
     obtain rfl := Option.some.inj hF
     have pz : HoldAll E H hn100 [.loop 0 c100_0 (F100_l0_1_S a5 a2.Prog a2.Source a2.Limit a2.Parts r114 [] 0) (.exit 0) (F100_l0_1_X1 a5 a2.Prog a2.Source a2.Limit a2.Parts r114 w119)] := ⟨(F100_l0_1_ok K a5 a2.Prog a2.Source a2.Limit a2.Parts r114 K [] 0 _ h116), trivial⟩
     exact fn_playC hn100 (r := F100_res (GTurned.mk a5 w119 true 0)) (q170 (q171 (q172 (q189 (q190 (q194 pz)))))) (by kernel_rfl) (by kernel_rfl)
    refine bind_some hF (fun r120 h121 hF => ?_)
    have q195 : PQ hn100 fun l => (.test (ine a4 a2.Source) false :: .test a7 false :: .test (beqb (ieq a3 0) false) true :: .test (beqb (ieq a3 0) false) true :: .test (beqb (ieq a3 0) false) true :: .test (ieq a3 0) false :: .call 69 [.agg (eGGraph a1), .one (.lit (.int .i64 a4))] (F69_res r120) :: .test (leadsAny (Res.mk [(.one (.own 89 (.sl (len r120) (flat eGEdge r120))))] [])) false :: l) := fun z => ⟨(ine_t h96), h97, (beqb_ff h113), (beqb_ff h113), (beqb_ff h113), h113, (F69_ok K a1 a4 _ h121), (leads_ok (by simp [leadsAny, RV.leads, RC.leads, leadsT, hasSl_lit, flat_ns eGEdge_ns])), z⟩
    refine bind_some hF (fun y123 h122 hF => ?_)
    refine sum_some hF (fun w124 hx hF => ?_) (fun w125 hx hF => ?_)
    ·
     subst hx
     obtain rfl := Option.some.inj hF
     have pz : HoldAll E H hn100 [.loop 0 c100_0 (F100_l0_3_S a5 a2.Prog a2.Source a2.Limit a2.Parts r120 [] 0) (.exit 0) (F100_l0_3_X0 a5 a2.Prog a2.Source a2.Limit a2.Parts r120 w124)] := ⟨(F100_l0_3_ok K a5 a2.Prog a2.Source a2.Limit a2.Parts r120 K [] 0 _ h122), trivial⟩
     exact fn_playC hn100 (r := F100_res (GTurned.mk a5 w124 true 0)) (q170 (q171 (q172 (q189 (q190 (q195 pz)))))) (by kernel_rfl) (by kernel_rfl)
    subst hx
    obtain rfl := Option.some.inj hF
    have pz : HoldAll E H hn100 [.loop 0 c100_0 (F100_l0_3_S a5 a2.Prog a2.Source a2.Limit a2.Parts r120 [] 0) .ret (F100_l0_3_X1 a5 a2.Prog a2.Source a2.Limit a2.Parts r120 w125)] := ⟨(F100_l0_3_ok K a5 a2.Prog a2.Source a2.Limit a2.Parts r120 K [] 0 _ h122), trivial⟩
    exact fn_playC hn100 (r := F100_res (GTurned.mk 0 [] false 8)) (q170 (q171 (q172 (q189 (q190 (q195 pz)))))) (by kernel_rfl) (by kernel_rfl)
   refine cond_some hF (fun h126 hF => ?_) (fun h126 hF => ?_)
   ·
    refine bind_some hF (fun r127 h128 hF => ?_)
    refine bind_some hF (fun r129 h130 hF => ?_)
    have q196 : PQ hn100 fun l => (.test (ine a4 a2.Source) true :: .test a7 true :: .call 98 [.one (.lit (.int .i64 a2.Prog)), .one (.lit (.int .i64 a5)), .one (.lit (.int .i64 a6))] (F98_res r127) :: .test (leadsAny (Res.mk [(.one (.im (.lit (.int .i64 r127.1)))), (.one (.im (.lit (.int .i64 r127.2))))] [])) false :: .test (beqb false false) true :: .test (beqb false false) true :: .test (beqb false false) true :: .test false false :: .call 69 [.agg (eGGraph a1), .one (.lit (.int .i64 a4))] (F69_res r129) :: .test (leadsAny (Res.mk [(.one (.own 89 (.sl (len r129) (flat eGEdge r129))))] [])) false :: l) := fun z => ⟨(ine_f h96), h126, (F98_ok K a2.Prog a5 a6 _ h128), (leads_ok (by simp [leadsAny, RV.leads, RC.leads, leadsT, hasSl_lit, flat_ns eGEdge_ns])), (beqb_ff rfl), (beqb_ff rfl), (beqb_ff rfl), rfl, (F69_ok K a1 a4 _ h130), (leads_ok (by simp [leadsAny, RV.leads, RC.leads, leadsT, hasSl_lit, flat_ns eGEdge_ns])), z⟩
    refine bind_some hF (fun y132 h131 hF => ?_)
    refine sum_some hF (fun w133 hx hF => ?_) (fun w134 hx hF => ?_)
    ·
     subst hx
     obtain rfl := Option.some.inj hF
     have pz : HoldAll E H hn100 [.loop 0 c100_0 (F100_l0_2_S r127.1 a2.Prog a2.Source a2.Limit a2.Parts (ine r127.1 a5) r129 [] 0) .ret (F100_l0_2_X0 r127.1 a2.Prog a2.Source a2.Limit a2.Parts (ine r127.1 a5) r129 w133)] := ⟨(F100_l0_2_ok K r127.1 a2.Prog a2.Source a2.Limit a2.Parts (ine r127.1 a5) r129 K [] 0 _ h131), trivial⟩
     exact fn_playC hn100 (r := F100_res (GTurned.mk 0 [] false 8)) (q170 (q171 (q172 (q189 (q190 (q196 pz)))))) (by kernel_rfl) (by kernel_rfl)
    subst hx
    obtain rfl := Option.some.inj hF
    have pz : HoldAll E H hn100 [.loop 0 c100_0 (F100_l0_2_S r127.1 a2.Prog a2.Source a2.Limit a2.Parts (ine r127.1 a5) r129 [] 0) (.exit 0) (F100_l0_2_X1 r127.1 a2.Prog a2.Source a2.Limit a2.Parts (ine r127.1 a5) r129 w134)] := ⟨(F100_l0_2_ok K r127.1 a2.Prog a2.Source a2.Limit a2.Parts (ine r127.1 a5) r129 K [] 0 _ h131), trivial⟩
    exact fn_playC hn100 (r := F100_res (GTurned.mk r127.1 w134 true 0)) (q170 (q171 (q172 (q189 (q190 (q196 pz)))))) (by kernel_rfl) (by kernel_rfl)
   refine bind_some hF (fun r135 h136 hF => ?_)
   have q197 : PQ hn100 fun l => (.test (ine a4 a2.Source) true :: .test a7 false :: .test (beqb false false) true :: .test (beqb false false) true :: .test (beqb false false) true :: .test false false :: .call 69 [.agg (eGGraph a1), .one (.lit (.int .i64 a4))] (F69_res r135) :: .test (leadsAny (Res.mk [(.one (.own 89 (.sl (len r135) (flat eGEdge r135))))] [])) false :: l) := fun z => ⟨(ine_f h96), h126, (beqb_ff rfl), (beqb_ff rfl), (beqb_ff rfl), rfl, (F69_ok K a1 a4 _ h136), (leads_ok (by simp [leadsAny, RV.leads, RC.leads, leadsT, hasSl_lit, flat_ns eGEdge_ns])), z⟩
   refine bind_some hF (fun y138 h137 hF => ?_)
   refine sum_some hF (fun w139 hx hF => ?_) (fun w140 hx hF => ?_)
   ·
    subst hx
    obtain rfl := Option.some.inj hF
    have pz : HoldAll E H hn100 [.loop 0 c100_0 (F100_l0_3_S a5 a2.Prog a2.Source a2.Limit a2.Parts r135 [] 0) (.exit 0) (F100_l0_3_X0 a5 a2.Prog a2.Source a2.Limit a2.Parts r135 w139)] := ⟨(F100_l0_3_ok K a5 a2.Prog a2.Source a2.Limit a2.Parts r135 K [] 0 _ h137), trivial⟩
    exact fn_playC hn100 (r := F100_res (GTurned.mk a5 w139 true 0)) (q170 (q171 (q172 (q189 (q190 (q197 pz)))))) (by kernel_rfl) (by kernel_rfl)
   subst hx
   obtain rfl := Option.some.inj hF
   have pz : HoldAll E H hn100 [.loop 0 c100_0 (F100_l0_3_S a5 a2.Prog a2.Source a2.Limit a2.Parts r135 [] 0) .ret (F100_l0_3_X1 a5 a2.Prog a2.Source a2.Limit a2.Parts r135 w140)] := ⟨(F100_l0_3_ok K a5 a2.Prog a2.Source a2.Limit a2.Parts r135 K [] 0 _ h137), trivial⟩
   exact fn_playC hn100 (r := F100_res (GTurned.mk 0 [] false 8)) (q170 (q171 (q172 (q189 (q190 (q197 pz)))))) (by kernel_rfl) (by kernel_rfl)
  have q198 : PQ hn100 fun l => (.test (beqb (ieq a2.Prog 3) true) false :: .test (beqb (ieq a2.Prog 3) true) false :: .test (beqb (ieq a2.Prog 3) true) false :: .test (beqb (ieq a2.Prog 3) true) false :: .test (ieq a2.Prog 3) false :: .test false false :: l) := fun z => ⟨(beqb_t h95), (beqb_t h95), (beqb_t h95), (beqb_t h95), h95, rfl, z⟩
  refine cond_some hF (fun h141 hF => ?_) (fun h141 hF => ?_)
  ·
   refine bind_some hF (fun r142 h143 hF => ?_)
   have q199 : PQ hn100 fun l => (.test a7 true :: .call 98 [.one (.lit (.int .i64 a2.Prog)), .one (.lit (.int .i64 a5)), .one (.lit (.int .i64 a6))] (F98_res r142) :: .test (leadsAny (Res.mk [(.one (.im (.lit (.int .i64 r142.1)))), (.one (.im (.lit (.int .i64 r142.2))))] [])) false :: l) := fun z => ⟨h141, (F98_ok K a2.Prog a5 a6 _ h143), (leads_ok (by simp [leadsAny, RV.leads, RC.leads, leadsT, hasSl_lit])), z⟩
   refine cond_some hF (fun h144 hF => ?_) (fun h144 hF => ?_)
   ·
    refine bind_some hF (fun r145 h146 hF => ?_)
    have q200 : PQ hn100 fun l => (.test (beqb (ieq a3 0) false) false :: .test (beqb (ieq a3 0) false) false :: .test (beqb (ieq a3 0) false) false :: .test (ieq a3 0) true :: .call 69 [.agg (eGGraph a1), .one (.lit (.int .i64 a4))] (F69_res r145) :: .test (leadsAny (Res.mk [(.one (.own 89 (.sl (len r145) (flat eGEdge r145))))] [])) false :: l) := fun z => ⟨(beqb_ft h144), (beqb_ft h144), (beqb_ft h144), h144, (F69_ok K a1 a4 _ h146), (leads_ok (by simp [leadsAny, RV.leads, RC.leads, leadsT, hasSl_lit, flat_ns eGEdge_ns])), z⟩
    refine bind_some hF (fun y148 h147 hF => ?_)
    refine sum_some hF (fun w149 hx hF => ?_) (fun w150 hx hF => ?_)
    ·
     subst hx
     obtain rfl := Option.some.inj hF
     have pz : HoldAll E H hn100 [.loop 0 c100_0 (F100_l0_1_S r142.1 a2.Prog a2.Source a2.Limit a2.Parts r145 [] 0) .ret (F100_l0_1_X0 r142.1 a2.Prog a2.Source a2.Limit a2.Parts r145 w149)] := ⟨(F100_l0_1_ok K r142.1 a2.Prog a2.Source a2.Limit a2.Parts r145 K [] 0 _ h147), trivial⟩
     exact fn_playC hn100 (r := F100_res (GTurned.mk 0 [] false 8)) (q170 (q171 (q172 (q189 (q198 (q199 (q200 pz))))))) (by kernel_rfl) (by kernel_rfl)
    subst hx
    obtain rfl := Option.some.inj hF
    have pz : HoldAll E H hn100 [.loop 0 c100_0 (F100_l0_1_S r142.1 a2.Prog a2.Source a2.Limit a2.Parts r145 [] 0) (.exit 0) (F100_l0_1_X1 r142.1 a2.Prog a2.Source a2.Limit a2.Parts r145 w150)] := ⟨(F100_l0_1_ok K r142.1 a2.Prog a2.Source a2.Limit a2.Parts r145 K [] 0 _ h147), trivial⟩
    exact fn_playC hn100 (r := F100_res (GTurned.mk r142.1 w150 true 0)) (q170 (q171 (q172 (q189 (q198 (q199 (q200 pz))))))) (by kernel_rfl) (by kernel_rfl)
   refine bind_some hF (fun r151 h152 hF => ?_)
   have q201 : PQ hn100 fun l => (.test (beqb (ieq a3 0) false) true :: .test (beqb (ieq a3 0) false) true :: .test (beqb (ieq a3 0) false) true :: .test (ieq a3 0) false :: .call 69 [.agg (eGGraph a1), .one (.lit (.int .i64 a4))] (F69_res r151) :: .test (leadsAny (Res.mk [(.one (.own 89 (.sl (len r151) (flat eGEdge r151))))] [])) false :: l) := fun z => ⟨(beqb_ff h144), (beqb_ff h144), (beqb_ff h144), h144, (F69_ok K a1 a4 _ h152), (leads_ok (by simp [leadsAny, RV.leads, RC.leads, leadsT, hasSl_lit, flat_ns eGEdge_ns])), z⟩
   refine bind_some hF (fun y154 h153 hF => ?_)
   refine sum_some hF (fun w155 hx hF => ?_) (fun w156 hx hF => ?_)
   ·
    subst hx
    obtain rfl := Option.some.inj hF
    have pz : HoldAll E H hn100 [.loop 0 c100_0 (F100_l0_2_S r142.1 a2.Prog a2.Source a2.Limit a2.Parts (ine r142.1 a5) r151 [] 0) .ret (F100_l0_2_X0 r142.1 a2.Prog a2.Source a2.Limit a2.Parts (ine r142.1 a5) r151 w155)] := ⟨(F100_l0_2_ok K r142.1 a2.Prog a2.Source a2.Limit a2.Parts (ine r142.1 a5) r151 K [] 0 _ h153), trivial⟩
    exact fn_playC hn100 (r := F100_res (GTurned.mk 0 [] false 8)) (q170 (q171 (q172 (q189 (q198 (q199 (q201 pz))))))) (by kernel_rfl) (by kernel_rfl)
   subst hx
   obtain rfl := Option.some.inj hF
   have pz : HoldAll E H hn100 [.loop 0 c100_0 (F100_l0_2_S r142.1 a2.Prog a2.Source a2.Limit a2.Parts (ine r142.1 a5) r151 [] 0) (.exit 0) (F100_l0_2_X1 r142.1 a2.Prog a2.Source a2.Limit a2.Parts (ine r142.1 a5) r151 w156)] := ⟨(F100_l0_2_ok K r142.1 a2.Prog a2.Source a2.Limit a2.Parts (ine r142.1 a5) r151 K [] 0 _ h153), trivial⟩
   exact fn_playC hn100 (r := F100_res (GTurned.mk r142.1 w156 true 0)) (q170 (q171 (q172 (q189 (q198 (q199 (q201 pz))))))) (by kernel_rfl) (by kernel_rfl)
  refine cond_some hF (fun h157 hF => ?_) (fun h157 hF => ?_)
  ·
   refine bind_some hF (fun r158 h159 hF => ?_)
   have q202 : PQ hn100 fun l => (.test a7 false :: .test (beqb (ieq a3 0) false) false :: .test (beqb (ieq a3 0) false) false :: .test (beqb (ieq a3 0) false) false :: .test (ieq a3 0) true :: .call 69 [.agg (eGGraph a1), .one (.lit (.int .i64 a4))] (F69_res r158) :: .test (leadsAny (Res.mk [(.one (.own 89 (.sl (len r158) (flat eGEdge r158))))] [])) false :: l) := fun z => ⟨h141, (beqb_ft h157), (beqb_ft h157), (beqb_ft h157), h157, (F69_ok K a1 a4 _ h159), (leads_ok (by simp [leadsAny, RV.leads, RC.leads, leadsT, hasSl_lit, flat_ns eGEdge_ns])), z⟩
   refine bind_some hF (fun y161 h160 hF => ?_)
   refine sum_some hF (fun w162 hx hF => ?_) (fun w163 hx hF => ?_)
   ·
    subst hx
    obtain rfl := Option.some.inj hF
    have pz : HoldAll E H hn100 [.loop 0 c100_0 (F100_l0_1_S a5 a2.Prog a2.Source a2.Limit a2.Parts r158 [] 0) .ret (F100_l0_1_X0 a5 a2.Prog a2.Source a2.Limit a2.Parts r158 w162)] := ⟨(F100_l0_1_ok K a5 a2.Prog a2.Source a2.Limit a2.Parts r158 K [] 0 _ h160), trivial⟩
    exact fn_playC hn100 (r := F100_res (GTurned.mk 0 [] false 8)) (q170 (q171 (q172 (q189 (q198 (q202 pz)))))) (by kernel_rfl) (by kernel_rfl)
   subst hx
   obtain rfl := Option.some.inj hF
   have pz : HoldAll E H hn100 [.loop 0 c100_0 (F100_l0_1_S a5 a2.Prog a2.Source a2.Limit a2.Parts r158 [] 0) (.exit 0) (F100_l0_1_X1 a5 a2.Prog a2.Source a2.Limit a2.Parts r158 w163)] := ⟨(F100_l0_1_ok K a5 a2.Prog a2.Source a2.Limit a2.Parts r158 K [] 0 _ h160), trivial⟩
   exact fn_playC hn100 (r := F100_res (GTurned.mk a5 w163 true 0)) (q170 (q171 (q172 (q189 (q198 (q202 pz)))))) (by kernel_rfl) (by kernel_rfl)
  refine bind_some hF (fun r164 h165 hF => ?_)
  have q203 : PQ hn100 fun l => (.test a7 false :: .test (beqb (ieq a3 0) false) true :: .test (beqb (ieq a3 0) false) true :: .test (beqb (ieq a3 0) false) true :: .test (ieq a3 0) false :: .call 69 [.agg (eGGraph a1), .one (.lit (.int .i64 a4))] (F69_res r164) :: .test (leadsAny (Res.mk [(.one (.own 89 (.sl (len r164) (flat eGEdge r164))))] [])) false :: l) := fun z => ⟨h141, (beqb_ff h157), (beqb_ff h157), (beqb_ff h157), h157, (F69_ok K a1 a4 _ h165), (leads_ok (by simp [leadsAny, RV.leads, RC.leads, leadsT, hasSl_lit, flat_ns eGEdge_ns])), z⟩
  refine bind_some hF (fun y167 h166 hF => ?_)
  refine sum_some hF (fun w168 hx hF => ?_) (fun w169 hx hF => ?_)
  ·
   subst hx
   obtain rfl := Option.some.inj hF
   have pz : HoldAll E H hn100 [.loop 0 c100_0 (F100_l0_3_S a5 a2.Prog a2.Source a2.Limit a2.Parts r164 [] 0) (.exit 0) (F100_l0_3_X0 a5 a2.Prog a2.Source a2.Limit a2.Parts r164 w168)] := ⟨(F100_l0_3_ok K a5 a2.Prog a2.Source a2.Limit a2.Parts r164 K [] 0 _ h166), trivial⟩
   exact fn_playC hn100 (r := F100_res (GTurned.mk a5 w168 true 0)) (q170 (q171 (q172 (q189 (q198 (q203 pz)))))) (by kernel_rfl) (by kernel_rfl)
  subst hx
  obtain rfl := Option.some.inj hF
  have pz : HoldAll E H hn100 [.loop 0 c100_0 (F100_l0_3_S a5 a2.Prog a2.Source a2.Limit a2.Parts r164 [] 0) .ret (F100_l0_3_X1 a5 a2.Prog a2.Source a2.Limit a2.Parts r164 w169)] := ⟨(F100_l0_3_ok K a5 a2.Prog a2.Source a2.Limit a2.Parts r164 K [] 0 _ h166), trivial⟩
  exact fn_playC hn100 (r := F100_res (GTurned.mk 0 [] false 8)) (q170 (q171 (q172 (q189 (q198 (q203 pz)))))) (by kernel_rfl) (by kernel_rfl)
 obtain rfl := Option.some.inj hF
 have pz : HoldAll E H hn100 [.call 59 [.agg (eGGraph a1), .agg (eGJob a2)] (F59_res r8), .test (leadsAny (Res.mk [(.one (.im (.lit (.int .i64 r8))))] [])) false, .test (ine r8 0) true] := ⟨(F59_ok K a1 a2 _ h9), (leads_ok (by simp [leadsAny, RV.leads, RC.leads, leadsT, hasSl_lit, flat_ns eGJob_ns])), (ine_f h10), trivial⟩
 exact fn_playC hn100 (r := F100_res (GTurned.mk 0 [] false r8)) pz (by kernel_rfl) (by kernel_rfl)
theorem u_add {a b : Int} (h : 0 ≤ a + b) (h2 : a + b < 18446744073709551616) : wadd .u64 a b = a + b := by
 show IntKind.u64.wrap (a + b) = _
 simp [IntKind.wrap, IntKind.signed, IntKind.bits]; omega
theorem u_mul {a b : Int} (h : 0 ≤ a * b) (h2 : a * b < 18446744073709551616) : wmul .u64 a b = a * b := by
 show IntKind.u64.wrap (a * b) = _
 simp only [IntKind.wrap, IntKind.signed, IntKind.bits, Bool.false_and]
 generalize a * b = t at *
 simp; omega
theorem u_quo {a : Int} (h : 0 ≤ a) (h2 : a < 18446744073709551616) : wquo .u64 a 4294967296 = a / 4294967296 := by
 show IntKind.u64.wrap (a.tdiv 4294967296) = _
 rw [Int.tdiv_eq_ediv_of_nonneg h]
 simp [IntKind.wrap, IntKind.signed, IntKind.bits]; omega
theorem u_rem {a : Int} (h : 0 ≤ a) : wrem a 4294967296 = a % 4294967296 := by
 show a.tmod 4294967296 = _
 exact Int.tmod_eq_emod_of_nonneg h
theorem F174_spec (K : Nat) {x b : Int} (hx : 0 ≤ x) (hx2 : x ≤ 9223372036854775808) (hb : 1 ≤ b) (hb2 : b ≤ 1000) :
   ∃ hi lo, F174 K x b = some (GA199.mk hi lo) ∧ hi * 18446744073709551616 + lo = x * b ∧ 0 ≤ lo ∧ lo < 18446744073709551616 ∧ 0 ≤ hi := by
 obtain ⟨u, hu⟩ : ∃ u, x / 4294967296 = u := ⟨_, rfl⟩
 obtain ⟨v, hv⟩ : ∃ v, x % 4294967296 = v := ⟨_, rfl⟩
 have hu0 : 0 ≤ u ∧ u ≤ 2147483648 := by omega
 have hv0 : 0 ≤ v ∧ v < 4294967296 := by omega
 have hxu : x = u * 4294967296 + v := by omega
 obtain ⟨P, hP⟩ : ∃ P, u * b = P := ⟨_, rfl⟩
 obtain ⟨Q, hQ⟩ : ∃ Q, v * b = Q := ⟨_, rfl⟩
 have hP0 : 0 ≤ P := hP ▸ Int.mul_nonneg hu0.1 (by omega)
 have hQ0 : 0 ≤ Q := hQ ▸ Int.mul_nonneg hv0.1 (by omega)
 have hP1 : P ≤ 2147483648 * 1000 := hP ▸ Int.mul_le_mul hu0.2 hb2 (by omega) (by omega)
 have hQ1 : Q ≤ 4294967296 * 1000 := hQ ▸ Int.mul_le_mul (by omega) hb2 (by omega) (by omega)
 have hxb : x * b = P * 4294967296 + Q := by rw [hxu, Int.add_mul, hQ, ← hP, Int.mul_right_comm]
 have a1 : wquo .u64 x 4294967296 = u := by rw [u_quo hx (by omega), hu]
 have a2 : wquo .u64 b 4294967296 = 0 := by rw [u_quo (by omega) (by omega)]; omega
 have a3 : wrem x 4294967296 = v := by rw [u_rem hx, hv]
 have a4 : wrem b 4294967296 = b := by rw [u_rem (by omega)]; omega
 have b1 : wmul .u64 u 0 = 0 := by rw [u_mul (by omega) (by omega)]; omega
 have b2 : wmul .u64 u b = P := by rw [u_mul (by omega) (by omega), hP]
 have b3 : wmul .u64 v 0 = 0 := by rw [u_mul (by omega) (by omega)]; omega
 have b4 : wmul .u64 v b = Q := by rw [u_mul (by omega) (by omega), hQ]
 have c1 : wquo .u64 P 4294967296 = P / 4294967296 := u_quo hP0 (by omega)
 have c2 : wquo .u64 0 4294967296 = 0 := by rw [u_quo (by omega) (by omega)]; omega
 have c3 : wquo .u64 Q 4294967296 = Q / 4294967296 := u_quo hQ0 (by omega)
 have c4 : wrem P 4294967296 = P % 4294967296 := u_rem hP0
 have c5 : wrem 0 4294967296 = 0 := by rw [u_rem (by omega)]; omega
 have c6 : wrem Q 4294967296 = Q % 4294967296 := u_rem hQ0
 have d1 : wadd .u64 (Q / 4294967296) (P % 4294967296) = Q / 4294967296 + P % 4294967296 := u_add (by omega) (by omega)
 have d2 : wadd .u64 (Q / 4294967296 + P % 4294967296) 0 = Q / 4294967296 + P % 4294967296 := by rw [u_add (by omega) (by omega)]; omega
 have d3 : wquo .u64 (Q / 4294967296 + P % 4294967296) 4294967296 = (Q / 4294967296 + P % 4294967296) / 4294967296 := u_quo (by omega) (by omega)
 have d4 : wrem (Q / 4294967296 + P % 4294967296) 4294967296 = (Q / 4294967296 + P % 4294967296) % 4294967296 := u_rem (by omega)
 have d5 : wadd .u64 0 (P / 4294967296) = P / 4294967296 := by rw [u_add (by omega) (by omega)]; omega
 have d6 : wadd .u64 (P / 4294967296) 0 = P / 4294967296 := by rw [u_add (by omega) (by omega)]; omega
 have d7 : wadd .u64 (P / 4294967296) ((Q / 4294967296 + P % 4294967296) / 4294967296) = P / 4294967296 + (Q / 4294967296 + P % 4294967296) / 4294967296 := u_add (by omega) (by omega)
 have d8 : wmul .u64 ((Q / 4294967296 + P % 4294967296) % 4294967296) 4294967296 = (Q / 4294967296 + P % 4294967296) % 4294967296 * 4294967296 := u_mul (by omega) (by omega)
 have d9 : wadd .u64 ((Q / 4294967296 + P % 4294967296) % 4294967296 * 4294967296) (Q % 4294967296) = (Q / 4294967296 + P % 4294967296) % 4294967296 * 4294967296 + Q % 4294967296 := u_add (by omega) (by omega)
 refine ⟨P / 4294967296 + (Q / 4294967296 + P % 4294967296) / 4294967296, (Q / 4294967296 + P % 4294967296) % 4294967296 * 4294967296 + Q % 4294967296, ?_, ?_, by omega, by omega, by omega⟩
 · rw [F174, a1, a2, a3, a4, b1, b2, b3, b4, c1, c2, c3, c4, c5, c6, d1, d2, d3, d4, d5, d6, d7, d8, d9]
 · rw [hxb]; omega
theorem F175_spec (K : Nat) {a : Int} (ha : i64 a) : F175 K a = some (bif ilt a 0 then -a else a) := by
 unfold i64 at ha
 rw [F175]
 cases h : ilt a 0
 · have := ilt_f.1 h
   have e : wconv .u64 a = a := by
     show IntKind.u64.wrap a = _
     simp [IntKind.wrap, IntKind.signed, IntKind.bits]; omega
   rw [e]; rfl
 · have := ilt_iff.1 h
   have e1 : wadd .i64 a 1 = a + 1 := wadd_i64 (by unfold i64; omega)
   have e2 : wneg .i64 (a + 1) = -(a + 1) := by
     show IntKind.i64.wrap (0 - (a + 1)) = _
     rw [IntKind.wrap_i64]; omega
   have e3 : wconv .u64 (-(a + 1)) = -(a + 1) := by
     show IntKind.u64.wrap _ = _
     simp [IntKind.wrap, IntKind.signed, IntKind.bits]; omega
   have e4 : wadd .u64 (-(a + 1)) 1 = -a := by rw [u_add (by omega) (by omega)]; omega
   rw [e1, e2, e3, e4]; rfl
def mulS (a b : Int) : Int × Bool := bif fitsB (a * b) then (a * b, true) else (0, false)
theorem F170_spec (K : Nat) {a b : Int} (ha : i64 a) (hb : 1 ≤ b) (hb2 : b ≤ 1000) : F170 K a b = some (mulS a b) := by
 have hb0 : ilt b 0 = false := ilt_f.2 (by omega)
 have h175 : F175 K b = some b := by rw [F175_spec K (by unfold i64; omega), hb0]; rfl
 have hconv : ∀ n : Int, 0 ≤ n → n ≤ 9223372036854775807 → wconv .i64 n = n := fun n h1 h2 => by
   show IntKind.i64.wrap n = _
   rw [IntKind.wrap_i64]; omega
 rw [F170, F175_spec K ha, h175, mulS, hb0]
 unfold i64 at ha
 cases h : ilt a 0
 · have hn := ilt_f.1 h
   obtain ⟨hi, lo, e, h1, h2, h3, h4⟩ := F174_spec K hn (by omega) hb hb2
   simp only [Option.bind_some, cond_false, e]
   cases c1 : ilt 0 hi
   · have c1' := ilt_f.1 c1
     cases c2 : ilt 9223372036854775808 lo
     · have c2' := ilt_f.1 c2
       cases c3 : ieq lo 9223372036854775808
       · have c3' := ieq_f.1 c3
         have hf : fitsB (a * b) = true := fitsB_iff.2 (by unfold i64; omega)
         have : lo = a * b := by omega
         rw [hf, hconv lo h2 (by omega), this]; rfl
       · have c3' := ieq_iff.1 c3
         have hf : fitsB (a * b) = false := fitsB_f.2 (by omega)
         rw [hf]; rfl
     · have c2' := ilt_iff.1 c2
       have hf : fitsB (a * b) = false := fitsB_f.2 (by omega)
       rw [hf]; rfl
   · have c1' := ilt_iff.1 c1
     have hf : fitsB (a * b) = false := fitsB_f.2 (by omega)
     rw [hf]; rfl
 · have hn := ilt_iff.1 h
   obtain ⟨hi, lo, e, h1, h2, h3, h4⟩ := F174_spec K (x := -a) (by omega) (by omega) hb hb2
   rw [Int.neg_mul] at h1
   simp only [Option.bind_some, cond_true, e]
   cases c1 : ilt 0 hi
   · have c1' := ilt_f.1 c1
     cases c2 : ilt 9223372036854775808 lo
     · have c2' := ilt_f.1 c2
       cases c3 : ieq lo 9223372036854775808
       · have c3' := ieq_f.1 c3
         have hf : fitsB (a * b) = true := fitsB_iff.2 (by unfold i64; omega)
         have hw : wneg .i64 lo = a * b := by
           show IntKind.i64.wrap (0 - lo) = _
           rw [IntKind.wrap_i64]; omega
         rw [hf, hconv lo h2 (by omega), hw]; rfl
       · have c3' := ieq_iff.1 c3
         have hf : fitsB (a * b) = true := fitsB_iff.2 (by unfold i64; omega)
         have : a * b = -9223372036854775808 := by omega
         rw [hf, this]; rfl
     · have c2' := ilt_iff.1 c2
       have hf : fitsB (a * b) = false := fitsB_f.2 (by omega)
       rw [hf]; rfl
   · have c1' := ilt_iff.1 c1
     have hf : fitsB (a * b) = false := fitsB_f.2 (by omega)
     rw [hf]; rfl
theorem tdiv_i64 {a d : Int} (ha : i64 a) (hd : 1 ≤ d) : wquo .i64 a d = a.tdiv d ∧ i64 (a.tdiv d) := by
 unfold i64 at ha
 have h1 : (a.tdiv d).natAbs ≤ a.natAbs := Int.natAbs_tdiv_le_natAbs a d
 have h2 : -9223372036854775808 ≤ a.tdiv d ∧ a.tdiv d ≤ 9223372036854775808 := by omega
 have h3 : 0 ≤ a → 0 ≤ a.tdiv d := fun h => Int.tdiv_nonneg h (by omega)
 have h4 : a ≤ 0 → a.tdiv d ≤ 0 := fun h => by
   have := Int.tdiv_nonneg (show 0 ≤ -a by omega) (show 0 ≤ d by omega)
   rw [Int.neg_tdiv] at this; omega
 have h5 : i64 (a.tdiv d) := by
   unfold i64
   rcases Int.le_total 0 a with h | h
   · have := h3 h; omega
   · have := h4 h; omega
 refine ⟨?_, h5⟩
 unfold i64 at h5
 show IntKind.i64.wrap (a.tdiv d) = _
 rw [IntKind.wrap_i64]; omega
theorem F171_spec (K : Nat) {a b : Int} (ha : i64 a) (hb : 1 ≤ b) (hb2 : b ≤ 1000) : F171 K a b = some (mulS a b) := by
 unfold i64 at ha
 rw [F171, mulS, ieq_f.2 (by omega : b ≠ 0), ieq_f.2 (by omega : b ≠ -1)]
 cases h0 : ieq a 0
 · have h0' := ieq_f.1 h0
   cases h1 : ieq a (-1)
   · have hz : izero b = false := decide_eq_false (by omega)
     simp only [cond_false, hz]
     obtain ⟨t, ht⟩ : ∃ t, a * b = t := ⟨_, rfl⟩
     obtain ⟨p, hp⟩ : ∃ p, wmul .i64 a b = p := ⟨_, rfl⟩
     have hp' : p = if 9223372036854775808 ≤ t % 18446744073709551616 then t % 18446744073709551616 - 18446744073709551616 else t % 18446744073709551616 := by
       rw [← hp, ← ht]
       show IntKind.i64.wrap (a * b) = _
       rw [IntKind.wrap_i64, ht]
       split <;> omega
     have hpr : -9223372036854775808 ≤ p ∧ p ≤ 9223372036854775807 := by rw [hp']; split <;> omega
     obtain ⟨q, hq⟩ : ∃ q, p.tdiv b = q := ⟨_, rfl⟩
     obtain ⟨r, hr⟩ : ∃ r, p.tmod b = r := ⟨_, rfl⟩
     have hdiv : b * q + r = p := by rw [← hq, ← hr]; exact Int.mul_tdiv_add_tmod p b
     have hrb : -1000 < r ∧ r < 1000 := by
       have h1 := Int.tmod_lt_of_pos p (show 0 < b by omega)
       have h2 := Int.lt_tmod_of_pos p (show 0 < b by omega)
       omega
     have hqr : -9223372036854775808 ≤ q ∧ q ≤ 9223372036854775807 := by
       have : i64 (p.tdiv b) := (tdiv_i64 (show i64 p from hpr) hb).2
       unfold i64 at this
       rw [hq] at this; exact this
     have hw : wquo .i64 p b = q := by rw [(tdiv_i64 (show i64 p from hpr) hb).1, hq]
     rw [hp, hw, ht]
     cases hf : fitsB t
     · have hf' := fitsB_f.1 hf
       have hne : ieq q a = false := ieq_f.2 fun hc => by
         have hba : b * q = t := by rw [hc, Int.mul_comm]; exact ht
         rw [hba] at hdiv
         have := hp'
         split at this <;> omega
       rw [hne]; rfl
     · have hf' := fitsB_iff.1 hf
       unfold i64 at hf'
       have hpt : p = t := by rw [hp']; split <;> omega
       have hqa : q = a := by
         rw [← hq, hpt, ← ht]
         exact Int.mul_tdiv_cancel a (by omega)
       rw [hqa, ieq_refl, hpt]; rfl
   · have h1' := ieq_iff.1 h1
     subst h1'
     have e1 : ieq (-1) (-9223372036854775808) = false := rfl
     have e2 : ieq b (-9223372036854775808) = false := ieq_f.2 (by omega)
     have e3 : fitsB (-1 * b) = true := fitsB_iff.2 (by unfold i64; omega)
     have e4 : wmul .i64 (-1) b = -1 * b := wmul_ok (by unfold i64; omega)
     rw [e1, e2, e3, e4]; rfl
 · have h0' := ieq_iff.1 h0
   subst h0'
   have e3 : fitsB (0 * b) = true := fitsB_iff.2 (by unfold i64; omega)
   rw [e3, Int.zero_mul]; rfl
def ratioS (v n d : Int) : Int × Bool := bif ilt d 1 then (0, false) else bif (mulS v n).2 then ((mulS v n).1.tdiv d, true) else (0, false)
theorem mulS_i64 {a b : Int} : i64 (mulS a b).1 := by
 rw [mulS]
 cases h : fitsB (a * b)
 · unfold i64; simp
 · exact fitsB_iff.1 h
theorem ratioS_i64 {v n d : Int} : i64 (ratioS v n d).1 := by
 have h0 : i64 0 := by unfold i64; omega
 rw [ratioS]
 cases hd : ilt d 1
 · cases (mulS v n).2
   · exact h0
   · exact (tdiv_i64 mulS_i64 (ilt_f.1 hd)).2
 · exact h0
theorem F167_spec (K : Nat) {v n : Int} (d : Int) (hv : i64 v) (hn : 1 ≤ n) (hn2 : n ≤ 1000) : F167 K v n d = some (ratioS v n d) := by
 rw [F167, F170_spec K hv hn hn2, Option.bind_some, ratioS]
 cases hd : ilt d 1
 · have hd' := ilt_f.1 hd
   have hz : izero d = false := decide_eq_false (by omega)
   rw [(tdiv_i64 (mulS_i64 (a := v) (b := n)) hd').1, hz]
   cases (mulS v n).2 <;> rfl
 · cases (mulS v n).2 <;> rfl
theorem F168_spec (K : Nat) {v n : Int} (d : Int) (hv : i64 v) (hn : 1 ≤ n) (hn2 : n ≤ 1000) : F168 K v n d = some (ratioS v n d) := by
 rw [F168, F171_spec K hv hn hn2, ratioS]
 cases hd : ilt d 1
 · have hd' := ilt_f.1 hd
   have hz : izero d = false := decide_eq_false (by omega)
   rw [cond_false, cond_false, Option.bind_some, (tdiv_i64 (mulS_i64 (a := v) (b := n)) hd').1, hz]
   cases (mulS v n).2 <;> rfl
 · rfl
def sumS (got : Int) : Int × Bool := bif (ratioS got 85 100).2 then addS 150000 (ratioS got 85 100).1 else (0, false)
theorem F147_spec (K : Nat) {got : Int} (hg : i64 got) : F147 K got = some (sumS got) := by
 rw [F147, F168_spec K 100 hg (by omega) (by omega), Option.bind_some, sumS]
 cases (ratioS got 85 100).2
 · rfl
 · rw [cond_true, cond_true, F145_spec K (by unfold i64; omega) ratioS_i64]; rfl
theorem addS_i64 {a b : Int} : i64 (addS a b).1 := by
 rw [addS]
 cases h : fitsB (a + b)
 · unfold i64; simp
 · exact fitsB_iff.1 h
theorem sumS_i64 {got : Int} : i64 (sumS got).1 := by
 rw [sumS]
 cases (ratioS got 85 100).2
 · unfold i64; simp
 · exact addS_i64
def outs (g : GGraph) (v : Int) : List GEdge := bif ieq (gcheck g) 0 then g.Edges.filter (fun e => ieq e.From v) else []
theorem out_go (l : List GEdge) (v : Int) : ∀ (s : List GEdge), s.length + l.length ≤ 80 →
   goL (fun x (s : List GEdge) c => bif (ieq x.From v) then (bif (apok (len s) 1 24) then c (appL s [x]) else none) else c s) (fun s => some s) l s = some (s ++ l.filter (fun e => ieq e.From v)) := by
 induction l with
 | nil => intro s _; simp [goL]
 | cons x l ih =>
   intro s hs
   simp only [List.length_cons] at hs
   rw [goL]
   cases hx : ieq x.From v
   · rw [cond_false, ih s (by omega), List.filter_cons, hx]; rfl
   · have ha : apok (len s) 1 24 = true := decide_eq_true ⟨by show s.length + 1 ≤ _; omega, by show (s.length + 1) * 24 ≤ _; omega⟩
     rw [cond_true, ha, cond_true, ih _ (by simp [appL]; omega), List.filter_cons, hx]
     simp [appL]
theorem F69_spec {K : Nat} (hK : 100 ≤ K) (g : GGraph) (v : Int) : F69 K g v = some (outs g v) := by
 rw [F69, F65_spec hK, Option.bind_some, outs]
 cases hc : ieq (gcheck g) 0
 · rfl
 · obtain ⟨h1, h2, h3, h4⟩ := gcheck_ok hc
   have e : F69_l0_0 K g v K [] 0 = _ := scanL (l := g.Edges) (L := fun k s i => F69_l0_0 K g v k s i) (fun x (s : List GEdge) c => bif (ieq x.From v) then (bif (apok (len s) 1 24) then c (appL s [x]) else none) else c s) (fun s => some s) (fun k s i _ => rfl) (by omega) (by omega) []
   rw [cond_true, cond_true, e, out_go _ _ _ (by simpa using h3)]; rfl
theorem outs_len {g : GGraph} {v : Int} : (outs g v).length ≤ 80 := by
 rw [outs]
 cases hc : ieq (gcheck g) 0
 · simp
 · obtain ⟨h1, h2, h3, h4⟩ := gcheck_ok hc
   exact Nat.le_trans (List.length_filter_le _ _) h3
def sendS (p val : Int) (e : GEdge) (many : Int) : Int × Bool := bif ieq p 1 then addS val e.W else bif ieq p 3 then addS val 1 else bif ieq p 5 then ratioS val 1 many else (val, true)
def sendA (p val many : Int) : List GEdge → List GMsg → Option (List GMsg)
 | [], s => some s
 | e :: l, s => bif (sendS p val e many).2 then sendA p val many l (s ++ [GMsg.mk e.To (sendS p val e many).1]) else none
def sumO {α : Type} : Option α → Unit ⊕ α
 | none => .inl ()
 | some s => .inr s
def sendO (rest : Bool) (val : Int) : Option (List GMsg) → Int × List GMsg × Bool × Int
 | none => (0, [], false, 8)
 | some s => (val, s, rest, 0)
theorem send_go (p val many : Int) (f : GEdge → Option (Int × Bool)) (l : List GEdge) (hf : ∀ e ∈ l, f e = some (sendS p val e many)) : ∀ (s : List GMsg), s.length + l.length ≤ 80 →
   goL (fun e (s : List GMsg) c => (f e).bind fun r => bif r.2 then (bif (apok (len s) 1 16) then c (appL s [(GMsg.mk e.To r.1)]) else none) else some (.inl ())) (fun s => some (.inr s)) l s = some (sumO (sendA p val many l s)) := by
 induction l with
 | nil => intro s _; rfl
 | cons x l ih =>
   intro s hs
   simp only [List.length_cons] at hs
   rw [goL, hf x List.mem_cons_self, Option.bind_some, sendA]
   cases (sendS p val x many).2
   · rfl
   · have ha : apok (len s) 1 16 = true := decide_eq_true ⟨by show s.length + 1 ≤ _; omega, by show (s.length + 1) * 16 ≤ _; omega⟩
     rw [cond_true, ha, cond_true, ih (fun e he => hf e (List.mem_cons_of_mem _ he)) _ (by simp [appL]; omega), cond_true]; rfl
theorem outs_W {g : GGraph} {v : Int} {e : GEdge} (h : e ∈ outs g v) : 0 ≤ e.W ∧ e.W ≤ 4611686018427387904 := by
 rw [outs] at h
 cases hc : ieq (gcheck g) 0
 · rw [hc] at h; cases h
 · obtain ⟨h1, h2, h3, h4⟩ := gcheck_ok hc
   rw [hc] at h
   have := badE_ok (gchk_mem h4 e (List.mem_filter.1 h).1)
   omega
theorem F160_spec (K : Nat) {val : Int} {e : GEdge} (many : Int) (hv : i64 val) (he : i64 e.W) : F160 K val e = some (sendS 1 val e many) := by
 rw [F160, F144_spec K hv he]; rfl
theorem F161_spec (K : Nat) {val : Int} (e : GEdge) (many : Int) (hv : i64 val) : F161 K val e = some (sendS 3 val e many) := by
 rw [F161, F144_spec K hv (by unfold i64; omega)]; rfl
theorem F148_spec (K : Nat) (p : Int) {val many : Int} {e : GEdge} (hv : i64 val) (he : i64 e.W) : F148 K p val e many = some (sendS p val e many) := by
 rw [F148, sendS, F145_spec K hv he, F145_spec K hv (show i64 1 by unfold i64; omega), F168_spec K many hv (show (1 : Int) ≤ 1 by omega) (show (1 : Int) ≤ 1000 by omega)]
 cases ieq p 1 <;> cases ieq p 3 <;> cases ieq p 5 <;> rfl
def manyO (g : GGraph) (v : Int) : Int := nlen (len (outs g v))
section loops
variable {K : Nat} (hK : 100 ≤ K) (g : GGraph) (v : Int) {val : Int} (hv : i64 val)
include hK hv
theorem loop99_0 (b : Bool) : F99_l0_0 K val b (outs g v) K [] 0 = some (sumO (sendA 1 val (manyO g v) (outs g v) [])) := by
 have hl := outs_len (g := g) (v := v)
 have e := scanL (l := outs g v) (L := fun k s i => F99_l0_0 K val b (outs g v) k s i) (fun e (s : List GMsg) c => (F160 K val e).bind fun r => bif r.2 then (bif (apok (len s) 1 16) then c (appL s [(GMsg.mk e.To r.1)]) else none) else some (.inl ())) (fun s => some (.inr s)) (fun k s i _ => rfl) (K := K) (by omega) (by omega) []
 exact e.trans (send_go 1 val (manyO g v) (F160 K val) _ (fun e he => F160_spec K _ hv (by have := outs_W he; unfold i64; omega)) [] (by simpa using hl))
theorem loop99_1 (b : Bool) : F99_l0_1 K val b (outs g v) K [] 0 = some (sumO (sendA 3 val (manyO g v) (outs g v) [])) := by
 have hl := outs_len (g := g) (v := v)
 have e := scanL (l := outs g v) (L := fun k s i => F99_l0_1 K val b (outs g v) k s i) (fun e (s : List GMsg) c => (F161 K val e).bind fun r => bif r.2 then (bif (apok (len s) 1 16) then c (appL s [(GMsg.mk e.To r.1)]) else none) else some (.inl ())) (fun s => some (.inr s)) (fun k s i _ => rfl) (K := K) (by omega) (by omega) []
 exact e.trans (send_go 3 val (manyO g v) (F161 K val) _ (fun e he => F161_spec K e _ hv) [] (by simpa using hl))
omit hv in
theorem loop99_2 (val : Int) (b : Bool) : F99_l0_2 K val b (outs g v) K [] 0 = some (sumO (sendA 2 val (manyO g v) (outs g v) [])) := by
 have hl := outs_len (g := g) (v := v)
 have e := scanL (l := outs g v) (L := fun k s i => F99_l0_2 K val b (outs g v) k s i) (fun e (s : List GMsg) c => (F163 K val e).bind fun r => bif r.2 then (bif (apok (len s) 1 16) then c (appL s [(GMsg.mk e.To r.1)]) else none) else some (.inl ())) (fun s => some (.inr s)) (fun k s i _ => rfl) (K := K) (by omega) (by omega) []
 exact e.trans (send_go 2 val (manyO g v) (F163 K val) _ (fun e he => rfl) [] (by simpa using hl))
omit hv in
theorem loop99_3 (val : Int) (b : Bool) : F99_l0_3 K val b (outs g v) K [] 0 = some (sumO (sendA 4 val (manyO g v) (outs g v) [])) := by
 have hl := outs_len (g := g) (v := v)
 have e := scanL (l := outs g v) (L := fun k s i => F99_l0_3 K val b (outs g v) k s i) (fun e (s : List GMsg) c => (F163 K val e).bind fun r => bif r.2 then (bif (apok (len s) 1 16) then c (appL s [(GMsg.mk e.To r.1)]) else none) else some (.inl ())) (fun s => some (.inr s)) (fun k s i _ => rfl) (K := K) (by omega) (by omega) []
 exact e.trans (send_go 4 val (manyO g v) (F163 K val) _ (fun e he => rfl) [] (by simpa using hl))
theorem loop146 : F146_l0_0 K (outs g v) val K [] 0 = some (sumO (sendA 5 val (manyO g v) (outs g v) [])) := by
 have hl := outs_len (g := g) (v := v)
 have e := scanL (l := outs g v) (L := fun k s i => F146_l0_0 K (outs g v) val k s i) (fun e (s : List GMsg) c => (F167 K val 1 (nlen (len (outs g v)))).bind fun r => bif r.2 then (bif (apok (len s) 1 16) then c (appL s [(GMsg.mk e.To r.1)]) else none) else some (.inl ())) (fun s => some (.inr s)) (fun k s i _ => rfl) (K := K) (by omega) (by omega) []
 exact e.trans (send_go 5 val (manyO g v) (fun _ => F167 K val 1 (nlen (len (outs g v)))) _ (fun e he => F167_spec K _ hv (by omega) (by omega)) [] (by simpa using hl))
theorem loop100_1 (p a b c : Int) : F100_l0_1 K val p a b c (outs g v) K [] 0 = some (sumO (sendA p val (manyO g v) (outs g v) [])) := by
 have hl := outs_len (g := g) (v := v)
 have e := scanL (l := outs g v) (L := fun k s i => F100_l0_1 K val p a b c (outs g v) k s i) (fun e (s : List GMsg) c => (F148 K p val e (nlen (len (outs g v)))).bind fun r => bif r.2 then (bif (apok (len s) 1 16) then c (appL s [(GMsg.mk e.To r.1)]) else none) else some (.inl ())) (fun s => some (.inr s)) (fun k s i _ => rfl) (K := K) (by omega) (by omega) []
 exact e.trans (send_go p val (manyO g v) (fun e => F148 K p val e (nlen (len (outs g v)))) _ (fun e he => F148_spec K p hv (by have := outs_W he; unfold i64; omega)) [] (by simpa using hl))
theorem loop100_0 (p a b c : Int) (m : Bool) : F100_l0_0 K val p a b c m (outs g v) K [] 0 = some (bif m then sumO (sendA p val (manyO g v) (outs g v) []) else .inr []) := by
 have hl := outs_len (g := g) (v := v)
 cases m
 · obtain ⟨k, rfl⟩ : ∃ k, K = k + 1 := ⟨K - 1, by omega⟩
   rw [F100_l0_0]
   cases ilt 0 (nlen (len (outs g v))) <;> rfl
 · have e := scanL (l := outs g v) (L := fun k s i => F100_l0_0 K val p a b c true (outs g v) k s i) (fun e (s : List GMsg) c => (F148 K p val e (nlen (len (outs g v)))).bind fun r => bif r.2 then (bif (apok (len s) 1 16) then c (appL s [(GMsg.mk e.To r.1)]) else none) else some (.inl ())) (fun s => some (.inr s)) (fun k s i _ => rfl) (K := K) (by omega) (by omega) []
   exact e.trans (send_go p val (manyO g v) (fun e => F148 K p val e (nlen (len (outs g v)))) _ (fun e he => F148_spec K p hv (by have := outs_W he; unfold i64; omega)) [] (by simpa using hl))
theorem loop100_2 (p a b c : Int) (m : Bool) : F100_l0_2 K val p a b c m (outs g v) K [] 0 = some (bif m then sumO (sendA p val (manyO g v) (outs g v) []) else .inr []) := by
 have hl := outs_len (g := g) (v := v)
 cases m
 · obtain ⟨k, rfl⟩ : ∃ k, K = k + 1 := ⟨K - 1, by omega⟩
   rw [F100_l0_2]
   cases ilt 0 (nlen (len (outs g v))) <;> rfl
 · have e := scanL (l := outs g v) (L := fun k s i => F100_l0_2 K val p a b c true (outs g v) k s i) (fun e (s : List GMsg) c => (F148 K p val e (nlen (len (outs g v)))).bind fun r => bif r.2 then (bif (apok (len s) 1 16) then c (appL s [(GMsg.mk e.To r.1)]) else none) else some (.inl ())) (fun s => some (.inr s)) (fun k s i _ => rfl) (K := K) (by omega) (by omega) []
   exact e.trans (send_go p val (manyO g v) (fun e => F148 K p val e (nlen (len (outs g v)))) _ (fun e he => F148_spec K p hv (by have := outs_W he; unfold i64; omega)) [] (by simpa using hl))
omit hv in
theorem loop100_3 (val p a b c : Int) : F100_l0_3 K val p a b c (outs g v) K [] 0 = some (.inl []) := by
 obtain ⟨k, rfl⟩ : ∃ k, K = k + 1 := ⟨K - 1, by omega⟩
 rw [F100_l0_3, ieq_refl]
 cases ilt 0 (nlen (len (outs g v))) <;> rfl
end loops
def rankW (step val got : Int) (sm : Bool) : Int × Bool := bif ilt 0 step then sumS (bif sm then got else 0) else (val, true)
def rankS (step : Int) (w : Int × Bool) (many : Int) (l : List GEdge) : Int × List GMsg × Bool × Int :=
 bif w.2 then (bif ile 10 step then (w.1, [], true, 0) else sendO false w.1 (sendA 5 w.1 many l [])) else (0, [], false, 8)
def turnV (p val got : Int) (sm : Bool) : Int := bif sm then (foldS p val got).1 else val
def turnM (p src step v val w : Int) : Bool := bif ieq step 0 && (bif ieq p 1 || ieq p 3 then ieq v src else true) then true else ine w val
def moveS (p : Int) (m : Bool) (w many : Int) (l : List GEdge) : Int × List GMsg × Bool × Int :=
 bif m then sendO true w (sendA p w many l []) else (w, [], true, 0)
def turnS (g : GGraph) (j : GJob) (step v val got : Int) (sm : Bool) : Int × List GMsg × Bool × Int :=
 bif ieq (jcheck g j) 0 then
   (bif ilt v 0 then (0, [], false, 4) else bif ile g.N v then (0, [], false, 4)
    else bif ilt step 0 then (0, [], false, 1) else bif ilt 40 step then (0, [], false, 1)
    else bif ieq j.Prog 5 then rankS step (rankW step val got sm) (manyO g v) (outs g v)
    else moveS j.Prog (turnM j.Prog j.Source step v val (turnV j.Prog val got sm)) (turnV j.Prog val got sm) (manyO g v) (outs g v))
 else (0, [], false, jcheck g j)
def turned (t : Int × List GMsg × Bool × Int) : GTurned := GTurned.mk t.1 t.2.1 t.2.2.1 t.2.2.2
theorem tsum (rest : Bool) (val : Int) (o : Option (List GMsg)) : Sum.elim (fun w => some (GTurned.mk 0 [] false 8)) (fun w => some (GTurned.mk val w rest 0)) (sumO o) = some (turned (sendO rest val o)) := by
 cases o <;> rfl
theorem tcond (rest : Bool) (val : Int) (m : Bool) (x y : Unit ⊕ List GMsg) : Sum.elim (fun w => some (GTurned.mk 0 [] false 8)) (fun w => some (GTurned.mk val w rest 0)) (bif m then x else y) = bif m then Sum.elim (fun w => some (GTurned.mk 0 [] false 8)) (fun w => some (GTurned.mk val w rest 0)) x else Sum.elim (fun w => some (GTurned.mk 0 [] false 8)) (fun w => some (GTurned.mk val w rest 0)) y := by
 cases m <;> rfl
theorem F100_spec {K : Nat} (hK : 100 ≤ K) (g : GGraph) (j : GJob) (step v : Int) {val got : Int} (sm : Bool) (hv : i64 val) (hg : i64 got) : F100 K g j step v val got sm = some (turned (turnS g j step v val got sm)) := by
 rw [F100, F59_spec hK, Option.bind_some, turnS]
 cases hc : ieq (jcheck g j) 0
 · rfl
 · obtain ⟨hgc, p1, p2, p3, p4, p5, p6, p7, p8⟩ := jcheck_ok hc
   rw [cond_true, cond_true]
   cases h1 : ilt v 0
   · cases h2 : ile g.N v
     · cases h3 : ilt step 0
       · cases h4 : ilt 40 step
         · have i0 : i64 0 := by unfold i64; omega
           have hf : i64 (foldS j.Prog val got).1 := foldS_i64 hv hg
           have fl : ine val val = false := ine_t (ieq_refl val)
           simp only [cond_false, F69_spec hK, Option.bind_some, F147_spec K hg, F147_spec K i0, F98_spec K j.Prog hv hg]
           cases q5 : ieq j.Prog 5
           · simp only [cond_false, loop100_1 hK g v hv, loop100_1 hK g v hf, loop100_2 hK g v hv, loop100_2 hK g v hf, loop100_3 hK g v, Option.bind_some, tsum, Sum.elim_inl, tcond, Sum.elim_inr, moveS, turnM, turnV]
             cases sm
             · simp only [cond_false, fl]
               cases ieq j.Prog 1 <;> cases ieq j.Prog 3 <;> cases ieq v j.Source <;> cases ieq step 0 <;> rfl
             · simp only [cond_true]
               cases ieq j.Prog 1 <;> cases ieq j.Prog 3 <;> cases ieq v j.Source <;> cases ieq step 0 <;> simp only [cond_true, cond_false, Bool.and_true, Bool.and_false, Bool.true_and, Bool.false_and, Bool.or_true, Bool.or_false] <;> first | rfl | (cases ine (foldS j.Prog val got).1 val <;> rfl)
           · have q := ieq_iff.1 q5
             rw [q]
             simp only [cond_true, loop100_0 hK g v hv, loop100_0 hK g v sumS_i64, Option.bind_some, tsum, Sum.elim_inl, tcond, Sum.elim_inr, rankS, rankW]
             have hm : ilt step 10 = !(ile 10 step) := by
               cases h : ile 10 step
               · have := ile_f.1 h; exact ilt_iff.2 (by omega)
               · have := ile_iff.1 h; exact ilt_f.2 (by omega)
             simp only [hm]
             cases sm <;> cases ilt 0 step <;> cases ile 10 step <;> simp only [cond_true, cond_false, Bool.not_true, Bool.not_false] <;> first | rfl | (cases (sumS got).2 <;> rfl) | (cases (sumS 0).2 <;> rfl)
         · rfl
       · rfl
     · rfl
   · rfl
theorem sendA_To {p val many : Int} : ∀ {l : List GEdge} {s r : List GMsg}, sendA p val many l s = some r → r.map (·.To) = s.map (·.To) ++ l.map (·.To)
 | [], s, r, h => by injection h with h; subst h; simp
 | e :: l, s, r, h => by
   rw [sendA] at h
   cases hq : (sendS p val e many).2
   · rw [hq] at h; cases h
   · rw [hq, cond_true] at h
     rw [sendA_To h]; simp
theorem turn_out {g : GGraph} {j : GJob} {step v val got : Int} {sm : Bool} (h : ieq (turnS g j step v val got sm).2.2.2 0 = true) :
   (turnS g j step v val got sm).2.1 = [] ∨ ((turnS g j step v val got sm).2.1.map (·.To) = (outs g v).map (·.To)) := by
 have hs : ∀ (b : Bool) (w : Int) (p : Int), (sendO b w (sendA p w (manyO g v) (outs g v) [])).2.1 = [] ∨ (sendO b w (sendA p w (manyO g v) (outs g v) [])).2.1.map (·.To) = (outs g v).map (·.To) := fun b w p => by
   cases hq : sendA p w (manyO g v) (outs g v) []
   · left; rfl
   · right; have := sendA_To hq; simpa [sendO] using this
 rw [turnS]
 cases ieq (jcheck g j) 0
 · left; rfl
 · cases ilt v 0
   · cases ile g.N v
     · cases ilt step 0
       · cases ilt 40 step
         · simp only [cond_true, cond_false]
           cases ieq j.Prog 5
           · rw [cond_false, moveS]
             cases turnM j.Prog j.Source step v val (turnV j.Prog val got sm)
             · left; rfl
             · exact hs _ _ _
           · rw [cond_true, rankS]
             cases (rankW step val got sm).2
             · left; rfl
             · cases ile 10 step
               · exact hs _ _ _
               · left; rfl
         · left; rfl
       · left; rfl
     · left; rfl
   · left; rfl
theorem turn_bad {g : GGraph} {j : GJob} {step v val got : Int} {sm : Bool} (h : ieq (turnS g j step v val got sm).2.2.2 0 = false) : (turnS g j step v val got sm).1 = 0 ∧ (turnS g j step v val got sm).2.1 = [] := by
 have hs : ∀ (b : Bool) (w : Int) (o : Option (List GMsg)), ieq (sendO b w o).2.2.2 0 = false → (sendO b w o).1 = 0 ∧ (sendO b w o).2.1 = [] := fun b w o => by
   cases o
   · intro _; exact ⟨rfl, rfl⟩
   · intro h; cases h
 rw [turnS] at h ⊢
 cases hc : ieq (jcheck g j) 0
 · exact ⟨rfl, rfl⟩
 · rw [hc] at h
   cases h1 : ilt v 0
   · cases h2 : ile g.N v
     · cases h3 : ilt step 0
       · cases h4 : ilt 40 step
         · rw [h1, h2, h3, h4] at h
           simp only [cond_true, cond_false] at h ⊢
           cases h5 : ieq j.Prog 5
           · rw [h5, cond_false, moveS] at h
             rw [cond_false, moveS]
             cases hm : turnM j.Prog j.Source step v val (turnV j.Prog val got sm)
             · rw [hm] at h; cases h
             · rw [hm] at h; exact hs _ _ _ h
           · rw [h5, cond_true, rankS] at h
             rw [cond_true, rankS]
             cases hw : (rankW step val got sm).2
             · exact ⟨rfl, rfl⟩
             · rw [hw] at h
               cases h10 : ile 10 step
               · rw [h10] at h; exact hs _ _ _ h
               · rw [h10] at h; cases h
         · exact ⟨rfl, rfl⟩
       · exact ⟨rfl, rfl⟩
     · exact ⟨rfl, rfl⟩
   · exact ⟨rfl, rfl⟩
noncomputable def hn139 : Hint := { H 139 with nt := 26, prot := 0 }
noncomputable def c139_0 : Code := loopOf E 139 0
def F139_res (r1 : List Int) : Res := ⟨[(.one (.own 3 (.sl (len r1) (flat (eInt .i64) r1))))], []⟩
def F139_l0_0 (K : Nat) (a1 : GGraph) (a2 : GJob) (a3 : Int) : Nat → List Int → Int → Option (List Int)
 | 0, _, _ => none
 | k + 1, v4, v5 =>
  bif (ilt v5 a1.N) then
   (bif (izero a2.Parts) then none else
   bif (ieq (wrem v5 a2.Parts) a3) then
    (bif (apok (len v4) 1 8) then
    F139_l0_0 K a1 a2 a3 k (appL v4 [v5]) (wadd .i64 v5 1)
    else none)
   else
   F139_l0_0 K a1 a2 a3 k v4 (wadd .i64 v5 1))
  else
  some v4
def F139_l0_0_S (a1 : GGraph) (a2 : GJob) (a3 : Int) (v4 : List Int) (v5 : Int) : TS := .on [128, 129, 192, 193, 194, 256, 257, 258, 259, 260, 448, 449, 512, 513] [(128, ⟨.one, 0, nob⟩), (129, ⟨.im, 0, (.lit (.int .i64 a3))⟩), (192, ⟨(.box 62 2), 0, nob⟩), (193, ⟨.im, 0, (.lit (.int .i64 a1.N))⟩), (194, ⟨.im, 0, (.sl (len a1.Edges) (flat eGEdge a1.Edges))⟩), (256, ⟨(.box 64 4), 0, nob⟩), (257, ⟨.im, 0, (.lit (.int .i64 a2.Prog))⟩), (258, ⟨.im, 0, (.lit (.int .i64 a2.Source))⟩), (259, ⟨.im, 0, (.lit (.int .i64 a2.Limit))⟩), (260, ⟨.im, 0, (.lit (.int .i64 a2.Parts))⟩), (448, ⟨.one, 0, nob⟩), (449, ⟨(.own 3), 0, (.sl (len v4) (flat (eInt .i64) v4))⟩), (512, ⟨.one, 0, nob⟩), (513, ⟨.im, 0, (.lit (.int .i64 v5))⟩)]
def F139_l0_0_X0 (a1 : GGraph) (a2 : GJob) (a3 : Int) (w4 : List Int) : TS := .on [448, 449] [(448, ⟨.one, 0, nob⟩), (449, ⟨(.own 3), 0, (.sl (len w4) (flat (eInt .i64) w4))⟩)]
theorem F139_l0_0_ok (K : Nat) (a1 : GGraph) (a2 : GJob) (a3 : Int) : ∀ (k : Nat) (v4 : List Int) (v5 : Int) (r : List Int), F139_l0_0 K a1 a2 a3 k v4 v5 = some r → LoopEv E H hn139 0 c139_0 (F139_l0_0_S a1 a2 a3 v4 v5) (.exit 0) (F139_l0_0_X0 a1 a2 a3 r) := by
 intro k
 induction k with
 | zero => intro v4 v5 r hF; cases hF
 | succ k ih =>
  intro v4 v5 r hF
  rw [F139_l0_0] at hF
  refine cond_some hF (fun h6 hF => ?_) (fun h6 hF => ?_)
  ·
   refine cond_some hF (fun _ hF => nomatch hF) (fun h7 hF => ?_)
   have q10 : PQ hn139 fun l => (.test (ilt v5 a1.N) true :: .test (izero a2.Parts) false :: .int (wrem v5 a2.Parts) (wrem v5 a2.Parts) :: l) := fun z => ⟨h6, h7, rfl, z⟩
   refine cond_some hF (fun h8 hF => ?_) (fun h8 hF => ?_)
   ·
    refine cond_some hF (fun h9 hF => ?_) (fun _ hF => nomatch hF)
    have pz : HoldAll E H hn139 [.test (ieq (wrem v5 a2.Parts) a3) true, .test (leqm [(.lit (.int .i64 v5))] 1 1) true, .test (apok (len v4) 1 8) true, .sl (nadd (len v4) 1) (lapp (flat (eInt .i64) v4) [(.lit (.int .i64 v5))]) (len (α := Int) (appL v4 [v5])) (flat (eInt .i64) (appL v4 [v5])), .int (wadd .i64 v5 1) (wadd .i64 v5 1)] := ⟨h8, rfl, h9, (app_ok (enc := (eInt .i64)) (v4 : List Int) [v5]), rfl, trivial⟩
    have h0 := ih _ _ _ hF
    have hn := fun ex ts' => loop_nextC (h := hn139) (l := 0) (c := c139_0) (ts := F139_l0_0_S a1 a2 a3 v4 v5) (ts1 := (F139_l0_0_S a1 a2 a3 (appL v4 [v5]) (wadd .i64 v5 1))) (ex := ex) (ts' := ts') (q10 pz) (by kernel_rfl)
    exact hn _ _ h0
   have pz : HoldAll E H hn139 [.test (ieq (wrem v5 a2.Parts) a3) false, .int (wadd .i64 v5 1) (wadd .i64 v5 1)] := ⟨h8, rfl, trivial⟩
   have h0 := ih _ _ _ hF
   have hn := fun ex ts' => loop_nextC (h := hn139) (l := 0) (c := c139_0) (ts := F139_l0_0_S a1 a2 a3 v4 v5) (ts1 := (F139_l0_0_S a1 a2 a3 v4 (wadd .i64 v5 1))) (ex := ex) (ts' := ts') (q10 pz) (by kernel_rfl)
   exact hn _ _ h0
  obtain rfl := Option.some.inj hF
  have pz : HoldAll E H hn139 [.test (ilt v5 a1.N) false] := ⟨h6, trivial⟩
  exact loop_endC (h := hn139) (l := 0) (c := c139_0) (ts := F139_l0_0_S a1 a2 a3 v4 v5) (ts' := F139_l0_0_X0 a1 a2 a3 v4) (ex := (.exit 0)) pz (by kernel_rfl) trivial
def F139 (K : Nat) (a1 : GGraph) (a2 : GJob) (a3 : Int) : Option (List Int) :=
 (F139_l0_0 K a1 a2 a3 K [] 0).bind fun w4 =>
 some w4
theorem F139_ok (K : Nat) (a1 : GGraph) (a2 : GJob) (a3 : Int) (r : List Int) (hF : F139 K a1 a2 a3 = some r) : Evt E H 139 [.agg (eGGraph a1), .agg (eGJob a2), .one (.lit (.int .i64 a3))] (F139_res r) := by
 rw [F139] at hF
 refine bind_some hF (fun w5 h4 hF => ?_)
 obtain rfl := Option.some.inj hF
 have pz : HoldAll E H hn139 [.loop 0 c139_0 (F139_l0_0_S a1 a2 a3 [] 0) (.exit 0) (F139_l0_0_X0 a1 a2 a3 w5)] := ⟨(F139_l0_0_ok K a1 a2 a3 K [] 0 _ h4), trivial⟩
 exact fn_playC hn139 (r := F139_res w5) pz (by kernel_rfl) (by kernel_rfl)
theorem scanN {σ β : Type} {N : Int} {L : Nat → σ → Int → Option β} (step : Nat → σ → (σ → Option β) → Option β) (fin : σ → Option β)
   (h : ∀ k s (i : Nat), i ≤ N.toNat → L (k + 1) s i = bif ilt i N then step i s (fun s' => L k s' (wadd .i64 i 1)) else fin s) (hN : N ≤ 1000000) {K : Nat} (hK : N.toNat < K) (s : σ) :
   L K s 0 = goL step fin (List.range N.toNat) s := by
 have hw : ∀ (k : Nat) (s : σ) (i : Nat), N.toNat - i < k → i ≤ N.toNat → L k s i = goL step fin ((List.range N.toNat).drop i) s := by
   intro k
   induction k with
   | zero => intro s i h; omega
   | succ k ih =>
     intro s i hk hi
     rw [h k s i hi]
     by_cases hlt : i < N.toNat
     · have e : (List.range N.toNat).drop i = i :: (List.range N.toNat).drop (i + 1) := by
         rw [List.drop_eq_getElem_cons (by simpa using hlt)]; simp
       rw [ilt_iff.2 (by omega : (i : Int) < N), cond_true, e, goL]
       congr 1
       funext s'
       rw [wadd_nat (by omega)]
       exact ih s' (i + 1) (by omega) (by omega)
     · have e : (List.range N.toNat).drop i = [] := List.drop_eq_nil_of_le (by simp; omega)
       rw [ilt_f.2 (by omega : N ≤ (i : Int)), cond_false, e]; rfl
 have := hw K s 0 (by omega) (by omega)
 rw [List.drop_zero] at this
 exact this
theorem wrem_emod {a b : Int} (h : 0 ≤ a) : wrem a b = a % b := by
 show Int.tmod _ _ = _
 exact Int.tmod_eq_emod_of_nonneg h
def vertsN (n parts : Nat) (p : Int) : List Nat := (List.range n).filter fun v => ieq ((v % parts : Nat) : Int) p
def vertsS (g : GGraph) (j : GJob) (p : Int) : List Nat := vertsN g.N.toNat j.Parts.toNat p
theorem F139_spec {K : Nat} (hK : 100 ≤ K) {g : GGraph} {j : GJob} (h1 : 1 ≤ j.Parts) (h2 : j.Parts ≤ 6) (hn : g.N ≤ 24) (p : Int) : F139 K g j p = some ((vertsS g j p).map Int.ofNat) := by
 let step : Nat → List Int → (List Int → Option (List Int)) → Option (List Int) := fun i s c =>
   bif (izero j.Parts) then none else bif (ieq (wrem (i : Int) j.Parts) p) then (bif (apok (len s) 1 8) then c (appL s [(i : Int)]) else none) else c s
 have h := scanN (N := g.N) (L := fun k s i => F139_l0_0 K g j p k s i) step (fun s => some s) (fun k s i _ => rfl) (by omega) (K := K) (by omega) []
 have hz : izero j.Parts = false := decide_eq_false (by omega)
 obtain ⟨q, hq⟩ := Int.eq_ofNat_of_zero_le (show 0 ≤ j.Parts by omega)
 have hw : ∀ (l : List Nat) (s : List Int), s.length + l.length ≤ 1000 → goL step (fun s => some s) l s = some (s ++ (l.filter fun v => ieq ((v % j.Parts.toNat : Nat) : Int) p).map Int.ofNat) := by
   intro l
   induction l with
   | nil => intro s _; simp [goL]
   | cons v l ih =>
     intro s hs
     simp only [List.length_cons] at hs
     rw [goL]
     show (bif (izero j.Parts) then none else bif (ieq (wrem (v : Int) j.Parts) p) then (bif (apok (len s) 1 8) then goL step (fun s => some s) l (appL s [(v : Int)]) else none) else goL step (fun s => some s) l s) = _
     have e : wrem (v : Int) j.Parts = ((v % j.Parts.toNat : Nat) : Int) := by rw [wrem_emod (by omega), hq]; simp
     rw [hz, cond_false, e, List.filter_cons]
     cases ieq ((v % j.Parts.toNat : Nat) : Int) p
     · rw [cond_false, ih s (by omega)]; rfl
     · have ha : apok (len s) 1 8 = true := decide_eq_true ⟨by show s.length + 1 ≤ _; omega, by show (s.length + 1) * 8 ≤ _; omega⟩
       rw [cond_true, ha, cond_true, ih _ (by simp [appL]; omega)]
       simp [appL]
 rw [hw _ _ (by simp; omega), List.nil_append] at h
 have h' : F139_l0_0 K g j p K [] 0 = _ := h
 rw [F139, h']; rfl
theorem mem_verts {g : GGraph} {j : GJob} (h1 : 1 ≤ j.Parts) {p : Int} {v : Nat} : v ∈ vertsS g j p ↔ (v : Int) < g.N ∧ (v : Int) % j.Parts = p := by
 obtain ⟨m, hm⟩ := Int.eq_ofNat_of_zero_le (show 0 ≤ j.Parts by omega)
 simp only [vertsS, vertsN, List.mem_filter, List.mem_range, ieq_iff]
 have : j.Parts.toNat = m := by omega
 rw [this, hm]
 constructor
 · rintro ⟨a, b⟩; exact ⟨by omega, by rw [← b]; simp⟩
 · rintro ⟨a, b⟩; exact ⟨by omega, by rw [← b]; simp⟩
noncomputable def hn88 : Hint := { H 88 with nt := 75, prot := 0 }
noncomputable def c88_0 : Code := loopOf E 88 0
def F88_res (r1 : Bool) : Res := ⟨[(.one (.im (.lit (.bool r1))))], []⟩
def F88_l0_0 (K : Nat) (a1 : GGraph) (a2 : GState) : Nat → Int → Option ((Unit) ⊕ (Unit))
 | 0, _ => none
 | k + 1, v3 =>
  bif (ilt v3 (nlen (len a2.In))) then
   (bif (inr v3 (len a2.In)) then
   (elAt a2.In v3).bind fun x4 =>
   bif (ilt x4.To 0) then
    (some (.inl ()))
   else
   bif (ile a1.N x4.To) then
    (some (.inl ()))
   else
   bif (ilt 0 v3) then
    (bif (inr (wsub .i64 v3 1) (len a2.In)) then
    (elAt a2.In (wsub .i64 v3 1)).bind fun x5 =>
    bif (ile x4.To x5.To) then
     (some (.inl ()))
    else
    F88_l0_0 K a1 a2 k (wadd .i64 v3 1)
    else none)
   else
   F88_l0_0 K a1 a2 k (wadd .i64 v3 1)
   else none)
  else
  some (.inr ())
def F88_l0_0_S (a1 : GGraph) (a2 : GState) (v3 : Int) : TS := .on [192, 193, 194, 320, 321, 322, 323, 324, 448, 449] [(192, ⟨(.box 62 2), 0, nob⟩), (193, ⟨.im, 0, (.lit (.int .i64 a1.N))⟩), (194, ⟨.im, 0, (.sl (len a1.Edges) (flat eGEdge a1.Edges))⟩), (320, ⟨(.box 74 4), 0, nob⟩), (321, ⟨.im, 0, (.lit (.int .i64 a2.Step))⟩), (322, ⟨.im, 0, (.sl (len a2.Vals) (flat (eInt .i64) a2.Vals))⟩), (323, ⟨.im, 0, (.sl (len a2.Rest) (flat eBool a2.Rest))⟩), (324, ⟨.im, 0, (.sl (len a2.In) (flat eGMsg a2.In))⟩), (448, ⟨.one, 0, nob⟩), (449, ⟨.im, 0, (.lit (.int .i64 v3))⟩)]
def F88_l0_0_X0 (a1 : GGraph) (a2 : GState) (w3 : Unit) : TS := .on [384, 385] [(384, ⟨.one, 0, nob⟩), (385, ⟨.im, 0, (.lit (.bool false))⟩)]
def F88_l0_0_X1 (a1 : GGraph) (a2 : GState) (w3 : Unit) : TS := .on [] []
theorem F88_l0_0_ok (K : Nat) (a1 : GGraph) (a2 : GState) : ∀ (k : Nat) (v3 : Int) (r : (Unit) ⊕ (Unit)), F88_l0_0 K a1 a2 k v3 = some r → (Sum.elim (fun w => LoopEv E H hn88 0 c88_0 (F88_l0_0_S a1 a2 v3) .ret (F88_l0_0_X0 a1 a2 w)) (fun w => LoopEv E H hn88 0 c88_0 (F88_l0_0_S a1 a2 v3) (.exit 0) (F88_l0_0_X1 a1 a2 w))) r := by
 intro k
 induction k with
 | zero => intro v3 r hF; cases hF
 | succ k ih =>
  intro v3 r hF
  rw [F88_l0_0] at hF
  refine cond_some hF (fun h4 hF => ?_) (fun h4 hF => ?_)
  ·
   refine cond_some hF (fun h5 hF => ?_) (fun _ hF => nomatch hF)
   refine bind_some hF (fun x6 h7 hF => ?_)
   have q15 : PQ hn88 fun l => (.int (nlen (len a2.In)) (nlen (len a2.In)) :: .test (ilt v3 (nlen (len a2.In))) true :: .test (inr v3 (len a2.In)) true :: .sub (flat eGMsg a2.In) (nadd (nidx v3 2) 0) 1 [(.lit (.int .i64 x6.To))] :: l) := fun z => ⟨rfl, h4, h5, ⟨rfl, sub_flat eGMsg_len h7 0 1 (by decide)⟩, z⟩
   refine cond_some hF (fun h8 hF => ?_) (fun h8 hF => ?_)
   ·
    obtain rfl := Option.some.inj hF
    have pz : HoldAll E H hn88 [.test (beqb (ilt x6.To 0) false) false, .test (beqb (ilt x6.To 0) false) false, .test (beqb (ilt x6.To 0) false) false, .test (beqb (ilt x6.To 0) false) false, .test (ilt x6.To 0) true, .test (beqb true false) false, .test (beqb true false) false, .test (beqb true false) false, .test (beqb true false) false, .test true true, .test true true] := ⟨(beqb_ft h8), (beqb_ft h8), (beqb_ft h8), (beqb_ft h8), h8, (beqb_ft rfl), (beqb_ft rfl), (beqb_ft rfl), (beqb_ft rfl), rfl, rfl, trivial⟩
    exact loop_endC (h := hn88) (l := 0) (c := c88_0) (ts := F88_l0_0_S a1 a2 v3) (ts' := F88_l0_0_X0 a1 a2 ()) (ex := .ret) (q15 pz) (by kernel_rfl) trivial
   have q16 : PQ hn88 fun l => (.test (beqb (ilt x6.To 0) false) true :: .test (beqb (ilt x6.To 0) false) true :: .test (beqb (ilt x6.To 0) false) true :: .test (beqb (ilt x6.To 0) false) true :: .test (ilt x6.To 0) false :: l) := fun z => ⟨(beqb_ff h8), (beqb_ff h8), (beqb_ff h8), (beqb_ff h8), h8, z⟩
   refine cond_some hF (fun h9 hF => ?_) (fun h9 hF => ?_)
   ·
    obtain rfl := Option.some.inj hF
    have pz : HoldAll E H hn88 [.test (beqb (ige x6.To a1.N) false) false, .test (beqb (ige x6.To a1.N) false) false, .test (beqb (ige x6.To a1.N) false) false, .test (beqb (ige x6.To a1.N) false) false, .test (ige x6.To a1.N) true, .test true true] := ⟨(beqb_ft (ige_eq h9)), (beqb_ft (ige_eq h9)), (beqb_ft (ige_eq h9)), (beqb_ft (ige_eq h9)), (ige_eq h9), rfl, trivial⟩
    exact loop_endC (h := hn88) (l := 0) (c := c88_0) (ts := F88_l0_0_S a1 a2 v3) (ts' := F88_l0_0_X0 a1 a2 ()) (ex := .ret) (q15 (q16 pz)) (by kernel_rfl) trivial
   have q17 : PQ hn88 fun l => (.test (beqb (ige x6.To a1.N) false) true :: .test (beqb (ige x6.To a1.N) false) true :: .test (beqb (ige x6.To a1.N) false) true :: l) := fun z => ⟨(beqb_ff (ige_eq h9)), (beqb_ff (ige_eq h9)), (beqb_ff (ige_eq h9)), z⟩
   refine cond_some hF (fun h10 hF => ?_) (fun h10 hF => ?_)
   ·
    refine cond_some hF (fun h11 hF => ?_) (fun _ hF => nomatch hF)
    refine bind_some hF (fun x12 h13 hF => ?_)
    have q18 : PQ hn88 fun l => (.test (beqb (igt v3 0) true) true :: .test (beqb (igt v3 0) true) true :: .test (beqb (igt v3 0) true) true :: .test (beqb (igt v3 0) true) true :: .int (wsub .i64 v3 1) (wsub .i64 v3 1) :: .test (beqb (igt v3 0) true) true :: .test (inr (wsub .i64 v3 1) (len a2.In)) true :: .test (beqb (igt v3 0) true) true :: .test (beqb (igt v3 0) true) true :: .sub (flat eGMsg a2.In) (nadd (nidx (wsub .i64 v3 1) 2) 0) 1 [(.lit (.int .i64 x12.To))] :: .test (beqb (igt v3 0) true) true :: .test (beqb (igt v3 0) true) true :: .test (beqb (ige x6.To a1.N) false) true :: .test (igt v3 0) true :: .test (ige x6.To a1.N) false :: l) := fun z => ⟨(beqb_t (igt_eq h10)), (beqb_t (igt_eq h10)), (beqb_t (igt_eq h10)), (beqb_t (igt_eq h10)), rfl, (beqb_t (igt_eq h10)), h11, (beqb_t (igt_eq h10)), (beqb_t (igt_eq h10)), ⟨rfl, sub_flat eGMsg_len h13 0 1 (by decide)⟩, (beqb_t (igt_eq h10)), (beqb_t (igt_eq h10)), (beqb_ff (ige_eq h9)), (igt_eq h10), (ige_eq h9), z⟩
    refine cond_some hF (fun h14 hF => ?_) (fun h14 hF => ?_)
    ·
     obtain rfl := Option.some.inj hF
     have pz : HoldAll E H hn88 [.test (ige x12.To x6.To) true] := ⟨(ige_eq h14), trivial⟩
     exact loop_endC (h := hn88) (l := 0) (c := c88_0) (ts := F88_l0_0_S a1 a2 v3) (ts' := F88_l0_0_X0 a1 a2 ()) (ex := .ret) (q15 (q16 (q17 (q18 pz)))) (by kernel_rfl) trivial
    have pz : HoldAll E H hn88 [.test (ige x12.To x6.To) false, .int (wadd .i64 v3 1) (wadd .i64 v3 1)] := ⟨(ige_eq h14), rfl, trivial⟩
    have h0 := ih _ _ hF
    have hn := fun ex ts' => loop_nextC (h := hn88) (l := 0) (c := c88_0) (ts := F88_l0_0_S a1 a2 v3) (ts1 := (F88_l0_0_S a1 a2 (wadd .i64 v3 1))) (ex := ex) (ts' := ts') (q15 (q16 (q17 (q18 pz)))) (by kernel_rfl)
    cases r with
    | inl w => exact hn _ _ h0
    | inr w => exact hn _ _ h0
   have pz : HoldAll E H hn88 [.test (beqb (igt v3 0) true) false, .test (beqb (igt v3 0) true) false, .test (beqb (igt v3 0) true) false, .test (beqb (igt v3 0) true) false, .test (beqb (igt v3 0) true) false, .test (beqb (igt v3 0) true) false, .test (beqb (igt v3 0) true) false, .test (beqb (igt v3 0) true) false, .test (beqb (igt v3 0) true) false, .test (beqb (ige x6.To a1.N) false) true, .test (igt v3 0) false, .test (ige x6.To a1.N) false, .test false false, .int (wadd .i64 v3 1) (wadd .i64 v3 1)] := ⟨(beqb_t (igt_eq h10)), (beqb_t (igt_eq h10)), (beqb_t (igt_eq h10)), (beqb_t (igt_eq h10)), (beqb_t (igt_eq h10)), (beqb_t (igt_eq h10)), (beqb_t (igt_eq h10)), (beqb_t (igt_eq h10)), (beqb_t (igt_eq h10)), (beqb_ff (ige_eq h9)), (igt_eq h10), (ige_eq h9), rfl, rfl, trivial⟩
   have h0 := ih _ _ hF
   have hn := fun ex ts' => loop_nextC (h := hn88) (l := 0) (c := c88_0) (ts := F88_l0_0_S a1 a2 v3) (ts1 := (F88_l0_0_S a1 a2 (wadd .i64 v3 1))) (ex := ex) (ts' := ts') (q15 (q16 (q17 pz))) (by kernel_rfl)
   cases r with
   | inl w => exact hn _ _ h0
   | inr w => exact hn _ _ h0
  obtain rfl := Option.some.inj hF
  have pz : HoldAll E H hn88 [.int (nlen (len a2.In)) (nlen (len a2.In)), .test (ilt v3 (nlen (len a2.In))) false] := ⟨rfl, h4, trivial⟩
  exact loop_endC (h := hn88) (l := 0) (c := c88_0) (ts := F88_l0_0_S a1 a2 v3) (ts' := F88_l0_0_X1 a1 a2 ()) (ex := (.exit 0)) pz (by kernel_rfl) trivial
def F88 (K : Nat) (a1 : GGraph) (a2 : GJob) (a3 : GState) : Option (Bool) :=
 (F59 K a1 a2).bind fun r4 =>
 bif (ieq r4 0) then
  (bif (ilt a3.Step 0) then
   (some false)
  else
  bif (ilt 40 a3.Step) then
   (some false)
  else
  bif (ieq (nlen (len a3.Vals)) a1.N) then
   (bif (ieq (nlen (len a3.Rest)) a1.N) then
    ((F88_l0_0 K a1 a3 K 0).bind fun y5 =>
    Sum.elim (fun w6 =>
     some false)
     (fun w7 =>
     some true) y5)
   else
   some false)
  else
  some false)
 else
 some false
theorem F88_ok (K : Nat) (a1 : GGraph) (a2 : GJob) (a3 : GState) (r : Bool) (hF : F88 K a1 a2 a3 = some r) : Evt E H 88 [.agg (eGGraph a1), .agg (eGJob a2), .agg (eGState a3)] (F88_res r) := by
 rw [F88] at hF
 refine bind_some hF (fun r4 h5 hF => ?_)
 refine cond_some hF (fun h6 hF => ?_) (fun h6 hF => ?_)
 ·
  have q15 : PQ hn88 fun l => (.call 59 [.agg (eGGraph a1), .agg (eGJob a2)] (F59_res r4) :: .test (leadsAny (Res.mk [(.one (.im (.lit (.int .i64 r4))))] [])) false :: .test (beqb (ine r4 0) false) true :: .test (beqb (ine r4 0) false) true :: .test (beqb (ine r4 0) false) true :: .test (ine r4 0) false :: l) := fun z => ⟨(F59_ok K a1 a2 _ h5), (leads_ok (by simp [leadsAny, RV.leads, RC.leads, leadsT, hasSl_lit, flat_ns eGJob_ns])), (beqb_ff (ine_t h6)), (beqb_ff (ine_t h6)), (beqb_ff (ine_t h6)), (ine_t h6), z⟩
  refine cond_some hF (fun h7 hF => ?_) (fun h7 hF => ?_)
  ·
   obtain rfl := Option.some.inj hF
   have pz : HoldAll E H hn88 [.test (beqb (ilt a3.Step 0) false) false, .test (beqb (ilt a3.Step 0) false) false, .test (beqb (ilt a3.Step 0) false) false, .test (ilt a3.Step 0) true, .test (beqb true false) false, .test (beqb true false) false, .test (beqb true false) false, .test (beqb true false) false, .test (beqb true false) false, .test (beqb true false) false, .test true true, .test (beqb true false) false, .test (beqb true false) false, .test (beqb true false) false, .test (beqb true false) false, .test (beqb true false) false, .test (beqb true false) false, .test true true, .test true true] := ⟨(beqb_ft h7), (beqb_ft h7), (beqb_ft h7), h7, (beqb_ft rfl), (beqb_ft rfl), (beqb_ft rfl), (beqb_ft rfl), (beqb_ft rfl), (beqb_ft rfl), rfl, (beqb_ft rfl), (beqb_ft rfl), (beqb_ft rfl), (beqb_ft rfl), (beqb_ft rfl), (beqb_ft rfl), rfl, rfl, trivial⟩
   exact fn_playC hn88 (r := F88_res false) (q15 pz) (by kernel_rfl) (by kernel_rfl)
  have q16 : PQ hn88 fun l => (.test (beqb (ilt a3.Step 0) false) true :: .test (beqb (ilt a3.Step 0) false) true :: .test (beqb (ilt a3.Step 0) false) true :: .test (ilt a3.Step 0) false :: l) := fun z => ⟨(beqb_ff h7), (beqb_ff h7), (beqb_ff h7), h7, z⟩
  refine cond_some hF (fun h8 hF => ?_) (fun h8 hF => ?_)
  ·
   obtain rfl := Option.some.inj hF
   have pz : HoldAll E H hn88 [.test (beqb (igt a3.Step 40) false) false, .test (beqb (igt a3.Step 40) false) false, .test (beqb (igt a3.Step 40) false) false, .test (beqb (igt a3.Step 40) false) false, .test (beqb (igt a3.Step 40) false) false, .test (beqb (igt a3.Step 40) false) false, .test (igt a3.Step 40) true, .test (beqb true false) false, .test (beqb true false) false, .test (beqb true false) false, .test (beqb true false) false, .test (beqb true false) false, .test (beqb true false) false, .test true true, .test true true] := ⟨(beqb_ft (igt_eq h8)), (beqb_ft (igt_eq h8)), (beqb_ft (igt_eq h8)), (beqb_ft (igt_eq h8)), (beqb_ft (igt_eq h8)), (beqb_ft (igt_eq h8)), (igt_eq h8), (beqb_ft rfl), (beqb_ft rfl), (beqb_ft rfl), (beqb_ft rfl), (beqb_ft rfl), (beqb_ft rfl), rfl, rfl, trivial⟩
   exact fn_playC hn88 (r := F88_res false) (q15 (q16 pz)) (by kernel_rfl) (by kernel_rfl)
  have q17 : PQ hn88 fun l => (.test (beqb (igt a3.Step 40) false) true :: .test (beqb (igt a3.Step 40) false) true :: .test (beqb (igt a3.Step 40) false) true :: .int (nlen (len a3.Vals)) (nlen (len a3.Vals)) :: .test (beqb (igt a3.Step 40) false) true :: .test (beqb (igt a3.Step 40) false) true :: .test (beqb (igt a3.Step 40) false) true :: .test (igt a3.Step 40) false :: l) := fun z => ⟨(beqb_ff (igt_eq h8)), (beqb_ff (igt_eq h8)), (beqb_ff (igt_eq h8)), rfl, (beqb_ff (igt_eq h8)), (beqb_ff (igt_eq h8)), (beqb_ff (igt_eq h8)), (igt_eq h8), z⟩
  refine cond_some hF (fun h9 hF => ?_) (fun h9 hF => ?_)
  ·
   have q18 : PQ hn88 fun l => (.test (beqb (ine (nlen (len a3.Vals)) a1.N) false) true :: .test (beqb (ine (nlen (len a3.Vals)) a1.N) false) true :: .test (beqb (ine (nlen (len a3.Vals)) a1.N) false) true :: .int (nlen (len a3.Rest)) (nlen (len a3.Rest)) :: .test (beqb (ine (nlen (len a3.Vals)) a1.N) false) true :: .test (beqb (ine (nlen (len a3.Vals)) a1.N) false) true :: .test (beqb (ine (nlen (len a3.Vals)) a1.N) false) true :: .test (ine (nlen (len a3.Vals)) a1.N) false :: l) := fun z => ⟨(beqb_ff (ine_t h9)), (beqb_ff (ine_t h9)), (beqb_ff (ine_t h9)), rfl, (beqb_ff (ine_t h9)), (beqb_ff (ine_t h9)), (beqb_ff (ine_t h9)), (ine_t h9), z⟩
   refine cond_some hF (fun h10 hF => ?_) (fun h10 hF => ?_)
   ·
    refine bind_some hF (fun y12 h11 hF => ?_)
    refine sum_some hF (fun w13 hx hF => ?_) (fun w14 hx hF => ?_)
    ·
     subst hx
     obtain rfl := Option.some.inj hF
     have pz : HoldAll E H hn88 [.test (ine (nlen (len a3.Rest)) a1.N) false, .loop 0 c88_0 (F88_l0_0_S a1 a3 0) .ret (F88_l0_0_X0 a1 a3 w13)] := ⟨(ine_t h10), (F88_l0_0_ok K a1 a3 K 0 _ h11), trivial⟩
     exact fn_playC hn88 (r := F88_res false) (q15 (q16 (q17 (q18 pz)))) (by kernel_rfl) (by kernel_rfl)
    subst hx
    obtain rfl := Option.some.inj hF
    have pz : HoldAll E H hn88 [.test (ine (nlen (len a3.Rest)) a1.N) false, .loop 0 c88_0 (F88_l0_0_S a1 a3 0) (.exit 0) (F88_l0_0_X1 a1 a3 w14)] := ⟨(ine_t h10), (F88_l0_0_ok K a1 a3 K 0 _ h11), trivial⟩
    exact fn_playC hn88 (r := F88_res true) (q15 (q16 (q17 (q18 pz)))) (by kernel_rfl) (by kernel_rfl)
   obtain rfl := Option.some.inj hF
   have pz : HoldAll E H hn88 [.test (ine (nlen (len a3.Rest)) a1.N) true] := ⟨(ine_f h10), trivial⟩
   exact fn_playC hn88 (r := F88_res false) (q15 (q16 (q17 (q18 pz)))) (by kernel_rfl) (by kernel_rfl)
  obtain rfl := Option.some.inj hF
  have pz : HoldAll E H hn88 [.test (beqb (ine (nlen (len a3.Vals)) a1.N) false) false, .test (beqb (ine (nlen (len a3.Vals)) a1.N) false) false, .test (beqb (ine (nlen (len a3.Vals)) a1.N) false) false, .test (beqb (ine (nlen (len a3.Vals)) a1.N) false) false, .test (beqb (ine (nlen (len a3.Vals)) a1.N) false) false, .test (beqb (ine (nlen (len a3.Vals)) a1.N) false) false, .test (ine (nlen (len a3.Vals)) a1.N) true, .test true true] := ⟨(beqb_ft (ine_f h9)), (beqb_ft (ine_f h9)), (beqb_ft (ine_f h9)), (beqb_ft (ine_f h9)), (beqb_ft (ine_f h9)), (beqb_ft (ine_f h9)), (ine_f h9), rfl, trivial⟩
  exact fn_playC hn88 (r := F88_res false) (q15 (q16 (q17 pz))) (by kernel_rfl) (by kernel_rfl)
 obtain rfl := Option.some.inj hF
 have pz : HoldAll E H hn88 [.call 59 [.agg (eGGraph a1), .agg (eGJob a2)] (F59_res r4), .test (leadsAny (Res.mk [(.one (.im (.lit (.int .i64 r4))))] [])) false, .test (beqb (ine r4 0) false) false, .test (beqb (ine r4 0) false) false, .test (beqb (ine r4 0) false) false, .test (ine r4 0) true, .test (beqb true false) false, .test (beqb true false) false, .test (beqb true false) false, .test true true, .test (beqb true false) false, .test (beqb true false) false, .test (beqb true false) false, .test (beqb true false) false, .test (beqb true false) false, .test (beqb true false) false, .test true true, .test (beqb true false) false, .test (beqb true false) false, .test (beqb true false) false, .test (beqb true false) false, .test (beqb true false) false, .test (beqb true false) false, .test true true, .test true true] := ⟨(F59_ok K a1 a2 _ h5), (leads_ok (by simp [leadsAny, RV.leads, RC.leads, leadsT, hasSl_lit, flat_ns eGJob_ns])), (beqb_ft (ine_f h6)), (beqb_ft (ine_f h6)), (beqb_ft (ine_f h6)), (ine_f h6), (beqb_ft rfl), (beqb_ft rfl), (beqb_ft rfl), rfl, (beqb_ft rfl), (beqb_ft rfl), (beqb_ft rfl), (beqb_ft rfl), (beqb_ft rfl), (beqb_ft rfl), rfl, (beqb_ft rfl), (beqb_ft rfl), (beqb_ft rfl), (beqb_ft rfl), (beqb_ft rfl), (beqb_ft rfl), rfl, rfl, trivial⟩
 exact fn_playC hn88 (r := F88_res false) pz (by kernel_rfl) (by kernel_rfl)
def inSt (n : Int) : Int → List GMsg → Bool
 | _, [] => true
 | prev, m :: r => ilt prev m.To && (ilt m.To n && inSt n m.To r)
def sumU (b : Bool) : Unit ⊕ Unit := bif b then .inr () else .inl ()
theorem sumU_elim (b : Bool) : (some (sumU b)).bind (fun y => Sum.elim (fun w => some false) (fun w => some true) y) = some b := by cases b <;> rfl
theorem not_ile {a b : Int} : ile a b = !(ilt b a) := by
 unfold ile ilt; by_cases h : b < a <;> simp [h] <;> omega
theorem verts_len (g : GGraph) (j : GJob) (hn : g.N ≤ 24) (p : Int) : (vertsS g j p).length ≤ 24 := by
 unfold vertsS vertsN
 refine Nat.le_trans (List.length_filter_le _ _) ?_
 simp; omega
def stRight (g : GGraph) (j : GJob) (s : GState) : Bool :=
 ieq (jcheck g j) 0 && (ile 0 s.Step && (ile s.Step 40 && (ieq (s.Vals.length : Int) g.N && (ieq (s.Rest.length : Int) g.N && inSt g.N (-1) s.In))))
theorem F88_loop {K : Nat} (g : GGraph) (s : GState) (hl : s.In.length < 1000000) (hK : s.In.length < K) : F88_l0_0 K g s K 0 = some (sumU (inSt g.N (-1) s.In)) := by
 let step : Nat → GMsg → Unit → (Unit → Option (Unit ⊕ Unit)) → Option (Unit ⊕ Unit) := fun i m _ c =>
     bif (ilt m.To 0) then (some (.inl ())) else bif (ile g.N m.To) then (some (.inl ())) else
     bif (ilt 0 (i : Int)) then
       (bif (inr (wsub .i64 (i : Int) 1) (len s.In)) then
       (elAt s.In (wsub .i64 (i : Int) 1)).bind fun d => bif (ile m.To d.To) then (some (.inl ())) else c ()
       else none)
     else c ()
 have h := scanI (l := s.In) (L := fun k (_ : Unit) i => F88_l0_0 K g s k i) step (fun _ => some (.inr ())) (fun k st i hi => rfl) (by omega) K () 0 (by omega) (by omega)
 have hw : ∀ (r : List GMsg) (i : Nat), s.In.drop i = r → (∀ d, prevOf s.In i = some d → 0 ≤ d.To) → goI step (fun _ => some (.inr ())) i r () = some (sumU (inSt g.N (match prevOf s.In i with | none => -1 | some d => d.To) r)) := by
   intro r
   induction r with
   | nil => intro i _ _; rfl
   | cons m r ih =>
     intro i hr hp
     obtain ⟨n1, n2, hi⟩ := prev_next hr
     rw [goI]
     show (bif (ilt m.To 0) then (some (.inl ())) else bif (ile g.N m.To) then (some (.inl ())) else
     bif (ilt 0 (i : Int)) then
       (bif (inr (wsub .i64 (i : Int) 1) (len s.In)) then
       (elAt s.In (wsub .i64 (i : Int) 1)).bind fun d => bif (ile m.To d.To) then (some (.inl ())) else goI step (fun _ => some (.inr ())) (i + 1) r ()
       else none)
     else goI step (fun _ => some (.inr ())) (i + 1) r ()) = _
     cases h0 : ilt m.To 0
     · have hm0 := ilt_f.1 h0
       have nx := ih (i + 1) n2 (fun d hd => by rw [n1] at hd; cases hd; exact hm0)
       rw [n1] at nx
       dsimp only at nx
       rw [nx, inSt, not_ile]
       cases i with
       | zero =>
         have e1 : ilt 0 ((0 : Nat) : Int) = false := rfl
         have e2 : (match prevOf s.In 0 with | none => (-1 : Int) | some d => d.To) = -1 := rfl
         rw [e1, e2, ilt_iff.2 (by omega : (-1 : Int) < m.To)]
         cases ilt m.To g.N <;> rfl
       | succ q =>
         obtain ⟨d, p1, p2, p3, p4⟩ := prev_at (l := s.In) (i := q + 1) (by omega) hi (by omega)
         have e1 : ilt 0 ((q + 1 : Nat) : Int) = true := ilt_iff.2 (by omega)
         rw [e1, p2, p3, p4, p1]
         simp only [Option.bind_some, cond_true, cond_false, not_ile (a := m.To)]
         cases ilt d.To m.To <;> cases ilt m.To g.N <;> rfl
     · have hm0 := ilt_iff.1 h0
       have hno : ∀ a : Int, -1 ≤ a → ilt a m.To = false := fun a ha => ilt_f.2 (by omega)
       have hprev : (-1 : Int) ≤ (match prevOf s.In i with | none => -1 | some d => d.To) := by
         split
         · omega
         · rename_i d hd; have := hp d hd; omega
       rw [inSt, hno _ hprev]; rfl
 have := hw s.In 0 rfl (fun d hd => by cases hd)
 rw [List.drop_zero, this] at h
 exact h
theorem F88_spec {K : Nat} (hK : 1000 ≤ K) (g : GGraph) (j : GJob) (s : GState) (hl : s.In.length < 1000000) (hk : s.In.length < K) : F88 K g j s = some (stRight g j s) := by
 rw [F88, F59_spec (by omega), Option.bind_some, stRight]
 cases hc : ieq (jcheck g j) 0
 · rfl
 · rw [cond_true, F88_loop g s hl hk]
   have n1 : nlen (len s.Vals) = (s.Vals.length : Int) := rfl
   have n2 : nlen (len s.Rest) = (s.Rest.length : Int) := rfl
   rw [ilt_not' s.Step 0, ilt_not' 40 s.Step, n1, n2, sumU_elim]
   cases ile 0 s.Step <;> cases ile s.Step 40 <;> cases ieq (s.Vals.length : Int) g.N <;> cases ieq (s.Rest.length : Int) g.N <;> rfl
noncomputable def hn131 : Hint := { H 131 with nt := 82, prot := 0 }
noncomputable def c131_0 : Code := loopOf E 131 0
noncomputable def c131_1 : Code := loopOf E 131 1
def F131_res (r1 : GPart) : Res := ⟨[(.agg [(.im (.lit (.int .i64 r1.P))), (.im (.lit (.int .i64 r1.Step))), (.own 2 (.sl (len r1.Vals) (flat (eInt .i64) r1.Vals))), (.own 4 (.sl (len r1.Rest) (flat eBool r1.Rest))), (.own 130 (.sl (len r1.In) (flat eGMsg r1.In)))])], []⟩
def F131_l1_1 (K : Nat) (a1 : GState) (a2 : Int) (r3 : List Int) (v4 : List Int) (v5 : List Bool) (v6 : Int) (x7 : Int) (x8 : Bool) : Nat → List GMsg → Int → Option (List GMsg)
 | 0, _, _ => none
 | k + 1, v9, v10 =>
  bif (ilt v10 (nlen (len a1.In))) then
   (bif (inr v10 (len a1.In)) then
   (elAt a1.In v10).bind fun x11 =>
   bif (inr v6 (len r3)) then
   (elAt r3 v6).bind fun x12 =>
   bif (ieq x11.To x12) then
    (bif (apok (len v9) 1 16) then
    F131_l1_1 K a1 a2 r3 v4 v5 v6 x7 x8 k (appL v9 [x11]) (wadd .i64 v10 1)
    else none)
   else
   F131_l1_1 K a1 a2 r3 v4 v5 v6 x7 x8 k v9 (wadd .i64 v10 1)
   else none
   else none)
  else
  some v9
def F131_l1_1_S (a1 : GState) (a2 : Int) (r3 : List Int) (v4 : List Int) (v5 : List Bool) (v6 : Int) (x7 : Int) (x8 : Bool) (v9 : List GMsg) (v10 : Int) : TS := .on [384, 385, 386, 387, 388, 512, 513, 514, 515, 516, 517, 576, 577, 578, 579, 580, 581, 640, 641, 704, 705, 768, 769] [(384, ⟨(.box 74 4), 0, nob⟩), (385, ⟨.im, 0, (.lit (.int .i64 a1.Step))⟩), (386, ⟨.im, 0, (.sl (len a1.Vals) (flat (eInt .i64) a1.Vals))⟩), (387, ⟨.im, 0, (.sl (len a1.Rest) (flat eBool a1.Rest))⟩), (388, ⟨.im, 0, (.sl (len a1.In) (flat eGMsg a1.In))⟩), (512, ⟨(.box 42 5), 0, nob⟩), (513, ⟨.im, 0, (.lit (.int .i64 0))⟩), (514, ⟨.im, 0, (.lit (.int .i64 0))⟩), (515, ⟨(.own 2), 0, (.sl 0 [])⟩), (516, ⟨(.own 4), 0, (.sl 0 [])⟩), (517, ⟨(.own 130), 0, (.sl 0 [])⟩), (576, ⟨(.box 42 5), 0, nob⟩), (577, ⟨.im, 0, (.lit (.int .i64 a2))⟩), (578, ⟨.im, 0, (.lit (.int .i64 a1.Step))⟩), (579, ⟨(.own 2), 0, (.sl (len (α := Int) (appL v4 [x7])) (flat (eInt .i64) (appL v4 [x7])))⟩), (580, ⟨(.own 4), 0, (.sl (len (α := Bool) (appL v5 [x8])) (flat eBool (appL v5 [x8])))⟩), (581, ⟨(.own 130), 0, (.sl (len v9) (flat eGMsg v9))⟩), (640, ⟨.one, 0, nob⟩), (641, ⟨(.own 3), 0, (.sl (len r3) (flat (eInt .i64) r3))⟩), (704, ⟨.one, 0, nob⟩), (705, ⟨.im, 0, (.lit (.int .i64 v6))⟩), (768, ⟨.one, 0, nob⟩), (769, ⟨.im, 0, (.lit (.int .i64 v10))⟩)]
def F131_l1_1_X0 (a1 : GState) (a2 : Int) (r3 : List Int) (v4 : List Int) (v5 : List Bool) (v6 : Int) (x7 : Int) (x8 : Bool) (w9 : List GMsg) : TS := .on [384, 385, 386, 387, 388, 512, 513, 514, 515, 516, 517, 576, 577, 578, 579, 580, 581, 640, 641, 704, 705] [(384, ⟨(.box 74 4), 0, nob⟩), (385, ⟨.im, 0, (.lit (.int .i64 a1.Step))⟩), (386, ⟨.im, 0, (.sl (len a1.Vals) (flat (eInt .i64) a1.Vals))⟩), (387, ⟨.im, 0, (.sl (len a1.Rest) (flat eBool a1.Rest))⟩), (388, ⟨.im, 0, (.sl (len a1.In) (flat eGMsg a1.In))⟩), (512, ⟨(.box 42 5), 0, nob⟩), (513, ⟨.im, 0, (.lit (.int .i64 0))⟩), (514, ⟨.im, 0, (.lit (.int .i64 0))⟩), (515, ⟨(.own 2), 0, (.sl 0 [])⟩), (516, ⟨(.own 4), 0, (.sl 0 [])⟩), (517, ⟨(.own 130), 0, (.sl 0 [])⟩), (576, ⟨(.box 42 5), 0, nob⟩), (577, ⟨.im, 0, (.lit (.int .i64 a2))⟩), (578, ⟨.im, 0, (.lit (.int .i64 a1.Step))⟩), (579, ⟨(.own 2), 0, (.sl (len (α := Int) (appL v4 [x7])) (flat (eInt .i64) (appL v4 [x7])))⟩), (580, ⟨(.own 4), 0, (.sl (len (α := Bool) (appL v5 [x8])) (flat eBool (appL v5 [x8])))⟩), (581, ⟨(.own 130), 0, (.sl (len w9) (flat eGMsg w9))⟩), (640, ⟨.one, 0, nob⟩), (641, ⟨(.own 3), 0, (.sl (len r3) (flat (eInt .i64) r3))⟩), (704, ⟨.one, 0, nob⟩), (705, ⟨.im, 0, (.lit (.int .i64 v6))⟩)]
end Go.Proofs.Ytnjanliihnadjaa.Tm
